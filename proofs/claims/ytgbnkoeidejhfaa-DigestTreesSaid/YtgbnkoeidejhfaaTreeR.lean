import Derived.Test.YtgbnkoeidejhfaaTreeQ
namespace Go.Proofs.Ytgbnkoeidejhfaa
open Go.RowKit

theorem up2_last (R : List (List UInt8)) (j : Nat) (a : List UInt8) (ha : R[2 * j]? = some a) (hb : R[2 * j + 1]? = none) : ((up2 R).take (j + 1)).map tv = ((up2 R).take j).map tv ++ [tv a] := by
  have hg := up2_get R j
  rw [ha, hb] at hg
  simp only at hg
  obtain ⟨hk, he⟩ := List.getElem?_eq_some_iff.1 hg
  rw [List.take_succ_eq_append_getElem hk, he, List.map_append]
  rfl

set_option maxRecDepth 100000 in
set_option maxHeartbeats 2000000 in
theorem above_any (R : List (List UInt8)) (A : Option Addr) (cap : Nat) (w : World) (hp : Strs w A cap R) (h32 : All32 R) (hl : R.length ≤ 1073741824) :
    Calls Try.prog 42 #[.slice A R.length cap] w fun e w' => ∃ A' c, e = .returned (.slice A' (up2 R).length c) ∧ Strs w' A' c (up2 R) ∧ (∀ a, A' = some a → w.heap.size ≤ a.block) ∧ Below w.heap.size w w' := by
  have Hp := Lib.hid hp
  have H32 := Lib.hid h32
  obtain ⟨n, hn⟩ : ∃ n, n = R.length := ⟨_, rfl⟩
  rw [← hn] at hl
  rw [← hn]
  have Hn := Lib.hid hn
  have hul := up2_length R
  rw [← hn] at hul
  have Hul := Lib.hid hul
  clear hp h32 hn hul
  go_enter Try.func42, Try.ntmps42
  go_wp2_with fail
  go_loopw [3, 4] (fun v y wr => ∃ j : Nat, 2 * j ≤ n + 1 ∧ y = .int .i64 (2 * (j : Int)) ∧ Row wr w.heap.size 9 1 v j (((up2 R).take j).map tv) ∧ Below w.heap.size w wr) (fun _ y _ => n + 2 - (intOf y).toNat)
  case atStart => exact ⟨0, by omega, rfl, Row.nil _ _ _ _, Below.refl _ _⟩
  case round =>
    obtain ⟨j, hj, rfl, hr, hb⟩ := hrel
    have Hr := Lib.hid hr
    have Hb := Lib.hid hb
    clear hr hb
    by_cases hlt : 2 * j < n
    · have d1 : decide (2 * (j : Int) < (n : Int)) = true := decide_eq_true (by omega)
      have k0 : 2 * (j : Int) < (n : Int) := by omega
      have k0b : 0 ≤ 2 * (j : Int) := by omega
      have k0n : (2 * (j : Int)).toNat = 2 * j := by omega
      have hj1 : 2 * j < R.length := by rw [← Hn.out]; exact hlt
      obtain ⟨a, ha⟩ : ∃ a, R[2 * j]? = some a := ⟨_, List.getElem?_eq_getElem hj1⟩
      have ha32 := H32.out a (List.mem_of_getElem? ha)
      obtain ⟨p, rfl, hc0⟩ := Hp.out.cells (2 * j) a ha
      have hpb0 : (p.add (2 * j)).block < w.heap.size := World.block_lt_of_cell? w _ hc0
      have hc0 : wr.cell? (p.add (2 * j)) = some (.string (str a)) := below_cell Hb.out hc0
      have hml : (((up2 R).take j).map tv).length = j := by rw [List.length_map, List.length_take, Hul.out]; omega
      have hr2 : Row wr w.heap.size 9 1 u3 (((up2 R).take j).map tv).length (((up2 R).take j).map tv) := by rw [hml]; exact Hr.out
      have Hr2 := Lib.hid hr2
      have hby : ((((up2 R).take j).map tv).length + 1) * 16 ≤ 140737488355328 := by rw [hml]; omega
      by_cases hlt2 : 2 * j + 1 < n
      · have d2 : decide (2 * (j : Int) + 1 < (n : Int)) = true := decide_eq_true (by omega)
        have k1 : 2 * (j : Int) + 1 < (n : Int) := by omega
        have k1b : 0 ≤ 2 * (j : Int) + 1 := by omega
        have k1n : (2 * (j : Int) + 1).toNat = 2 * j + 1 := by omega
        have k1w : IntKind.i64.wrap (2 * (j : Int) + 1) = 2 * (j : Int) + 1 := IntWalk.i64_in _ (by omega)
        obtain ⟨b, hbb⟩ : ∃ b, R[2 * j + 1]? = some b := ⟨_, List.getElem?_eq_getElem (by rw [← Hn.out]; exact hlt2)⟩
        have hb32 := H32.out b (List.mem_of_getElem? hbb)
        obtain ⟨p', hp', hc1⟩ := Hp.out.cells (2 * j + 1) b hbb
        injection hp' with hp'
        subst hp'
        have hadd : p.add (2 * j + 1) = ⟨p.block, p.off + (2 * j + 1), none⟩ := by unfold Addr.add; rw [if_neg (by omega)]
        rw [hadd] at hc1
        have hpb1 : p.block < w.heap.size := World.block_lt_of_cell? w ⟨p.block, p.off + (2 * j + 1), none⟩ hc1
        have hc1 : wr.cell? ⟨p.block, p.off + (2 * j + 1), none⟩ = some (.string (str b)) := below_cell Hb.out hc1
        clear hadd
        have e1 : ({ data := #[1] } : ByteArray) = str [1] := rfl
        have v0 := str_add Try.prog [1] a (by simp; omega)
        have v1 := str_add Try.prog (1 :: a) b (by simp; omega)
        obtain ⟨S, hS⟩ : ∃ S, S = (1 : UInt8) :: (a ++ b) := ⟨_, rfl⟩
        have hSl : S.length = 65 := by rw [hS]; simp [ha32, hb32]
        simp only [List.cons_append, List.nil_append] at v0 v1
        rw [← hS] at v1
        obtain ⟨y, hy⟩ : ∃ y, y = sha S := ⟨_, rfl⟩
        have htk := up2_take R j a b ha hbb
        rw [← hS, ← hy] at htk
        obtain ⟨us, hus⟩ : ∃ us, us = ((up2 R).take j).map tv := ⟨_, rfl⟩
        rw [← hus] at Hr2 hby htk hml
        have Htk := Lib.hid htk
        have Hml := Lib.hid hml
        have Hy := Lib.hid hy
        have HSl := Lib.hid hSl
        clear hr2 htk hml hy hus hS hSl ha hbb hj1 Hr ha32 hb32
        go_wp2_with fail
        go_region_held3 (fun w' => w'.cell? (p.add (2 * j)) = some (.string (str a)) ∧ w'.cell? ⟨p.block, p.off + (2 * j + 1), none⟩ = some (.string (str b))) ((first | go_keep | (exact ⟨below_cell hb4 hc0, below_cell hb4 hc1⟩) | (exact ⟨(hb5.cell (p := p.add (2 * j)) hpb0).trans (below_cell ((Below.refl _ w4).alloc (Nat.le_refl _) _) (below_cell hb4 hc0)), (hb5.cell (p := ⟨p.block, p.off + (2 * j + 1), none⟩) hpb1).trans (below_cell ((Below.refl _ w4).alloc (Nat.le_refl _) _) (below_cell hb4 hc1))⟩))) ((first | (go_at_call 12; refine (refSum_any S _ (by have := HSl.out; omega)).mono ?_; rintro e w4 ⟨rfl, hb4⟩; rw [← Hy.out]) | (refine step_oneZ Try.un_strs Try.inf_str rfl (.inr (Row.below (Row.below (w := wr.drew) Hr2.out hb4) ((Below.refl _ _).alloc (Nat.le_refl _) _))) (cell_one_new _ _ _ 0 _ rfl) rfl (by omega) hby (Nat.le_trans Hb.out.size (Nat.le_trans (m := w4.heap.size) hb4.size (below_alloc_size w4 _))) rfl _ _ rfl rfl rfl ?_; intro v1 w5 hr5 hb5)))
        rw [show (us ++ [Value.string (str y)]).length = j + 1 from by rw [List.length_append, Hml.out]; rfl] at hr5
        rw [show us ++ [Value.string (str y)] = ((up2 R).take (j + 1)).map tv from Htk.out.symm] at hr5
        have Hr5 := Lib.hid hr5
        have Hb5 : Hid (Below w.heap.size w w5) :=
          ((Hb.out.drew.trans (hb4.mono Hb.out.size)).alloc (Nat.le_trans Hb.out.size hb4.size) _).trans hb5
        clear hr5 hb4 hb5 Hr2 Hb hc0 hc1 Htk
        go_wp2_with fail
        go_roundw
        case rel => exact ⟨j + 1, by omega, by go_num, Hr5.out, Hb5.out⟩
        case measure => simp [intOf]; omega
      · have d2 : decide (2 * (j : Int) + 1 < (n : Int)) = false := decide_eq_false (by omega)
        have k1w : IntKind.i64.wrap (2 * (j : Int) + 1) = 2 * (j : Int) + 1 := IntWalk.i64_in _ (by omega)
        have htk := up2_last R j a ha (List.getElem?_eq_none (by rw [← Hn.out]; omega))
        obtain ⟨us, hus⟩ : ∃ us, us = ((up2 R).take j).map tv := ⟨_, rfl⟩
        rw [← hus] at Hr2 hby htk hml
        have Htk := Lib.hid htk
        have Hml := Lib.hid hml
        clear hr2 htk hml hus ha hj1 Hr ha32
        go_wp2_with (at_builtin; go_must (refine ap_one Try.un_strs Try.inf_str rfl Hr2.out rfl (by omega) hby Hb.out.size rfl _ _ rfl rfl rfl ?_; intro v1 w3 hr3 hg3; rw [show (us ++ [Value.string (str a)]).length = j + 1 from by rw [List.length_append, Hml.out]; rfl] at hr3; rw [show us ++ [Value.string (str a)] = ((up2 R).take (j + 1)).map tv from Htk.out.symm] at hr3; have Hr4 := Lib.hid hr3; have Hb3 := Lib.hid (Hb.out.grown hg3 Hb.out.size (fun q hq => (Hr2.out.block q hq).1)); clear hr3 hg3))
        go_roundw
        case rel => exact ⟨j + 1, by omega, by go_num, Hr4.out, Hb3.out⟩
        case measure => simp [intOf]; omega
    · have d1 : decide (2 * (j : Int) < (n : Int)) = false := decide_eq_false (by omega)
      have hr := Hr.out
      have hjn : j = (up2 R).length := by rw [Hul.out]; omega
      rw [List.take_of_length_le (by omega), hjn] at hr
      obtain ⟨A', c, rfl, hs, hab⟩ := hr.strsAllB
      have Hab := Lib.hid hab
      clear hab
      have Hs := Lib.hid hs
      clear hs hr hjn Hr
      go_wp2_with fail
      go_ret
      exact ⟨A', c, rfl, Hs.out, Hab.out, Hb.out⟩
end Go.Proofs.Ytgbnkoeidejhfaa
