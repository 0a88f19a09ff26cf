import Derived.Test.YtgbnkoeidejhfaaTreeS
import Derived.Test.YtgbnkoeidejhfaaFew
import Derived.Test.YtgbnkoeidejhfaaDigJ
namespace Go.Proofs.Ytgbnkoeidejhfaa
open Go.RowKit

theorem Strs.keptW {w w1 : World} {A : Option Addr} {cap : Nat} {l : List (List UInt8)} {row : Option Nat} (h : Strs w A cap l) (hg : w.grownBy w1 row) (hne : ∀ a, A = some a → some a.block ≠ row) : Strs w1 A cap l := by
  refine ⟨h.len, fun i x hx => ?_⟩
  obtain ⟨a, ha, hc⟩ := h.cells i x hx
  refine ⟨a, ha, ?_⟩
  have hb : (a.add i).block = a.block := by unfold Addr.add; split <;> rfl
  have hlt := World.block_lt_of_cell? w _ hc
  rw [hb] at hlt
  rw [World.cell?, hb, hg.block a.block hlt (hne a ha)]
  rw [World.cell?, hb] at hc
  exact hc

set_option maxRecDepth 100000 in
set_option maxHeartbeats 400000 in
theorem refPath_no (l : List (List UInt8)) (A : Option Addr) (cap : Nat) (i : Int) (w : World) (h : i < 0 ∨ (l.length : Int) ≤ i) :
    Calls Try.prog 22 #[.slice A l.length cap, .int .i64 i] w fun e w' => e = .returned (.tuple #[.slice none 0 0, .bool false]) ∧ w = w' := by
  by_cases h1 : i < 0
  · have d1 : decide (i < 0) = true := decide_eq_true h1
    go_enter Try.func22, Try.ntmps22
    go_wp2_with fail
    go_ret2
    exact ⟨rfl, rfl⟩
  · have d1 : decide (i < 0) = false := decide_eq_false h1
    have d2 : decide ((l.length : Int) ≤ i) = true := decide_eq_true (by omega)
    go_enter Try.func22, Try.ntmps22
    go_wp2_with fail
    go_ret2
    exact ⟨rfl, rfl⟩

set_option maxRecDepth 100000 in
set_option maxHeartbeats 2000000 in
theorem refPath_yes (l : List (List UInt8)) (A : Option Addr) (cap i : Nat) (w : World) (hp : Strs w A cap l) (hlen : ∀ x ∈ l, x.length ≤ 1099511627775) (hl : l.length ≤ 1073741824) (hi : i < l.length) :
    Calls Try.prog 22 #[.slice A l.length cap, .int .i64 (i : Int)] w fun e w' => ∃ A' c, e = .returned (.tuple #[.slice A' (pathOf l i).length c, .bool true]) ∧ Strs w' A' c (pathOf l i) ∧ Below w.heap.size w w' := by
  have d1 : decide ((i : Int) < 0) = false := decide_eq_false (by omega)
  have d2 : decide ((l.length : Int) ≤ (i : Int)) = false := decide_eq_false (by omega)
  obtain ⟨full, hfull⟩ : ∃ p, p = pathOf l i := ⟨_, rfl⟩
  rw [← hfull]
  have hfl : full.length ≤ 1073741824 := by
    have := pathG_le l.length (leafs l) i
    rw [hfull, pathOf]; omega
  have hpt : pathG l.length (leafs l) i = full := by rw [hfull]; rfl
  have hll := leafs_length l
  have h32 := leafs_32 l
  have Hp := Lib.hid hp
  have Hlen := Lib.hid hlen
  have Hpt := Lib.hid hpt
  have Hll := Lib.hid hll
  have H32 := Lib.hid h32
  clear hp hlen hfull hpt hll h32
  go_enter Try.func22, Try.ntmps22
  go_wp2_with fail
  refine (leaves_any l A cap _ Hp.out Hlen.out hl).mono ?_
  rintro e w1 ⟨A1, c1, rfl, hs1, _, hb1⟩
  have Hs1 := Lib.hid hs1
  have Hb1 := Lib.hid hb1
  clear hs1 hb1
  go_wp2_with fail
  go_loopw [1, 6, 7] (fun y v x wr => ∃ (f i2 : Nat) (R ps : List (List UInt8)) (A' : Option Addr) (c : Nat), y = .int .i64 (i2 : Int) ∧ x = .slice A' R.length c ∧ R.length ≤ f ∧ R.length ≤ 1073741824 ∧ i2 ≤ 1073741824 ∧ All32 R ∧ Strs wr A' c R ∧ ps ++ pathG f R i2 = full ∧
    Row wr w.heap.size 9 1 v ps.length (ps.map tv) ∧ (∀ a, A' = some a → some a.block ≠ v.ownBlock) ∧ Below w.heap.size w wr) (fun _ _ x _ => match x with | .slice _ n _ => n | _ => 0)
  case atStart => exact ⟨l.length, i, leafs l, [], A1, c1, rfl, by rw [Hll.out], by rw [Hll.out]; omega, by rw [Hll.out]; exact hl, by omega, H32.out, Hs1.out, Hpt.out, Row.nil _ _ _ _, fun a _ => by simp [Value.ownBlock], Hb1.out⟩
  case round =>
    obtain ⟨f, i2, R, ps, A', c, rfl, rfl, hnf, hnl, hi2, hR, hs, hpt, hr, hne, hb⟩ := hrel
    have HR := Lib.hid hR
    have Hs := Lib.hid hs
    have Hb := Lib.hid hb
    have Hr := Lib.hid hr
    have Hne := Lib.hid hne
    clear hR hs hb hr hne Hs1 Hb1 Hpt
    by_cases h1 : 1 < R.length
    · have d1 : decide ((1 : Int) < (R.length : Int)) = true := decide_eq_true (by omega)
      obtain ⟨f, rfl⟩ : ∃ k, f = k + 1 := ⟨f - 1, by omega⟩
      obtain ⟨mx, hmx⟩ : ∃ m, m = i2 ^^^ 1 := ⟨_, rfl⟩
      have hx := i64_xor_one i2 (by omega)
      have hmle := xor_one_le i2
      have hpt2 : ps ++ (R[i2 ^^^ 1]?.toList ++ pathG f (up2 R) (i2 / 2)) = full := by rw [← hpt]; simp [pathG, show ¬ R.length ≤ 1 by omega]
      rw [← hmx] at hx hmle hpt2
      have hul := up2_length R
      have Hul := Lib.hid hul
      clear hpt hmx hul
      by_cases hnb : mx < R.length
      · have d2 : decide ((mx : Int) < (R.length : Int)) = true := decide_eq_true (by omega)
        have k1 : (mx : Int) < (R.length : Int) := by omega
        obtain ⟨y, hy⟩ : ∃ y, R[mx]? = some y := ⟨_, List.getElem?_eq_getElem hnb⟩
        rw [hy] at hpt2
        have hpt3 : (ps ++ [y]) ++ pathG f (up2 R) (i2 / 2) = full := by rw [← hpt2]; simp
        have hpl : ps.length ≤ 1073741824 := by
          have := congrArg List.length hpt3
          simp at this
          omega
        obtain ⟨a, rfl, hc⟩ := Hs.out.cells mx y hy
        have hml : (ps.map tv).length = ps.length := by simp
        have hr2 : Row wr w.heap.size 9 1 u6 (ps.map tv).length (ps.map tv) := by rw [hml]; exact Hr.out
        have Hr2 := Lib.hid hr2
        have hby : ((ps.map tv).length + 1) * 16 ≤ 140737488355328 := by rw [hml]; omega
        have HPt := Lib.hid hpt3
        clear hr2 hml hpt2 hpt3 hy Hr
        go_wp2_with (at_builtin; go_must (refine ap_oneW Try.un_strs Try.inf_str rfl Hr2.out rfl (by omega) hby Hb.out.size rfl _ _ rfl rfl rfl ?_; intro v1 w3 hr3 hg3 hw3; rw [show ps.map tv ++ [Value.string (str y)] = (ps ++ [y]).map tv from by simp [tv], List.length_map] at hr3; have Hr4 := Lib.hid hr3; have Hs3 := Lib.hid (Hs.out.keptW hg3 Hne.out); have Hb3 := Lib.hid (Hb.out.grown hg3 Hb.out.size (fun q hq => (Hr2.out.block q hq).1)); clear hr3 hg3 hw3))
        refine (above_any R (some a) c _ Hs3.out HR.out hnl).mono ?_
        rintro e w4 ⟨A2, c2, rfl, hs4, hab, hb4⟩
        have Hs4 := Lib.hid hs4
        have hne4 : ∀ b, A2 = some b → some b.block ≠ v1.ownBlock := fun b hb5 he => by
          have h5 := hab b hb5
          have h6 := (Hr4.out.block b.block he.symm).2
          omega
        have Hne4 := Lib.hid hne4
        have Hr5 := Lib.hid (Hr4.out.below hb4)
        have Hb4 := Lib.hid (below_trans Hb3.out hb4)
        clear hs4 hab hb4 hne4 Hs3 Hr4 Hb3
        go_wp2_with fail
        go_roundw
        case rel => exact ⟨f, i2 / 2, up2 R, ps ++ [y], A2, c2, by go_num, rfl, by rw [Hul.out]; omega, by rw [Hul.out]; omega, by omega, up2_32 R HR.out, Hs4.out, HPt.out, Hr5.out, Hne4.out, Hb4.out⟩
        case measure => have := Hul.out; simp; omega
      · have d2 : decide ((mx : Int) < (R.length : Int)) = false := decide_eq_false (by omega)
        have hpt3 : ps ++ pathG f (up2 R) (i2 / 2) = full := by
          rw [List.getElem?_eq_none (by omega)] at hpt2
          simpa using hpt2
        have HPt := Lib.hid hpt3
        clear hpt2 hpt3
        go_wp2_with fail
        refine (above_any R A' c _ Hs.out HR.out hnl).mono ?_
        rintro e w4 ⟨A2, c2, rfl, hs4, hab, hb4⟩
        have Hs4 := Lib.hid hs4
        have hne4 : ∀ b, A2 = some b → some b.block ≠ u6.ownBlock := fun b hb5 he => by
          have h5 := hab b hb5
          have h6 := (Hr.out.block b.block he.symm).2
          omega
        have Hne4 := Lib.hid hne4
        have Hr5 := Lib.hid (Hr.out.below hb4)
        have Hb4 := Lib.hid (below_trans Hb.out hb4)
        clear hs4 hab hb4 hne4
        go_wp2_with fail
        go_roundw
        case rel => exact ⟨f, i2 / 2, up2 R, ps, A2, c2, by go_num, rfl, by rw [Hul.out]; omega, by rw [Hul.out]; omega, by omega, up2_32 R HR.out, Hs4.out, HPt.out, Hr5.out, Hne4.out, Hb4.out⟩
        case measure => have := Hul.out; simp; omega
    · have d1 : decide ((1 : Int) < (R.length : Int)) = false := decide_eq_false (by omega)
      have hps : ps = full := by rw [path_end f R i2 (by omega), List.append_nil] at hpt; exact hpt
      have hr := Hr.out
      rw [hps] at hr
      obtain ⟨A2, c2, rfl, hs2⟩ := hr.strsAll
      have Hs2 := Lib.hid hs2
      clear hpt hps hr hs2 Hr Hne
      go_wp2_with fail
      go_ret2
      exact ⟨A2, c2, rfl, Hs2.out, Hb.out⟩

set_option maxRecDepth 100000 in
set_option maxHeartbeats 1000000 in
theorem same_yes (l : List (List UInt8)) (A B : Option Addr) (ca cb : Nat) (w : World) (ha : Strs w A ca l) (hb : Strs w B cb l) (hl : l.length ≤ 1073741824) :
    Calls Try.prog 24 #[.slice A l.length ca, .slice B l.length cb] w fun e w' => e = .returned (.bool true) ∧ ∃ n, w' = w.drewN n := by
  have Ha := Lib.hid ha
  have Hb := Lib.hid hb
  obtain ⟨n, hn⟩ : ∃ n, n = l.length := ⟨_, rfl⟩
  rw [← hn] at hl
  rw [← hn]
  have Hn := Lib.hid hn
  clear ha hb hn
  have d0 : ((n : Int) != (n : Int)) = false := by simp
  go_enter Try.func24, Try.ntmps24
  go_wp2_with fail
  go_loopw [5] (fun y wr => ∃ k : Nat, k ≤ n ∧ y = .int .i64 (k : Int) ∧ ∃ q, wr = w.drewN q) (fun y _ => n - (intOf y).toNat)
  case atStart => exact ⟨0, by omega, rfl, 0, rfl⟩
  case round =>
    obtain ⟨k, hk, rfl, q, rfl⟩ := hrel
    by_cases hlt : k < n
    · have d1 : decide ((k : Int) < (n : Int)) = true := decide_eq_true (by omega)
      have k1 : (k : Int) < (n : Int) := by omega
      obtain ⟨x, hx⟩ : ∃ x, l[k]? = some x := ⟨_, List.getElem?_eq_getElem (by rw [← Hn.out]; exact hlt)⟩
      obtain ⟨a, rfl, hca⟩ := Ha.out.cells k x hx
      obtain ⟨b, rfl, hcb⟩ := Hb.out.cells k x hx
      have he := str_eq_yes (rfl : x = x)
      clear hx
      go_wp2_with fail
      go_quiet (fail)
      go_wp2_with fail
      go_roundw
      case rel => exact ⟨k + 1, by omega, by go_num, _, rfl⟩
      case measure => simp [intOf]; omega
    · have d1 : decide ((k : Int) < (n : Int)) = false := decide_eq_false (by omega)
      go_wp2_with fail
      go_ret
      exact ⟨rfl, _, rfl⟩
end Go.Proofs.Ytgbnkoeidejhfaa
