import Derived.Test.YtgbnkoeidejhfaaDigG
import Derived.Test.YtgbnkoeidejhfaaOwn
import Derived.Test.YtgbnkoeidejhfaaReg
namespace Go.Proofs.Ytgbnkoeidejhfaa
open Go.RowKit

/-- The key, filled up, each byte turned by c. -/
def padKey (k : List UInt8) (c : UInt8) : List UInt8 := (k ++ List.replicate (64 - k.length) 0).map (· ^^^ c)
theorem padKey_length (k : List UInt8) (c : UInt8) (h : k.length ≤ 64) : (padKey k c).length = 64 := by simp [padKey]; omega

set_option maxRecDepth 100000 in
set_option maxHeartbeats 1000000 in
theorem pad_any (pl : Addr) (k : List UInt8) (c : UInt8) (w : World) (hk : k.length ≤ 64) (hp : w.cell? pl = some (.string (str k))) :
    Calls Try.prog 50 #[.int .u8 (c.toNat : Int), .pointer (some pl)] w fun e w' => e = .returned (.string (str (padKey k c))) ∧ Below w.heap.size w w' := by
  have hsz := str_size k
  have hpl := World.block_lt_of_cell? w pl hp
  obtain ⟨n, hn⟩ : ∃ n, n = 64 - k.length := ⟨_, rfl⟩
  have hn' : (64 : Int) - (k.length : Int) = (n : Int) := by omega
  have hnw : IntKind.i64.wrap ((64 : Int) - (k.length : Int)) = (n : Int) := by rw [IntWalk.i64_in _ (by omega)]; exact hn'
  obtain ⟨x, hx⟩ : ∃ x, x = k ++ List.replicate n (0 : UInt8) := ⟨_, rfl⟩
  have hxl : x.length = 64 := by rw [hx, List.length_append, List.length_replicate]; omega
  have ha := str_add Try.prog k (List.replicate n 0) (by simp; omega)
  rw [← hx] at ha
  have hpk : padKey k c = x.map (· ^^^ c) := by rw [hx, hn, padKey]
  have hnl : n ≤ 64 := by omega
  have Hpk := Lib.hid hpk
  clear hpk hx hn hn'
  have hcell : ∀ w', Below w.heap.size w w' → w'.cell? pl = some (.string (str k)) := fun w' hb => (hb.cell hpl).trans hp
  go_enter Try.func50, Try.ntmps50
  go_wp2_with fail
  refine region_quiet_tail (fun w' => Below w.heap.size w w') 5 Try.mixed (by kernel_rfl) (Below.refl _ _).drew ?_
  simp only [List.take_succ_cons, List.take_zero, List.drop_succ_cons, List.drop_zero]
  refine wpQuiet_step (fun K hK => ?_)
  go_simp
  refine ⟨.string (str k), fun w' hb => by rw [hcell w' hb]; exact ⟨rfl, rfl⟩, hK _ ?_⟩
  clear hK K
  refine wpQuiet_step (fun K hK => ?_)
  go_simp
  refine ⟨.string (str k), fun w' hb => by rw [hcell w' hb]; exact ⟨rfl, rfl⟩, hK _ ?_⟩
  clear hK K
  refine wpQuiet_step (fun K hK => ?_)
  go_simp
  refine ⟨_, fun w' hb => rfl, hK _ ?_⟩
  clear hK K
  refine wpQuiet_step (fun K hK => ?_)
  go_simp
  refine ⟨_, fun w' hb => rfl, hK _ ?_⟩
  clear hK K
  refine wpQuiet_step (fun K hK => ?_)
  go_simp
  refine ⟨.string (str (List.replicate n 0)), fun w' hb => ?_, hK _ ?_⟩
  · refine (Try.strings_Repeat ⟨#[0]⟩ n _ (by omega) (by show 1 * n ≤ _; omega)).mono ?_
    rintro e w2 ⟨rfl, hb2⟩
    refine ⟨?_, below_trans hb hb2⟩
    rw [← repeatL_one]; rfl
  clear hK K
  refine wpQuiet_nil ?_
  intro w1 hb1
  have hr := run_bytes_of Try.underlying_str Try.underlying_bytes Try.underlying_u8 (P := Try.prog) x w1
  have hrow := row_bytes w1 5 x (by simp only [maxLen]; omega)
  rw [hxl] at hr hrow
  have Hrow := Lib.hid hrow
  have Hb1 := Lib.hid hb1
  clear hrow hb1 hcell
  go_wp2_with fail
  clear hr ha
  go_loopw [15] (fun y wr => ∃ i : Nat, i ≤ 64 ∧ y = .int .i64 (i : Int) ∧ Row wr w1.heap.size 5 1 (.slice (some ⟨w1.heap.size, 0, none⟩) 64 (grownCap w1 64 0 5)) 64 (vbytes ((x.take i).map (· ^^^ c) ++ x.drop i)) ∧ Below w1.heap.size w1 wr) (fun y _ => (64 - intOf y).toNat)
  case atStart => exact ⟨0, by omega, rfl, by simpa using Hrow.out.1, Hrow.out.2⟩
  case round =>
    obtain ⟨i, hi, rfl, hrow, hb⟩ := hrel
    by_cases h64 : i < 64
    · have b64 : decide ((i : Int) < 64) = true := decide_eq_true (by omega)
      have c64 : (i : Int) < 64 := by omega
      have hxi : i < x.length := by omega
      obtain ⟨q, hq⟩ : ∃ q, q = x[i] := ⟨_, rfl⟩
      have hL : ((x.take i).map (· ^^^ c) ++ x.drop i)[i]? = some q := by
        have hm : ((x.take i).map (· ^^^ c)).length = i := by rw [List.length_map, List.length_take]; omega
        rw [List.getElem?_append_right (by omega), hm, List.getElem?_drop, hq, Nat.sub_self, Nat.add_zero, List.getElem?_eq_getElem hxi]
      have hL2 : ((x.take i).map (· ^^^ c) ++ x.drop i).set i (q ^^^ c) = (x.take (i + 1)).map (· ^^^ c) ++ x.drop (i + 1) := by
        have hm : ((x.take i).map (· ^^^ c)).length = i := by rw [List.length_map, List.length_take]; omega
        rw [List.set_append_right _ _ (by omega), hm, Nat.sub_self, List.drop_eq_getElem_cons hxi, List.take_succ_eq_append_getElem hxi, List.map_append, ← hq, List.set_cons_zero, List.append_assoc]
        rfl
      obtain ⟨g2, cap2, hv2, _, hg2, _, hcells⟩ := hrow.form (by omega)
      injection hv2 with hv3 _ hv4
      injection hv3 with hv3
      injection hv3 with hv3
      subst hv3 hv4
      obtain ⟨hc1, hf1⟩ := hcells i (.int .u8 (q.toNat : Int)) (by rw [vbytes, List.getElem?_map, hL]; rfl)
      have hst := hrow.store i (.int .u8 ((q ^^^ c).toNat : Int))
      have hst2 : (vbytes ((x.take i).map (· ^^^ c) ++ x.drop i)).set i (.int .u8 ((q ^^^ c).toNat : Int)) = vbytes ((x.take (i + 1)).map (· ^^^ c) ++ x.drop (i + 1)) := by
        rw [← hL2, vbytes, vbytes, ← List.map_set]
      rw [hst2] at hst
      have hx8 : bits .xor .u8 (q.toNat : Int) (c.toNat : Int) = ((q ^^^ c).toNat : Int) := by
        rw [u8_xor_nat _ _ q.toNat_lt c.toNat_lt]; rfl
      have Hst := Lib.hid hst
      have Hb := Lib.hid hb
      clear hrow hb hst hst2 hL hL2 hcells hq Hrow
      go_wp2_with fail
      go_roundw
      case rel => exact ⟨i + 1, by omega, by go_num, Hst.out, below_set Hb.out (Nat.le_refl _) _ _⟩
      case measure => simp [intOf]; omega
    · have b64 : decide ((i : Int) < 64) = false := decide_eq_false (by omega)
      have hi64 : i = 64 := by omega
      have hfin : (x.take i).map (· ^^^ c) ++ x.drop i = padKey k c := by
        rw [Hpk.out, hi64, List.take_of_length_le (by omega), List.drop_of_length_le (by omega), List.append_nil]
      rw [hfin] at hrow
      have hpl64 : (padKey k c).length = 64 := padKey_length k c hk
      have hs1 := Row.string (P := Try.prog) (src := 64) (dst := 9) Try.underlying_bytes Try.underlying_u8 Try.underlying_str (by rw [hpl64]; exact hrow)
      have Hbf := Lib.hid (Hb1.out.trans (hb.mono Hb1.out.size))
      clear hrow hb hi64 hfin Hrow
      go_wp2_with fail
      go_ret
      exact ⟨rfl, Hbf.out⟩
end Go.Proofs.Ytgbnkoeidejhfaa
