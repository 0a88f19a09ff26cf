/- Streams: bytes by counters; the program's walk. -/
import Derived.Test.YtgbnkoeidejhfaaDigM
import Derived.Test.YtgbnkoeidejhfaaLoops
namespace Go.Proofs.Ytgbnkoeidejhfaa
open Go.RowKit

/-- The macs of the first counters, one behind the other. -/
def macs (k c : List UInt8) : Nat → List UInt8
  | 0 => []
  | i + 1 => macs k c i ++ hmac k (c ++ be 4 i)
theorem macs_length (k c : List UInt8) (i : Nat) : (macs k c i).length = 32 * i := by
  induction i with
  | zero => rfl
  | succ i ih => rw [macs, List.length_append, ih, hmac_length]; omega
theorem macs_take (k c : List UInt8) (i j : Nat) (h : i ≤ j) (n : Nat) (hn : n ≤ 32 * i) : (macs k c j).take n = (macs k c i).take n := by
  induction j with
  | zero => obtain rfl : i = 0 := by omega
            rfl
  | succ j ih =>
    by_cases hj : i = j + 1
    · rw [hj]
    · rw [macs, List.take_append_of_le_length (by rw [macs_length]; omega), ih (by omega)]
/-- The stream. -/
def streamOf (k c : List UInt8) (n : Int) : List UInt8 := if n < 1 ∨ 65536 < n then [] else (macs k c ((n.toNat + 31) / 32)).take n.toNat
theorem streamOf_of (k c : List UInt8) (n i : Nat) (h1 : 1 ≤ n) (h2 : n ≤ 65536) (hi : n ≤ 32 * i) : (macs k c i).take n = streamOf k c (n : Int) := by
  unfold streamOf
  rw [if_neg (by omega), Int.toNat_natCast]
  by_cases h : (n + 31) / 32 ≤ i
  · exact macs_take k c _ i h n (by omega)
  · exact (macs_take k c i _ (by omega) n hi).symm
theorem streamOf_length (k c : List UInt8) (n : Nat) (h1 : 1 ≤ n) (h2 : n ≤ 65536) : (streamOf k c (n : Int)).length = n := by
  rw [← streamOf_of k c n ((n + 31) / 32) h1 h2 (by omega), List.length_take, macs_length]; omega
theorem streamOf_pred (k c : List UInt8) (n : Nat) (h1 : 2 ≤ n) (h2 : n ≤ 65536) : streamOf k c ((n - 1 : Nat) : Int) = (streamOf k c (n : Int)).take (n - 1) := by
  rw [← streamOf_of k c (n - 1) ((n + 31) / 32) (by omega) (by omega) (by omega), ← streamOf_of k c n ((n + 31) / 32) (by omega) h2 (by omega), List.take_take]
  congr 1
  omega
theorem streamOf_out (k c : List UInt8) (n : Int) (h : n < 1 ∨ 65536 < n) : streamOf k c n = [] := if_pos h

theorem Bld.grown {w w1 : World} {b g : Nat} {l : List UInt8} (h : Bld w b l) (hg : w.grownBy w1 (some g)) (hlt : g < b) : Bld w1 b l := by
  have one : ∀ {T e : TypeId} {p : Value} {bs : List Value}, Lib.BuilderAtF T e b b p bs w → Lib.BuilderAtF T e b b p bs w1 := by
    intro T e p bs h
    have hl := h.lt
    obtain ⟨hB, v, hc, hown, hne⟩ := h
    refine ⟨hB, v, (hg.block b hl (by intro h; injection h with h; omega)).trans hc, hown.kept hg ?_, hne⟩
    cases hv : v.ownBlock with
    | none => exact .inl rfl
    | some q =>
      refine .inr fun h => ?_
      injection h with h
      have := (hown.lt q hv).1
      omega
  exact h.imp one one
theorem Bld.len (b : Nat) (l : List UInt8) (w : World) (h : Bld w b l) :
    Calls Try.prog 32 #[.pointer (some ⟨b, 0, none⟩)] w fun e w' => e = .returned (.int .i64 (l.length : Int)) ∧ w = w' :=
  (Try.Builder_Len_f b b _ w h).mono fun _ _ ⟨he, hw⟩ => ⟨by rw [he]; simp [Lib.byteCells], hw.symm⟩

set_option maxRecDepth 100000 in
set_option maxHeartbeats 1000000 in
theorem stream_any (k c : List UInt8) (n : Int) (w : World) (hk : k.length ≤ 1099511627776) (hc : c.length ≤ 274877906944) (hn1 : -9223372036854775808 ≤ n) (hn2 : n ≤ 9223372036854775807) :
    Calls Try.prog 15 #[.string (str k), .string (str c), .int .i64 n] w fun e w' => e = .returned (.string (str (streamOf k c n))) ∧ Below w.heap.size w w' := by
  by_cases h1 : n < 1
  · have b1 : decide (n < 1) = true := decide_eq_true h1
    rw [streamOf_out k c n (.inl h1)]
    go_enter Try.func15, Try.ntmps15
    go_wp2_with fail
    go_ret
    exact ⟨rfl, Below.refl _ _⟩
  have b1 : decide (n < 1) = false := decide_eq_false h1
  by_cases h2 : 65536 < n
  · have b2 : decide (65536 < n) = true := decide_eq_true h2
    rw [streamOf_out k c n (.inr h2)]
    go_enter Try.func15, Try.ntmps15
    go_wp2_with fail
    go_ret
    exact ⟨rfl, Below.refl _ _⟩
  have b2 : decide (65536 < n) = false := decide_eq_false h2
  obtain ⟨m, rfl⟩ : ∃ m : Nat, n = (m : Int) := ⟨n.toNat, by omega⟩
  have hm : ∀ i : Nat, m ≤ 32 * i → (macs k c i).take m = streamOf k c (m : Int) := fun i hi => streamOf_of k c m i (by omega) (by omega) hi
  have Hm := Lib.hid hm
  clear hm
  obtain ⟨S, hS⟩ : ∃ S, S = streamOf k c (m : Int) := ⟨_, rfl⟩
  rw [← hS]
  have HS := Lib.hid hS
  clear hS
  go_enter Try.func15, Try.ntmps15
  go_wp2_with fail
  have hR0 : Ready ((w.alloc (.cells Try.zeroCells61 61)).alloc (.cells #[.pointer none, .slice none 0 0] 71)) w.heap.size := Ready.alloc (.inl (Blk.of _ _ _ _ rfl)) _
  have hB0 : Bld ((w.alloc (.cells Try.zeroCells61 61)).alloc (.cells #[.pointer none, .slice none 0 0] 71)) (w.heap.size + 1) [] := by
    have := Bld.new (w.alloc (.cells Try.zeroCells61 61))
    simpa using this
  have HR0 := Lib.hid hR0
  have HB0 := Lib.hid hB0
  clear hR0 hB0 b1 b2
  go_loopw [9] (fun y wr => ∃ i : Nat, 32 * i < m + 32 ∧ y = .int .i64 (i : Int) ∧ Ready wr w.heap.size ∧ Bld wr (w.heap.size + 1) (macs k c i) ∧ Below w.heap.size w wr) (fun y _ => m + 64 - 32 * (intOf y).toNat)
  case atStart => exact ⟨0, by omega, rfl, HR0.out, HB0.out, ((Below.refl _ _).alloc (Nat.le_refl _) _).alloc (by simp) _⟩
  case round =>
    obtain ⟨i, hi, rfl, hR, hB, hb⟩ := hrel
    have HR := Lib.hid hR
    have HB := Lib.hid hB
    have Hb := Lib.hid hb
    have hsz : w.heap.size + 1 < wr.heap.size := hB.lt
    clear hR hB hb HR0 HB0
    obtain ⟨M, hM⟩ : ∃ M, M = macs k c i := ⟨_, rfl⟩
    have hMl : M.length = 32 * i := by rw [hM, macs_length]
    rw [← hM] at HB
    by_cases hlt : 32 * i < m
    · have d1 : decide (32 * (i : Int) < (m : Int)) = true := decide_eq_true (by omega)
      have hcv : IntKind.u64.wrap (i : Int) = (i : Int) := by rw [IntKind.wrap_u64]; omega
      have ha := str_add Try.prog c (be 4 i) (by rw [be_length]; omega)
      obtain ⟨N, hN⟩ : ∃ N, N = c ++ be 4 i := ⟨_, rfl⟩
      have hNl : N.length ≤ 549755813888 := by rw [hN, List.length_append, be_length]; omega
      rw [← hN] at ha
      have hnx : macs k c (i + 1) = M ++ hmac k N := by rw [hM, hN]; rfl
      have Hnx := Lib.hid hnx
      have HMl := Lib.hid hMl
      clear hM hN hnx hMl
      go_wp2_with fail
      refine (Bld.len _ _ _ HB.out).mono ?_
      rintro e w' ⟨rfl, rfl⟩
      rw [HMl.out]
      go_wp2_with fail
      refine (number_any i 4 _ (by omega) (by omega)).mono ?_
      rintro e w1 ⟨rfl, hb1⟩
      have HR1 := Lib.hid (HR.out.imp (·.below hb1 (by omega)) (·.below hb1 (by omega)))
      have HB1 := Lib.hid (HB.out.below hb1)
      have Hb1 := Lib.hid (below_trans Hb.out hb1)
      have hs1 := hb1.size
      clear hb1 HR HB Hb
      go_wp2_with fail
      refine (mac_any _ k N _ HR1.out hk hNl).mono ?_
      rintro e w2 ⟨rfl, hM2, hg2⟩
      have HB2 := Lib.hid (HB1.out.grown hg2 (by omega))
      have Hb2 := Lib.hid (below_of_grown Hb1.out hg2 (Nat.le_refl _))
      have hs2 := hg2.size
      have HM2 := Lib.hid hM2
      clear hM2 hg2 HR1 HB1 Hb1
      go_wp2_with fail
      refine (Bld.write _ _ _ _ HB2.out (by rw [HMl.out, hmac_length]; omega)).mono ?_
      rintro e w3 ⟨rfl, hB3, hb3⟩
      rw [← Hnx.out] at hB3
      have HB3 := Lib.hid hB3
      have HR3 : Hid (Ready w3 w.heap.size) := .inr (HM2.out.below hb3 (by omega))
      have Hb3 := Lib.hid (Hb2.out.trans (hb3.mono (by omega)))
      clear hB3 hb3 HB2 HM2 Hb2
      go_wp2_with fail
      go_roundw
      case rel => exact ⟨i + 1, by omega, by go_num, HR3.out, HB3.out, Hb3.out⟩
      case measure => simp [intOf]; omega
    · have d1 : decide (32 * (i : Int) < (m : Int)) = false := decide_eq_false (by omega)
      have hfin : M.take m = S := by rw [hM, HS.out]; exact Hm.out i (by omega)
      have hex : (str M).extract 0 m = str S := by rw [str_take, hfin]
      have hms : (str M).size = 32 * i := by rw [str_size, hMl]
      have hlem : m ≤ 32 * i := by omega
      have HMl := Lib.hid hMl
      clear hM hfin hMl
      go_wp2_with fail
      refine (Bld.len _ _ _ HB.out).mono ?_
      rintro e w' ⟨rfl, rfl⟩
      rw [HMl.out]
      go_wp2_with fail
      refine (Bld.string _ _ _ HB.out).mono ?_
      rintro e w1 ⟨rfl, hB1, hb1⟩
      have Hb1 := Lib.hid (Hb.out.trans (hb1.mono (by omega)))
      clear hB1 hb1
      go_wp2_with fail
      go_ret
      exact ⟨rfl, Hb1.out⟩
end Go.Proofs.Ytgbnkoeidejhfaa
