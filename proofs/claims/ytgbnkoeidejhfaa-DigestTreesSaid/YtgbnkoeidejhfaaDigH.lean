import Derived.Test.YtgbnkoeidejhfaaDigG
import Derived.Test.YtgbnkoeidejhfaaReg
namespace Go.Proofs.Ytgbnkoeidejhfaa
open Go.RowKit

theorem runs_add (c : St → List UInt8 → St) (a b : Nat) (l : List UInt8) (h : St) : runs c (a + b) l h = runs c b (l.drop (64 * a)) (runs c a l h) := by
  induction a generalizing l h with
  | zero => simp [runs]
  | succ a ih =>
    rw [show a + 1 + b = (a + b) + 1 by omega, runs, ih, runs, List.drop_drop]
    congr 2; omega
theorem runs_front (c : St → List UInt8 → St) (a : Nat) (l m : List UInt8) (h : St) (hl : 64 * a ≤ l.length) : runs c a (l ++ m) h = runs c a l h := by
  induction a generalizing l h with
  | zero => rfl
  | succ a ih =>
    rw [runs, runs, List.take_append_of_le_length (by omega), List.drop_append_of_le_length (by omega), ih _ _ (by rw [List.length_drop]; omega)]
/-- What is cut into blocks. -/
def padOf (l : List UInt8) : List UInt8 := l ++ [128] ++ List.replicate ((119 - l.length % 64) % 64) 0 ++ be 8 (8 * l.length)
theorem padOf_eq (l : List UInt8) : padOf l = l.take (64 * (l.length / 64)) ++ tailOf l := by
  have hr : (l.drop (64 * (l.length / 64))).length = l.length % 64 := by rw [List.length_drop]; omega
  simp only [tailOf, padOf, hr]
  rw [← List.append_assoc, ← List.append_assoc, ← List.append_assoc, List.take_append_drop]
theorem tailOf_length (l : List UInt8) : (tailOf l).length = l.length % 64 + 1 + (119 - l.length % 64) % 64 + 8 := by
  have hr : (l.drop (64 * (l.length / 64))).length = l.length % 64 := by rw [List.length_drop]; omega
  simp [tailOf, be_length, hr]; omega
theorem padOf_length (l : List UInt8) : (padOf l).length = 64 * (l.length / 64) + (tailOf l).length := by
  rw [padOf_eq, List.length_append, List.length_take]; omega
theorem sha_pad (l : List UInt8) : sha l = outOf (runs comp ((padOf l).length / 64) (padOf l) iv) := by
  have h1 : (padOf l).length / 64 = l.length / 64 + (tailOf l).length / 64 := by rw [padOf_length]; omega
  have h2 : (l.take (64 * (l.length / 64))).length = 64 * (l.length / 64) := by rw [List.length_take]; omega
  have h3 : runs comp (l.length / 64) l iv = runs comp (l.length / 64) (l.take (64 * (l.length / 64))) iv := by
    exact (congrArg (fun x => runs comp (l.length / 64) x iv) (List.take_append_drop (64 * (l.length / 64)) l)).symm.trans (runs_front _ _ _ _ _ (by rw [h2]; exact Nat.le_refl _))
  rw [sha, h1, runs_add, padOf_eq, runs_front _ _ _ _ _ (by rw [h2]; exact Nat.le_refl _), ← h3, List.drop_append, h2, List.drop_of_length_le (by rw [h2]; exact Nat.le_refl _)]
  simp

theorem ch_or (e f g : W32) : e &&& f ||| ~~~e &&& g = e &&& f ^^^ ~~~e &&& g := by
  ext i hi
  simp only [BitVec.getElem_or, BitVec.getElem_and, BitVec.getElem_xor, BitVec.getElem_not]
  cases e[i] <;> cases f[i] <;> cases g[i] <;> rfl
theorem maj_or (a b c : W32) : a &&& b ||| a &&& c ||| b &&& c = a &&& b ^^^ a &&& c ^^^ b &&& c := by
  ext i hi
  simp only [BitVec.getElem_or, BitVec.getElem_and, BitVec.getElem_xor]
  cases a[i] <;> cases b[i] <;> cases c[i] <;> rfl
theorem pword4 (s : List UInt8) (t : Nat) : pword s t 4 = BitVec.ofNat 32 (s.getD (4 * t) 0).toNat <<< 24 ||| BitVec.ofNat 32 (s.getD (4 * t + 1) 0).toNat <<< 16 ||| BitVec.ofNat 32 (s.getD (4 * t + 2) 0).toNat <<< 8 ||| BitVec.ofNat 32 (s.getD (4 * t + 3) 0).toNat := by
  simp only [pword, BitVec.shiftLeft_or_distrib, Nat.add_zero]
  simp [← BitVec.shiftLeft_add]

set_option maxRecDepth 100000 in
set_option maxHeartbeats 400000 in
theorem ks_any (w : World) :
    Calls Try.prog 28 #[] w fun e w' => e = .returned (.slice (some ⟨w.heap.size, 0, none⟩) 64 64) ∧ Blk w' w.heap.size 50 (kList.map v32) ∧ Below w.heap.size w w' := by
  go_enter Try.func28, Try.ntmps28
  go_wp2
  go_ret
  exact ⟨rfl, Blk.of _ _ _ _ (by kernel_rfl), (Below.refl _ _).alloc (Nat.le_refl _) _⟩

end Go.Proofs.Ytgbnkoeidejhfaa
