/- Climbing, step by step: what must stand where a climb ends at a root. -/
import Derived.Test.YtgbnkoeidejhfaaStrs
namespace Go.Proofs.Ytgbnkoeidejhfaa
open Go.RowKit
theorem climbG_skip {f i n : Nat} {x : List UInt8} {p : List (List UInt8)} (h1 : 1 < n) (h2 : n ≤ i ^^^ 1) : climbG (f + 1) i n x p = climbG f (i / 2) ((n + 1) / 2) x p := by
  simp [climbG, h2, show ¬ n ≤ 1 by omega]
theorem climbG_end {f i n : Nat} {x z : List UInt8} {p : List (List UInt8)} (h1 : n ≤ 1) (h : climbG f i n x p = some z) : p = [] ∧ x = z := by
  cases f with
  | zero => simpa [climbG] using h
  | succ f => simpa [climbG, h1] using h
theorem climbG_step {f i n : Nat} {x z : List UInt8} {p : List (List UInt8)} (h1 : 1 < n) (h2 : i ^^^ 1 < n) (h : climbG (f + 1) i n x p = some z) :
    ∃ y q, p = y :: q ∧ y.length = 32 ∧ climbG f (i / 2) ((n + 1) / 2) (if i % 2 = 0 then sha (1 :: (x ++ y)) else sha (1 :: (y ++ x))) q = some z := by
  simp only [climbG, if_neg (show ¬ n ≤ 1 by omega), if_neg (show ¬ n ≤ i ^^^ 1 by omega)] at h
  cases p with
  | nil => simp at h
  | cons y q =>
    simp only at h
    split at h
    · exact ⟨y, q, rfl, ‹_›, h⟩
    · cases h
/-- Where two unlike texts stand whose sums climb to one root. -/
structure BSt (f i n : Nat) (s t z : List UInt8) (p q : List (List UInt8)) : Prop where
  lt : i < n
  fuel : n ≤ f
  one : climbG f i n (sha s) p = some z
  two : climbG f i n (sha t) q = some z
  ne : s ≠ t
theorem sha_ne_next {u v y y' : List UInt8} (hu : u.length = v.length) (h : u ≠ v) : (1 : UInt8) :: (u ++ y) ≠ 1 :: (v ++ y') := by
  intro he
  injection he with _ he
  exact h (List.append_inj_left he hu)
theorem sha_ne_next' {u v y y' : List UInt8} (_hu : u.length = v.length) (hy : y.length = y'.length) (h : u ≠ v) : (1 : UInt8) :: (y ++ u) ≠ 1 :: (y' ++ v) := by
  intro he
  injection he with _ he
  exact h (List.append_inj_right he hy)
theorem climbOf_some {item z : List UInt8} {i n : Int} {p : List (List UInt8)} (h : climbOf item i n p = some z) : 0 ≤ i ∧ i < n ∧ n ≤ 65536 ∧ climbG n.toNat i.toNat n.toNat (sha (0 :: item)) p = some z := by
  unfold climbOf at h
  split at h
  · cases h
  · exact ⟨by omega, by omega, by omega, h⟩
theorem drop_cons {α : Type} {p q : List α} {k : Nat} {y : α} (h : p.drop k = y :: q) : p[k]? = some y ∧ p.drop (k + 1) = q ∧ k < p.length := by
  have hlt : k < p.length := by
    rcases Nat.lt_or_ge k p.length with h1 | h1
    · exact h1
    · rw [List.drop_eq_nil_of_le h1] at h; cases h
  rw [List.drop_eq_getElem_cons hlt] at h
  injection h with h1 h2
  exact ⟨by rw [List.getElem?_eq_getElem hlt, h1], h2, hlt⟩
end Go.Proofs.Ytgbnkoeidejhfaa
