/- Trees of texts: rows, roots, paths; a text climbs by its path to the root. -/
import Derived.Test.YtgbnkoeidejhfaaStrs
namespace Go.Proofs.Ytgbnkoeidejhfaa
open Go.RowKit

/-- The row above. -/
def up2 : List (List UInt8) → List (List UInt8)
  | a :: b :: r => sha (1 :: (a ++ b)) :: up2 r
  | r => r
def rootG : Nat → List (List UInt8) → List UInt8
  | 0, row => row.headD []
  | f + 1, row => if row.length ≤ 1 then row.headD [] else rootG f (up2 row)
def pathG : Nat → List (List UInt8) → Nat → List (List UInt8)
  | 0, _, _ => []
  | f + 1, row, i => if row.length ≤ 1 then [] else row[i ^^^ 1]?.toList ++ pathG f (up2 row) (i / 2)
def leafs (l : List (List UInt8)) : List (List UInt8) := l.map fun s => sha (0 :: s)
def rootOf (l : List (List UInt8)) : List UInt8 := if l = [] then sha [] else rootG l.length (leafs l)
def pathOf (l : List (List UInt8)) (i : Nat) : List (List UInt8) := pathG l.length (leafs l) i
def All32 (l : List (List UInt8)) : Prop := ∀ x ∈ l, x.length = 32
theorem leafs_length (l : List (List UInt8)) : (leafs l).length = l.length := by simp [leafs]
theorem leafs_32 (l : List (List UInt8)) : All32 (leafs l) := by
  intro x hx
  obtain ⟨s, _, rfl⟩ := List.mem_map.1 hx
  exact sha_length _
theorem up2_length : ∀ (l : List (List UInt8)), (up2 l).length = (l.length + 1) / 2
  | [] => by simp [up2]
  | [_] => by simp [up2]
  | a :: b :: r => by
    simp only [up2, List.length_cons, up2_length r]
    omega
theorem up2_32 : ∀ (l : List (List UInt8)), All32 l → All32 (up2 l)
  | [], h => h
  | [_], h => h
  | a :: b :: r, h => by
    intro x hx
    simp only [up2, List.mem_cons] at hx
    rcases hx with rfl | hx
    · exact sha_length _
    · exact up2_32 r (fun y hy => h y (by simp [hy])) x hx
theorem up2_get : ∀ (l : List (List UInt8)) (i : Nat), (up2 l)[i]? = match l[2 * i]?, l[2 * i + 1]? with
    | some a, some b => some (sha (1 :: (a ++ b)))
    | some a, none => some a
    | none, _ => none
  | [], i => by simp [up2]
  | [a], i => by
    cases i with
    | zero => rfl
    | succ i => simp [up2]
  | a :: b :: r, i => by
    cases i with
    | zero => rfl
    | succ i =>
      simp only [up2, List.getElem?_cons_succ, up2_get r i, show 2 * (i + 1) = 2 * i + 1 + 1 by omega]
theorem xor_one (i : Nat) : i ^^^ 1 = if i % 2 = 0 then i + 1 else i - 1 := by
  have h1 : (i ^^^ 1) / 2 = i / 2 := by
    have h : (i ^^^ 1) / 2 ^ 1 = i / 2 ^ 1 ^^^ 1 / 2 ^ 1 := Nat.xor_div_two_pow
    have h1 : (1 : Nat) / 2 ^ 1 = 0 := by decide
    rw [h1, Nat.xor_zero] at h
    simpa using h
  have h2 : (i ^^^ 1) % 2 = (i + 1) % 2 := by
    have h : (i ^^^ 1) % 2 ^ 1 = i % 2 ^ 1 ^^^ 1 % 2 ^ 1 := Nat.xor_mod_two_pow
    simp only [Nat.pow_one] at h
    rw [h]
    have : i % 2 = 0 ∨ i % 2 = 1 := by omega
    rcases this with h | h <;> rw [h] <;> simp <;> omega
  split <;> omega

theorem climb_path : ∀ (f : Nat) (row : List (List UInt8)) (i : Nat) (x : List UInt8), row.length ≤ f → row[i]? = some x → All32 row → climbG f i row.length x (pathG f row i) = some (rootG f row) := by
  intro f
  induction f with
  | zero =>
    intro row i x hf hx _
    have : row = [] := List.eq_nil_of_length_eq_zero (by omega)
    subst this
    simp at hx
  | succ f ih =>
    intro row i x hf hx h32
    have hi := (List.getElem?_eq_some_iff.1 hx).1
    by_cases h1 : row.length ≤ 1
    · have hi0 : i = 0 := by omega
      subst hi0
      have hp : pathG (f + 1) row 0 = [] := by simp [pathG, h1]
      have hr : rootG (f + 1) row = x := by
        simp only [rootG, if_pos h1]
        cases row with
        | nil => simp at hx
        | cons y r => simp at hx; simp [hx]
      rw [hp, hr]
      simp [climbG, h1]
    · have hx1 := xor_one i
      have hul := up2_length row
      have hget := up2_get row (i / 2)
      rw [show rootG (f + 1) row = rootG f (up2 row) by simp [rootG, h1], show pathG (f + 1) row i = row[i ^^^ 1]?.toList ++ pathG f (up2 row) (i / 2) by simp [pathG, h1]]
      by_cases h2 : row.length ≤ i ^^^ 1
      · have hn : row[i ^^^ 1]? = none := List.getElem?_eq_none h2
        have he : i % 2 = 0 := by
          by_cases h : i % 2 = 0
          · exact h
          · rw [if_neg h] at hx1; omega
        rw [if_pos he] at hx1
        have h3 : (up2 row)[i / 2]? = some x := by
          rw [hget, show 2 * (i / 2) = i by omega, hx, List.getElem?_eq_none (show row.length ≤ i + 1 by omega)]
        rw [hn]
        simp only [Option.toList_none, List.nil_append]
        have := ih (up2 row) (i / 2) x (by omega) h3 (up2_32 row h32)
        rw [hul] at this
        simp only [climbG, if_neg h1, if_pos h2]
        exact this
      · have hlt : i ^^^ 1 < row.length := by omega
        obtain ⟨y, hy⟩ : ∃ y, row[i ^^^ 1]? = some y := ⟨_, List.getElem?_eq_getElem hlt⟩
        have hy32 := h32 y (List.mem_of_getElem? hy)
        have h3 : (up2 row)[i / 2]? = some (if i % 2 = 0 then sha (1 :: (x ++ y)) else sha (1 :: (y ++ x))) := by
          by_cases he : i % 2 = 0
          · rw [if_pos he] at hx1
            rw [hx1] at hy
            rw [hget, show 2 * (i / 2) = i by omega, hx, hy, if_pos he]
          · rw [if_neg he] at hx1
            rw [hx1] at hy
            rw [hget, show 2 * (i / 2) = i - 1 by omega, show i - 1 + 1 = i by omega, hx, hy, if_neg he]
        rw [hy]
        have := ih (up2 row) (i / 2) _ (by omega) h3 (up2_32 row h32)
        rw [hul] at this
        simp only [climbG, if_neg h1, if_neg h2, Option.toList_some, List.singleton_append, hy32, if_true]
        exact this
theorem pathG_le : ∀ (f : Nat) (row : List (List UInt8)) (i : Nat), (pathG f row i).length ≤ f := by
  intro f
  induction f with
  | zero => intro row i; simp [pathG]
  | succ f ih =>
    intro row i
    by_cases h1 : row.length ≤ 1
    · simp [pathG, h1]
    · simp only [pathG, if_neg h1, List.length_append]
      have := ih (up2 row) (i / 2)
      have : (row[i ^^^ 1]?.toList).length ≤ 1 := by cases row[i ^^^ 1]? <;> simp
      omega
theorem climb_of_path (l : List (List UInt8)) (i : Nat) (x : List UInt8) (hl : l.length ≤ 65536) (hx : l[i]? = some x) : climbOf x (i : Int) (l.length : Int) (pathOf l i) = some (rootOf l) := by
  have hi := (List.getElem?_eq_some_iff.1 hx).1
  have hne : l ≠ [] := by intro h; subst h; simp at hx
  have h := climb_path l.length (leafs l) i (sha (0 :: x)) (by rw [leafs_length]; omega) (by simp [leafs, hx]) (leafs_32 l)
  rw [leafs_length] at h
  unfold climbOf
  rw [if_neg (by omega), Int.toNat_natCast, Int.toNat_natCast, rootOf, if_neg hne]
  exact h
end Go.Proofs.Ytgbnkoeidejhfaa
