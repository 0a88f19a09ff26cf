/- A slice of strings that is only read; a number turned in its last place; where a text climbs to. -/
import Derived.Test.YtgbnkoeidejhfaaDigF
import Derived.Test.YtgbnkoeidejhfaaRead
import Derived.Laws.BitsAllLaws
import Derived.Lib.RabinKarpLaws
namespace Go.Proofs.Ytgbnkoeidejhfaa
open Go.RowKit

/-- The slice of strings at A: read only. -/
structure Strs (w : World) (A : Option Addr) (cap : Nat) (l : List (List UInt8)) : Prop where
  len : l.length ≤ cap
  cells : ∀ i x, l[i]? = some x → ∃ a, A = some a ∧ w.cell? (a.add i) = some (.string (str x))
theorem Strs.below {w w1 : World} {A : Option Addr} {cap : Nat} {l : List (List UInt8)} (h : Strs w A cap l) (hb : Below w.heap.size w w1) : Strs w1 A cap l :=
  ⟨h.len, fun i x hx => let ⟨a, ha, hc⟩ := h.cells i x hx; ⟨a, ha, below_cell hb hc⟩⟩
theorem addr_add (a : Addr) (i j : Nat) : (a.add i).add j = a.add (i + j) := by
  unfold Addr.add
  split <;> split <;> simp_all <;> omega
theorem Strs.tail {w : World} {A : Option Addr} {cap : Nat} {x : List UInt8} {l : List (List UInt8)} (h : Strs w A cap (x :: l)) :
    Strs w (if cap = 1 then A else A.map (·.add 1)) (cap - 1) l := by
  have hl := h.len
  simp only [List.length_cons] at hl
  refine ⟨by omega, fun i y hy => ?_⟩
  obtain ⟨a, ha, hc⟩ := h.cells (i + 1) y (by simpa using hy)
  have hi := (List.getElem?_eq_some_iff.1 hy).1
  rw [if_neg (by omega), ha]
  exact ⟨_, rfl, by rw [addr_add, Nat.add_comm 1 i]; exact hc⟩

theorem i64_xor_one (i : Nat) (hi : i < 9223372036854775808) : bits .xor .i64 (i : Int) 1 = ((i ^^^ 1 : Nat) : Int) := by
  have hx : i ^^^ 1 < 2 ^ 63 := Nat.xor_lt_two_pow (by omega) (by omega)
  show IntKind.i64.wrap ((BitVec.ofInt 64 (i : Int) ^^^ BitVec.ofInt 64 ((1 : Nat) : Int)).toNat : Int) = _
  rw [BitVec.toNat_xor, ofInt_u64 i (by omega), ofInt_u64 1 (by omega), IntKind.wrap_i64]
  omega
theorem xor_one_le (i : Nat) : i ^^^ 1 ≤ i + 1 := by
  have h : (i ^^^ 1) / 2 ^ 1 = i / 2 ^ 1 ^^^ 1 / 2 ^ 1 := Nat.xor_div_two_pow
  have h1 : (1 : Nat) / 2 ^ 1 = 0 := by decide
  rw [h1, Nat.xor_zero] at h
  omega

/-- From place i of n up to the root, by the path; so many rows at most. -/
def climbG : Nat → Nat → Nat → List UInt8 → List (List UInt8) → Option (List UInt8)
  | 0, _, _, x, p => if p = [] then some x else none
  | f + 1, i, n, x, p =>
    if n ≤ 1 then (if p = [] then some x else none)
    else if n ≤ i ^^^ 1 then climbG f (i / 2) ((n + 1) / 2) x p
    else match p with
      | [] => none
      | y :: p => if y.length = 32 then climbG f (i / 2) ((n + 1) / 2) (if i % 2 = 0 then sha (1 :: (x ++ y)) else sha (1 :: (y ++ x))) p else none
/-- Where a text climbs to. -/
def climbOf (item : List UInt8) (i n : Int) (p : List (List UInt8)) : Option (List UInt8) :=
  if i < 0 ∨ n ≤ i ∨ 65536 < n then none else climbG n.toNat i.toNat n.toNat (sha (0 :: item)) p
/-- As two results. -/
def climbRes (r : Option (List UInt8)) : Value × Value := match r with
  | some x => (.string (str x), .bool true)
  | none => (.string (str []), .bool false)
theorem rd_strs {H : Type} {enc : TypeId × Value → H} {P : Program} {w : World} {t e : TypeId} {cs : List Value} (hu : P.underlying t = some (.slice e)) (he : P.underlying e = some .string) (hc : P.cellsOf e = 1) (h : Rdg enc P w t cs) :
    ∃ A cap l, cs = [.slice A l.length cap] ∧ Strs w A cap l ∧ (∀ x ∈ l, x.length ≤ reachBytes) ∧ cap * P.bytesOf e ≤ reachBytes ∧ cap ≤ maxLen := by
  rcases rd_slice hu h with rfl | ⟨a, len, cap, rfl, hl, hb, hm, hall⟩
  · exact ⟨none, 0, [], rfl, ⟨Nat.le_refl _, fun i x hx => by simp at hx⟩, fun x hx => by simp at hx, by simp, by simp⟩
  · have each : ∀ i, ∃ s : List UInt8, i < len → w.cell? (a.add i) = some (.string (str s)) ∧ s.length ≤ reachBytes := by
      intro i
      by_cases hi : i < len
      · obtain ⟨cells, hcc, hr⟩ := hall i hi
        rw [hc, Nat.mul_one] at hcc
        obtain ⟨v, rfl, hv⟩ := cells_one hcc
        obtain ⟨s, hs, hz⟩ := rd_string he hr
        simp only [List.cons.injEq, and_true] at hs
        subst hs
        refine ⟨s.data.toList, fun _ => ⟨by rw [str_of]; exact hv, ?_⟩⟩
        have : s.data.toList.length = s.size := by rw [← ByteArray.size_data]; simp
        omega
      · exact ⟨[], fun h => absurd h hi⟩
    have hch := Classical.axiomOfChoice each
    obtain ⟨f, hf⟩ := hch
    have hlen : ((List.range len).map f).length = len := by simp
    refine ⟨some a, cap, (List.range len).map f, by rw [hlen], ⟨by rw [hlen]; exact hl, fun i x hx => ?_⟩, fun x hx => ?_, hb, hm⟩
    · have hi : i < len := by have := (List.getElem?_eq_some_iff.1 hx).1; simpa using this
      rw [List.getElem?_map, List.getElem?_range hi] at hx
      simp only [Option.map_some, Option.some.injEq] at hx
      subst hx
      exact ⟨a, rfl, (hf i hi).1⟩
    · obtain ⟨i, hi, rfl⟩ := List.mem_map.1 hx
      exact (hf i (List.mem_range.1 hi)).2
theorem str_toList (l : List UInt8) : (str l).toList = l := by rw [ByteArray.toList_eq, str_list]
theorem str_eq_yes {a b : List UInt8} (h : a = b) : ((str a).toList == (str b).toList) = true := by rw [str_toList, str_toList, h]; simp
theorem str_eq_no {a b : List UInt8} (h : a ≠ b) : ((str a).toList == (str b).toList) = false := by rw [str_toList, str_toList]; simpa using h
theorem str_ne_yes {a b : List UInt8} (h : a ≠ b) : ((str a).toList != (str b).toList) = true := by rw [str_toList, str_toList]; simpa using h
theorem str_ne_no {a b : List UInt8} (h : a = b) : ((str a).toList != (str b).toList) = false := by rw [str_toList, str_toList, h]; simp
end Go.Proofs.Ytgbnkoeidejhfaa
