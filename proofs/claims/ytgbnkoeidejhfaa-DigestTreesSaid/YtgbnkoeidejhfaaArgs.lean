/- Arguments, opened by their types. -/
import Derived.Test.YtgbnkoeidejhfaaStrs
import Derived.Test.YtgbnkoeidejhfaaRead
namespace Go.Proofs.Ytgbnkoeidejhfaa
open Go.ChangeShapes Go.WideShapes Go.ChangeAt Go.RowKit
section
variable {H : Type} {enc : TypeId × Value → H} {P : Program} {w : World} {r : Reach} {b : Nat} {t e : TypeId} {v : Value}
theorem arg_string (hu : P.underlying t = some .string) (hv : Value.okWide P w r b t v) (h : Rdg enc P w t v.cells.toList) : ∃ l, v = .string (str l) ∧ l.length ≤ 140737488351232 := by
  obtain ⟨s, rfl⟩ := okWide_string hu hv
  obtain ⟨s', hs, hz⟩ := rd_string hu h
  simp [Value.cells] at hs
  subst hs
  refine ⟨s.data.toList, by rw [str_of], ?_⟩
  have : s.data.toList.length = s.size := by rw [← ByteArray.size_data]; simp
  unfold reachBytes at hz
  omega
theorem cell_string {c : Value} (hu : P.underlying t = some .string) (h : Rdg enc P w t [c]) : ∃ l, c = .string (str l) ∧ l.length ≤ 140737488351232 := by
  obtain ⟨s', hs, hz⟩ := rd_string hu h
  simp only [List.cons.injEq, and_true] at hs
  subst hs
  refine ⟨s'.data.toList, by rw [str_of], ?_⟩
  have : s'.data.toList.length = s'.size := by rw [← ByteArray.size_data]; simp
  unfold reachBytes at hz
  omega
theorem arg_i64 (hu : P.underlying t = some (.int .i64)) (hv : Value.okWide P w r b t v) (h : Rdg enc P w t v.cells.toList) : ∃ n : Int, v = .int .i64 n ∧ -9223372036854775808 ≤ n ∧ n ≤ 9223372036854775807 := by
  obtain ⟨n, rfl⟩ := okWide_int hu hv
  obtain ⟨m, hm, hw⟩ := rd_int hu h
  simp [Value.cells] at hm
  subst hm
  exact ⟨n, rfl, bounds_i64 hw⟩
theorem cell_i64 {c : Value} (hu : P.underlying t = some (.int .i64)) (h : Rdg enc P w t [c]) : ∃ n : Int, c = .int .i64 n ∧ -9223372036854775808 ≤ n ∧ n ≤ 9223372036854775807 := by
  obtain ⟨m, hm, hw⟩ := rd_int hu h
  simp only [List.cons.injEq, and_true] at hm
  exact ⟨m, hm, bounds_i64 hw⟩
theorem nat_u64 {n : Int} (h : 0 ≤ n ∧ n ≤ 18446744073709551615) : ∃ m : Nat, n = (m : Int) ∧ m < 18446744073709551616 := ⟨n.toNat, by omega, by omega⟩
theorem arg_u64 (hu : P.underlying t = some (.int .u64)) (hv : Value.okWide P w r b t v) (h : Rdg enc P w t v.cells.toList) : ∃ n : Nat, v = .int .u64 (n : Int) ∧ n < 18446744073709551616 := by
  obtain ⟨n, rfl⟩ := okWide_int hu hv
  obtain ⟨m, hm, hw⟩ := rd_int hu h
  simp [Value.cells] at hm
  subst hm
  obtain ⟨m, rfl, hm⟩ := nat_u64 (bounds_u64 hw)
  exact ⟨m, rfl, hm⟩
theorem cell_u64 {c : Value} (hu : P.underlying t = some (.int .u64)) (h : Rdg enc P w t [c]) : ∃ n : Nat, c = .int .u64 (n : Int) ∧ n < 18446744073709551616 := by
  obtain ⟨m, hm, hw⟩ := rd_int hu h
  simp only [List.cons.injEq, and_true] at hm
  subst hm
  obtain ⟨m, rfl, hm⟩ := nat_u64 (bounds_u64 hw)
  exact ⟨m, rfl, hm⟩
theorem cell_strs {c : Value} (hu : P.underlying t = some (.slice e)) (he : P.underlying e = some .string) (hc : P.cellsOf e = 1) (hb : P.bytesOf e = 16) (h : Rdg enc P w t [c]) :
    ∃ A cap l, c = .slice A l.length cap ∧ Strs w A cap l ∧ (∀ x ∈ l, x.length ≤ 140737488355328) ∧ l.length ≤ 8796093022208 := by
  obtain ⟨A, cap, l, hl, hs, hz, hbs, _⟩ := rd_strs hu he hc h
  simp only [List.cons.injEq, and_true] at hl
  rw [hb] at hbs
  unfold reachBytes at hbs hz
  exact ⟨A, cap, l, hl, hs, fun x hx => by have := hz x hx; omega, by have := hs.len; omega⟩
theorem arg_strs (hu : P.underlying t = some (.slice e)) (he : P.underlying e = some .string) (hc : P.cellsOf e = 1) (hb : P.bytesOf e = 16) (hv : Value.okWide P w r b t v) (h : Rdg enc P w t v.cells.toList) :
    ∃ A cap l, v = .slice A l.length cap ∧ Strs w A cap l ∧ (∀ x ∈ l, x.length ≤ 140737488355328) ∧ l.length ≤ 8796093022208 := by
  obtain ⟨A, n, cap, rfl⟩ := okWide_slice hu hv
  exact cell_strs hu he hc hb h
theorem arg_array2 (hu : P.underlying t = some (.array 2 e)) (hc : P.cellsOf t = 2) (he : P.cellsOf e = 1) (hv : Value.okWide P w r b t v) (h : Rdg enc P w t v.cells.toList) :
    ∃ c0 c1, v = .agg #[c0, c1] ∧ Rdg enc P w e [c0] ∧ Rdg enc P w e [c1] := by
  obtain ⟨cs, rfl, hs⟩ := okWide_agg hu hv
  obtain ⟨c0, c1, hcs, h0, h1⟩ := rd_array2 hu hc he h
  exact ⟨c0, c1, by congr 1; exact Array.ext' hcs, h0, h1⟩
end
end Go.Proofs.Ytgbnkoeidejhfaa
