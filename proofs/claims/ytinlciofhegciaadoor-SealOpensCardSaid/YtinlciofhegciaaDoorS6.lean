/- Joined texts, part 6: contracts of the functions that the laws reach, and what is needed for them. -/
import Derived.Test.YtinlciofhegciaaDoorS5
/- Arguments, opened by their types. -/
namespace Go.Proofs.YtinlciofhegciaaDoor
open Go.ChangeShapes Go.WideShapes Go.ChangeAt Go.RowKit
section
variable {H : Type} {enc : TypeId × Value → H} {P : Program} {w : World} {r : Reach} {b : Nat} {t e : TypeId} {v : Value}
theorem arg_string (hu : P.underlying t = some .string) (hv : Value.okWide P w r b t v) (h : Rdg enc P w t v.cells.toList) : ∃ l, v = .string (str l) ∧ l.length ≤ 140737488351232 := by
  obtain ⟨s, rfl⟩ := okWide_string hu hv
  obtain ⟨s', hs, hz⟩ := rd_string hu h
  simp [Value.cells] at hs
  subst hs
  refine ⟨s.data.toList, by rw [str_of], ?_⟩
  have : s.data.toList.length = s.size := by rw [← ByteArray.size_data]; simp
  unfold reachBytes at hz
  omega
theorem cell_string {c : Value} (hu : P.underlying t = some .string) (h : Rdg enc P w t [c]) : ∃ l, c = .string (str l) ∧ l.length ≤ 140737488351232 := by
  obtain ⟨s', hs, hz⟩ := rd_string hu h
  simp only [List.cons.injEq, and_true] at hs
  subst hs
  refine ⟨s'.data.toList, by rw [str_of], ?_⟩
  have : s'.data.toList.length = s'.size := by rw [← ByteArray.size_data]; simp
  unfold reachBytes at hz
  omega
theorem arg_i64 (hu : P.underlying t = some (.int .i64)) (hv : Value.okWide P w r b t v) (h : Rdg enc P w t v.cells.toList) : ∃ n : Int, v = .int .i64 n ∧ -9223372036854775808 ≤ n ∧ n ≤ 9223372036854775807 := by
  obtain ⟨n, rfl⟩ := okWide_int hu hv
  obtain ⟨m, hm, hw⟩ := rd_int hu h
  simp [Value.cells] at hm
  subst hm
  exact ⟨n, rfl, bounds_i64 hw⟩
theorem cell_i64 {c : Value} (hu : P.underlying t = some (.int .i64)) (h : Rdg enc P w t [c]) : ∃ n : Int, c = .int .i64 n ∧ -9223372036854775808 ≤ n ∧ n ≤ 9223372036854775807 := by
  obtain ⟨m, hm, hw⟩ := rd_int hu h
  simp only [List.cons.injEq, and_true] at hm
  exact ⟨m, hm, bounds_i64 hw⟩
theorem nat_u64 {n : Int} (h : 0 ≤ n ∧ n ≤ 18446744073709551615) : ∃ m : Nat, n = (m : Int) ∧ m < 18446744073709551616 := ⟨n.toNat, by omega, by omega⟩
theorem arg_u64 (hu : P.underlying t = some (.int .u64)) (hv : Value.okWide P w r b t v) (h : Rdg enc P w t v.cells.toList) : ∃ n : Nat, v = .int .u64 (n : Int) ∧ n < 18446744073709551616 := by
  obtain ⟨n, rfl⟩ := okWide_int hu hv
  obtain ⟨m, hm, hw⟩ := rd_int hu h
  simp [Value.cells] at hm
  subst hm
  obtain ⟨m, rfl, hm⟩ := nat_u64 (bounds_u64 hw)
  exact ⟨m, rfl, hm⟩
theorem cell_u64 {c : Value} (hu : P.underlying t = some (.int .u64)) (h : Rdg enc P w t [c]) : ∃ n : Nat, c = .int .u64 (n : Int) ∧ n < 18446744073709551616 := by
  obtain ⟨m, hm, hw⟩ := rd_int hu h
  simp only [List.cons.injEq, and_true] at hm
  subst hm
  obtain ⟨m, rfl, hm⟩ := nat_u64 (bounds_u64 hw)
  exact ⟨m, rfl, hm⟩
theorem cell_strs {c : Value} (hu : P.underlying t = some (.slice e)) (he : P.underlying e = some .string) (hc : P.cellsOf e = 1) (hb : P.bytesOf e = 16) (h : Rdg enc P w t [c]) :
    ∃ A cap l, c = .slice A l.length cap ∧ Strs w A cap l ∧ (∀ x ∈ l, x.length ≤ 140737488355328) ∧ l.length ≤ 8796093022208 := by
  obtain ⟨A, cap, l, hl, hs, hz, hbs, _⟩ := rd_strs hu he hc h
  simp only [List.cons.injEq, and_true] at hl
  rw [hb] at hbs
  unfold reachBytes at hbs hz
  exact ⟨A, cap, l, hl, hs, fun x hx => by have := hz x hx; omega, by have := hs.len; omega⟩
theorem arg_strs (hu : P.underlying t = some (.slice e)) (he : P.underlying e = some .string) (hc : P.cellsOf e = 1) (hb : P.bytesOf e = 16) (hv : Value.okWide P w r b t v) (h : Rdg enc P w t v.cells.toList) :
    ∃ A cap l, v = .slice A l.length cap ∧ Strs w A cap l ∧ (∀ x ∈ l, x.length ≤ 140737488355328) ∧ l.length ≤ 8796093022208 := by
  obtain ⟨A, n, cap, rfl⟩ := okWide_slice hu hv
  exact cell_strs hu he hc hb h
theorem arg_array2 (hu : P.underlying t = some (.array 2 e)) (hc : P.cellsOf t = 2) (he : P.cellsOf e = 1) (hv : Value.okWide P w r b t v) (h : Rdg enc P w t v.cells.toList) :
    ∃ c0 c1, v = .agg #[c0, c1] ∧ Rdg enc P w e [c0] ∧ Rdg enc P w e [c1] := by
  obtain ⟨cs, rfl, hs⟩ := okWide_agg hu hv
  obtain ⟨c0, c1, hcs, h0, h1⟩ := rd_array2 hu hc he h
  exact ⟨c0, c1, by congr 1; exact Array.ext' hcs, h0, h1⟩
end
end Go.Proofs.YtinlciofhegciaaDoor

/- Arguments of chapter 13: what was told. -/
namespace Go.Proofs.YtinlciofhegciaaDoor
open Go.ChangeShapes Go.WideShapes Go.ChangeAt Go.RowKit
section
variable {H : Type} {enc : TypeId × Value → H} {w : World} {r : Reach} {b : Nat} {v : Value}
theorem Tryd.cellsTold : Tryd.prog.cellsOf 25 = 5 := by kernel_rfl
theorem Tryd.cellsI1 : Tryd.prog.cellsOf 3 = 1 := by kernel_rfl
theorem Tryd.cellsS1 : Tryd.prog.cellsOf 9 = 1 := by kernel_rfl
theorem Tryd.cellsU1 : Tryd.prog.cellsOf 22 = 1 := by kernel_rfl
theorem Tryd.cellsB2 : Tryd.prog.cellsOf 23 = 2 := by kernel_rfl
theorem five_ofT {cs : List Value} (h : cs.length = 5) : ∃ a b c d e, cs = [a, b, c, d, e] := by
  match cs, h with
  | [a, b, c, d, e], _ => exact ⟨a, b, c, d, e, rfl⟩
set_option maxRecDepth 100000 in
theorem arg_told (hv : Value.okWide Tryd.prog w r b 25 v) (h : Rdg enc Tryd.prog w 25 v.cells.toList) :
    ∃ (ro si : Int) (l : List UInt8) (x y : Nat), v = .agg #[.int .i64 ro, .int .i64 si, .string (str l), .int .u64 (x : Int), .int .u64 (y : Int)] ∧ -9223372036854775808 ≤ si ∧ si ≤ 9223372036854775807 ∧ x < 18446744073709551616 ∧ y < 18446744073709551616 := by
  obtain ⟨cs, rfl⟩ : ∃ cs, v = .agg cs := by
    simp only [Value.okWide, Tryd.underlying25] at hv
    obtain ⟨cs, h1, _⟩ := hv
    exact ⟨cs, h1⟩
  obtain ⟨hl, hf⟩ := rd_struct Tryd.underlying25 h
  rw [Tryd.cellsTold] at hl
  have hcs : (Value.agg cs).cells = cs := rfl
  rw [hcs] at hl hf
  obtain ⟨c0, c1, c2, c3, c4, hc⟩ := five_ofT hl
  rw [hc] at hf
  have h0 : Rdg enc Tryd.prog w 3 (([c0, c1, c2, c3, c4].drop 0).take (Tryd.prog.cellsOf 3)) := hf 0 _ rfl
  have h1 : Rdg enc Tryd.prog w 3 (([c0, c1, c2, c3, c4].drop 1).take (Tryd.prog.cellsOf 3)) := hf 1 _ rfl
  have h2 : Rdg enc Tryd.prog w 9 (([c0, c1, c2, c3, c4].drop 2).take (Tryd.prog.cellsOf 9)) := hf 2 _ rfl
  have h3 : Rdg enc Tryd.prog w 23 (([c0, c1, c2, c3, c4].drop 3).take (Tryd.prog.cellsOf 23)) := hf 3 _ rfl
  rw [Tryd.cellsI1] at h0 h1
  rw [Tryd.cellsS1] at h2
  rw [Tryd.cellsB2] at h3
  obtain ⟨ro, e0, _, _⟩ := cell_i64 Tryd.underlying3 h0
  obtain ⟨si, e1, s1, s2⟩ := cell_i64 Tryd.underlying3 h1
  obtain ⟨l, e2, _⟩ := cell_string Tryd.underlying9 h2
  obtain ⟨d0, d1, hd, k0, k1⟩ := rd_array2 Tryd.underlying23 Tryd.cellsB2 Tryd.cellsU1 h3
  obtain ⟨x, e3, bx⟩ := cell_u64 Tryd.underlying22 k0
  obtain ⟨y, e4, bY⟩ := cell_u64 Tryd.underlying22 k1
  simp only [List.drop_succ_cons, List.drop_zero, List.take_succ_cons, List.take_zero, List.cons.injEq, and_true] at hd
  obtain ⟨rfl, rfl⟩ := hd
  subst e0 e1 e2 e3 e4
  exact ⟨ro, si, l, x, y, by congr 1; exact Array.ext' hc, s1, s2, bx, bY⟩
end
end Go.Proofs.YtinlciofhegciaaDoor
