/- Joined texts, part 10: contracts of the functions that the laws reach, and what is needed for them. -/
import Derived.Test.YtinlciofhegciaaGreatM9
/- Arguments, opened by their types: numbers, lists of numbers, certificates, groups, claims. -/
namespace Go.Proofs.YtinlciofhegciaaGreat
open Go.ChangeShapes Go.WideShapes Go.ChangeAt Go.RowKit
section
variable {H : Type} {enc : TypeId × Value → H} {P : Program} {w : World} {r : Reach} {b : Nat} {t e : TypeId} {v : Value}
theorem okWide_struct {fs : Array Field} (ht : P.underlying t = some (.struct fs)) (h : Value.okWide P w r b t v) : ∃ cs, v = .agg cs := by
  simp only [Value.okWide, ht] at h
  obtain ⟨cs, h1, _⟩ := h
  exact ⟨cs, h1⟩
theorem rd_sl {α : Type} [Inhabited α] {cs : List Value} (R : α → List Value → Prop) (hu : P.underlying t = some (.slice e)) (hR : ∀ cells, Rdg enc P w e cells → ∃ x, R x cells) (h : Rdg enc P w t cs) :
    ∃ A cap, ∃ l : List α, cs = [.slice A l.length cap] ∧ l.length ≤ cap ∧ cap * P.bytesOf e ≤ reachBytes ∧
      (∀ (i : Nat) (x : α), l[i]? = some x → ∃ a cells, A = some a ∧ w.cells? 0 (a.add (i * P.cellsOf e)) (P.cellsOf e) = some cells ∧ R x cells) := by
  rcases rd_slice hu h with rfl | ⟨a, len, cap, rfl, hl, hb, hm, hall⟩
  · exact ⟨none, 0, [], rfl, Nat.le_refl _, by simp, fun i x hx => by simp at hx⟩
  · have each : ∀ i, ∃ x : α, i < len → ∃ cells, w.cells? 0 (a.add (i * P.cellsOf e)) (P.cellsOf e) = some cells ∧ R x cells := by
      intro i
      by_cases hi : i < len
      · obtain ⟨cells, hcc, hr⟩ := hall i hi
        obtain ⟨x, hx⟩ := hR cells hr
        exact ⟨x, fun _ => ⟨cells, hcc, hx⟩⟩
      · exact ⟨default, fun h => absurd h hi⟩
    obtain ⟨f, hf⟩ := Classical.axiomOfChoice each
    have hlen : ((List.range len).map f).length = len := by simp
    refine ⟨some a, cap, (List.range len).map f, by rw [hlen], by rw [hlen]; exact hl, hb, fun i x hx => ?_⟩
    have hi : i < len := by have := (List.getElem?_eq_some_iff.1 hx).1; simpa using this
    rw [List.getElem?_map, List.getElem?_range hi] at hx
    simp only [Option.map_some, Option.some.injEq] at hx
    subst hx
    obtain ⟨cells, h1, h2⟩ := hf i hi
    exact ⟨a, cells, rfl, h1, h2⟩
def isNum (x : Nat) (cells : List Value) : Prop := cells = [.int .u64 (x : Int)] ∧ x < 18446744073709551616
theorem rd_num {cells : List Value} (hu : P.underlying t = some (.int .u64)) (h : Rdg enc P w t cells) : ∃ x, isNum x cells := by
  obtain ⟨n, rfl, hw⟩ := rd_int hu h
  obtain ⟨m, rfl, hm⟩ := nat_u64 (bounds_u64 hw)
  exact ⟨m, rfl, hm⟩
theorem rd_nums {cs : List Value} (hu : P.underlying t = some (.slice e)) (he : P.underlying e = some (.int .u64)) (hc : P.cellsOf e = 1) (hb : P.bytesOf e = 8) (h : Rdg enc P w t cs) :
    ∃ A cap l, cs = [.slice A l.length cap] ∧ Nums w A cap l ∧ l.length ≤ 17592186044416 := by
  obtain ⟨A, cap, l, rfl, hl, hbs, hall⟩ := rd_sl isNum hu (fun cells => rd_num he) h
  rw [hb] at hbs
  unfold reachBytes at hbs
  refine ⟨A, cap, l, rfl, ⟨hl, fun i x hx => ?_, fun x hx => ?_⟩, by omega⟩
  · obtain ⟨a, cells, rfl, hcc, rfl, _⟩ := hall i x hx
    rw [hc, Nat.mul_one] at hcc
    obtain ⟨u, hu, hcell⟩ := cells_one hcc
    simp only [List.cons.injEq, and_true] at hu
    subst hu
    exact ⟨a, rfl, hcell⟩
  · obtain ⟨i, hi⟩ := List.mem_iff_getElem?.1 hx
    obtain ⟨_, _, _, _, _, h⟩ := hall i x hi
    exact h
def isNums (w : World) (r : NumV) (cells : List Value) : Prop := cells = [r.val] ∧ Nums w r.A r.cap r.l ∧ r.l.length ≤ 17592186044416
instance : Inhabited NumV := ⟨⟨none, 0, []⟩⟩
theorem rd_isNums {cells : List Value} (hu : P.underlying t = some (.slice e)) (he : P.underlying e = some (.int .u64)) (hc : P.cellsOf e = 1) (hb : P.bytesOf e = 8) (h : Rdg enc P w t cells) : ∃ r, isNums w r cells := by
  obtain ⟨A, cap, l, rfl, hn, hl⟩ := rd_nums hu he hc hb h
  exact ⟨⟨A, cap, l⟩, rfl, hn, hl⟩
theorem rd_grid {t2 : TypeId} {cs : List Value} (hu2 : P.underlying t2 = some (.slice t)) (hc2 : P.cellsOf t = 1) (hb2 : P.bytesOf t = 24) (hu : P.underlying t = some (.slice e)) (he : P.underlying e = some (.int .u64)) (hc : P.cellsOf e = 1) (hb : P.bytesOf e = 8) (h : Rdg enc P w t2 cs) :
    ∃ B cap rs, cs = [.slice B rs.length cap] ∧ Grid w B cap rs ∧ rs.length ≤ 17592186044416 ∧ ∀ r ∈ rs, r.l.length ≤ 17592186044416 := by
  obtain ⟨A, cap, l, rfl, hl, hbs, hall⟩ := rd_sl (isNums w) hu2 (fun cells => rd_isNums hu he hc hb) h
  rw [hb2] at hbs
  unfold reachBytes at hbs
  refine ⟨A, cap, l, rfl, ⟨hl, fun i x hx => ?_, fun x hx => ?_⟩, by omega, fun x hx => ?_⟩
  · obtain ⟨a, cells, rfl, hcc, rfl, _⟩ := hall i x hx
    rw [hc2, Nat.mul_one] at hcc
    obtain ⟨u, hu, hcell⟩ := cells_one hcc
    simp only [List.cons.injEq, and_true] at hu
    subst hu
    exact ⟨a, rfl, hcell⟩
  · obtain ⟨i, hi⟩ := List.mem_iff_getElem?.1 hx
    obtain ⟨_, _, _, _, _, h, _⟩ := hall i x hi
    exact h
  · obtain ⟨i, hi⟩ := List.mem_iff_getElem?.1 hx
    obtain ⟨_, _, _, _, _, _, h⟩ := hall i x hi
    exact h
theorem add_at (a : Addr) (i : Nat) (h : i ≠ 0) : a.add i = ⟨a.block, a.off + i, none⟩ := by unfold Addr.add; rw [if_neg h]
end
def isRow (w : World) (r : RowV) (cells : List Value) : Prop := cells = [.int .u64 (r.N : Int), .int .u64 (r.A : Int), r.F.val] ∧ (Nums w r.F.A r.F.cap r.F.l ∧ r.N < 18446744073709551616 ∧ r.A < 18446744073709551616) ∧ r.F.l.length ≤ 17592186044416
instance : Inhabited RowV := ⟨⟨0, 0, default⟩⟩
section
variable {H : Type} {enc : TypeId × Value → H} {w : World} {r : Reach} {b : Nat} {v : Value}
theorem Tryz.cellsRow : Tryz.prog.cellsOf 70 = 3 := by kernel_rfl
theorem Tryz.bytesRow : Tryz.prog.bytesOf 70 = 40 := by kernel_rfl
theorem Tryz.cellsU : Tryz.prog.cellsOf 22 = 1 := by kernel_rfl
theorem Tryz.bytesU : Tryz.prog.bytesOf 22 = 8 := by kernel_rfl
theorem Tryz.cellsN : Tryz.prog.cellsOf 26 = 1 := by kernel_rfl
theorem Tryz.bytesN : Tryz.prog.bytesOf 26 = 24 := by kernel_rfl
theorem Tryz.cellsG : Tryz.prog.cellsOf 25 = 5 := by kernel_rfl
theorem Tryz.cellsC : Tryz.prog.cellsOf 29 = 2 := by kernel_rfl
theorem Tryz.cellsRs : Tryz.prog.cellsOf 23 = 1 := by kernel_rfl
theorem Tryz.cellsNN : Tryz.prog.cellsOf 27 = 1 := by kernel_rfl
theorem three_of {cs : List Value} (h : cs.length = 3) : ∃ a b c, cs = [a, b, c] := by
  match cs, h with
  | [a, b, c], _ => exact ⟨a, b, c, rfl⟩
theorem five_of {cs : List Value} (h : cs.length = 5) : ∃ a b c d e, cs = [a, b, c, d, e] := by
  match cs, h with
  | [a, b, c, d, e], _ => exact ⟨a, b, c, d, e, rfl⟩
theorem two_of {cs : List Value} (h : cs.length = 2) : ∃ a b, cs = [a, b] := by
  match cs, h with
  | [a, b], _ => exact ⟨a, b, rfl⟩
theorem rd_isRow {cells : List Value} (h : Rdg enc Tryz.prog w 70 cells) : ∃ r, isRow w r cells := by
  obtain ⟨hl, hf⟩ := rd_struct Tryz.underlying70 h
  rw [Tryz.cellsRow] at hl
  obtain ⟨c0, c1, c2, rfl⟩ := three_of hl
  have h0 : Rdg enc Tryz.prog w 22 (([c0, c1, c2].drop 0).take (Tryz.prog.cellsOf 22)) := hf 0 _ rfl
  have h1 : Rdg enc Tryz.prog w 22 (([c0, c1, c2].drop 1).take (Tryz.prog.cellsOf 22)) := hf 1 _ rfl
  have h2 : Rdg enc Tryz.prog w 26 (([c0, c1, c2].drop 2).take (Tryz.prog.cellsOf 26)) := hf 2 _ rfl
  rw [Tryz.cellsU] at h0 h1
  rw [Tryz.cellsN] at h2
  simp only [List.drop_zero, List.drop_succ_cons, List.take_succ_cons, List.take_zero] at h0 h1 h2
  obtain ⟨n, hn, hnb⟩ := rd_num Tryz.underlying22 h0
  obtain ⟨m, hm, hmb⟩ := rd_num Tryz.underlying22 h1
  obtain ⟨f, hfv, hfn, hfl⟩ := rd_isNums Tryz.underlying26 Tryz.underlying22 Tryz.cellsU Tryz.bytesU h2
  simp only [List.cons.injEq, and_true] at hn hm hfv
  subst hn hm hfv
  exact ⟨⟨n, m, f⟩, rfl, ⟨hfn, hnb, hmb⟩, hfl⟩
theorem rd_rows {cs : List Value} (h : Rdg enc Tryz.prog w 23 cs) :
    ∃ B cap rs, cs = [.slice B rs.length cap] ∧ Rows3 w B cap rs ∧ rs.length ≤ 17592186044416 ∧ ∀ r ∈ rs, r.F.l.length ≤ 17592186044416 := by
  obtain ⟨A, cap, l, rfl, hl, hbs, hall⟩ := rd_sl (isRow w) Tryz.underlying23 (fun cells => rd_isRow) h
  rw [Tryz.bytesRow] at hbs
  unfold reachBytes at hbs
  refine ⟨A, cap, l, rfl, ⟨hl, fun i x hx => ?_, fun x hx => ?_⟩, by omega, fun x hx => ?_⟩
  · obtain ⟨a, cells, rfl, hcc, rfl, _⟩ := hall i x hx
    rw [Tryz.cellsRow] at hcc
    obtain ⟨_, hg⟩ := cells_get hcc
    have k0 := hg 0 _ rfl
    have k1 := hg 1 _ rfl
    have k2 := hg 2 _ rfl
    rw [addr_zero] at k0
    rw [add_at _ 1 (by omega)] at k1
    rw [add_at _ 2 (by omega)] at k2
    exact ⟨a, rfl, k0, k1, k2⟩
  · obtain ⟨i, hi⟩ := List.mem_iff_getElem?.1 hx
    obtain ⟨_, _, _, _, _, h, _⟩ := hall i x hi
    exact h
  · obtain ⟨i, hi⟩ := List.mem_iff_getElem?.1 hx
    obtain ⟨_, _, _, _, _, _, h⟩ := hall i x hi
    exact h
set_option maxRecDepth 100000 in
/-- A group as an argument. -/
theorem arg_group (hv : Value.okWide Tryz.prog w r b 25 v) (h : Rdg enc Tryz.prog w 25 v.cells.toList) :
    ∃ P Q G K B cap rs, v = gval P Q G K (.slice B rs.length cap) ∧ P < 18446744073709551616 ∧ Q < 18446744073709551616 ∧ G < 18446744073709551616 ∧ K < 18446744073709551616 ∧ Rows3 w B cap rs ∧ rs.length ≤ 17592186044416 ∧ ∀ r ∈ rs, r.F.l.length ≤ 17592186044416 := by
  obtain ⟨cs, rfl⟩ := okWide_struct Tryz.underlying25 hv
  obtain ⟨hl, hf⟩ := rd_struct Tryz.underlying25 h
  rw [Tryz.cellsG] at hl
  have hcs : (Value.agg cs).cells = cs := rfl
  rw [hcs] at hl hf
  obtain ⟨c0, c1, c2, c3, c4, hc⟩ := five_of hl
  rw [hc] at hf
  have h0 : Rdg enc Tryz.prog w 22 (([c0, c1, c2, c3, c4].drop 0).take (Tryz.prog.cellsOf 22)) := hf 0 _ rfl
  have h1 : Rdg enc Tryz.prog w 22 (([c0, c1, c2, c3, c4].drop 1).take (Tryz.prog.cellsOf 22)) := hf 1 _ rfl
  have h2 : Rdg enc Tryz.prog w 22 (([c0, c1, c2, c3, c4].drop 2).take (Tryz.prog.cellsOf 22)) := hf 2 _ rfl
  have h3 : Rdg enc Tryz.prog w 22 (([c0, c1, c2, c3, c4].drop 3).take (Tryz.prog.cellsOf 22)) := hf 3 _ rfl
  have h4 : Rdg enc Tryz.prog w 23 (([c0, c1, c2, c3, c4].drop 4).take (Tryz.prog.cellsOf 23)) := hf 4 _ rfl
  rw [Tryz.cellsU] at h0 h1 h2 h3
  rw [Tryz.cellsRs] at h4
  simp only [List.drop_zero, List.drop_succ_cons, List.take_succ_cons, List.take_zero] at h0 h1 h2 h3 h4
  obtain ⟨n0, e0, b0⟩ := rd_num Tryz.underlying22 h0
  obtain ⟨n1, e1, b1⟩ := rd_num Tryz.underlying22 h1
  obtain ⟨n2, e2, b2⟩ := rd_num Tryz.underlying22 h2
  obtain ⟨n3, e3, b3⟩ := rd_num Tryz.underlying22 h3
  obtain ⟨B, cap, rs, e4, hr, hrl, hfl⟩ := rd_rows h4
  simp only [List.cons.injEq, and_true] at e0 e1 e2 e3 e4
  subst e0 e1 e2 e3 e4
  exact ⟨n0, n1, n2, n3, B, cap, rs, by rw [gval]; congr 1; exact Array.ext' hc, b0, b1, b2, b3, hr, hrl, hfl⟩
set_option maxRecDepth 100000 in
/-- A claim as an argument. -/
theorem arg_claim (hv : Value.okWide Tryz.prog w r b 29 v) (h : Rdg enc Tryz.prog w 29 v.cells.toList) :
    ∃ A cT T B cB rs, v = .agg #[.slice A (List.length T) cT, .slice B (List.length rs) cB] ∧ Nums w A cT T ∧ Grid w B cB rs ∧ T.length ≤ 17592186044416 ∧ rs.length ≤ 17592186044416 ∧ ∀ r ∈ rs, r.l.length ≤ 17592186044416 := by
  obtain ⟨cs, rfl⟩ := okWide_struct Tryz.underlying29 hv
  obtain ⟨hl, hf⟩ := rd_struct Tryz.underlying29 h
  rw [Tryz.cellsC] at hl
  have hcs : (Value.agg cs).cells = cs := rfl
  rw [hcs] at hl hf
  obtain ⟨c0, c1, hc⟩ := two_of hl
  rw [hc] at hf
  have h0 : Rdg enc Tryz.prog w 26 (([c0, c1].drop 0).take (Tryz.prog.cellsOf 26)) := hf 0 _ rfl
  have h1 : Rdg enc Tryz.prog w 27 (([c0, c1].drop 1).take (Tryz.prog.cellsOf 27)) := hf 1 _ rfl
  rw [Tryz.cellsN] at h0
  rw [Tryz.cellsNN] at h1
  simp only [List.drop_zero, List.drop_succ_cons, List.take_succ_cons, List.take_zero] at h0 h1
  obtain ⟨A, cT, T, e0, hT, hTl⟩ := rd_nums Tryz.underlying26 Tryz.underlying22 Tryz.cellsU Tryz.bytesU h0
  obtain ⟨B, cB, rs, e1, hG, hGl, hrl⟩ := rd_grid Tryz.underlying27 Tryz.cellsN Tryz.bytesN Tryz.underlying26 Tryz.underlying22 Tryz.cellsU Tryz.bytesU h1
  simp only [List.cons.injEq, and_true] at e0 e1
  subst e0 e1
  exact ⟨A, cT, T, B, cB, rs, by congr 1; exact Array.ext' hc, hT, hG, hTl, hGl, hrl⟩
end
end Go.Proofs.YtinlciofhegciaaGreat

/- Arguments of chapter 07: a label and two lists. -/
namespace Go.Proofs.YtinlciofhegciaaGreat
open Go.ChangeShapes Go.WideShapes Go.ChangeAt Go.RowKit
section
variable {H : Type} {enc : TypeId × Value → H} {w : World} {r : Reach} {b : Nat} {v : Value}
theorem Tryz.cellsL : Tryz.prog.cellsOf 31 = 3 := by kernel_rfl
theorem Tryz.cellsS : Tryz.prog.cellsOf 9 = 1 := by kernel_rfl
set_option maxRecDepth 100000 in
theorem arg_labelled (hv : Value.okWide Tryz.prog w r b 31 v) (h : Rdg enc Tryz.prog w 31 v.cells.toList) :
    ∃ l A cA V B cB D, v = .agg #[.string (str l), .slice A (List.length V) cA, .slice B (List.length D) cB] ∧ l.length ≤ 140737488351232 ∧ Nums w A cA V ∧ Nums w B cB D ∧ V.length ≤ 17592186044416 ∧ D.length ≤ 17592186044416 := by
  obtain ⟨cs, rfl⟩ := okWide_struct Tryz.underlying31 hv
  obtain ⟨hl, hf⟩ := rd_struct Tryz.underlying31 h
  rw [Tryz.cellsL] at hl
  have hcs : (Value.agg cs).cells = cs := rfl
  rw [hcs] at hl hf
  obtain ⟨c0, c1, c2, hc⟩ := three_of hl
  rw [hc] at hf
  have h0 : Rdg enc Tryz.prog w 9 (([c0, c1, c2].drop 0).take (Tryz.prog.cellsOf 9)) := hf 0 _ rfl
  have h1 : Rdg enc Tryz.prog w 26 (([c0, c1, c2].drop 1).take (Tryz.prog.cellsOf 26)) := hf 1 _ rfl
  have h2 : Rdg enc Tryz.prog w 26 (([c0, c1, c2].drop 2).take (Tryz.prog.cellsOf 26)) := hf 2 _ rfl
  rw [Tryz.cellsS] at h0
  rw [Tryz.cellsN] at h1 h2
  simp only [List.drop_zero, List.drop_succ_cons, List.take_succ_cons, List.take_zero] at h0 h1 h2
  obtain ⟨l, e0, hll⟩ := cell_string Tryz.underlying9 h0
  obtain ⟨A, cA, V, e1, hV, hVl⟩ := rd_nums Tryz.underlying26 Tryz.underlying22 Tryz.cellsU Tryz.bytesU h1
  obtain ⟨B, cB, D, e2, hD, hDl⟩ := rd_nums Tryz.underlying26 Tryz.underlying22 Tryz.cellsU Tryz.bytesU h2
  simp only [List.cons.injEq, and_true] at e1 e2
  subst e0 e1 e2
  exact ⟨l, A, cA, V, B, cB, D, by congr 1; exact Array.ext' hc, hll, hV, hD, hVl, hDl⟩
end
end Go.Proofs.YtinlciofhegciaaGreat

/- Arguments of chapter 07: tries, crossings, what was made. -/
namespace Go.Proofs.YtinlciofhegciaaGreat
open Go.ChangeShapes Go.WideShapes Go.ChangeAt Go.RowKit
section
variable {H : Type} {enc : TypeId × Value → H} {w : World} {r : Reach} {b : Nat} {v : Value}
theorem Tryz.cellsPair : Tryz.prog.cellsOf 44 = 2 := by kernel_rfl
theorem Tryz.cellsThree : Tryz.prog.cellsOf 48 = 3 := by kernel_rfl
theorem Tryz.cellsBox : Tryz.prog.cellsOf 46 = 6 := by kernel_rfl
theorem Tryz.cellsThrees : Tryz.prog.cellsOf 49 = 6 := by kernel_rfl
theorem Tryz.cells3 : Tryz.prog.cellsOf 57 = 3 := by kernel_rfl
theorem Tryz.cellsMade : Tryz.prog.cellsOf 59 = 9 := by kernel_rfl
theorem six_of {cs : List Value} (h : cs.length = 6) : ∃ a b c d e f, cs = [a, b, c, d, e, f] := by
  match cs, h with
  | [a, b, c, d, e, f], _ => exact ⟨a, b, c, d, e, f, rfl⟩
theorem nine_of {cs : List Value} (h : cs.length = 9) : ∃ a b c d e f g i j, cs = [a, b, c, d, e, f, g, i, j] := by
  match cs, h with
  | [a, b, c, d, e, f, g, i, j], _ => exact ⟨a, b, c, d, e, f, g, i, j, rfl⟩
set_option maxRecDepth 100000 in
theorem rd_u {c : Value} (h : Rdg enc Tryz.prog w 22 [c]) : ∃ n : Nat, c = .int .u64 (n : Int) ∧ n < 18446744073709551616 := by
  obtain ⟨n, e0, b0⟩ := rd_num Tryz.underlying22 h
  simp only [List.cons.injEq, and_true] at e0
  exact ⟨n, e0, b0⟩
set_option maxRecDepth 100000 in
theorem rd_pair {c0 c1 : Value} (h : Rdg enc Tryz.prog w 44 [c0, c1]) : ∃ x y : Nat, c0 = .int .u64 (x : Int) ∧ c1 = .int .u64 (y : Int) ∧ x < 18446744073709551616 ∧ y < 18446744073709551616 := by
  obtain ⟨hl, hf⟩ := rd_struct Tryz.underlying44 h
  have h0 : Rdg enc Tryz.prog w 22 (([c0, c1].drop 0).take (Tryz.prog.cellsOf 22)) := hf 0 _ rfl
  have h1 : Rdg enc Tryz.prog w 22 (([c0, c1].drop 1).take (Tryz.prog.cellsOf 22)) := hf 1 _ rfl
  rw [Tryz.cellsU] at h0 h1
  obtain ⟨x, ex, bx⟩ := rd_u h0
  obtain ⟨y, ey, bY⟩ := rd_u h1
  exact ⟨x, y, ex, ey, bx, bY⟩
set_option maxRecDepth 100000 in
theorem rd_three {c0 c1 c2 : Value} (h : Rdg enc Tryz.prog w 48 [c0, c1, c2]) : ∃ x y z : Nat, c0 = .int .u64 (x : Int) ∧ c1 = .int .u64 (y : Int) ∧ c2 = .int .u64 (z : Int) ∧ x < 18446744073709551616 ∧ y < 18446744073709551616 ∧ z < 18446744073709551616 := by
  obtain ⟨hl, hf⟩ := rd_struct Tryz.underlying48 h
  have h0 : Rdg enc Tryz.prog w 22 (([c0, c1, c2].drop 0).take (Tryz.prog.cellsOf 22)) := hf 0 _ rfl
  have h1 : Rdg enc Tryz.prog w 22 (([c0, c1, c2].drop 1).take (Tryz.prog.cellsOf 22)) := hf 1 _ rfl
  have h2 : Rdg enc Tryz.prog w 22 (([c0, c1, c2].drop 2).take (Tryz.prog.cellsOf 22)) := hf 2 _ rfl
  rw [Tryz.cellsU] at h0 h1 h2
  obtain ⟨x, ex, bx⟩ := rd_u h0
  obtain ⟨y, ey, bY⟩ := rd_u h1
  obtain ⟨z, ez, bz⟩ := rd_u h2
  exact ⟨x, y, z, ex, ey, ez, bx, bY, bz⟩
set_option maxRecDepth 100000 in
theorem rd_3 {c0 c1 c2 : Value} (h : Rdg enc Tryz.prog w 57 [c0, c1, c2]) : ∃ x y z : Nat, c0 = .int .u64 (x : Int) ∧ c1 = .int .u64 (y : Int) ∧ c2 = .int .u64 (z : Int) ∧ x < 18446744073709551616 ∧ y < 18446744073709551616 ∧ z < 18446744073709551616 := by
  obtain ⟨hl, hf⟩ := rd_array Tryz.underlying57 h
  have h0 := hf 0 (by omega)
  have h1 := hf 1 (by omega)
  have h2 := hf 2 (by omega)
  rw [Tryz.cellsU] at h0 h1 h2
  obtain ⟨x, ex, bx⟩ := rd_u h0
  obtain ⟨y, ey, bY⟩ := rd_u h1
  obtain ⟨z, ez, bz⟩ := rd_u h2
  exact ⟨x, y, z, ex, ey, ez, bx, bY, bz⟩
set_option maxRecDepth 100000 in
theorem arg_box (hv : Value.okWide Tryz.prog w r b 46 v) (h : Rdg enc Tryz.prog w 46 v.cells.toList) :
    ∃ p0 q0 p1 q1 p2 q2, v = sval p0 q0 p1 q1 p2 q2 ∧ p0 < 18446744073709551616 ∧ q0 < 18446744073709551616 ∧ p1 < 18446744073709551616 ∧ q1 < 18446744073709551616 ∧ p2 < 18446744073709551616 ∧ q2 < 18446744073709551616 := by
  obtain ⟨cs, rfl, _⟩ := okWide_agg Tryz.underlying46 hv
  obtain ⟨hl, hf⟩ := rd_array Tryz.underlying46 h
  rw [Tryz.cellsBox] at hl
  have hcs : (Value.agg cs).cells = cs := rfl
  rw [hcs] at hl hf
  obtain ⟨c0, c1, c2, c3, c4, c5, hc⟩ := six_of hl
  rw [hc] at hf
  have h0 := hf 0 (by omega)
  have h1 := hf 1 (by omega)
  have h2 := hf 2 (by omega)
  rw [Tryz.cellsPair] at h0 h1 h2
  obtain ⟨p0, q0, e0, e1, b0, b1⟩ := rd_pair h0
  obtain ⟨p1, q1, e2, e3, b2, b3⟩ := rd_pair h1
  obtain ⟨p2, q2, e4, e5, b4, b5⟩ := rd_pair h2
  subst e0 e1 e2 e3 e4 e5
  exact ⟨p0, q0, p1, q1, p2, q2, by rw [sval]; congr 1; exact Array.ext' hc, b0, b1, b2, b3, b4, b5⟩
set_option maxRecDepth 100000 in
theorem arg_threes (hv : Value.okWide Tryz.prog w r b 49 v) (h : Rdg enc Tryz.prog w 49 v.cells.toList) :
    ∃ a0 a1 a2 b0 b1 b2 : Nat, v = .agg #[.int .u64 (a0 : Int), .int .u64 (a1 : Int), .int .u64 (a2 : Int), .int .u64 (b0 : Int), .int .u64 (b1 : Int), .int .u64 (b2 : Int)] ∧ a0 < 18446744073709551616 ∧ a1 < 18446744073709551616 ∧ a2 < 18446744073709551616 ∧ b0 < 18446744073709551616 ∧ b1 < 18446744073709551616 ∧ b2 < 18446744073709551616 := by
  obtain ⟨cs, rfl, _⟩ := okWide_agg Tryz.underlying49 hv
  obtain ⟨hl, hf⟩ := rd_array Tryz.underlying49 h
  rw [Tryz.cellsThrees] at hl
  have hcs : (Value.agg cs).cells = cs := rfl
  rw [hcs] at hl hf
  obtain ⟨c0, c1, c2, c3, c4, c5, hc⟩ := six_of hl
  rw [hc] at hf
  have h0 := hf 0 (by omega)
  have h1 := hf 1 (by omega)
  rw [Tryz.cellsThree] at h0 h1
  obtain ⟨a0, a1, a2, e0, e1, e2, i0, i1, i2⟩ := rd_three h0
  obtain ⟨b0, b1, b2, e3, e4, e5, i3, i4, i5⟩ := rd_three h1
  subst e0 e1 e2 e3 e4 e5
  exact ⟨a0, a1, a2, b0, b1, b2, by congr 1; exact Array.ext' hc, i0, i1, i2, i3, i4, i5⟩
set_option maxRecDepth 100000 in
theorem arg_r3 (hv : Value.okWide Tryz.prog w r b 57 v) (h : Rdg enc Tryz.prog w 57 v.cells.toList) :
    ∃ x y z : Nat, v = .agg #[.int .u64 (x : Int), .int .u64 (y : Int), .int .u64 (z : Int)] ∧ x < 18446744073709551616 ∧ y < 18446744073709551616 ∧ z < 18446744073709551616 := by
  obtain ⟨cs, rfl, _⟩ := okWide_agg Tryz.underlying57 hv
  have hcs : (Value.agg cs).cells = cs := rfl
  obtain ⟨hl, _⟩ := rd_array Tryz.underlying57 h
  rw [Tryz.cells3] at hl
  rw [hcs] at hl h
  obtain ⟨c0, c1, c2, hc⟩ := three_of hl
  rw [hc] at h
  obtain ⟨x, y, z, e0, e1, e2, i0, i1, i2⟩ := rd_3 h
  subst e0 e1 e2
  exact ⟨x, y, z, by congr 1; exact Array.ext' hc, i0, i1, i2⟩
set_option maxRecDepth 100000 in
theorem arg_made (hv : Value.okWide Tryz.prog w r b 59 v) (h : Rdg enc Tryz.prog w 59 v.cells.toList) :
    ∃ (l : List UInt8) (x y r0 r1 r2 d0 d1 d2 : Nat), v = .agg #[.string (str l), .int .u64 (x : Int), .int .u64 (y : Int), .int .u64 (r0 : Int), .int .u64 (r1 : Int), .int .u64 (r2 : Int), .int .u64 (d0 : Int), .int .u64 (d1 : Int), .int .u64 (d2 : Int)] ∧ l.length ≤ 140737488351232 ∧
      x < 18446744073709551616 ∧ y < 18446744073709551616 ∧ r0 < 18446744073709551616 ∧ r1 < 18446744073709551616 ∧ r2 < 18446744073709551616 ∧ d0 < 18446744073709551616 ∧ d1 < 18446744073709551616 ∧ d2 < 18446744073709551616 := by
  obtain ⟨cs, rfl⟩ := okWide_struct Tryz.underlying59 hv
  obtain ⟨hl, hf⟩ := rd_struct Tryz.underlying59 h
  rw [Tryz.cellsMade] at hl
  have hcs : (Value.agg cs).cells = cs := rfl
  rw [hcs] at hl hf
  obtain ⟨c0, c1, c2, c3, c4, c5, c6, c7, c8, hc⟩ := nine_of hl
  rw [hc] at hf
  have h0 : Rdg enc Tryz.prog w 9 (([c0, c1, c2, c3, c4, c5, c6, c7, c8].drop 0).take (Tryz.prog.cellsOf 9)) := hf 0 _ rfl
  have h1 : Rdg enc Tryz.prog w 22 (([c0, c1, c2, c3, c4, c5, c6, c7, c8].drop 1).take (Tryz.prog.cellsOf 22)) := hf 1 _ rfl
  have h2 : Rdg enc Tryz.prog w 22 (([c0, c1, c2, c3, c4, c5, c6, c7, c8].drop 2).take (Tryz.prog.cellsOf 22)) := hf 2 _ rfl
  have h3 : Rdg enc Tryz.prog w 57 (([c0, c1, c2, c3, c4, c5, c6, c7, c8].drop 3).take (Tryz.prog.cellsOf 57)) := hf 3 _ rfl
  have h4 : Rdg enc Tryz.prog w 57 (([c0, c1, c2, c3, c4, c5, c6, c7, c8].drop 6).take (Tryz.prog.cellsOf 57)) := hf 4 _ rfl
  rw [Tryz.cellsS] at h0
  rw [Tryz.cellsU] at h1 h2
  rw [Tryz.cells3] at h3 h4
  obtain ⟨l, e0, hll⟩ := cell_string Tryz.underlying9 h0
  obtain ⟨x, e1, bx⟩ := rd_u h1
  obtain ⟨y, e2, bY⟩ := rd_u h2
  obtain ⟨r0, r1, r2, e3, e4, e5, i0, i1, i2⟩ := rd_3 h3
  obtain ⟨d0, d1, d2, e6, e7, e8, i3, i4, i5⟩ := rd_3 h4
  subst e0 e1 e2 e3 e4 e5 e6 e7 e8
  exact ⟨l, x, y, r0, r1, r2, d0, d1, d2, by congr 1; exact Array.ext' hc, hll, bx, bY, i0, i1, i2, i3, i4, i5⟩
end
end Go.Proofs.YtinlciofhegciaaGreat
