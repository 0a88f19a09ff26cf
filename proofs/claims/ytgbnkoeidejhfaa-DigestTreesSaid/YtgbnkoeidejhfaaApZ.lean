/- append to a slice of length and capacity nought at some address; texts in a row. -/
import Derived.Test.YtgbnkoeidejhfaaAp
import Derived.Test.YtgbnkoeidejhfaaStrs
namespace Go.Proofs.Ytgbnkoeidejhfaa
open Go.RowKit

theorem run_append_zero {P : Program} (w : World) (B : Nat) (t ty e : TypeId) (ht : P.underlying t = some (.slice e))
    (i : TypeInfo) (z : Value) (sz bytes : Nat) (hi : P.info? e = some i) (hz : i.zero = some z) (hsz : i.size = sz) (hby : i.bytes = bytes) (hzs : z.cells.size = sz) (_hpos : 0 < sz)
    (b : Addr) (x : Value) (m : Nat) (news : List Value) (hnl : news.length = m * sz) (hm : 0 < m) (hlen : ∀ w : World, (Builtin.lenOf x).run P w = .ok m w)
    (hf' : (Builtin.firstCells sz m x).run P w.drew = .ok news.toArray w.drew)
    (h63 : m ≤ maxLen) (hbytes : m * bytes ≤ 140737488355328) (hB : B ≤ w.heap.size) :
    ∃ v' w', (Builtin.append_ #[t, t] ty #[.slice (some b) 0 0, x]).run P w = .ok v' w' ∧ Row w' B e sz v' m news ∧ w.grownBy w' none := by
  subst hsz
  subst hby
  have hge := grownCap_ge w m 0 e
  have hcm : grownCap w m 0 e ≤ maxLen := grownCap_le_maxLen w m 0 e h63
  have hrow : Row (w.drew.alloc (.cells (news.toArray ++ Builtin.zeroCells z.cells (grownCap w m 0 e - m)) e)) B e i.size (.slice (some ⟨w.heap.size, 0, none⟩) m (grownCap w m 0 e)) m news := by
    refine ⟨hnl, .inr ⟨w.heap.size, _, _, (0, 0), rfl, hB, heap_alloc_new w.drew _, fun o _ => by simp, hge, hcm, ?_, ?_⟩⟩
    · simp only [Array.size_append, List.size_toArray, size_zeroCells, hzs, hnl, ← Nat.add_mul]
      congr 1
      omega
    · simp only [Array.toList_append]
      rw [← hnl]
      exact List.take_left
  have hgr : w.grownBy (w.drew.alloc (.cells (news.toArray ++ Builtin.zeroCells z.cells (grownCap w m 0 e - m)) e)) none :=
    ⟨rfl, rfl, rfl, by simp, fun k hk _ => Below.heap_alloc w.drew _ k hk⟩
  have hfo := run_firstCells_some (P := P) w.drew i.size 0 b 0 0 [] (by simp) (fun j u hj => by simp at hj)
  have hn0 : ¬ (0 + m ≤ 0) := by omega
  have hm0 : ¬ m = 0 := by omega
  have h63' : ¬ (9223372036854775807 < (m : Int)) := by simp only [maxLen] at h63; omega
  have h48 := growslice_fits (need := 0 + m) (old := 0) (by omega) (by simpa using hbytes)
  have h48' : ¬ (281474976710656 < Builtin.nextslicecap m 0 * i.bytes) := by simp only [Nat.zero_add] at h48; omega
  refine ⟨_, _, ?_, hrow, hgr⟩
  simp [Builtin.append_, run_underlying ht, sizeOf, typeInfo, zeroValue, hi, hz, hlen, hm0, h63', h48', Question.forced, hf', hfo, newRow, grownCap]
section
variable {P : Program} {ops : Array Oper} {rest : List Oper} {o : Oper} {a : Act} {Q : Exit → Act → World → Prop}
/-- A row that the call owns, or nothing yet at whatever address. -/
def RowZ (w : World) (B : Nat) (e : TypeId) (v : Value) (xs : List Value) : Prop := (xs = [] ∧ ∃ X, v = .slice (some X) 0 0) ∨ Row w B e 1 v xs.length xs
theorem RowZ.kept {w w1 : World} {B : Nat} {e : TypeId} {v : Value} {xs : List Value} (h : RowZ w B e v xs) (hb : Below w.heap.size w w1) : RowZ w1 B e v xs := h.imp id (·.below hb)
theorem RowZ.row {w : World} {B : Nat} {e : TypeId} {v : Value} {xs : List Value} (h : RowZ w B e v xs) (hn : 0 < xs.length) : Row w B e 1 v xs.length xs := by
  rcases h with ⟨rfl, _⟩ | h
  · simp at hn
  · exact h
/-- append(v, y) where y's own block was laid just now. -/
theorem ap_oneZ {W : World} {B : Nat} {t e : TypeId} {z : Value} {bytes : Nat} (ht : P.underlying t = some (.slice e)) (hinfo : (P.info? e).map (fun i => (i.zero, i.size, i.bytes)) = some (some z, 1, bytes)) (hz : z.cells.size = 1)
    {v y : Value} {xs : List Value} (HO : RowZ W B e v xs) (h1 : y.oneCell' = true) (hb0 : 0 < bytes) (hl : (xs.length + 1) * bytes ≤ 140737488355328) (hB : B ≤ W.heap.size)
    (hgd : o.guard = none) (s x : Operand) (ho : o.op = .call { callee := .builtin .append, args := #[s, x], argTypes := #[t, t] }) (hs : a.eval s = v) (hx : a.eval x = .slice (some ⟨W.heap.size, 0, none⟩) 1 1)
    (h : ∀ v1 w1, Row w1 B e 1 v1 (xs ++ [y]).length (xs ++ [y]) → Below B W w1 → wpList P ops Q rest (a.put o.dst v1) w1) :
    wpList P ops Q (o :: rest) a (W.alloc (.cells #[y] e)) := by
  rcases HO with ⟨rfl, X, rfl⟩ | HO
  · obtain ⟨i, hi, hz3⟩ := Option.map_eq_some_iff.1 hinfo
    simp only [Prod.mk.injEq] at hz3
    obtain ⟨hz0, hz1, hz2⟩ := hz3
    have hcell := cell_one_new W y e
    have hb1 : bytes ≤ 140737488355328 := by simpa using hl
    obtain ⟨v', w', hr, hrow, hg⟩ := run_append_zero (P := P) (W.alloc (.cells #[y] e)) B t o.type e ht i z 1 bytes hi hz0 hz1 hz2 hz (by omega) X (.slice (some ⟨W.heap.size, 0, none⟩) 1 1) 1 [y] rfl (by omega)
      (fun w => by simp [Builtin.lenOf]) (run_firstCells_some (P := P) _ 1 1 _ 1 1 [y] rfl (fun j u hj => hcell j u hj)) (by simp [maxLen]) (by omega) (by simp; omega)
    refine wpList_plain hgd fun K hK => ?_
    unfold Oper.wp execOp
    simp only [ho, resolve, invoke, builtin, Sem.run_bind, Sem.run_pure, Result.andThen_ok, List.map_toArray, List.map_cons, List.map_nil, hs, hx, hr]
    refine hK _ _ (h v' w' (by simpa using hrow) ?_)
    exact ⟨hg.os, hg.tape, hg.output, by have := hg.size; simp at this; omega, fun k hk => by
      rw [hg.block k (by simp; omega) (by simp)]; exact Below.heap_alloc W _ k (by omega)⟩
  · refine ap_one ht hinfo hz HO h1 hb0 hl hB hgd s x ho hs hx ?_
    intro v1 w1 hr hg
    refine h v1 w1 hr ⟨hg.os, hg.tape, hg.output, by have := hg.size; omega, fun k hk => hg.block k (by omega) ?_⟩
    intro hk2
    have := HO.block k hk2.symm
    omega
end
theorem Strs.drop {w : World} {A : Option Addr} {cap : Nat} {l : List (List UInt8)} (h : Strs w A cap l) (d : Nat) (hd : d ≤ l.length) : Strs w (if cap = d then A else A.map (·.add d)) (cap - d) (l.drop d) := by
  have hl := h.len
  refine ⟨by simp; omega, fun i x hx => ?_⟩
  rw [List.getElem?_drop] at hx
  have hi := (List.getElem?_eq_some_iff.1 hx).1
  obtain ⟨a, ha, hc⟩ := h.cells (d + i) x hx
  rw [if_neg (by omega), ha]
  exact ⟨_, rfl, by rw [addr_add]; exact hc⟩
/-- A text as a value. -/
def tv (x : List UInt8) : Value := .string (str x)
theorem Row.strs {w : World} {B : Nat} {e : TypeId} {v : Value} {l : List (List UInt8)} (h : Row w B e 1 v l.length (l.map tv)) (hn : 0 < l.length) :
    ∃ g cap, v = .slice (some ⟨g, 0, none⟩) l.length cap ∧ B ≤ g ∧ g < w.heap.size ∧ Strs w (some ⟨g, 0, none⟩) cap l := by
  obtain ⟨g, cap, rfl, hb, hg, hc, hcells⟩ := h.form hn
  refine ⟨g, cap, rfl, hb, hg, hc, fun i x hx => ⟨_, rfl, ?_⟩⟩
  have := (hcells i (tv x) (by rw [List.getElem?_map, hx]; rfl)).1
  have ha : (⟨g, 0, none⟩ : Addr).add i = ⟨g, i, none⟩ := by unfold Addr.add; split <;> simp_all
  rw [ha]; exact this
/-- append(v, y) as a step of a region. -/
theorem step_oneZ {P : Program} {ops : Array Oper} {o : Oper} {a : Act} {K : Act → World → Prop} {Q : Exit → Act → World → Prop} {E : Prop} {W : World} {B : Nat} {t e : TypeId} {z : Value} {bytes : Nat} (ht : P.underlying t = some (.slice e)) (hinfo : (P.info? e).map (fun i => (i.zero, i.size, i.bytes)) = some (some z, 1, bytes)) (hz : z.cells.size = 1)
    {v y : Value} {xs : List Value} (HO : RowZ W B e v xs) {ad : Addr} (hc : W.cell? ad = some y) (h1 : y.oneCell' = true) (hb0 : 0 < bytes) (hl : (xs.length + 1) * bytes ≤ 140737488355328) (hB : B ≤ W.heap.size)
    (hgd : o.guard = none) (s x : Operand) (ho : o.op = .call { callee := .builtin .append, args := #[s, x], argTypes := #[t, t] }) (hs : a.eval s = v) (hx : a.eval x = .slice (some ad) 1 1)
    (h : ∀ v1 w1, Row w1 B e 1 v1 (xs ++ [y]).length (xs ++ [y]) → Below B W w1 → K (a.put o.dst v1) w1) :
    if Region.wanted o (yielded ops a.tmps) = true then Oper.wp P o a W K Q else E := by
  rw [if_pos (by simp [Region.wanted, hgd])]
  obtain ⟨i, hi, hz3⟩ := Option.map_eq_some_iff.1 hinfo
  simp only [Prod.mk.injEq] at hz3
  obtain ⟨hz0, hz1, hz2⟩ := hz3
  have hcell : ∀ j u, [y][j]? = some u → W.cell? (ad.add j) = some u := by
    intro j u hj
    cases j with
    | zero =>
      simp only [List.getElem?_cons_zero, Option.some.injEq] at hj
      subst hj; exact hc
    | succ j => simp at hj
  have hfc := run_firstCells_some (P := P) W 1 1 ad 1 1 [y] rfl hcell
  have hfd := run_firstCells_some (P := P) W.drew 1 1 ad 1 1 [y] rfl hcell
  have hl1 : xs.length + 1 ≤ 140737488355328 := Nat.le_trans (Nat.le_mul_of_pos_right _ hb0) hl
  have hb1 : bytes ≤ 140737488355328 := Nat.le_trans (Nat.le_mul_of_pos_left _ (by omega)) hl
  rcases HO with ⟨rfl, X, rfl⟩ | HO
  · obtain ⟨v', w', hr, hrow, hg⟩ := run_append_zero (P := P) W B t o.type e ht i z 1 bytes hi hz0 hz1 hz2 hz (by omega) X (.slice (some ad) 1 1) 1 [y] rfl (by omega)
      (fun w => by simp [Builtin.lenOf]) hfd (by simp [maxLen]) (by omega) hB
    unfold Oper.wp execOp
    simp only [ho, resolve, invoke, builtin, Sem.run_bind, Sem.run_pure, Result.andThen_ok, List.map_toArray, List.map_cons, List.map_nil, hs, hx, hr]
    exact h v' w' (by simpa using hrow) ⟨hg.os, hg.tape, hg.output, hg.size, fun k hk => hg.block k (by omega) (by simp)⟩
  · obtain ⟨v', w', hr, hrow, hg⟩ := run_append_row (P := P) W B t t o.type e (.slice e) ht ht rfl i z 1 bytes hi hz0 hz1 hz2 hz (by omega) v xs.length xs HO (.slice (some ad) 1 1) 1 [y]
      rfl (fun w => by simp [Builtin.lenOf]) hfc hfd (by simpa using h1) (by simp only [maxLen]; omega) hl hB
    unfold Oper.wp execOp
    simp only [ho, resolve, invoke, builtin, Sem.run_bind, Sem.run_pure, Result.andThen_ok, List.map_toArray, List.map_cons, List.map_nil, hs, hx, hr]
    refine h v' w' (by simpa using hrow) ⟨hg.os, hg.tape, hg.output, hg.size, fun k hk => hg.block k (by omega) ?_⟩
    intro hk2
    have := HO.block k hk2.symm
    omega
end Go.Proofs.Ytgbnkoeidejhfaa
