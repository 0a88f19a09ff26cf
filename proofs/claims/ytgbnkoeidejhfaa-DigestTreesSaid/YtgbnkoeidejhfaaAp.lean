/- append(v, y...) of a slice's elements to a row that the call owns; a builder that is written while other blocks stand. -/
import Derived.Test.YtgbnkoeidejhfaaOwn
import Derived.Test.YtgbnkoeidejhfaaBld
import Derived.Shelf.Strings.BuilderK
namespace Go.Proofs.Ytgbnkoeidejhfaa
open Go.RowKit
section
variable {P : Program} {ops : Array Oper} {rest : List Oper} {o : Oper} {a : Act} {Q : Exit → Act → World → Prop}
theorem ap_slice {W : World} {B : Nat} {t e : TypeId} {z : Value} {sz bytes : Nat} (ht : P.underlying t = some (.slice e)) (hinfo : (P.info? e).map (fun i => (i.zero, i.size, i.bytes)) = some (some z, sz, bytes)) (hz : z.cells.size = sz) (hpos : 0 < sz)
    {v : Value} {n : Nat} {xs : List Value} (HO : Row W B e sz v n xs) {A : Option Addr} {m cap : Nat} {news : List Value} (hnl : news.length = m * sz) (hcells : ∀ j u, news[j]? = some u → ∃ b, A = some b ∧ W.cell? (b.add j) = some u)
    (h1 : ∀ u ∈ news, u.oneCell' = true) (hm : n + m ≤ maxLen) (hl : (n + m) * bytes ≤ 140737488355328) (hB : B ≤ W.heap.size)
    (hgd : o.guard = none) (s x : Operand) (ho : o.op = .call { callee := .builtin .append, args := #[s, x], argTypes := #[t, t] }) (hs : a.eval s = v) (hx : a.eval x = .slice A m cap)
    (h : ∀ v1 w1, Row w1 B e sz v1 (n + m) (xs ++ news) → W.grownBy w1 v.ownBlock → wpList P ops Q rest (a.put o.dst v1) w1) :
    wpList P ops Q (o :: rest) a W := by
  obtain ⟨i, hi, hz3⟩ := Option.map_eq_some_iff.1 hinfo
  simp only [Prod.mk.injEq] at hz3
  obtain ⟨hz0, hz1, hz2⟩ := hz3
  have hfirst : ∀ w' : World, w'.heap = W.heap → (Builtin.firstCells sz m (.slice A m cap)).run P w' = .ok news.toArray w' := by
    intro w' hw
    cases A with
    | none =>
      have hn : news = [] := by
        cases news with
        | nil => rfl
        | cons u r => obtain ⟨b, hb, _⟩ := hcells 0 u rfl; cases hb
      subst hn
      exact run_firstCells_none (P := P) w' sz m m cap
    | some b =>
      refine run_firstCells_some (P := P) w' sz m b m cap news hnl fun j u hj => ?_
      obtain ⟨b', hb, hc⟩ := hcells j u hj
      injection hb with hb
      subst hb
      rw [World.cell?, hw]
      exact hc
  obtain ⟨v', w', hr, hrow, hg⟩ := run_append_row (P := P) W B t t o.type e (.slice e) ht ht rfl i z sz bytes hi hz0 hz1 hz2 hz hpos v n xs HO (.slice A m cap) m news hnl
    (fun w => by simp [Builtin.lenOf]) (hfirst W rfl) (hfirst W.drew rfl) h1 hm hl hB
  refine wpList_plain hgd fun K hK => ?_
  unfold Oper.wp execOp
  simp only [ho, resolve, invoke, builtin, Sem.run_bind, Sem.run_pure, Result.andThen_ok, List.map_toArray, List.map_cons, List.map_nil, hs, hx, hr]
  exact hK _ _ (h v' w' hrow hg)
end
/-- A row's block, as it stands. -/
theorem Row.obj {w : World} {B : Nat} {e : TypeId} {sz n : Nat} {v : Value} {xs : List Value} (h : Row w B e sz v n xs) (hn : 0 < n) :
    ∃ g cap cur fz, v = .slice (some ⟨g, 0, none⟩) n cap ∧ B ≤ g ∧ n ≤ cap ∧ w.heap[g]? = some (.cells cur e fz) ∧ (∀ (j : Nat) (u : Value), xs[j]? = some u → cur[j]? = some u) := by
  rcases h.2 with ⟨_, h0⟩ | ⟨g, cap, cur, fz, rfl, hb, hg, hl, hnc, _, hcs, ht⟩
  · omega
  · refine ⟨g, cap, cur, fz, rfl, hb, hnc, hg, fun j u hu => ?_⟩
    rw [← ht, List.getElem?_take] at hu
    split at hu
    · simpa using hu
    · cases hu
theorem obj_cell {w : World} {g : Nat} {cur : Array Value} {e : TypeId} {fz : Nat × Nat} (h : w.heap[g]? = some (.cells cur e fz)) (j : Nat) : w.cell? ⟨g, j, none⟩ = cur[j]? := by
  simp [World.cell?, h]
theorem Bld.fresh {w : World} {b : Nat} (h : w.heap[b]? = some (.cells #[.pointer none, .slice none 0 0] 71 (0, 0))) : Bld w b [] :=
  .inl ⟨Nat.le_refl _, .slice none 0 0, h, World.ownsRowF_nil _ _ _ _, by simp [Value.ownBlock]⟩
theorem Bld.writeK (b : Nat) (l m : List UInt8) (w : World) (h : Bld w b l) (hl : l.length + m.length ≤ 140737488355328) :
    Calls Try.prog 33 #[.pointer (some ⟨b, 0, none⟩), .string (str m)] w fun e w' => e = .returned (.tuple #[.int .i64 (m.length : Int), .nilIface]) ∧ Bld w' b (l ++ m) ∧ Below b w w' ∧ Lib.OthersKept 5 (some b) w w' := by
  refine (Any.Builder_WriteString_k Try.bl166 Try.bl_Extra b b _ (str m) w h (by rw [str_size]; simpa [Lib.byteCells] using hl) (Nat.le_of_lt h.lt)).mono ?_
  rintro e w' ⟨rfl, h1, h2, h3⟩
  refine ⟨by rw [str_size], .inr ?_, h2, h3⟩
  have : Lib.byteCells (l ++ m) = Lib.byteCells l ++ Lib.strCells (str m) := by simp [Lib.byteCells, Lib.strCells, str]
  rw [this]; exact h1
end Go.Proofs.Ytgbnkoeidejhfaa
