/- What an argument's reading says of its cells: numbers, texts, arrays, structs, slices, each a lemma; the arguments read behind a call that only grows memory as they did. -/
import Derived.ProofKit
import Derived.OpenShut
import Derived.ChangeOld
import Derived.Below
import Derived.Carry
import Derived.SizedLaws
namespace Go.Proofs.Ytgbnkoeidejhfaa
open Go.ChangeShapes Go.WideShapes Go.ChangeAt Go.RowKit
section
variable {H : Type} {enc : TypeId × Value → H} {P : Program} {w : World}

/-- These cells read as data of the type, and no part of it is too large. -/
def Rdg (enc : TypeId × Value → H) (P : Program) (w : World) (t : TypeId) (cs : List Value) : Prop :=
  ∃ n x, DataW.trod enc P w 0 (fun _ => true) true n t cs = some x ∧ (x.1.weights P t).all (· ≤ reachBytes) = true

theorem all_sub {l m : List Nat} (h : m.all (· ≤ reachBytes) = true) (hs : ∀ x ∈ l, x ∈ m) : l.all (· ≤ reachBytes) = true :=
  List.all_eq_true.2 fun x hx => List.all_eq_true.1 h x (hs x hx)
theorem weightsAll_mem {e : TypeId} : ∀ {ds : List (DataW H)} {i : Nat} {d : DataW H}, ds[i]? = some d → ∀ x ∈ d.weights P e, x ∈ DataW.weightsAll P e ds
  | d0 :: ds, 0, d, h, x, hx => by
    simp only [List.getElem?_cons_zero, Option.some.injEq] at h
    subst h
    simp only [DataW.weightsAll, List.mem_append]
    exact .inl hx
  | d0 :: ds, i + 1, d, h, x, hx => by
    simp only [List.getElem?_cons_succ] at h
    simp only [DataW.weightsAll, List.mem_append]
    exact .inr (weightsAll_mem h x hx)
  | [], _, _, h, _, _ => by simp at h

theorem rd_of {t : TypeId} {v : Value} {d : DataW H} {p : List MemPlace} {ts : List TypeId} {ds : List (DataW H)} (h : DataW.Trod enc P w 0 (fun _ => true) true t v d p)
    (hz : (DataW.weightsEach P ts ds).all (· ≤ reachBytes) = true) (j : Nat) (ht : ts[j]? = some t) (hd : ds[j]? = some d) : Rdg enc P w t v.cells.toList := by
  obtain ⟨n, hn⟩ := h
  exact ⟨n, _, hn, all_sub hz fun x hx => DataW.weights_mem_each ht hd x hx⟩
theorem rd_string {t : TypeId} {cs : List Value} (hu : P.underlying t = some .string) (h : Rdg enc P w t cs) : ∃ s : ByteArray, cs = [.string s] ∧ s.size ≤ reachBytes := by
  obtain ⟨n, x, hx, hz⟩ := h
  obtain ⟨s, hc, rfl, _⟩ := DataW.trod_string hu hx
  refine ⟨s, hc, ?_⟩
  simpa [DataW.weights] using hz
theorem rd_int {t : TypeId} {k : IntKind} {cs : List Value} (hu : P.underlying t = some (.int k)) (h : Rdg enc P w t cs) : ∃ n : Int, cs = [.int k n] ∧ (Lit.int k n).wf = true := by
  obtain ⟨n, x, hx, _⟩ := h
  obtain ⟨m, hc, _, hw⟩ := DataW.trod_int hu hx
  exact ⟨m, hc, hw⟩
theorem rd_bool {t : TypeId} {cs : List Value} (hu : P.underlying t = some .bool) (h : Rdg enc P w t cs) : ∃ b, cs = [.bool b] := by
  obtain ⟨n, x, hx, _⟩ := h
  obtain ⟨m, hc, _⟩ := DataW.trod_bool hu hx
  exact ⟨m, hc⟩
theorem rd_array {t e : TypeId} {n : Nat} {cs : List Value} (hu : P.underlying t = some (.array n e)) (h : Rdg enc P w t cs) :
    cs.length = P.cellsOf t ∧ ∀ i, i < n → Rdg enc P w e ((cs.drop (i * P.cellsOf e)).take (P.cellsOf e)) := by
  obtain ⟨m, x, hx, hz⟩ := h
  obtain ⟨xs, m', rfl, rfl, hl, hn, hall⟩ := DataW.trod_array hu hx
  refine ⟨hl, fun i hi => ?_⟩
  have hxi : xs[i]? = some xs[i] := List.getElem?_eq_getElem (by omega)
  refine ⟨m', xs[i], by rw [hall i hi, hxi], all_sub hz fun y hy => ?_⟩
  simp only [DataW.weights, hu]
  exact weightsAll_mem (i := i) (d := xs[i].1) (by rw [List.getElem?_map, hxi]; rfl) y hy
theorem rd_struct {t : TypeId} {fs : Array Field} {cs : List Value} (hu : P.underlying t = some (.struct fs)) (h : Rdg enc P w t cs) :
    cs.length = P.cellsOf t ∧ ∀ (i : Nat) (f : Field), fs[i]? = some f → Rdg enc P w f.type ((cs.drop f.offset).take (P.cellsOf f.type)) := by
  obtain ⟨m, x, hx, hz⟩ := h
  obtain ⟨xs, m', rfl, rfl, hl, hn, hall⟩ := DataW.trod_struct hu hx
  refine ⟨hl, fun i f hf => ?_⟩
  have hi : i < xs.length := by rw [hn]; exact (Array.getElem?_eq_some_iff.1 hf).1
  have hxi : xs[i]? = some xs[i] := List.getElem?_eq_getElem hi
  refine ⟨m', xs[i], by rw [hall i f hf, hxi], all_sub hz fun y hy => ?_⟩
  simp only [DataW.weights, hu]
  exact DataW.weights_mem_each (j := i) (t := f.type) (d := xs[i].1) (by rw [List.getElem?_map, Array.getElem?_toList, hf]; rfl) (by rw [List.getElem?_map, hxi]; rfl) y hy
theorem rd_slice {t e : TypeId} {cs : List Value} (hu : P.underlying t = some (.slice e)) (h : Rdg enc P w t cs) :
    cs = [.slice none 0 0] ∨ ∃ (a : Addr) (len cap : Nat), cs = [.slice (some a) len cap] ∧ len ≤ cap ∧ cap * P.bytesOf e ≤ reachBytes ∧ cap ≤ maxLen ∧
      ∀ i, i < len → ∃ cells, w.cells? 0 (a.add (i * P.cellsOf e)) (P.cellsOf e) = some cells ∧ Rdg enc P w e cells := by
  obtain ⟨m, x, hx, hz⟩ := h
  rcases DataW.trod_slice hu hx with ⟨h0, _⟩ | ⟨a, len, cap, elems, rest, m', rfl, hc, rfl, _, hl, hm, hel, hi, hs, _⟩
  · exact .inl h0
  · refine .inr ⟨a, len, cap, hc, hl, ?_, hm, fun i h => ?_⟩
    · have hr := (hs rfl).1
      have := List.all_eq_true.1 hz ((elems.length + rest.length) * P.bytesOf e) (by simp [DataW.weights, hu])
      rw [hel, hr, Nat.add_sub_cancel' hl] at this
      simpa using this
    · have hei : elems[i]? = some elems[i] := List.getElem?_eq_getElem (by omega)
      have h1 := hi i h
      rw [hei, Option.bind_eq_some_iff] at h1
      obtain ⟨cells, hcc, ht⟩ := h1
      refine ⟨cells, hcc, m', elems[i], ht, all_sub hz fun y hy => ?_⟩
      simp only [DataW.weights, hu, List.mem_cons, List.mem_append]
      exact .inr (.inl (weightsAll_mem (i := i) (d := elems[i].1) (by rw [List.getElem?_map, hei]; rfl) y hy))
theorem cells_one {a : Addr} {cs : List Value} (h : w.cells? 0 a 1 = some cs) : ∃ v, cs = [v] ∧ w.cell? a = some v := by
  unfold World.cells? at h
  rw [if_pos (Nat.zero_le _)] at h
  have hr : List.range 1 = [0] := rfl
  rw [hr] at h
  cases hc : w.cell? (a.add 0) with
  | none => simp [hc] at h
  | some v =>
    simp [hc] at h
    exact ⟨v, h.symm, hc⟩

theorem cells_get {a : Addr} {n : Nat} {cs : List Value} (h : w.cells? 0 a n = some cs) : cs.length = n ∧ ∀ i v, cs[i]? = some v → w.cell? (a.add i) = some v := by
  unfold World.cells? at h
  rw [if_pos (Nat.zero_le _)] at h
  have hl := mapM_some_length h
  refine ⟨by simpa using hl, fun i v hi => ?_⟩
  have hlt : i < n := by have := (List.getElem?_eq_some_iff.1 hi).1; simp at hl; omega
  have := mapM_some_get h i i (by simp [hlt])
  rw [this, hi]

theorem trodAll_below (hl : laidOutB P = true) : ∀ {ts : List TypeId} {vs : List Value} {ds : List (DataW H)} {ps : List MemPlace} {W W' : World},
    (ts.all fun t => P.readableRec t && decide (t < P.types.size)) = true → DataW.TrodAll enc P W 0 (fun _ => true) true ts vs ds ps → Below W.heap.size W W' → (∀ x ∈ ps, x.block < W.heap.size) →
    DataW.TrodAll enc P W' 0 (fun b => decide (b < W.heap.size)) true ts vs ds ps
  | [], [], [], _, _, _, _, h, _, _ => h
  | t :: ts, v :: vs, d :: ds, ps, W, W', hr, ⟨p, q, h1, h2, e⟩, hb, hlt => by
    simp only [List.all_cons, Bool.and_eq_true, decide_eq_true_eq] at hr
    exact ⟨p, q, Below.trod hl hr.1.1 hr.1.2 h1 hb (fun x hx => hlt x (by rw [e]; exact List.mem_append_left _ hx)), trodAll_below hl (by simpa using hr.2) h2 hb (fun x hx => hlt x (by rw [e]; exact List.mem_append_right _ hx)), e⟩
end
theorem okWide_agg {P : Program} {w : World} {r : Reach} {b : Nat} {t e : TypeId} {n : Nat} {v : Value} (ht : P.underlying t = some (.array n e)) (h : Value.okWide P w r b t v) : ∃ cs, v = .agg cs ∧ cs.size = P.cellsOf t := by
  simp only [Value.okWide, ht] at h
  obtain ⟨cs, h1, h2, _⟩ := h
  exact ⟨cs, h1, h2⟩
section
variable {H : Type} {enc : TypeId × Value → H} {P : Program} {w : World}
theorem rd_array2 {t e : TypeId} {cs : List Value} (hu : P.underlying t = some (.array 2 e)) (hc : P.cellsOf t = 2) (he : P.cellsOf e = 1) (h : Rdg enc P w t cs) : ∃ c0 c1, cs = [c0, c1] ∧ Rdg enc P w e [c0] ∧ Rdg enc P w e [c1] := by
  obtain ⟨hl, hall⟩ := rd_array hu h
  rw [hc] at hl
  match cs, hl with
  | [c0, c1], _ =>
    refine ⟨c0, c1, rfl, ?_, ?_⟩
    · have := hall 0 (by omega); rw [he] at this; exact this
    · have := hall 1 (by omega); rw [he] at this; exact this
theorem rd_array3 {t e : TypeId} {cs : List Value} (hu : P.underlying t = some (.array 3 e)) (hc : P.cellsOf t = 3) (he : P.cellsOf e = 1) (h : Rdg enc P w t cs) : ∃ c0 c1 c2, cs = [c0, c1, c2] ∧ Rdg enc P w e [c0] ∧ Rdg enc P w e [c1] ∧ Rdg enc P w e [c2] := by
  obtain ⟨hl, hall⟩ := rd_array hu h
  rw [hc] at hl
  match cs, hl with
  | [c0, c1, c2], _ =>
    refine ⟨c0, c1, c2, rfl, ?_, ?_, ?_⟩
    · have := hall 0 (by omega); rw [he] at this; exact this
    · have := hall 1 (by omega); rw [he] at this; exact this
    · have := hall 2 (by omega); rw [he] at this; exact this
end
end Go.Proofs.Ytgbnkoeidejhfaa
