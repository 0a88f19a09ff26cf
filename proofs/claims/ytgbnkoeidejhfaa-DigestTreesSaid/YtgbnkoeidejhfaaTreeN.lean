import Derived.Test.YtgbnkoeidejhfaaTreeM
import Derived.Test.YtgbnkoeidejhfaaAp
namespace Go.Proofs.Ytgbnkoeidejhfaa
open Go.RowKit

theorem below_of_grown_ge {B : Nat} {wo w2 w3 : World} {row : Option Nat} (h : Below B wo w2) (hg : w2.grownBy w3 row) (hr : ∀ k, row = some k → B ≤ k) (hB : B ≤ wo.heap.size := by omega) : Below B wo w3 :=
  ⟨hg.os.trans h.os, hg.tape.trans h.tape, hg.output.trans h.output, Nat.le_trans h.size hg.size, fun k hk => (hg.block k (by have := h.size; omega) (fun he => by have := hr k he.symm; omega)).trans (h.block k hk)⟩
theorem grown_below {w0 w w' : World} {row : Option Nat} (h : w0.grownBy w row) (hb : Below w.heap.size w w') : w0.grownBy w' row := grown_trans h (grownBy_of_below hb row)
theorem up2_parts : ∀ (R : List (List UInt8)) (j m : Nat), m + 2 * j = R.length → m ≤ 1 → (up2 R).take j ++ R.drop (2 * j) = up2 R := by
  intro R j m h hm
  induction j generalizing R with
  | zero =>
    match R, h with
    | [], _ => simp [up2]
    | [a], _ => simp [up2]
    | a :: b :: r, h => simp at h; omega
  | succ j ih =>
    match R, h with
    | [], h => simp at h
    | [a], h => simp at h; omega
    | a :: b :: r, h =>
      simp only [up2, List.take_succ_cons, List.cons_append]
      rw [show 2 * (j + 1) = 2 * j + 1 + 1 by omega, List.drop_succ_cons, List.drop_succ_cons, ih r (by simp at h; omega)]

/-- What the closure has collected: in block pb's cell, outside block g. -/
def PathAt (B : Nat) (o : Option Nat) (w : World) (g : Nat) (ps : List (List UInt8)) : Prop := match o with
  | none => True
  | some pb => pb < B ∧ ∃ v, Blk w pb 30 [v] ∧ Row w B 9 1 v ps.length (ps.map tv) ∧ v.ownBlock ≠ some g
theorem PathAt.below {B : Nat} {o : Option Nat} {w w' : World} {g g' : Nat} {ps : List (List UInt8)} (h : PathAt B o w g ps) (hb : Below w.heap.size w w') (hg : w.heap.size ≤ g') : PathAt B o w' g' ps := by
  cases o with
  | none => trivial
  | some pb =>
    obtain ⟨h1, v, h2, h3, h4⟩ := h
    refine ⟨h1, v, h2.below hb h2.lt, h3.below hb, fun he => ?_⟩
    have := (h3.block g' he).2
    omega
def besideV (o : Option Nat) : Value := match o with
  | none => .func (.func 39) #[] #[]
  | some pb => .func (.func 40) #[] #[.pointer (some ⟨pb, 0, none⟩)]

set_option maxRecDepth 100000 in
theorem root1_any (s : List UInt8) (w : World) : Calls Try.prog 39 #[.string (str s)] w fun e w' => e = .returned (.tuple #[]) ∧ w = w' := by
  go_enter Try.func39, Try.ntmps39
  go_wp2_with fail
  go_end0
  exact ⟨rfl, rfl⟩

set_option maxRecDepth 100000 in
set_option maxHeartbeats 400000 in
theorem path1_any (pb B : Nat) (ps : List (List UInt8)) (v : Value) (w : World) (s : List UInt8) (hpb : pb < B) (hB : B ≤ w.heap.size) (hb : Blk w pb 30 [v]) (hr : Row w B 9 1 v ps.length (ps.map tv)) (hl : ps.length ≤ 1073741824) :
    Calls Try.prog 40 #[.string (str s), .pointer (some ⟨pb, 0, none⟩)] w fun e w' => e = .returned (.tuple #[]) ∧ ∃ v', Blk w' pb 30 [v'] ∧ Row w' B 9 1 v' (ps ++ [s]).length ((ps ++ [s]).map tv) ∧
      (v'.ownBlock = v.ownBlock ∨ v'.ownBlock = some (w.heap.size + 1)) ∧ w'.os = w.os ∧ w'.tape = w.tape ∧ w'.output = w.output ∧ w.heap.size ≤ w'.heap.size ∧ ∀ k, k < w.heap.size → k ≠ pb → some k ≠ v.ownBlock → w'.heap[k]? = w.heap[k]? := by
  have hml : (ps.map tv).length = ps.length := by simp
  have hr2 : Row w B 9 1 v (ps.map tv).length (ps.map tv) := by rw [hml]; exact hr
  have hne : some pb ≠ v.ownBlock := fun he => by have := (hr.block pb he.symm).1; omega
  have c0 : w.cell? ⟨pb, 0, none⟩ = some v := hb.cell 0
  have Hr := Lib.hid hr2
  have Hb := Lib.hid hb
  have Hne := Lib.hid hne
  obtain ⟨X, n0, cp0, hv⟩ : ∃ X n c, v = .slice X n c := by obtain ⟨A, c, hv⟩ := hr.slice; exact ⟨A, _, c, hv⟩
  have Hv := Lib.hid hv
  have hby : ((ps.map tv).length + 1) * 16 ≤ 140737488355328 := by rw [hml]; omega
  clear hr2 hb hr hne hml hv
  go_enter Try.func40, Try.ntmps40
  go_wp2_with (at_builtin; go_must (refine ap_oneW Try.un_strs Try.inf_str rfl Hr.out rfl (by omega) hby hB rfl _ _ rfl rfl rfl ?_; intro v1 w1 hr1 hg1 hw1; have Hb1 := Lib.hid (Hb.out.grown hg1 Hne.out); obtain ⟨X1, cc1, rfl⟩ := hr1.slice; have Hr1 := Lib.hid hr1; have Hg1 := Lib.hid hg1; have Hw1 := Lib.hid hw1; have k1 : w1.cell? ⟨pb, 0, none⟩ = some v := Hb1.out.cell 0; have f1 := Hb1.out.frozen 0; clear hr1 hg1 hw1))
  go_end0
  have hlen : (ps.map tv ++ [Value.string (str s)]).length = ps.length + 1 := by simp
  have hr1 := Hr1.out
  have hw1 := Hw1.out
  rw [hlen] at hr1 hw1
  refine ⟨rfl, _, Hb1.out.set 0 _, ?_, hw1, Hg1.out.os, Hg1.out.tape, Hg1.out.output, ?_, ?_⟩
  · rw [show ps.map tv ++ [Value.string (str s)] = (ps ++ [s]).map tv by simp [tv], show ps.length + 1 = (ps ++ [s]).length by simp] at hr1
    rw [show ps.length + 1 = (ps ++ [s]).length by simp]
    refine hr1.kept (row := some pb) (grown_set w1 pb 0 _) (.inr fun he => ?_)
    have := (hr1.block pb he).1
    omega
  · have := Hg1.out.size
    simpa [World.setCell] using this
  · intro k hk h1 h2
    exact (Below.heap_setCell w1 _ _ k (by simpa using h1)).trans (Hg1.out.block k hk h2)
end Go.Proofs.Ytgbnkoeidejhfaa
