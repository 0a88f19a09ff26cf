/- Joined texts, part 4: contracts of the functions that the laws reach, and what is needed for them. -/
import Derived.Deep.OwnRows
import Derived.Laws.CopyOwn
import Derived.Deep.RegionHeld3
import Derived.Test.YtinlciofhegciaaDoorS3
/- A region by one loose walk in which one append may stand: the row that it writes (block ρ) is the call's own; operation number α is the append. -/
namespace Go.Proofs.YtinlciofhegciaaDoor
open Go.RowKit Go.BigFrame

/-- w's blocks stand in w', but for block ρ. -/
def LatR (ρ : Option Nat) (w w' : World) : Prop := w.grownBy w' ρ
theorem Lat.toR {w w' : World} (h : Lat w w') (ρ : Option Nat) : LatR ρ w w' := grownBy_of_below h ρ
theorem LatR.trans {ρ : Option Nat} {a b c : World} (h : LatR ρ a b) (k : LatR ρ b c) : LatR ρ a c := grown_trans h k
theorem LatR.cell {ρ : Option Nat} {w w' : World} (h : LatR ρ w w') {a : Addr} {v : Value} (hc : w.cell? a = some v) (hne : some a.block ≠ ρ) : w'.cell? a = some v := by
  have hlt := World.block_lt_of_cell? w a hc
  rw [← hc]
  simp only [World.cell?, h.block a.block hlt hne]
/-- A world in which w's blocks stand, but for ρ. -/
structure LaterR (ρ : Option Nat) (w : World) where
  val : World
  lat : LatR ρ w val
instance (ρ : Option Nat) (w : World) : Inhabited (LaterR ρ w) := ⟨⟨w, (Lat.refl w).toR ρ⟩⟩
theorem LaterR.cell {ρ : Option Nat} {w : World} {a : Addr} {v : Value} (h : w.cell? a = some v) (hne : some a.block ≠ ρ) (p : LaterR ρ w) : p.val.cell? a = some v := p.lat.cell h hne

section
variable {P : Program} {ops : Array Oper} {md : Region.Mode} {K : List (Nat × (Value → World → Prop))} {W0 : World} {α : Nat} {ρ : Option Nat}

def stepA (α : Nat) (ρ : Option Nat) (i : Nat) (w w' : World) : Prop := if i = α then LatR ρ w w' else Lat w w'
def inA (α : Nat) (ρ : Option Nat) (W0 : World) (i : Nat) (w : World) : Prop := if i = α then Lat W0 w else LatR ρ W0 w
def clsA (α : Nat) (ρ : Option Nat) (W0 : World) (listed : Array Bool) (w : World) : Prop := LatR ρ W0 w ∧ (listed.getD α true = false → Lat W0 w)
def tauA (ops : Array Oper) (α : Nat) : Nat := match ops[α]? with
  | some o => slotOf o
  | none => 0
def freshA (ops : Array Oper) (α : Nat) (listed : Array Bool) (g : Nat → Value → Prop) : Prop := listed.getD α true = false → ∀ v, ¬ g (tauA ops α) v
structure invA (K : List (Nat × (Value → World → Prop))) (ops : Array Oper) (α : Nat) (ρ : Option Nat) (W0 : World) (listed : Array Bool) (g : Nat → Value → Prop) (w : World) : Prop where
  cls : clsA α ρ W0 listed w
  known : Known K g w
  fresh : freshA ops α listed g
def looseUponA (P : Program) (S : World → World → Prop) (φ : Value → World → Prop) (w : World) : Result Next → Prop
  | .ok (.value u) w' => S w w' ∧ φ u w'
  | .ok (.enter f args) w' => w' = w ∧ Calls P f args w (fun e w'' => ∃ v, e = .returned v ∧ S w w'' ∧ φ v w'')
  | _ => False
def DoesA (P : Program) (ops : Array Oper) (K : List (Nat × (Value → World → Prop))) (α : Nat) (ρ : Option Nat) (W0 : World) (i : Nat) (o : Oper) (a : Act) (g : Nat → Value → Prop) : Kind → Prop
  | .skip => Region.wanted o (yielded ops a.tmps) = false ∧ i ≠ α
  | .plain u => Region.wanted o (yielded ops a.tmps) = true ∧ marked K o = false ∧ i ≠ α ∧ ∀ w, inA α ρ W0 i w → depsOf K ops o g w → plainUpon w u ((execOp a.eval o).run P w)
  | .loose => Region.wanted o (yielded ops a.tmps) = true ∧ marked K o = true ∧ ∀ w, inA α ρ W0 i w → depsOf K ops o g w → looseUponA P (stepA α ρ i) (fun v w => Know.at (slotOf o) v w K) w ((execOp a.eval o).run P w)
def ValidA (K : List (Nat × (Value → World → Prop))) (α : Nat) (ρ : Option Nat) (i : Nat) (o : Oper) (w : World) (v : Value) : Kind → Prop
  | .skip => v = undef
  | .plain u => v = u
  | .loose => ∃ w', stepA α ρ i w w' ∧ Know.at (slotOf o) v w' K

/-- What is known stays known: by later worlds all; by the append's write all but of its own slot. -/
structure keepsA (K : List (Nat × (Value → World → Prop))) (ops : Array Oper) (α : Nat) (ρ : Option Nat) : Prop where
  late : Know.stable K
  app : ∀ t v w w', t ≠ tauA ops α → Know.at t v w K → LatR ρ w w' → Know.at t v w' K
  only : ∀ i o, ops[i]? = some o → i ≠ α → marked K o = true → slotOf o ≠ tauA ops α

theorem clsA.inA {listed : Array Bool} {w : World} (h : clsA α ρ W0 listed w) {i : Nat} (hi : listed.getD i true = false) : inA α ρ W0 i w := by
  unfold Go.Proofs.YtinlciofhegciaaDoor.inA
  split
  · rename_i he; subst he; exact h.2 hi
  · exact h.1
theorem stepA.toR {i : Nat} {w w' : World} (h : stepA α ρ i w w') : LatR ρ w w' := by
  unfold stepA at h
  split at h
  · exact h
  · exact h.toR ρ
theorem clsA.step {listed : Array Bool} {i : Nat} {w w' : World} (h : clsA α ρ W0 listed w) (hs : stepA α ρ i w w') : clsA α ρ W0 (listed.setIfInBounds i true) w' := by
  refine ⟨h.1.trans hs.toR, fun hf => ?_⟩
  by_cases hi : i = α
  · subst hi
    exfalso
    rcases Nat.lt_or_ge i listed.size with h' | h'
    · simp [h'] at hf
    · simp [Array.getElem?_eq_none h'] at hf
  · rw [getD_set_ne true hi] at hf
    unfold stepA at hs
    rw [if_neg hi] at hs
    exact (h.2 hf).trans hs
theorem clsA.later {listed : Array Bool} {w w' : World} (h : clsA α ρ W0 listed w) (hs : Lat w w') : clsA α ρ W0 listed w' := ⟨h.1.trans (hs.toR ρ), fun hf => (h.2 hf).trans hs⟩
/-- Behind operation i: its value v, known at w'. -/
theorem invA.step (hK : keepsA K ops α ρ) {listed : Array Bool} {g : Nat → Value → Prop} {i : Nat} {o : Oper} {κ : Kind} {w w' : World} {v : Value} (h : invA K ops α ρ W0 listed g w) (ho : ops[i]? = some o) (hun : listed.getD i true = false) (hm : κ = .loose → marked K o = true)
    (hs : stepA α ρ i w w') (hv : κ = .loose → Know.at (slotOf o) v w' K) : invA K ops α ρ W0 (listed.setIfInBounds i true) (behind o g v κ) w' := by
  have hkn : Known K g w' := by
    intro t x hx
    unfold stepA at hs
    split at hs
    · rename_i hi
      subst hi
      refine hK.app t x w w' ?_ (h.known t x hx) hs
      rintro rfl
      exact h.fresh hun x hx
    · exact hK.late _ _ _ _ (h.known t x hx) hs
  refine ⟨h.cls.step hs, ?_, ?_⟩
  · cases κ with
    | loose => exact hkn.add (hv rfl)
    | _ => exact hkn
  · intro hf x hx
    by_cases hi : i = α
    · subst hi
      rcases Nat.lt_or_ge i listed.size with h' | h'
      · simp [h'] at hf
      · simp [Array.getElem?_eq_none h'] at hf
    · rw [getD_set_ne true hi] at hf
      cases κ with
      | loose =>
        rcases hx with ⟨hx, _⟩ | hx
        · exact hK.only i o ho hi (hm rfl) hx.symm
        · exact h.fresh hf x hx
      | skip => exact h.fresh hf x hx
      | plain u => exact h.fresh hf x hx
theorem stepA.refl {i : Nat} (w : World) : stepA α ρ i w w := by
  unfold stepA
  split
  · exact (Lat.refl w).toR ρ
  · exact Lat.refl w
/-- What the walk may lean on: the append's row may have been written already. -/
structure premA (K : List (Nat × (Value → World → Prop))) (ops : Array Oper) (α : Nat) (ρ : Option Nat) (W0 : World) (listed : Array Bool) (g : Nat → Value → Prop) (w : World) : Prop where
  lat : LatR ρ W0 w
  known : Known K g w
  fresh : freshA ops α listed g
theorem invA.prem {listed : Array Bool} {g : Nat → Value → Prop} {w : World} (h : invA K ops α ρ W0 listed g w) : premA K ops α ρ W0 listed g w := ⟨h.cls.1, h.known, h.fresh⟩
theorem fresh_step (hK : keepsA K ops α ρ) {listed : Array Bool} {g : Nat → Value → Prop} {i : Nat} {o : Oper} {κ : Kind} {v : Value} (h : freshA ops α listed g) (ho : ops[i]? = some o) (hm : κ = .loose → marked K o = true) : freshA ops α (listed.setIfInBounds i true) (behind o g v κ) := by
  intro hf x hx
  by_cases hi : i = α
  · subst hi
    rcases Nat.lt_or_ge i listed.size with h' | h'
    · simp [h'] at hf
    · simp [Array.getElem?_eq_none h'] at hf
  · rw [getD_set_ne true hi] at hf
    cases κ with
    | loose =>
      rcases hx with ⟨hx, _⟩ | hx
      · exact hK.only i o ho hi (hm rfl) hx.symm
      · exact h hf x hx
    | skip => exact h hf x hx
    | plain u => exact h hf x hx
theorem known_step (hK : keepsA K ops α ρ) {listed : Array Bool} {g : Nat → Value → Prop} {i : Nat} {w w' : World} (hg : Known K g w) (hfr : freshA ops α listed g) (hun : listed.getD i true = false) (hs : stepA α ρ i w w') : Known K g w' := by
  intro t x hx
  unfold stepA at hs
  split at hs
  · rename_i hi
    subst hi
    refine hK.app t x w w' ?_ (hg t x hx) hs
    rintro rfl
    exact hfr hun x hx
  · exact hK.late _ _ _ _ (hg t x hx) hs
theorem ValidA.reach (hK : keepsA K ops α ρ) {listed : Array Bool} {i : Nat} {o : Oper} {κ : Kind} {g : Nat → Value → Prop} {w : World} {v : Value} (hg : premA K ops α ρ W0 listed g w) (ho : ops[i]? = some o) (hun : listed.getD i true = false) (hm : κ = .loose → marked K o = true) (h : ValidA K α ρ i o w v κ) :
    ∃ w', stepA α ρ i w w' ∧ premA K ops α ρ W0 (listed.setIfInBounds i true) (behind o g v κ) w' := by
  cases κ with
  | loose =>
    obtain ⟨w', hw, hv⟩ := h
    exact ⟨w', hw, hg.lat.trans hw.toR, (known_step hK hg.known hg.fresh hun hw).add hv, fresh_step hK hg.fresh ho hm⟩
  | skip => exact ⟨w, stepA.refl w, hg.lat, hg.known, fresh_step hK (κ := .skip) (v := v) hg.fresh ho (fun h => by cases h)⟩
  | plain u => exact ⟨w, stepA.refl w, hg.lat, hg.known, fresh_step hK (κ := .plain u) (v := v) hg.fresh ho (fun h => by cases h)⟩
theorem ValidA.here {i : Nat} {o : Oper} {κ : Kind} {g : Nat → Value → Prop} {w w1 : World} {v : Value} (h : ValidA K α ρ i o w v κ) (hg : Known K (behind o g v κ) w1) : ValidA K α ρ i o w1 v κ := by
  cases κ with
  | loose => exact ⟨w1, stepA.refl w1, hg _ _ (.inl ⟨rfl, rfl⟩)⟩
  | skip => exact h
  | plain u => exact h
theorem DoesA.marks {i : Nat} {o : Oper} {a : Act} {g : Nat → Value → Prop} {κ : Kind} (h : DoesA P ops K α ρ W0 i o a g κ) : κ = .loose → marked K o = true := by
  rintro rfl; exact h.2.1
theorem DoesA.unique {i : Nat} {o : Oper} {a : Act} {g : Nat → Value → Prop} {κ κ' : Kind} {w : World} (h : DoesA P ops K α ρ W0 i o a g κ) (h' : DoesA P ops K α ρ W0 i o a g κ') (hw : i ≠ α → LatR ρ W0 w) (hg : Known K g w) : κ = κ' := by
  cases κ with
  | skip => cases κ' with
    | skip => rfl
    | plain u => exact absurd (h.1.symm.trans h'.1) (by simp)
    | loose => exact absurd (h.1.symm.trans h'.1) (by simp)
  | plain u => cases κ' with
    | skip => exact absurd (h'.1.symm.trans h.1) (by simp)
    | plain u' =>
      have hin : inA α ρ W0 i w := by unfold inA; rw [if_neg h.2.2.1]; exact hw h.2.2.1
      have h1 := h.2.2.2 w hin (hg.deps o)
      have h2 := h'.2.2.2 w hin (hg.deps o)
      generalize (execOp a.eval o).run P w = r at h1 h2
      cases r with
      | ok n w' =>
        cases n <;> simp only [plainUpon] at h1 h2
        · rw [← h1.2, ← h2.2]
        · rw [h1.2, h2.2]
      | halt x w' => simp only [plainUpon] at h1
    | loose => exact absurd (h.2.1.symm.trans h'.2.1) (by simp)
  | loose => cases κ' with
    | skip => exact absurd (h'.1.symm.trans h.1) (by simp)
    | plain u => exact absurd (h'.2.1.symm.trans h.2.1) (by simp)
    | loose => rfl
theorem DoesA.of_same {i : Nat} {o : Oper} {a a' : Act} {g g' : Nat → Value → Prop} {κ : Kind} (h : DoesA P ops K α ρ W0 i o a g κ) (he : execOp a'.eval o = execOp a.eval o)
    (hw : Region.wanted o (yielded ops a'.tmps) = Region.wanted o (yielded ops a.tmps)) (hd : ∀ w, depsOf K ops o g' w → depsOf K ops o g w) : DoesA P ops K α ρ W0 i o a' g' κ := by
  cases κ with
  | skip => exact ⟨hw.trans h.1, h.2⟩
  | plain u => exact ⟨hw.trans h.1, h.2.1, h.2.2.1, fun w h1 h2 => by rw [he]; exact h.2.2.2 w h1 (hd w h2)⟩
  | loose => exact ⟨hw.trans h.1, h.2.1, fun w h1 h2 => by rw [he]; exact h.2.2 w h1 (hd w h2)⟩
theorem DoesA.some {i : Nat} {o : Oper} {a : Act} {g : Nat → Value → Prop} {κ : Kind} {w : World} (h : DoesA P ops K α ρ W0 i o a g κ) (hw : inA α ρ W0 i w) (hg : Known K g w) : ∃ v, ValidA K α ρ i o w v κ := by
  cases κ with
  | skip => exact ⟨_, rfl⟩
  | plain u => exact ⟨_, rfl⟩
  | loose =>
    have h1 := h.2.2 w hw (hg.deps o)
    generalize (execOp a.eval o).run P w = r at h1
    cases r with
    | ok n w' =>
      cases n <;> simp only [looseUponA] at h1
      · exact ⟨_, w', h1⟩
      · obtain ⟨e, w'', fr, ⟨v, _, hl, hv⟩, _⟩ := h1.2 []
        exact ⟨v, w'', hl, hv⟩
    | halt x w' => simp only [looseUponA] at h1

def sOpA (P : Program) (ops : Array Oper) (K : List (Nat × (Value → World → Prop))) (α : Nat) (ρ : Option Nat) (W0 : World) (i : Nat) (next : Act → (Nat → Value → Prop) → Prop) (a : Act) (g : Nat → Value → Prop) (w : World) : Prop :=
  match ops[i]? with
  | none => False
  | some o => ∃ κ, DoesA P ops K α ρ W0 i o a g κ ∧ ∀ v, ValidA K α ρ i o w v κ → next (a.put o.dst v) (behind o g v κ)
def anyA (P : Program) (md : Region.Mode) (ops : Array Oper) (K : List (Nat × (Value → World → Prop))) (α : Nat) (ρ : Option Nat) (W0 : World) (n gq : Nat) (Q' : Exit → Act → World → Prop) (L : Array Bool → Act → (Nat → Value → Prop) → Prop) : Nat → Array Bool → Act → (Nat → Value → Prop) → Prop
  | 0, listed, a, g => L listed a g
  | f + 1, listed, a, g => (∀ w, premA K ops α ρ W0 listed g w → Region.ready md ops listed ≠ [] ∧ ∀ i ∈ Region.ready md ops listed, i < n → sOpA P ops K α ρ W0 i (anyA P md ops K α ρ W0 n gq Q' L f (listed.setIfInBounds i true)) a g w) ∧
      (∀ w, invA K ops α ρ W0 listed g w → ∀ j ∈ Region.ready md ops listed, n ≤ j → wpAny P md ops Q' (f + 1 + gq) listed a w)

theorem wpOp_of_sOpA (hK : keepsA K ops α ρ) {i : Nat} {listed : Array Bool} {a : Act} {g : Nat → Value → Prop} {next : Act → (Nat → Value → Prop) → Prop} {K' : Act → World → Prop} {Q' : Exit → Act → World → Prop} {w : World} (hg : invA K ops α ρ W0 listed g w) (hun : listed.getD i true = false)
    (h : ∀ a g w', invA K ops α ρ W0 (listed.setIfInBounds i true) g w' → next a g → K' a w') (hh : sOpA P ops K α ρ W0 i next a g w) : wpOp P ops Q' i K' a w := by
  unfold sOpA at hh
  unfold wpOp
  split
  · rename_i ho; simp only [ho] at hh
  · rename_i o ho
    simp only [ho] at hh
    obtain ⟨κ, hd, hn⟩ := hh
    have hin := hg.cls.inA hun
    cases κ with
    | skip =>
      rw [hd.1]
      exact h _ _ _ (hg.step hK ho hun (fun h => by cases h) (stepA.refl w) (fun h => by cases h)) (hn _ rfl)
    | plain u =>
      rw [if_pos hd.1]
      refine .inl ?_
      have h1 := hd.2.2.2 w hin (hg.known.deps o)
      have h2 := h _ _ _ (hg.step hK ho hun (κ := .plain u) (v := u) (fun h => by cases h) (stepA.refl w) (fun h => by cases h)) (hn _ rfl)
      unfold Oper.wp
      generalize (execOp a.eval o).run P w = r at h1
      cases r with
      | ok n w' =>
        cases n <;> simp only [plainUpon] at h1 <;> simp only [Oper.upon]
        · obtain ⟨rfl, rfl⟩ := h1; exact h2
        · obtain ⟨rfl, rfl⟩ := h1; exact h2
      | halt x w' => simp only [plainUpon] at h1
    | loose =>
      rw [if_pos hd.1]
      refine .inl ?_
      have h1 := hd.2.2 w hin (hg.known.deps o)
      unfold Oper.wp
      generalize (execOp a.eval o).run P w = r at h1
      cases r with
      | ok n w' =>
        cases n <;> simp only [looseUponA] at h1 <;> simp only [Oper.upon]
        · exact h _ _ _ (hg.step hK ho hun (κ := .loose) hd.marks h1.1 (fun _ => h1.2)) (hn _ ⟨_, h1⟩)
        · obtain ⟨rfl, h1⟩ := h1
          refine Calls.mono h1 ?_
          rintro e w'' ⟨v, rfl, hl, hv⟩
          exact h _ _ _ (hg.step hK ho hun (κ := .loose) hd.marks hl (fun _ => hv)) (hn _ ⟨_, hl, hv⟩)
      | halt x w' => simp only [looseUponA] at h1

theorem wpAny_of_anyA (hK : keepsA K ops α ρ) {n gq : Nat} {L : Array Bool → Act → (Nat → Value → Prop) → Prop} {Q' : Exit → Act → World → Prop} (hL : ∀ listed a g w, invA K ops α ρ W0 listed g w → L listed a g → wpAny P md ops Q' gq listed a w) :
    ∀ (f : Nat) (listed : Array Bool) (a : Act) (g : Nat → Value → Prop) (w : World), invA K ops α ρ W0 listed g w → anyA P md ops K α ρ W0 n gq Q' L f listed a g → wpAny P md ops Q' (f + gq) listed a w
  | 0, listed, a, g, w, hg, h => by rw [Nat.zero_add]; exact hL _ _ _ _ hg h
  | f + 1, listed, a, g, w, hg, h => by
    obtain ⟨h1, h2⟩ := h.1 w hg.prem
    have h3 := h.2 w hg
    by_cases ht : ∃ j ∈ Region.ready md ops listed, n ≤ j
    · obtain ⟨j, hj, hjn⟩ := ht
      exact h3 j hj hjn
    · rw [show f + 1 + gq = (f + gq) + 1 by omega]
      exact ⟨fun h0 => absurd h0 h1, fun i hi => wpOp_of_sOpA hK hg (mem_ready.1 hi).1 (fun a' g' w' hg' h' => wpAny_of_anyA hK hL f _ a' g' w' hg' h') (h2 i hi (Nat.lt_of_not_le fun hle => ht ⟨i, hi, hle⟩))⟩

theorem DoesA.yields {i : Nat} {o : Oper} {a : Act} {g : Nat → Value → Prop} {κ : Kind} {w : World} (h : DoesA P ops K α ρ W0 i o a g κ) (hw : inA α ρ W0 i w) (hg : Known K g w) (hf : freeB o = true) (hm : marked K o = false) :
    ∃ v, ValidA K α ρ i o w v κ ∧ Yields P ops o v a ∧ behind o g v κ = g ∧ i ≠ α ∧ κ ≠ .loose := by
  cases κ with
  | skip => exact ⟨undef, rfl, .inr ⟨h.1, rfl⟩, rfl, h.2, by simp⟩
  | plain u => exact ⟨u, rfl, .inl ⟨h.1, free_run hf (h.2.2.2 w hw (hg.deps o))⟩, rfl, h.2.2.1, by simp⟩
  | loose => exact absurd (h.2.1.symm.trans hm) (by simp)

theorem anyA_first (hK : keepsA K ops α ρ) {n i gq : Nat} {oi : Oper} {κ : Kind} {L : Array Bool → Act → (Nat → Value → Prop) → Prop} {Q' : Exit → Act → World → Prop} (hL : ∀ listed a g w, invA K ops α ρ W0 listed g w → L listed a g → wpAny P md ops Q' gq listed a w)
    (hQ : ∀ c a d v w, Q' (.panic c) (Act.put a d v) w → Q' (.panic c) a w) (hi : ops[i]? = some oi) (hsel : ∀ (j : Nat) (o : Oper) cs b, ops[j]? = some o → o.op ≠ .select cs b) (hin : i < n)
    (hwait : (∀ listed : Array Bool, HeadInv md ops n listed → listed.getD i true = false → ∀ j ∈ Region.ready md ops listed, j < n) ∨ (freeB oi = true ∧ marked K oi = false))
    (hsome : ∀ listed a g w, premA K ops α ρ W0 listed g w → listed.getD i true = false → DoesA P ops K α ρ W0 i oi a g κ → ∃ v, ValidA K α ρ i oi w v κ)
    (hdone : ∀ listed a g, L listed a g → ∀ j ∈ Region.ready md ops listed, n ≤ j) (f : Nat) :
    ∀ (listed : Array Bool) (a : Act) (g : Nat → Value → Prop), HeadInv md ops n listed →
      (∀ j oj, ops[j]? = some oj → j ≠ i → listed.getD j true = false → (∀ e ∈ oj.after, Region.binds md e = true → e.on ≠ i) → oi.apart ops oj = true) →
      i ∈ Region.ready md ops listed → DoesA P ops K α ρ W0 i oi a g κ →
      (∀ w, premA K ops α ρ W0 listed g w → ∀ v, ValidA K α ρ i oi w v κ → anyA P md ops K α ρ W0 n gq Q' L f (listed.setIfInBounds i true) (a.put oi.dst v) (behind oi g v κ)) → anyA P md ops K α ρ W0 n gq Q' L (f + 1) listed a g := by
  have third : ∀ (f : Nat) (listed : Array Bool) (a : Act) (g : Nat → Value → Prop) (w : World), invA K ops α ρ W0 listed g w → HeadInv md ops n listed →
      (∀ j oj, ops[j]? = some oj → j ≠ i → listed.getD j true = false → (∀ e ∈ oj.after, Region.binds md e = true → e.on ≠ i) → oi.apart ops oj = true) →
      i ∈ Region.ready md ops listed → DoesA P ops K α ρ W0 i oi a g κ →
      (∀ w, premA K ops α ρ W0 listed g w → ∀ v, ValidA K α ρ i oi w v κ → anyA P md ops K α ρ W0 n gq Q' L f (listed.setIfInBounds i true) (a.put oi.dst v) (behind oi g v κ)) →
      ∀ j ∈ Region.ready md ops listed, n ≤ j → wpAny P md ops Q' (f + 1 + gq) listed a w := by
    intro f listed a g w hg inv hfree hr hy H j hj hjn
    have hun := (mem_ready.1 hr).1
    rcases hwait with hwait | ⟨hf, hm⟩
    · have := hwait listed inv hun j hj
      omega
    · obtain ⟨v, hv, hyv, hb, hia, hκ⟩ := hy.yields (hg.cls.inA hun) hg.known hf hm
      have h1 := H w hg.prem v hv
      have h2 := hg.step hK hi hun (κ := κ) (v := v) hy.marks (stepA.refl w) (fun h => absurd h hκ)
      rw [show f + 1 + gq = (f + gq) + 1 by omega]
      exact wpAny_first hi hsel (fun c a w h => hQ c a _ _ w h) (f + gq) listed a w hfree hr hyv (wpAny_of_anyA hK hL f _ _ _ _ h2 h1)
  induction f with
  | zero =>
    intro listed a g inv hfree hr hy H
    refine ⟨fun w hg => ?_, fun w hg => third 0 listed a g w hg inv hfree hr hy H⟩
    have hun := (mem_ready.1 hr).1
    refine ⟨fun h => (by rw [h] at hr; cases hr), fun j hj hjn => ?_⟩
    by_cases hji : j = i
    · subst hji
      unfold sOpA
      simp only [hi]
      exact ⟨κ, hy, fun v hv => H w hg v hv⟩
    · obtain ⟨v, hv⟩ := hsome listed a g w hg hun hy
      have := hdone _ _ _ (H w hg v hv) j (ready_mono hj hji)
      omega
  | succ f ih =>
    intro listed a g inv hfree hr hy H
    refine ⟨fun w hg => ?_, fun w hg => third (f + 1) listed a g w hg inv hfree hr hy H⟩
    have hun := (mem_ready.1 hr).1
    refine ⟨fun h => (by rw [h] at hr; cases hr), fun j hj hjn => ?_⟩
    by_cases hji : j = i
    · subst hji
      unfold sOpA
      simp only [hi]
      exact ⟨κ, hy, fun v hv => H w hg v hv⟩
    · obtain ⟨hjun, oj, hoj, hall⟩ := mem_ready.1 hj
      have hnot : ∀ e ∈ oj.after, Region.binds md e = true → e.on ≠ i := fun e he hb heq => by
        have h1 := hall e he hb
        rw [heq, getD_both hun] at h1
        cases h1
      obtain ⟨a1, a2, a3⟩ := Oper.apart_spec (hfree j oj hoj hji hjun hnot)
      have hfree' : ∀ k ok, ops[k]? = some ok → k ≠ i → (listed.setIfInBounds j true).getD k true = false →
          (∀ e ∈ ok.after, Region.binds md e = true → e.on ≠ i) → oi.apart ops ok = true := fun k ok hk hki hun' hno => by
        refine hfree k ok hk hki ?_ hno
        by_cases hjk : j = k
        · subst hjk; exact hjun
        · rw [getD_set_ne true hjk] at hun'; exact hun'
      have back : ∀ v κj, DoesA P ops K α ρ W0 j oj (a.put oi.dst v) (behind oi g v κ) κj → DoesA P ops K α ρ W0 j oj a g κj := fun v κj hd =>
        hd.of_same (execOp_put oj (fun cs b => hsel j oj cs b hoj) a oi.dst v a1).symm (wanted_put oj a oi.dst v a1).symm (fun w h => (deps_behind a1 hy.marks).2 h)
      have at1 : ∀ w1, premA K ops α ρ W0 listed g w1 → ∀ v, ValidA K α ρ i oi w1 v κ → ∃ w2, premA K ops α ρ W0 (listed.setIfInBounds i true) (behind oi g v κ) w2 ∧ stepA α ρ i w1 w2 ∧ ∃ κj, DoesA P ops K α ρ W0 j oj a g κj ∧ ∀ u, ValidA K α ρ j oj w2 u κj →
          anyA P md ops K α ρ W0 n gq Q' L f ((listed.setIfInBounds i true).setIfInBounds j true) ((a.put oi.dst v).put oj.dst u) (behind oj (behind oi g v κ) u κj) := fun w1 hg1 v hv => by
        obtain ⟨w2, hs2, hg2⟩ := hv.reach hK hg1 hi hun hy.marks
        have h2 := ((H w1 hg1 v hv).1 w2 hg2).2 j (ready_mono hj hji) hjn
        unfold sOpA at h2
        simp only [hoj] at h2
        obtain ⟨κj, hd, hn⟩ := h2
        exact ⟨w2, hg2, hs2, κj, back v κj hd, hn⟩
      obtain ⟨v0, hv0⟩ := hsome listed a g w hg hun hy
      obtain ⟨_, _, _, κj, hdj, _⟩ := at1 w hg v0 hv0
      unfold sOpA
      simp only [hoj]
      refine ⟨κj, hdj, fun u hu => ?_⟩
      refine ih (listed.setIfInBounds j true) (a.put oj.dst u) (behind oj g u κj) (inv.set hj hjn) hfree' (ready_mono hr (Ne.symm hji)) ?_ ?_
      · exact hy.of_same (execOp_put oi (fun cs b => hsel i oi cs b hi) a oj.dst u a3) (wanted_put oi a oj.dst u a3) (fun w h => (deps_behind a3 hdj.marks).1 h)
      · intro w1 hg1 v hv
        have hk1 : Known K g w1 := hg1.known.less
        have hfr : freshA ops α listed g := hg.fresh
        have hg1' : premA K ops α ρ W0 listed g w1 := ⟨hg1.lat, hk1, hfr⟩
        obtain ⟨w2, hg2, hs2, κj', hdj', hn⟩ := at1 w1 hg1' v hv
        have hκ : κj' = κj := hdj'.unique hdj (fun _ => hg1.lat) hk1
        subst hκ
        have hu2 : ValidA K α ρ j oj w2 u κj' := by
          cases hκ' : κj' with
          | loose =>
            subst hκ'
            have hat : Know.at (slotOf oj) u w1 K := hg1.known _ _ (.inl ⟨rfl, rfl⟩)
            refine ⟨w2, stepA.refl w2, ?_⟩
            unfold stepA at hs2
            split at hs2
            · rename_i hia
              refine hK.app _ _ _ _ ?_ hat hs2
              exact hK.only j oj hoj (fun h => hji (h.trans hia.symm)) (hdj.marks rfl)
            · exact hK.late _ _ _ _ hat hs2
          | skip => subst hκ'; exact hu
          | plain u' => subst hκ'; exact hu
        have := hn u hu2
        rw [Array.setIfInBounds_comm _ _ hji, ← Act.put_comm a v u a2, behind_comm]
        exact this

/-- The walk in the order of the text, from operation number k on. -/
def wpLooseA (P : Program) (ops : Array Oper) (K : List (Nat × (Value → World → Prop))) (α : Nat) (ρ : Option Nat) (W0 : World) (Q : Act → (Nat → Value → Prop) → Prop) : Nat → List Oper → Act → (Nat → Value → Prop) → Prop
  | _, [], a, g => Q a g
  | k, o :: rest, a, g => ∃ κ, DoesA P ops K α ρ W0 k o a g κ ∧ ∀ v w, LatR ρ W0 w → Known K g w → ValidA K α ρ k o w v κ → wpLooseA P ops K α ρ W0 Q (k + 1) rest (a.put o.dst v) (behind o g v κ)

theorem anyA_lex (hK : keepsA K ops α ρ) {n gq : Nat} {Lq : Act → (Nat → Value → Prop) → Prop} {Q' : Exit → Act → World → Prop} (hL : ∀ listed a g w, invA K ops α ρ W0 listed g w → (Region.seqB md ops gq n listed = true ∧ Lq a g) → wpAny P md ops Q' gq listed a w)
    (hQ : ∀ c a d v w, Q' (.panic c) (Act.put a d v) w → Q' (.panic c) a w) (hsel : Region.noSelect ops = true)
    (happ : ∀ w, LatR ρ W0 w → ∃ v w', LatR ρ w w' ∧ Know.at (tauA ops α) v w' K)
    (hwait : ∀ i o, i < n → ops[i]? = some o → (∀ listed : Array Bool, HeadInv md ops n listed → listed.getD i true = false → ∀ j ∈ Region.ready md ops listed, j < n) ∨ (freeB o = true ∧ marked K o = false)) :
    ∀ (l : List Oper) (k : Nat) (listed : Array Bool) (a : Act) (g : Nat → Value → Prop), (∀ j, j < l.length → l[j]? = ops[k + j]?) → k + l.length = n → HeadInv md ops n listed →
    Region.lexHead md ops gq l.length k listed = true → wpLooseA P ops K α ρ W0 Lq k l a g →
    anyA P md ops K α ρ W0 n gq Q' (fun listed' a' g' => Region.seqB md ops gq n listed' = true ∧ Lq a' g') l.length listed a g
  | [], k, listed, a, g, _, hk, _, hB, h => by
    have : k = n := by simpa using hk
    subst this
    exact ⟨by simpa [Region.lexHead] using hB, h⟩
  | o :: l, k, listed, a, g, hl, hk, inv, hB, h => by
    have h0 : ops[k]? = some o := by simpa using (hl 0 (by simp)).symm
    simp only [List.length_cons, Region.lexHead, Bool.and_eq_true] at hB
    obtain ⟨⟨hr, hf⟩, hB'⟩ := hB
    have hkn : k < n := by simp only [List.length_cons] at hk; omega
    have hr' : k ∈ Region.ready md ops listed := by simpa using hr
    obtain ⟨κ, hd, hn⟩ := h
    refine anyA_first hK hL hQ h0 (Region.noSelect_spec hsel) hkn (hwait k o hkn h0) (fun listed a g w hg hun hy => ?_) (fun listed' a' g' hL => seqB_ready hL.1) l.length listed a g inv (Region.free_spec h0 hf) hr' hd ?_
    · by_cases hka : k = α
      · subst hka
        cases κ with
        | skip => exact absurd rfl hy.2
        | plain u => exact absurd rfl hy.2.2.1
        | loose =>
          obtain ⟨v, w', h1, h2⟩ := happ w hg.lat
          refine ⟨v, w', by unfold stepA; rw [if_pos rfl]; exact h1, ?_⟩
          rw [tauA, h0] at h2
          exact h2
      · exact hy.some (by unfold inA; rw [if_neg hka]; exact hg.lat) hg.known
    · intro w hg v hv
      exact anyA_lex hK hL hQ hsel happ hwait l (k + 1) _ _ _ (fun j hj => by have := hl (j + 1) (by simp; omega); simpa [Nat.add_assoc, Nat.add_comm 1 j] using this) (by simp only [List.length_cons] at hk; omega) (inv.set hr' hkn) hB' (hn v w hg.lat hg.known hv)

/-- Marks stand at no slot of the append but its own. -/
def onlyB (K : List (Nat × (Value → World → Prop))) (l : List Oper) (α : Nat) (τ : Nat) : Bool := (List.range l.length).all fun i => i == α || match l[i]? with
  | some o => !marked K o || o.dst != some τ
  | none => true
theorem only_of {l : List Oper} {τ : Nat} (h : onlyB K l α τ = true) (hτ : tauA l.toArray α = τ) : ∀ i o, l.toArray[i]? = some o → i ≠ α → marked K o = true → slotOf o ≠ tauA l.toArray α := by
  intro i o ho hi hm
  have hlt : i < l.length := by
    have := (Array.getElem?_eq_some_iff.1 ho).1
    simpa using this
  have h1 := List.all_eq_true.1 h i (List.mem_range.2 hlt)
  have h2 : l[i]? = some o := by simpa using ho
  rw [h2] at h1
  simp only [Bool.or_eq_true, beq_iff_eq, hi, false_or, hm, Bool.not_true, Bool.false_eq_true] at h1
  rw [hτ, slotOf]
  intro he
  unfold marked at hm
  cases hd : o.dst with
  | none => rw [hd] at hm; cases hm
  | some t =>
    rw [hd] at h1 he
    simp at he
    subst he
    simp at h1

/-- A region with one append (operation α, slot τ) and a tail in one forced order. -/
theorem region_append {id : Nat} {Q : Exit → Act → World → Prop} {a : Act} {w : World} {l : List Oper} (K : List (Nat × (Value → World → Prop))) (α τ : Nat) (ρ : Option Nat) (n : Nat) (hK : Know.stable K)
    (hR : ∀ t v w w', t ≠ τ → Know.at t v w K → LatR ρ w w' → Know.at t v w' K) (hτ : tauA l.toArray α = τ) (hon : onlyB K l α τ = true) (happ : ∀ w', LatR ρ w w' → ∃ v w'', LatR ρ w' w'' ∧ Know.at τ v w'' K)
    (hm : P.follows .mixedOrders = true) (hB : floatB .any l.toArray n = true) (hu : unmarkedB K l.toArray = true)
    (h : wpLooseA P l.toArray K α ρ w (fun a' g => ∀ w', LatR ρ w w' → Known K g w' → wpList P l.toArray (NoPanic Q) (l.drop n) a' w') 0 (l.take n) a (fun _ _ => False)) : (Code.region id l.toArray true).wp P Q a w := by
  have hQ : ∀ c a d v w, NoPanic Q (.panic c) (Act.put a d v) w → NoPanic Q (.panic c) a w := fun _ _ _ _ _ h => h
  refine wp_region_noPanic ?_
  have hK2 : keepsA K l.toArray α ρ := ⟨hK, fun t v w w' ht => hR t v w w' (by rwa [hτ] at ht), only_of hon hτ⟩
  simp only [floatB, Bool.and_eq_true, decide_eq_true_eq] at hB
  obtain ⟨⟨⟨⟨hsel, hn⟩, hs⟩, hc⟩, hlex⟩ := hB
  have hn' : n < l.length := by simpa using hn
  have htl : (l.take n).length = n := by simp; omega
  have hdl : (l.drop n).length = l.toArray.size - n := by simp
  have inv0 : HeadInv .any l.toArray n (Array.replicate l.toArray.size false) :=
    ⟨by simp, fun j oj _ hl => (by rw [getD_replicate_false] at hl; cases hl), fun t _ ht => getD_in (by simpa using ht) (getD_replicate_false _ _)⟩
  have hL : ∀ (listed : Array Bool) (a' : Act) (g' : Nat → Value → Prop) (w' : World), invA K l.toArray α ρ w listed g' w' → (Region.seqB .any l.toArray (l.toArray.size - n) n listed = true ∧ ∀ w', LatR ρ w w' → Known K g' w' → wpList P l.toArray (NoPanic Q) (l.drop n) a' w') →
      wpAny P .any l.toArray (NoPanic Q) (l.toArray.size - n) listed a' w' := fun listed a' g' w' hg' hL => by
    have hl1 : Region.seqB .any l.toArray (l.drop n).length n listed = true := by rw [hdl]; exact hL.1
    have hl2 := wpAny_of_seq (md := .any) (Q' := NoPanic Q) (l.drop n) n listed a' w' (fun j => by simp) hl1 (hL.2 w' hg'.cls.1 hg'.known)
    rwa [hdl] at hl2
  have H := anyA_lex (md := .any) (gq := l.toArray.size - n) (Lq := fun a' g => ∀ w', LatR ρ w w' → Known K g w' → wpList P l.toArray (NoPanic Q) (l.drop n) a' w') hK2 hL hQ hsel (by rw [hτ]; exact happ) (fun i o hi ho => by
    cases hf : freeB o with
    | true =>
      refine .inr ⟨rfl, ?_⟩
      have := List.all_eq_true.1 hu o (by simpa using Array.mem_of_getElem? ho)
      simpa [hf] using this
    | false => exact .inl fun listed inv hun j hj => Nat.lt_of_not_le fun h => tail_waitsF hs hc hn inv _ i rfl hi (by rw [freeAt, ho]; exact hf) hun j h hj) (l.take n) 0 _ a _ (fun j hj => by
    have hj' : j < n := by rw [htl] at hj; exact hj
    simp [hj']) (by simpa using htl) inv0 (by rw [htl]; exact hlex) h
  refine wp_region_any hm ?_
  have hdr : Lat w { w with drawn := w.drawn + 1 } := (Below.refl _ _).drew
  have G := wpAny_of_anyA (Q' := NoPanic Q) (gq := l.toArray.size - n) hK2 hL _ _ _ _ _ (⟨⟨hdr.toR ρ, fun _ => hdr⟩, fun _ _ h => h.elim, fun _ _ h => h⟩ : invA K l.toArray α ρ w (Array.replicate l.toArray.size false) (fun _ _ => False) { w with drawn := w.drawn + 1 }) H
  rw [htl, show n + (l.toArray.size - n) = l.toArray.size by omega] at G
  exact G

/-! ### Steps -/
section
variable {a : Act} {g : Nat → Value → Prop} {o : Oper} {rest : List Oper} {Q : Act → (Nat → Value → Prop) → Prop} {k : Nat}
theorem appA_nil (h : Q a g) : wpLooseA P ops K α ρ W0 Q k [] a g := h
theorem appA_skip (hk : k ≠ α) (hw : Region.wanted o (yielded ops a.tmps) = false) (h : wpLooseA P ops K α ρ W0 Q (k + 1) rest (a.put o.dst undef) g) : wpLooseA P ops K α ρ W0 Q k (o :: rest) a g :=
  ⟨.skip, ⟨hw, hk⟩, fun v w _ _ hv => by cases (show v = undef from hv); exact h⟩
theorem appA_plain (hk : k ≠ α) (hw : Region.wanted o (yielded ops a.tmps) = true) (hm : marked K o = false) (hp : plainB o = true)
    (h : ∀ Kc : Act → Prop, (∀ a', wpLooseA P ops K α ρ W0 Q (k + 1) rest a' g → Kc a') → o.quiet P a (fun w' => ∃ p : LaterR ρ W0, w' = p.val) Kc) : wpLooseA P ops K α ρ W0 Q k (o :: rest) a g := by
  obtain ⟨v, hq, hn⟩ := h _ (fun _ h => h)
  refine ⟨.plain v, ⟨hw, hm, hk, fun w hl _ => ?_⟩, fun u w _ _ hu => by cases (show u = v from hu); exact hn⟩
  unfold inA at hl
  rw [if_neg hk] at hl
  have h1 := hq w ⟨⟨w, hl⟩, rfl⟩
  unfold Oper.quietAt at h1
  have h2 := fun f args w' => plain_run (P := P) (ρ := a.eval) (w := w) (f := f) (args := args) (w' := w') hp
  generalize (execOp a.eval o).run P w = r at h1 h2
  cases r with
  | ok n w' =>
    cases n <;> simp only [Oper.quietUpon] at h1
    · exact h1
    · exact h1
    · exact absurd rfl (h2 _ _ _)
  | halt x w' => exact h1
theorem appA_call (t : Nat) {f : FuncId} {args : Array Value} (hk : k ≠ α) (hr : ∀ w : World, (execOp a.eval o).run P w = .ok (.enter f args) w) (hw : Region.wanted o (yielded ops a.tmps) = true) (hd : o.dst = some t) (hm : Know.has t K = true)
    (hc : ∀ w, LatR ρ W0 w → depsOf K ops o g w → Calls P f args w fun e w' => ∃ v, e = .returned v ∧ Below w.heap.size w w' ∧ Know.at t v w' K)
    (h : ∀ v w, LatR ρ W0 w → Know.at t v w K → wpLooseA P ops K α ρ W0 Q (k + 1) rest (a.put (some t) v) (gadd g t v)) : wpLooseA P ops K α ρ W0 Q k (o :: rest) a g := by
  have hs : slotOf o = t := by rw [slotOf, hd]; rfl
  refine ⟨.loose, ⟨hw, marked_of hd hm, fun w hl hdp => ?_⟩, fun u w hl _ hu => ?_⟩
  · unfold inA at hl
    rw [if_neg hk] at hl
    rw [hr w]
    refine ⟨rfl, (hc w hl hdp).mono fun e w' ⟨v, he, hb, hv⟩ => ⟨v, he, ?_, by rw [hs]; exact hv⟩⟩
    unfold stepA; rw [if_neg hk]; exact hb
  · obtain ⟨w', hl', hu⟩ := hu
    rw [hs] at hu
    show wpLooseA P ops K α ρ W0 Q (k + 1) rest (a.put o.dst u) (gadd g (slotOf o) u)
    rw [hd, hs]
    exact h u w' (hl.trans hl'.toR) hu
theorem appA_fix (t : Nat) (v : Value) {f : FuncId} {args : Array Value} (hk : k ≠ α) (hr : ∀ w : World, (execOp a.eval o).run P w = .ok (.enter f args) w) (hw : Region.wanted o (yielded ops a.tmps) = true) (hd : o.dst = some t) (hm : Know.has t K = true)
    (hat : ∀ u w, Know.at t u w K ↔ u = v) (hc : ∀ w, LatR ρ W0 w → depsOf K ops o g w → Calls P f args w fun e w' => e = .returned v ∧ Below w.heap.size w w')
    (h : wpLooseA P ops K α ρ W0 Q (k + 1) rest (a.put (some t) v) (gadd g t v)) : wpLooseA P ops K α ρ W0 Q k (o :: rest) a g :=
  appA_call t hk hr hw hd hm (fun w hl hdp => (hc w hl hdp).mono fun e w' ⟨he, hb⟩ => ⟨v, he, hb, (hat _ _).2 rfl⟩) fun u w _ hu => by have := (hat _ _).1 hu; subst this; exact h
theorem appA_make (t : Nat) {V : World → Value} {W : World → World} (hk : k ≠ α) (hr : ∀ w : World, (execOp a.eval o).run P w = .ok (.value (V w)) (W w)) (hw : Region.wanted o (yielded ops a.tmps) = true) (hd : o.dst = some t) (hm : Know.has t K = true)
    (hv : ∀ w, LatR ρ W0 w → depsOf K ops o g w → Below w.heap.size w (W w) ∧ Know.at t (V w) (W w) K)
    (h : ∀ v w, LatR ρ W0 w → Know.at t v w K → wpLooseA P ops K α ρ W0 Q (k + 1) rest (a.put (some t) v) (gadd g t v)) : wpLooseA P ops K α ρ W0 Q k (o :: rest) a g := by
  have hs : slotOf o = t := by rw [slotOf, hd]; rfl
  refine ⟨.loose, ⟨hw, marked_of hd hm, fun w hl hdp => ?_⟩, fun u w hl _ hu => ?_⟩
  · unfold inA at hl
    rw [if_neg hk] at hl
    rw [hr w]
    obtain ⟨h1, h2⟩ := hv w hl hdp
    refine ⟨?_, by rw [hs]; exact h2⟩
    unfold stepA; rw [if_neg hk]; exact h1
  · obtain ⟨w', hl', hu⟩ := hu
    rw [hs] at hu
    show wpLooseA P ops K α ρ W0 Q (k + 1) rest (a.put o.dst u) (gadd g (slotOf o) u)
    rw [hd, hs]
    exact h u w' (hl.trans hl'.toR) hu
/-- The append itself: one element of one cell, out of a slice that was built in the region. -/
theorem appA_one (t : Nat) {B : Nat} {e ty : TypeId} {z : Value} {bytes : Nat} {v y : Value} {xs : List Value} {ad : Addr} (ht : P.underlying ty = some (.slice e)) (hinfo : (P.info? e).map (fun i => (i.zero, i.size, i.bytes)) = some (some z, 1, bytes)) (hz : z.cells.size = 1)
    (HO : Row W0 B e 1 v xs.length xs) (hρ : v.ownBlock = ρ) (h1 : y.oneCell' = true) (hb0 : 0 < bytes) (hl : (xs.length + 1) * bytes ≤ 140737488355328) (hB : B ≤ W0.heap.size)
    (hk : k = α) (hgd : o.guard = none) (s x : Operand) (ho : o.op = .call { callee := .builtin .append, args := #[s, x], argTypes := #[ty, ty] }) (hs : a.eval s = v) (hx : a.eval x = .slice (some ad) 1 1)
    (hy : ∀ w, Lat W0 w → depsOf K ops o g w → w.cell? ad = some y)
    (hw : Region.wanted o (yielded ops a.tmps) = true) (hd : o.dst = some t) (hm : Know.has t K = true) (hat : ∀ u w, Row w B e 1 u (xs.length + 1) (xs ++ [y]) → (∀ b, u.ownBlock = some b → v.ownBlock = some b ∨ W0.heap.size ≤ b) → Know.at t u w K)
    (h : ∀ v w, LatR ρ W0 w → Know.at t v w K → wpLooseA P ops K α ρ W0 Q (k + 1) rest (a.put (some t) v) (gadd g t v)) : wpLooseA P ops K α ρ W0 Q k (o :: rest) a g := by
  have hsl : slotOf o = t := by rw [slotOf, hd]; rfl
  obtain ⟨i, hi, hz3⟩ := Option.map_eq_some_iff.1 hinfo
  simp only [Prod.mk.injEq] at hz3
  obtain ⟨hz0, hz1, hz2⟩ := hz3
  refine ⟨.loose, ⟨hw, marked_of hd hm, fun w hlw hdp => ?_⟩, fun u w hl _ hu => ?_⟩
  · unfold inA at hlw
    rw [if_pos hk] at hlw
    have hcell : ∀ j u, [y][j]? = some u → w.cell? (ad.add j) = some u := by
      intro j u hj
      cases j with
      | zero =>
        simp only [List.getElem?_cons_zero, Option.some.injEq] at hj
        subst hj
        rw [show ad.add 0 = ad by unfold Addr.add; rfl]
        exact hy w hlw hdp
      | succ j => simp at hj
    have hl1 : xs.length + 1 ≤ 140737488355328 := Nat.le_trans (Nat.le_mul_of_pos_right _ hb0) hl
    obtain ⟨v', w', hr, hrow, hg, hwh⟩ := run_append_rowW (P := P) w B ty ty o.type e (.slice e) ht ht rfl i z 1 bytes hi hz0 hz1 hz2 hz (by omega) v xs.length xs (HO.below hlw) (.slice (some ad) 1 1) 1 [y]
      rfl (fun w => by simp [Builtin.lenOf]) (run_firstCells_some (P := P) w 1 1 ad 1 1 [y] rfl hcell) (run_firstCells_some (P := P) w.drew 1 1 ad 1 1 [y] rfl hcell) (by simpa using h1) (by simp only [maxLen]; omega) hl (Nat.le_trans hB hlw.size)
    unfold execOp
    simp only [ho, resolve, invoke, builtin, Sem.run_bind, Sem.run_pure, Result.andThen_ok, List.map_toArray, List.map_cons, List.map_nil, hs, hx, hr]
    refine ⟨?_, by
      rw [hsl]
      refine hat v' w' hrow fun b hb => ?_
      rcases hwh with hwh | hwh
      · exact .inl (hwh ▸ hb)
      · rw [hwh] at hb
        injection hb with hb
        have := hlw.size
        omega⟩
    unfold stepA; rw [if_pos hk, ← hρ]; exact hg
  · obtain ⟨w', hl', hu⟩ := hu
    rw [hsl] at hu
    show wpLooseA P ops K α ρ W0 Q (k + 1) rest (a.put o.dst u) (gadd g (slotOf o) u)
    rw [hd, hsl]
    exact h u w' (hl.trans hl'.toR) hu
/-- Some row of the form that the append leaves: there is one behind any world. -/
theorem some_row {B : Nat} {e : TypeId} {xs : List Value} (w : World) (hB : B ≤ w.heap.size) (hl : xs.length ≤ maxLen) : ∃ v w', LatR ρ w w' ∧ Row w' B e 1 v xs.length xs ∧ v.ownBlock = some w.heap.size :=
  ⟨_, _, (show Lat w (w.alloc (.cells xs.toArray e)) from (Below.refl _ _).alloc (Nat.le_refl _) _).toR ρ, row_low (Row.of_blk (Blk.new w e xs) xs.length rfl hl) hB, rfl⟩
end
end
end Go.Proofs.YtinlciofhegciaaDoor

/- A drawn region that appends one element to an owned row. -/
namespace Go.Proofs.YtinlciofhegciaaDoor
open Go.RowKit Go.BigFrame
section
variable {P : Program} {N B : Nat} {e : TypeId} {v y : Value} {xs : List Value} {σ τ : Nat}
/-- What is known in a region that appends y to the row v: the slice of one, and the new row. -/
def oneK (N B : Nat) (e : TypeId) (v y : Value) (xs : List Value) (σ τ : Nat) : List (Nat × (Value → World → Prop)) :=
  [(σ, fun u wx => ∃ b, u = .slice (some ⟨b, 0, none⟩) 1 1 ∧ N ≤ b ∧ Blk wx b e [y]), (τ, fun u wx => Row wx B e 1 u (xs.length + 1) (xs ++ [y]) ∧ ∀ b, u.ownBlock = some b → v.ownBlock = some b ∨ N ≤ b)]
theorem oneK_stable : Know.stable (oneK N B e v y xs σ τ) :=
  Know.stable_cons (fun _ _ _ h hl => let ⟨b, h0, h1, h2⟩ := h; ⟨b, h0, h1, h2.below hl h2.lt⟩) (Know.stable_cons (fun _ _ _ h hl => ⟨h.1.below hl, h.2⟩) Know.stable_nil)
theorem oneK_R (hN : ∀ b, v.ownBlock = some b → b < N) : ∀ t u w w', t ≠ τ → Know.at t u w (oneK N B e v y xs σ τ) → LatR v.ownBlock w w' → Know.at t u w' (oneK N B e v y xs σ τ) := by
  intro t u w w' ht ha hl
  unfold oneK Know.at at *
  split
  · rename_i h1
    simp only [h1, if_true] at ha
    obtain ⟨b, h0, hb, h2⟩ := ha
    refine ⟨b, h0, hb, h2.grown hl fun he => ?_⟩
    have := hN b he.symm
    omega
  · rename_i h1
    unfold Know.at
    rw [if_neg ht]
    unfold Know.at
    trivial
theorem region_one {id : Nat} {Q : Exit → Act → World → Prop} {a : Act} {w : World} {l : List Oper} (σ τ α n : Nat) (hστ : σ ≠ τ) (HO : Row w B e 1 v xs.length xs) (y : Value) (hB0 : B ≤ w.heap.size) (hl : xs.length + 1 ≤ 1000)
    (hτ : tauA l.toArray α = τ) (hon : onlyB (oneK w.heap.size B e v y xs σ τ) l α τ = true) (hm : P.follows .mixedOrders = true) (hB : floatB .any l.toArray n = true) (hu : unmarkedB (oneK w.heap.size B e v y xs σ τ) l.toArray = true)
    (h : wpLooseA P l.toArray (oneK w.heap.size B e v y xs σ τ) α v.ownBlock w (fun a' g => ∀ w', LatR v.ownBlock w w' → Known (oneK w.heap.size B e v y xs σ τ) g w' → wpList P l.toArray (NoPanic Q) (l.drop n) a' w') 0 (l.take n) a (fun _ _ => False)) :
    (Code.region id l.toArray true).wp P Q a w := by
  refine region_append (oneK w.heap.size B e v y xs σ τ) α τ v.ownBlock n oneK_stable (oneK_R fun b hb => (HO.block b hb).2) hτ hon ?_ hm hB hu h
  intro w1 hl1
  obtain ⟨u, w2, h1, h2, h3⟩ := some_row (B := B) (e := e) (xs := xs ++ [y]) (ρ := v.ownBlock) w1 (Nat.le_trans hB0 hl1.size) (by rw [List.length_append]; simp only [List.length_cons, List.length_nil, maxLen]; omega)
  refine ⟨u, w2, h1, ?_⟩
  unfold oneK Know.at
  rw [if_neg hστ.symm]
  unfold Know.at
  rw [if_pos rfl]
  refine ⟨by rw [List.length_append] at h2; exact h2, fun b hb => .inr ?_⟩
  rw [h3] at hb
  injection hb with hb
  have := hl1.size
  omega
end
end Go.Proofs.YtinlciofhegciaaDoor

namespace Go.Proofs.YtinlciofhegciaaDoor
open Go.RowKit

theorem runs_add (c : St → List UInt8 → St) (a b : Nat) (l : List UInt8) (h : St) : runs c (a + b) l h = runs c b (l.drop (64 * a)) (runs c a l h) := by
  induction a generalizing l h with
  | zero => simp [runs]
  | succ a ih =>
    rw [show a + 1 + b = (a + b) + 1 by omega, runs, ih, runs, List.drop_drop]
    congr 2; omega
theorem runs_front (c : St → List UInt8 → St) (a : Nat) (l m : List UInt8) (h : St) (hl : 64 * a ≤ l.length) : runs c a (l ++ m) h = runs c a l h := by
  induction a generalizing l h with
  | zero => rfl
  | succ a ih =>
    rw [runs, runs, List.take_append_of_le_length (by omega), List.drop_append_of_le_length (by omega), ih _ _ (by rw [List.length_drop]; omega)]
/-- What is cut into blocks. -/
def padOf (l : List UInt8) : List UInt8 := l ++ [128] ++ List.replicate ((119 - l.length % 64) % 64) 0 ++ be 8 (8 * l.length)
theorem padOf_eq (l : List UInt8) : padOf l = l.take (64 * (l.length / 64)) ++ tailOf l := by
  have hr : (l.drop (64 * (l.length / 64))).length = l.length % 64 := by rw [List.length_drop]; omega
  simp only [tailOf, padOf, hr]
  rw [← List.append_assoc, ← List.append_assoc, ← List.append_assoc, List.take_append_drop]
theorem tailOf_length (l : List UInt8) : (tailOf l).length = l.length % 64 + 1 + (119 - l.length % 64) % 64 + 8 := by
  have hr : (l.drop (64 * (l.length / 64))).length = l.length % 64 := by rw [List.length_drop]; omega
  simp [tailOf, be_length, hr]; omega
theorem padOf_length (l : List UInt8) : (padOf l).length = 64 * (l.length / 64) + (tailOf l).length := by
  rw [padOf_eq, List.length_append, List.length_take]; omega
theorem sha_pad (l : List UInt8) : sha l = outOf (runs comp ((padOf l).length / 64) (padOf l) iv) := by
  have h1 : (padOf l).length / 64 = l.length / 64 + (tailOf l).length / 64 := by rw [padOf_length]; omega
  have h2 : (l.take (64 * (l.length / 64))).length = 64 * (l.length / 64) := by rw [List.length_take]; omega
  have h3 : runs comp (l.length / 64) l iv = runs comp (l.length / 64) (l.take (64 * (l.length / 64))) iv := by
    exact (congrArg (fun x => runs comp (l.length / 64) x iv) (List.take_append_drop (64 * (l.length / 64)) l)).symm.trans (runs_front _ _ _ _ _ (by rw [h2]; exact Nat.le_refl _))
  rw [sha, h1, runs_add, padOf_eq, runs_front _ _ _ _ _ (by rw [h2]; exact Nat.le_refl _), ← h3, List.drop_append, h2, List.drop_of_length_le (by rw [h2]; exact Nat.le_refl _)]
  simp

theorem ch_or (e f g : W32) : e &&& f ||| ~~~e &&& g = e &&& f ^^^ ~~~e &&& g := by
  ext i hi
  simp only [BitVec.getElem_or, BitVec.getElem_and, BitVec.getElem_xor, BitVec.getElem_not]
  cases e[i] <;> cases f[i] <;> cases g[i] <;> rfl
theorem maj_or (a b c : W32) : a &&& b ||| a &&& c ||| b &&& c = a &&& b ^^^ a &&& c ^^^ b &&& c := by
  ext i hi
  simp only [BitVec.getElem_or, BitVec.getElem_and, BitVec.getElem_xor]
  cases a[i] <;> cases b[i] <;> cases c[i] <;> rfl
theorem pword4 (s : List UInt8) (t : Nat) : pword s t 4 = BitVec.ofNat 32 (s.getD (4 * t) 0).toNat <<< 24 ||| BitVec.ofNat 32 (s.getD (4 * t + 1) 0).toNat <<< 16 ||| BitVec.ofNat 32 (s.getD (4 * t + 2) 0).toNat <<< 8 ||| BitVec.ofNat 32 (s.getD (4 * t + 3) 0).toNat := by
  simp only [pword, BitVec.shiftLeft_or_distrib, Nat.add_zero]
  simp [← BitVec.shiftLeft_add]

set_option maxRecDepth 100000 in
set_option maxHeartbeats 400000 in
theorem ks_any (w : World) :
    Calls Tryd.prog 58 #[] w fun e w' => e = .returned (.slice (some ⟨w.heap.size, 0, none⟩) 64 64) ∧ Blk w' w.heap.size 69 (kList.map v32) ∧ Below w.heap.size w w' := by
  go_enter Tryd.func58, Tryd.ntmps58
  go_wp2
  go_ret
  exact ⟨rfl, Blk.of _ _ _ _ (by kernel_rfl), (Below.refl _ _).alloc (Nat.le_refl _) _⟩

end Go.Proofs.YtinlciofhegciaaDoor

namespace Go.Proofs.YtinlciofhegciaaDoor
open Go.RowKit

theorem Tryd.underlying_u32s : Tryd.prog.underlying 95 = some (.slice 69) := by kernel_rfl
theorem Tryd.info_u32 : (Tryd.prog.info? 69).map (fun i => (i.zero, i.size, i.bytes)) = some (some (.int .u32 0), 1, 4) := by kernel_rfl
/-- What the sums' rounds read and leave: h (in place), K, the padded text. -/
structure Bs (x : World) (b0 g : Nat) (h : St) (p : List UInt8) : Prop where
  h : Blk x b0 69 h.cells
  k : Blk x (b0 + 1) 69 (kList.map v32)
  p : ∀ j, j < p.length → x.cell? ⟨g, j, none⟩ = some (.int .u8 ((p.getD j 0).toNat : Int))
theorem Bs.below {x y : World} {b0 g : Nat} {h : St} {p : List UInt8} (hb : Bs x b0 g h p) (hg : g < x.heap.size) (hy : Below x.heap.size x y) : Bs y b0 g h p :=
  ⟨hb.h.below hy hb.h.lt, hb.k.below hy hb.k.lt, fun j hj => (hy.cell (p := ⟨g, j, none⟩) hg).trans (hb.p j hj)⟩

/-- What a round of the reference's sums reads. -/
structure Rf (x : World) (V W kb : Nat) (w0 : World) (v : St) (l : List UInt8) : Prop where
  st : Blk x V 98 v.cells
  ws : Blk x W 69 (wArr l 64)
  ks : Blk x kb 69 (kList.map v32)
  below : Below V w0 x
theorem Rf.drewN {x : World} {V W kb : Nat} {w0 : World} {v : St} {l : List UInt8} (h : Rf x V W kb w0 v l) (n : Nat) : Rf (x.drewN n) V W kb w0 v l := ⟨h.st, h.ws, h.ks, below_drewN h.below n⟩
theorem Rf.cells {x : World} {V W kb : Nat} {w0 : World} {v : St} {l : List UInt8} (h : Rf x V W kb w0 v l) :
    x.cell? ⟨V, 0, none⟩ = some (v32 v.a) ∧ x.cell? ⟨V, 1, none⟩ = some (v32 v.b) ∧ x.cell? ⟨V, 2, none⟩ = some (v32 v.c) ∧ x.cell? ⟨V, 3, none⟩ = some (v32 v.d) ∧ x.cell? ⟨V, 4, none⟩ = some (v32 v.e) ∧ x.cell? ⟨V, 5, none⟩ = some (v32 v.f) ∧ x.cell? ⟨V, 6, none⟩ = some (v32 v.g) ∧ x.cell? ⟨V, 7, none⟩ = some (v32 v.h) :=
  ⟨h.st.cell 0, h.st.cell 1, h.st.cell 2, h.st.cell 3, h.st.cell 4, h.st.cell 5, h.st.cell 6, h.st.cell 7⟩
theorem Rf.word {x : World} {V W kb : Nat} {w0 : World} {v : St} {l : List UInt8} (h : Rf x V W kb w0 v l) (t : Nat) (ht : t < 64) : x.cell? ⟨W, t, none⟩ = some (v32 ((sch l 64).getD t 0)) := by
  rw [h.ws.cell, wArr_get l 64 t ht]
theorem Rf.put {x : World} {V W kb : Nat} {w0 : World} {v : St} {l : List UInt8} (h : Rf x V W kb w0 v l) (hW : W ≠ V) (hk : kb ≠ V) (n : St) :
    Rf ((((((((x.setCell ⟨V, 0, none⟩ (v32 n.a)).setCell ⟨V, 1, none⟩ (v32 n.b)).setCell ⟨V, 2, none⟩ (v32 n.c)).setCell ⟨V, 3, none⟩ (v32 n.d)).setCell ⟨V, 4, none⟩ (v32 n.e)).setCell ⟨V, 5, none⟩ (v32 n.f)).setCell ⟨V, 6, none⟩ (v32 n.g)).setCell ⟨V, 7, none⟩ (v32 n.h)) V W kb w0 n l :=
  ⟨(((((((h.st.set 0 _).set 1 _).set 2 _).set 3 _).set 4 _).set 5 _).set 6 _).set 7 _,
   (((((((h.ws.other hW _).other hW _).other hW _).other hW _).other hW _).other hW _).other hW _).other hW _,
   (((((((h.ks.other hk _).other hk _).other hk _).other hk _).other hk _).other hk _).other hk _).other hk _,
   below_set (below_set (below_set (below_set (below_set (below_set (below_set (below_set h.below (Nat.le_refl _) _ _) (Nat.le_refl _) _ _) (Nat.le_refl _) _ _) (Nat.le_refl _) _ _) (Nat.le_refl _) _ _) (Nat.le_refl _) _ _) (Nat.le_refl _) _ _) (Nat.le_refl _) _ _⟩
theorem kmap_get (t : Nat) (ht : t < 64) : (kList.map v32)[t]? = some (v32 (kList.getD t 0)) := by
  have : t < kList.length := by rw [kList_length]; exact ht
  simp [List.getD_eq_getElem?_getD, this]
theorem Rf.k {x : World} {V W kb : Nat} {w0 : World} {v : St} {l : List UInt8} (h : Rf x V W kb w0 v l) (t : Nat) (ht : t < 64) : x.cell? ⟨kb, t, none⟩ = some (v32 (kList.getD t 0)) := by
  rw [h.ks.cell, kmap_get t ht]


noncomputable def refBlocks : Code := nthLoop (Tryd.f46.body.getD .skip) 1
noncomputable def refSched : Code := nthLoop refBlocks 0
noncomputable def refRounds : Code := nthLoop refBlocks 1
noncomputable def refAdd : Code := nthLoop refBlocks 2
noncomputable def refOut : Code := nthLoop (Tryd.f46.body.getD .skip) 2
set_option maxRecDepth 1000000 in
set_option maxHeartbeats 4000000 in
theorem sched_loop (g cap j : Nat) (z : Int) (p q : List UInt8) (wo w0 : World) (Q : Exit → Act → World → Prop) (hz : z = ((64 * j : Nat) : Int)) (hgo : g < wo.heap.size) (hpl : p.length ≤ 1099511628000) (hj : 64 * j + 64 ≤ p.length)
    (hp : ∀ i, i < p.length → wo.cell? ⟨g, i, none⟩ = some (.int .u8 ((p.getD i 0).toNat : Int))) (hqget : ∀ i, i < 64 → q.getD i 0 = p.getD (64 * j + i) 0)
    (hA0 : Blk w0 wo.heap.size 69 (wArr q 0)) (hB0 : Below wo.heap.size wo w0) (x0 x1 x2 x3 x4 x9 x10 x11 x12 x13 x14 x15 x16 x17 x18 x19 x20 x21 x22 x23 x24 x25 x26 x27 x28 x29 x30 x31 x32 x33 x34 x35 x36 x37 x38 x39 x40 x41 x42 x43 x44 x45 x46 x47 x48 x49 x50 x51 x52 x53 x54 x55 x56 x57 x58 x59 x60 x61 x62 x63 x64 x65 x66 x67 x68 x69 x70 x71 x72 x73 x74 x75 x76 x77 x78 x79 x80 x81 x82 x83 x84 x85 x86 x87 x88 x89 x90 x91 x92 x93 x94 x95 x96 x97 x98 x99 x100 x101 x102 x103 x104 x105 x106 x107 x108 x109 x110 x111 x112 x113 x114 x115 x116 x117 x118 x119 x120 x121 x122 x123 x124 x125 x126 x127 x128 x129 x130 x131 x132 x133 x134 x135 x136 x137 x138 x139 x140 x141 x142 x143 x144 x145 x146 x147 x148 x149 x150 x151 x152 x153 x154 x155 x156 x157 x158 x159 x160 x161 x162 x163 x164 x165 x166 x167 x168 x169 x170 x171 x172 x173 x174 x175 x176 x177 x178 x179 x180 x181 x182 x183 x184 x185 x186 x187 x188 x189 x190 x191 x192 x193 x194 x195 x196 x197 x198 x199 x200 x201 x202 x203 x204 x205 x206 x207 x208 x209 x210 x211 x212 x213 x214 x215 x216 x217 x218 x219 x220 x221 x222 x223 x224 x225 x226 x227 x228 x229 x230 x231 x232 x233 x234 x235 x236 x237 x238 x239 x240 x241 x242 x243 x244 x245 x246 x247 x248 x249 x250 x251 x252 x253 x254 x255 x256 x257 x258 x259 x260 x261 x262 x263 x264 x265 x266 x267 : Value)
    (hexit : ∀ (u8 u9 u10 u11 u47 u48 u49 u50 u51 u52 u53 u54 u55 u56 u57 u58 u59 u60 u61 u62 u63 u64 u65 u66 u67 u68 u69 u70 u71 u72 u73 u74 u75 u76 u77 u78 u79 u80 u81 u82 u83 u84 u85 u86 u87 u88 u89 u90 u91 u92 u93 u94 u95 u96 u97 u98 u99 u100 u101 u102 u103 u104 u105 u106 u107 u108 u109 u110 u111 u112 u113 u114 u115 u116 u117 u118 u119 u120 u121 u122 u123 u124 u125 u126 u127 u128 u129 u130 : Value) (w' : World), Blk w' wo.heap.size 69 (wArr q 64) → Below wo.heap.size wo w' → Q (.exit 4) ⟨List.toArray (x0 :: x1 :: x2 :: x3 :: x4 :: .slice (some ⟨g, 0, none⟩) p.length cap :: .int .i64 z :: .slice (some ⟨wo.heap.size, 0, none⟩) 64 64 :: u8 :: u9 :: u10 :: u11 :: x12 :: x13 :: x14 :: x15 :: x16 :: x17 :: x18 :: x19 :: x20 :: x21 :: x22 :: x23 :: x24 :: x25 :: x26 :: x27 :: x28 :: x29 :: x30 :: x31 :: x32 :: x33 :: x34 :: x35 :: x36 :: x37 :: x38 :: x39 :: x40 :: x41 :: x42 :: x43 :: x44 :: x45 :: x46 :: u47 :: u48 :: u49 :: u50 :: u51 :: u52 :: u53 :: u54 :: u55 :: u56 :: u57 :: u58 :: u59 :: u60 :: u61 :: u62 :: u63 :: u64 :: u65 :: u66 :: u67 :: u68 :: u69 :: u70 :: u71 :: u72 :: u73 :: u74 :: u75 :: u76 :: u77 :: u78 :: u79 :: u80 :: u81 :: u82 :: u83 :: u84 :: u85 :: u86 :: u87 :: u88 :: u89 :: u90 :: u91 :: u92 :: u93 :: u94 :: u95 :: u96 :: u97 :: u98 :: u99 :: u100 :: u101 :: u102 :: u103 :: u104 :: u105 :: u106 :: u107 :: u108 :: u109 :: u110 :: u111 :: u112 :: u113 :: u114 :: u115 :: u116 :: u117 :: u118 :: u119 :: u120 :: u121 :: u122 :: u123 :: u124 :: u125 :: u126 :: u127 :: u128 :: u129 :: u130 :: x131 :: x132 :: x133 :: x134 :: x135 :: x136 :: x137 :: x138 :: x139 :: x140 :: x141 :: x142 :: x143 :: x144 :: x145 :: x146 :: x147 :: x148 :: x149 :: x150 :: x151 :: x152 :: x153 :: x154 :: x155 :: x156 :: x157 :: x158 :: x159 :: x160 :: x161 :: x162 :: x163 :: x164 :: x165 :: x166 :: x167 :: x168 :: x169 :: x170 :: x171 :: x172 :: x173 :: x174 :: x175 :: x176 :: x177 :: x178 :: x179 :: x180 :: x181 :: x182 :: x183 :: x184 :: x185 :: x186 :: x187 :: x188 :: x189 :: x190 :: x191 :: x192 :: x193 :: x194 :: x195 :: x196 :: x197 :: x198 :: x199 :: x200 :: x201 :: x202 :: x203 :: x204 :: x205 :: x206 :: x207 :: x208 :: x209 :: x210 :: x211 :: x212 :: x213 :: x214 :: x215 :: x216 :: x217 :: x218 :: x219 :: x220 :: x221 :: x222 :: x223 :: x224 :: x225 :: x226 :: x227 :: x228 :: x229 :: x230 :: x231 :: x232 :: x233 :: x234 :: x235 :: x236 :: x237 :: x238 :: x239 :: x240 :: x241 :: x242 :: x243 :: x244 :: x245 :: x246 :: x247 :: x248 :: x249 :: x250 :: x251 :: x252 :: x253 :: x254 :: x255 :: x256 :: x257 :: x258 :: x259 :: x260 :: x261 :: x262 :: x263 :: x264 :: x265 :: x266 :: x267 :: []), []⟩ w') :
    (Code.loop refSched).wp Tryd.prog Q ⟨List.toArray (x0 :: x1 :: x2 :: x3 :: x4 :: .slice (some ⟨g, 0, none⟩) p.length cap :: .int .i64 z :: .slice (some ⟨wo.heap.size, 0, none⟩) 64 64 :: .int .i64 0 :: x9 :: x10 :: x11 :: x12 :: x13 :: x14 :: x15 :: x16 :: x17 :: x18 :: x19 :: x20 :: x21 :: x22 :: x23 :: x24 :: x25 :: x26 :: x27 :: x28 :: x29 :: x30 :: x31 :: x32 :: x33 :: x34 :: x35 :: x36 :: x37 :: x38 :: x39 :: x40 :: x41 :: x42 :: x43 :: x44 :: x45 :: x46 :: x47 :: x48 :: x49 :: x50 :: x51 :: x52 :: x53 :: x54 :: x55 :: x56 :: x57 :: x58 :: x59 :: x60 :: x61 :: x62 :: x63 :: x64 :: x65 :: x66 :: x67 :: x68 :: x69 :: x70 :: x71 :: x72 :: x73 :: x74 :: x75 :: x76 :: x77 :: x78 :: x79 :: x80 :: x81 :: x82 :: x83 :: x84 :: x85 :: x86 :: x87 :: x88 :: x89 :: x90 :: x91 :: x92 :: x93 :: x94 :: x95 :: x96 :: x97 :: x98 :: x99 :: x100 :: x101 :: x102 :: x103 :: x104 :: x105 :: x106 :: x107 :: x108 :: x109 :: x110 :: x111 :: x112 :: x113 :: x114 :: x115 :: x116 :: x117 :: x118 :: x119 :: x120 :: x121 :: x122 :: x123 :: x124 :: x125 :: x126 :: x127 :: x128 :: x129 :: x130 :: x131 :: x132 :: x133 :: x134 :: x135 :: x136 :: x137 :: x138 :: x139 :: x140 :: x141 :: x142 :: x143 :: x144 :: x145 :: x146 :: x147 :: x148 :: x149 :: x150 :: x151 :: x152 :: x153 :: x154 :: x155 :: x156 :: x157 :: x158 :: x159 :: x160 :: x161 :: x162 :: x163 :: x164 :: x165 :: x166 :: x167 :: x168 :: x169 :: x170 :: x171 :: x172 :: x173 :: x174 :: x175 :: x176 :: x177 :: x178 :: x179 :: x180 :: x181 :: x182 :: x183 :: x184 :: x185 :: x186 :: x187 :: x188 :: x189 :: x190 :: x191 :: x192 :: x193 :: x194 :: x195 :: x196 :: x197 :: x198 :: x199 :: x200 :: x201 :: x202 :: x203 :: x204 :: x205 :: x206 :: x207 :: x208 :: x209 :: x210 :: x211 :: x212 :: x213 :: x214 :: x215 :: x216 :: x217 :: x218 :: x219 :: x220 :: x221 :: x222 :: x223 :: x224 :: x225 :: x226 :: x227 :: x228 :: x229 :: x230 :: x231 :: x232 :: x233 :: x234 :: x235 :: x236 :: x237 :: x238 :: x239 :: x240 :: x241 :: x242 :: x243 :: x244 :: x245 :: x246 :: x247 :: x248 :: x249 :: x250 :: x251 :: x252 :: x253 :: x254 :: x255 :: x256 :: x257 :: x258 :: x259 :: x260 :: x261 :: x262 :: x263 :: x264 :: x265 :: x266 :: x267 :: []), []⟩ w0 := by
  have Hexit := Lib.hid hexit
  have Hz := Lib.hid hz
  have Hp := Lib.hid hp
  have Hqget := Lib.hid hqget
  have HA0 := Lib.hid hA0
  have HB0 := Lib.hid hB0
  have hz0 : 0 ≤ z := by omega
  have hz1 : z ≤ 1099511628000 := by omega
  clear hexit hz hp hqget hA0 hB0
  conv => arg 2; arg 1; whnf
  go_loopw [8] (fun y wr => ∃ t : Nat, t ≤ 64 ∧ y = .int .i64 (t : Int) ∧ Blk wr wo.heap.size 69 (wArr q t) ∧ Below wo.heap.size wo wr) (fun y _ => (64 - intOf y).toNat)
  case atStart => exact ⟨0, by omega, rfl, HA0.out, HB0.out⟩
  case round =>
    obtain ⟨wt, rfl⟩ : ∃ wt : World, wt = wr := ⟨_, rfl⟩
    obtain ⟨t, ht, rfl, hA, hB⟩ := hrel
    have HA := Lib.hid hA
    have HB := Lib.hid hB
    clear hA hB HA0 HB0
    by_cases h64 : t < 64
    · have b64 : decide ((t : Int) < 64) = true := decide_eq_true (by omega)
      have c64 : (t : Int) < 64 := by omega
      have hz := wArr_zero q t h64
      have g0 : wt.cell? ⟨wo.heap.size, t, none⟩ = some (v32 0) := by rw [HA.out.cell, hz]
      have hfr := HA.out.frozen t
      by_cases h16 : t < 16
      · skip
        have hpt : ∀ i, i < p.length → wt.cell? ⟨g, i, none⟩ = some (.int .u8 ((p.getD i 0).toNat : Int)) := fun i hi => (HB.out.cell (p := ⟨g, i, none⟩) hgo).trans (Hp.out i hi)
        have b16 : decide ((t : Int) < 16) = true := decide_eq_true (by omega)
        obtain ⟨i0, hi0⟩ : ∃ i : Nat, i = 64 * j + 4 * t := ⟨_, rfl⟩
        have hip : i0 + 3 < p.length := by omega
        have e0 : wt.cell? ⟨g, i0, none⟩ = some (.int .u8 ((q.getD (4 * t) 0).toNat : Int)) := by
          rw [hpt i0 (by omega), Hqget.out (4 * t) (by omega), hi0]
        have e1 : wt.cell? ⟨g, i0 + 1, none⟩ = some (.int .u8 ((q.getD (4 * t + 1) 0).toNat : Int)) := by
          rw [hpt (i0 + 1) (by omega), Hqget.out (4 * t + 1) (by omega), hi0]; rfl
        have e2 : wt.cell? ⟨g, i0 + 2, none⟩ = some (.int .u8 ((q.getD (4 * t + 2) 0).toNat : Int)) := by
          rw [hpt (i0 + 2) (by omega), Hqget.out (4 * t + 2) (by omega), hi0]; rfl
        have e3 : wt.cell? ⟨g, i0 + 3, none⟩ = some (.int .u8 ((q.getD (4 * t + 3) 0).toNat : Int)) := by
          rw [hpt (i0 + 3) (by omega), Hqget.out (4 * t + 3) (by omega), hi0]; rfl
        have hset := HA.out.set t (v32 (wnext q t (sch q t)))
        rw [wArr_succ q t h64, show wnext q t (sch q t) = pword q t 4 by simp [wnext, h16], pword4] at hset
        generalize (q.getD (4 * t) 0).toNat = c0 at *
        generalize (q.getD (4 * t + 1) 0).toNat = c1 at *
        generalize (q.getD (4 * t + 2) 0).toNat = c2 at *
        generalize (q.getD (4 * t + 3) 0).toNat = c3 at *
        have Hset := Lib.hid hset
        have hrw : z + 4 * (t : Int) = (i0 : Int) := by have := Hz.out; omega
        have q1 : IntKind.i64.wrap ((i0 : Int) + 1) = (i0 : Int) + 1 := IntWalk.i64_in _ (by omega)
        have q2 : IntKind.i64.wrap ((i0 : Int) + 2) = (i0 : Int) + 2 := IntWalk.i64_in _ (by omega)
        have q3 : IntKind.i64.wrap ((i0 : Int) + 3) = (i0 : Int) + 3 := IntWalk.i64_in _ (by omega)
        have n1 : ((i0 : Int) + 1).toNat = i0 + 1 := by omega
        have n2 : ((i0 : Int) + 2).toNat = i0 + 2 := by omega
        have n3 : ((i0 : Int) + 3).toNat = i0 + 3 := by omega
        have k0 : (i0 : Int) < (p.length : Int) := by omega
        have k1 : (i0 : Int) + 1 < (p.length : Int) := by omega
        have k2 : (i0 : Int) + 2 < (p.length : Int) := by omega
        have k3 : (i0 : Int) + 3 < (p.length : Int) := by omega
        have j1 : (0 : Int) ≤ (i0 : Int) + 1 := by omega
        have j2 : (0 : Int) ≤ (i0 : Int) + 2 := by omega
        have j3 : (0 : Int) ≤ (i0 : Int) + 3 := by omega
        have rc := w32_wrap
        have r8 := w32_shl8
        have r16 := w32_shl16
        have r24 := w32_shl24
        have ro := w32_or
        clear hpt hset hz hi0
        go_wp2_with fail
        refine wp_region_still_tail 32 Tryd.mixed (by kernel_rfl) ?_
        simp only [List.take_succ_cons, List.take_zero, List.drop_succ_cons, List.drop_zero]
        repeat still_step
        refine wpStill_nil ?_
        clear rc r8 r16 r24 ro q1 q2 q3 n1 n2 n3 e0 e1 e2 e3
        go_wp2_with fail
        go_roundw
        case rel => exact ⟨t + 1, by omega, by go_num, Hset.out, below_set_drew HB.out (Nat.le_refl _) _ _⟩
        case measure => simp [intOf]; omega
      · skip
        have b16 : decide ((t : Int) < 16) = false := decide_eq_false (by omega)
        have hg : ∀ i, i < t → wt.cell? ⟨wo.heap.size, i, none⟩ = some (v32 ((sch q t).getD i 0)) := fun i hi => by rw [HA.out.cell, wArr_get q t i hi]
        have g15 := hg (t - 15) (by omega)
        have g2 := hg (t - 2) (by omega)
        have g16 := hg (t - 16) (by omega)
        have g7 := hg (t - 7) (by omega)
        obtain ⟨x15, e15⟩ : ∃ x, x = (sch q t).getD (t - 15) 0 := ⟨_, rfl⟩
        obtain ⟨x2, e2⟩ : ∃ x, x = (sch q t).getD (t - 2) 0 := ⟨_, rfl⟩
        obtain ⟨x16, e16⟩ : ∃ x, x = (sch q t).getD (t - 16) 0 := ⟨_, rfl⟩
        obtain ⟨x7, e7⟩ : ∃ x, x = (sch q t).getD (t - 7) 0 := ⟨_, rfl⟩
        have hval : wnext q t (sch q t) = x16 + (x15.rotateRight 7 ^^^ x15.rotateRight 18 ^^^ x15 >>> 3) + x7 + (x2.rotateRight 17 ^^^ x2.rotateRight 19 ^^^ x2 >>> 10) := by
          rw [e15, e2, e16, e7]; simp [wnext, h16, sg0, sg1]
        rw [← e15] at g15
        rw [← e2] at g2
        rw [← e16] at g16
        rw [← e7] at g7
        have Hval := Lib.hid hval
        have u15 : ((t : Int) - 15).toNat = t - 15 := by omega
        have u2 : ((t : Int) - 2).toNat = t - 2 := by omega
        have u16 : ((t : Int) - 16).toNat = t - 16 := by omega
        have u7 : ((t : Int) - 7).toNat = t - 7 := by omega
        have q16 : IntKind.i64.wrap ((t : Int) - 16) = (t : Int) - 16 := IntWalk.i64_in _ (by omega)
        have q7 : IntKind.i64.wrap ((t : Int) - 7) = (t : Int) - 7 := IntWalk.i64_in _ (by omega)
        have d16 : (16 : Int) ≤ (t : Int) := by omega
        have d7 : (7 : Int) ≤ (t : Int) := by omega
        have k16 : (t : Int) - 16 < 64 := by omega
        have k7 : (t : Int) - 7 < 64 := by omega
        have j16 : 0 ≤ (t : Int) - 16 := by omega
        have j7 : 0 ≤ (t : Int) - 7 := by omega
        have rx := w32_xor
        have ra := w32_add
        have r3 := w32_shr3
        have r10 := w32_shr10
        clear hg hval e15 e2 e16 e7 hz
        go_wp2_with fail
        refine region_quiet_tail (fun w' => ∃ n, w' = wt.drewN n) 32 Tryd.mixed (by kernel_rfl) ⟨1, rfl⟩ ?_
        simp only [List.take_succ_cons, List.take_zero, List.drop_succ_cons, List.drop_zero]
        repeat (quiet_step (fail))
        quiet_step ((exact Calls.quiet_of (rturn_any 7 _ _ rfl _ (by omega) (by omega))))
        repeat (quiet_step (fail))
        quiet_step ((exact Calls.quiet_of (rturn_any 18 _ _ rfl _ (by omega) (by omega))))
        repeat (quiet_step (fail))
        quiet_step ((exact Calls.quiet_of (rturn_any 17 _ _ rfl _ (by omega) (by omega))))
        repeat (quiet_step (fail))
        quiet_step ((exact Calls.quiet_of (rturn_any 19 _ _ rfl _ (by omega) (by omega))))
        repeat (quiet_step (fail))
        refine wpQuiet_nil ?_
        rintro w' ⟨nq, rfl⟩
        have hset' := ((HA.out.drewN nq).set t (v32 (wnext q t (sch q t))))
        rw [wArr_succ q t h64, Hval.out] at hset'
        have hb' : Below wo.heap.size wo (wt.drewN nq) := below_drewN HB.out nq
        have g0' : (wt.drewN nq).cell? ⟨wo.heap.size, t, none⟩ = some (v32 0) := g0
        have hfr' : (wt.drewN nq).frozen? ⟨wo.heap.size, t, none⟩ = false := hfr
        have Hset' := Lib.hid hset'
        have Hb' := Lib.hid hb'
        clear g16 g7 g0 hfr HA HB g15 g2 hset' hb' rx ra r3 r10 q16 q7
        generalize wt.drewN nq = wq at *
        go_wp2_with fail
        go_roundw
        case rel => exact ⟨t + 1, by omega, by go_num, Hset'.out, below_set Hb'.out (Nat.le_refl _) _ _⟩
        case measure => simp [intOf]; omega
    · have b64 : decide ((t : Int) < 64) = false := decide_eq_false (by omega)
      have hA : Blk wt wo.heap.size 69 (wArr q 64) := by rw [← show t = 64 from by omega]; exact HA.out
      go_wp2_with fail
      exact Hexit.out _ _ _ _ _ _ _ _ _ _ _ _ _ _ _ _ _ _ _ _ _ _ _ _ _ _ _ _ _ _ _ _ _ _ _ _ _ _ _ _ _ _ _ _ _ _ _ _ _ _ _ _ _ _ _ _ _ _ _ _ _ _ _ _ _ _ _ _ _ _ _ _ _ _ _ _ _ _ _ _ _ _ _ _ _ _ _ _ _ hA HB.out

end Go.Proofs.YtinlciofhegciaaDoor

namespace Go.Proofs.YtinlciofhegciaaDoor
open Go.RowKit
set_option maxRecDepth 1000000 in
set_option maxHeartbeats 4000000 in
theorem rounds_loop (V W kb : Nat) (wb w0 : World) (R : St) (q : List UInt8) (Q : Exit → Act → World → Prop) (hWV : W ≠ V) (hkV : kb ≠ V) (h0 : Rf w0 V W kb wb R q) (x0 x1 x2 x3 x5 x6 x8 x9 x10 x11 x14 x15 x16 x17 x18 x19 x20 x21 x22 x23 x24 x25 x26 x27 x28 x29 x30 x31 x32 x33 x34 x35 x36 x37 x38 x39 x40 x41 x42 x43 x44 x45 x46 x47 x48 x49 x50 x51 x52 x53 x54 x55 x56 x57 x58 x59 x60 x61 x62 x63 x64 x65 x66 x67 x68 x69 x70 x71 x72 x73 x74 x75 x76 x77 x78 x79 x80 x81 x82 x83 x84 x85 x86 x87 x88 x89 x90 x91 x92 x93 x94 x95 x96 x97 x98 x99 x100 x101 x102 x103 x104 x105 x106 x107 x108 x109 x110 x111 x112 x113 x114 x115 x116 x117 x118 x119 x120 x121 x122 x123 x124 x125 x126 x127 x128 x129 x130 x131 x132 x133 x134 x135 x136 x137 x138 x139 x140 x141 x142 x143 x144 x145 x146 x147 x148 x149 x150 x151 x152 x153 x154 x155 x156 x157 x158 x159 x160 x161 x162 x163 x164 x165 x166 x167 x168 x169 x170 x171 x172 x173 x174 x175 x176 x177 x178 x179 x180 x181 x182 x183 x184 x185 x186 x187 x188 x189 x190 x191 x192 x193 x194 x195 x196 x197 x198 x199 x200 x201 x202 x203 x204 x205 x206 x207 x208 x209 x210 x211 x212 x213 x214 x215 x216 x217 x218 x219 x220 x221 x222 x223 x224 x225 x226 x227 x228 x229 x230 x231 x232 x233 x234 x235 x236 x237 x238 x239 x240 x241 x242 x243 x244 x245 x246 x247 x248 x249 x250 x251 x252 x253 x254 x255 x256 x257 x258 x259 x260 x261 x262 x263 x264 x265 x266 x267 : Value)
    (hexit : ∀ (u13 u14 u15 u16 u17 u156 u157 u158 u159 u160 u161 u162 u163 u164 u165 u166 u167 u168 u169 u170 u171 u172 u173 u174 u175 u176 u177 u178 u179 u180 u181 u182 u183 u184 u185 u186 u187 u188 u189 u190 u191 u192 u193 u194 u195 u196 u197 u198 u199 u200 u201 u202 u203 u204 u205 u206 u207 u208 u209 u210 u211 u212 u213 u214 u215 u216 u217 u218 u219 u220 u221 u222 u223 u224 u225 u226 u227 u228 u229 u230 u231 u232 u233 u234 u235 u236 u237 u238 u239 : Value) (w' : World), Rf w' V W kb wb (rnds (sch q 64) R 64) q → Q (.exit 6) ⟨List.toArray (x0 :: x1 :: x2 :: x3 :: .slice (some ⟨kb, 0, none⟩) 64 64 :: x5 :: x6 :: .slice (some ⟨W, 0, none⟩) 64 64 :: x8 :: x9 :: x10 :: x11 :: .pointer (some ⟨V, 0, none⟩) :: u13 :: u14 :: u15 :: u16 :: u17 :: x18 :: x19 :: x20 :: x21 :: x22 :: x23 :: x24 :: x25 :: x26 :: x27 :: x28 :: x29 :: x30 :: x31 :: x32 :: x33 :: x34 :: x35 :: x36 :: x37 :: x38 :: x39 :: x40 :: x41 :: x42 :: x43 :: x44 :: x45 :: x46 :: x47 :: x48 :: x49 :: x50 :: x51 :: x52 :: x53 :: x54 :: x55 :: x56 :: x57 :: x58 :: x59 :: x60 :: x61 :: x62 :: x63 :: x64 :: x65 :: x66 :: x67 :: x68 :: x69 :: x70 :: x71 :: x72 :: x73 :: x74 :: x75 :: x76 :: x77 :: x78 :: x79 :: x80 :: x81 :: x82 :: x83 :: x84 :: x85 :: x86 :: x87 :: x88 :: x89 :: x90 :: x91 :: x92 :: x93 :: x94 :: x95 :: x96 :: x97 :: x98 :: x99 :: x100 :: x101 :: x102 :: x103 :: x104 :: x105 :: x106 :: x107 :: x108 :: x109 :: x110 :: x111 :: x112 :: x113 :: x114 :: x115 :: x116 :: x117 :: x118 :: x119 :: x120 :: x121 :: x122 :: x123 :: x124 :: x125 :: x126 :: x127 :: x128 :: x129 :: x130 :: x131 :: x132 :: x133 :: x134 :: x135 :: x136 :: x137 :: x138 :: x139 :: x140 :: x141 :: x142 :: x143 :: x144 :: x145 :: x146 :: x147 :: x148 :: x149 :: x150 :: x151 :: x152 :: x153 :: x154 :: x155 :: u156 :: u157 :: u158 :: u159 :: u160 :: u161 :: u162 :: u163 :: u164 :: u165 :: u166 :: u167 :: u168 :: u169 :: u170 :: u171 :: u172 :: u173 :: u174 :: u175 :: u176 :: u177 :: u178 :: u179 :: u180 :: u181 :: u182 :: u183 :: u184 :: u185 :: u186 :: u187 :: u188 :: u189 :: u190 :: u191 :: u192 :: u193 :: u194 :: u195 :: u196 :: u197 :: u198 :: u199 :: u200 :: u201 :: u202 :: u203 :: u204 :: u205 :: u206 :: u207 :: u208 :: u209 :: u210 :: u211 :: u212 :: u213 :: u214 :: u215 :: u216 :: u217 :: u218 :: u219 :: u220 :: u221 :: u222 :: u223 :: u224 :: u225 :: u226 :: u227 :: u228 :: u229 :: u230 :: u231 :: u232 :: u233 :: u234 :: u235 :: u236 :: u237 :: u238 :: u239 :: x240 :: x241 :: x242 :: x243 :: x244 :: x245 :: x246 :: x247 :: x248 :: x249 :: x250 :: x251 :: x252 :: x253 :: x254 :: x255 :: x256 :: x257 :: x258 :: x259 :: x260 :: x261 :: x262 :: x263 :: x264 :: x265 :: x266 :: x267 :: []), []⟩ w') :
    (Code.loop refRounds).wp Tryd.prog Q ⟨List.toArray (x0 :: x1 :: x2 :: x3 :: .slice (some ⟨kb, 0, none⟩) 64 64 :: x5 :: x6 :: .slice (some ⟨W, 0, none⟩) 64 64 :: x8 :: x9 :: x10 :: x11 :: .pointer (some ⟨V, 0, none⟩) :: .int .i64 0 :: x14 :: x15 :: x16 :: x17 :: x18 :: x19 :: x20 :: x21 :: x22 :: x23 :: x24 :: x25 :: x26 :: x27 :: x28 :: x29 :: x30 :: x31 :: x32 :: x33 :: x34 :: x35 :: x36 :: x37 :: x38 :: x39 :: x40 :: x41 :: x42 :: x43 :: x44 :: x45 :: x46 :: x47 :: x48 :: x49 :: x50 :: x51 :: x52 :: x53 :: x54 :: x55 :: x56 :: x57 :: x58 :: x59 :: x60 :: x61 :: x62 :: x63 :: x64 :: x65 :: x66 :: x67 :: x68 :: x69 :: x70 :: x71 :: x72 :: x73 :: x74 :: x75 :: x76 :: x77 :: x78 :: x79 :: x80 :: x81 :: x82 :: x83 :: x84 :: x85 :: x86 :: x87 :: x88 :: x89 :: x90 :: x91 :: x92 :: x93 :: x94 :: x95 :: x96 :: x97 :: x98 :: x99 :: x100 :: x101 :: x102 :: x103 :: x104 :: x105 :: x106 :: x107 :: x108 :: x109 :: x110 :: x111 :: x112 :: x113 :: x114 :: x115 :: x116 :: x117 :: x118 :: x119 :: x120 :: x121 :: x122 :: x123 :: x124 :: x125 :: x126 :: x127 :: x128 :: x129 :: x130 :: x131 :: x132 :: x133 :: x134 :: x135 :: x136 :: x137 :: x138 :: x139 :: x140 :: x141 :: x142 :: x143 :: x144 :: x145 :: x146 :: x147 :: x148 :: x149 :: x150 :: x151 :: x152 :: x153 :: x154 :: x155 :: x156 :: x157 :: x158 :: x159 :: x160 :: x161 :: x162 :: x163 :: x164 :: x165 :: x166 :: x167 :: x168 :: x169 :: x170 :: x171 :: x172 :: x173 :: x174 :: x175 :: x176 :: x177 :: x178 :: x179 :: x180 :: x181 :: x182 :: x183 :: x184 :: x185 :: x186 :: x187 :: x188 :: x189 :: x190 :: x191 :: x192 :: x193 :: x194 :: x195 :: x196 :: x197 :: x198 :: x199 :: x200 :: x201 :: x202 :: x203 :: x204 :: x205 :: x206 :: x207 :: x208 :: x209 :: x210 :: x211 :: x212 :: x213 :: x214 :: x215 :: x216 :: x217 :: x218 :: x219 :: x220 :: x221 :: x222 :: x223 :: x224 :: x225 :: x226 :: x227 :: x228 :: x229 :: x230 :: x231 :: x232 :: x233 :: x234 :: x235 :: x236 :: x237 :: x238 :: x239 :: x240 :: x241 :: x242 :: x243 :: x244 :: x245 :: x246 :: x247 :: x248 :: x249 :: x250 :: x251 :: x252 :: x253 :: x254 :: x255 :: x256 :: x257 :: x258 :: x259 :: x260 :: x261 :: x262 :: x263 :: x264 :: x265 :: x266 :: x267 :: []), []⟩ w0 := by
  have Hexit := Lib.hid hexit
  have H0 := Lib.hid h0
  clear hexit h0
  conv => arg 2; arg 1; whnf
  go_loopw [13] (fun y x => ∃ r : Nat, r ≤ 64 ∧ y = .int .i64 (r : Int) ∧ Rf x V W kb wb (rnds (sch q 64) R r) q) (fun y _ => (64 - intOf y).toNat)
  case atStart => exact ⟨0, by omega, rfl, H0.out⟩
  case round =>
    obtain ⟨x, rfl⟩ : ∃ x : World, x = wr := ⟨_, rfl⟩
    obtain ⟨r, hr, rfl, hRr⟩ := hrel
    clear H0
    by_cases r64 : r < 64
    · skip
      have b64' : decide ((r : Int) < 64) = true := decide_eq_true (by omega)
      have c64' : (r : Int) < 64 := by omega
      obtain ⟨v, hv⟩ : ∃ v, v = rnds (sch q 64) R r := ⟨_, rfl⟩
      rw [← hv] at hRr
      have hnext : rnds (sch q 64) R (r + 1) = rnd v (kList.getD r 0) ((sch q 64).getD r 0) := by rw [hv]; rfl
      have Hnext := Lib.hid hnext
      have HRr := Lib.hid hRr
      clear hv hnext hRr
      obtain ⟨kr, hkr⟩ : ∃ k, k = kList.getD r 0 := ⟨_, rfl⟩
      obtain ⟨wd, hwd⟩ : ∃ k, k = (sch q 64).getD r 0 := ⟨_, rfl⟩
      have Hkr := Lib.hid hkr
      have Hwd := Lib.hid hwd
      clear hkr hwd
      obtain ⟨f0, f1, f2, f3, f4, f5, f6, f7⟩ := HRr.out.cells
      have fw := HRr.out.word r r64
      have fk := HRr.out.k r r64
      rw [← Hkr.out] at fk
      rw [← Hwd.out] at fw
      have rx := w32_xor
      have rn := w32_and
      have rr := w32_or
      have ra := w32_add
      have ro := w32_not
      go_wp2_with fail
      refine wp_region_quiet_lit (by kernel_rfl) (by kernel_rfl) ?_
      repeat (quiet_step (fail))
      quiet_step ((exact Calls.quiet_of (rturn_any 6 _ _ rfl _ (by omega) (by omega))))
      repeat (quiet_step (fail))
      quiet_step ((exact Calls.quiet_of (rturn_any 11 _ _ rfl _ (by omega) (by omega))))
      repeat (quiet_step (fail))
      quiet_step ((exact Calls.quiet_of (rturn_any 25 _ _ rfl _ (by omega) (by omega))))
      repeat (quiet_step (fail))
      refine wpQuiet_nil ?_
      intro _ hw'
      obtain ⟨nq2, hw''⟩ := hw'
      subst hw''
      have HR3 := Lib.hid (HRr.out.drewN nq2)
      clear HRr f0 f1 f2 f3 f4 f5 f6 f7 fk fw
      generalize x.drewN nq2 = x3 at *
      obtain ⟨f0, f1, f2, f3, f4, f5, f6, f7⟩ := HR3.out.cells
      have hone : v.h + (v.e.rotateRight 6 ^^^ v.e.rotateRight 11 ^^^ v.e.rotateRight 25) + (v.e &&& v.f ||| ~~~v.e &&& v.g) + kr + wd = one v kr wd := by rw [ch_or]; rfl
      rw [hone]
      generalize ho1 : one v kr wd = o1 at *
      have Ho1 := Lib.hid ho1
      clear ho1
      go_wp2_with fail
      refine wp_region_quiet_lit (by kernel_rfl) (by kernel_rfl) ?_
      repeat (quiet_step (fail))
      quiet_step ((exact Calls.quiet_of (rturn_any 2 _ _ rfl _ (by omega) (by omega))))
      repeat (quiet_step (fail))
      quiet_step ((exact Calls.quiet_of (rturn_any 13 _ _ rfl _ (by omega) (by omega))))
      repeat (quiet_step (fail))
      quiet_step ((exact Calls.quiet_of (rturn_any 22 _ _ rfl _ (by omega) (by omega))))
      repeat (quiet_step (fail))
      refine wpQuiet_nil ?_
      intro _ hw'
      obtain ⟨nq3, hw''⟩ := hw'
      subst hw''
      have HR4 := Lib.hid (HR3.out.drewN nq3)
      clear HR3 f0 f1 f2 f3 f4 f5 f6 f7
      generalize x3.drewN nq3 = x4 at *
      obtain ⟨f0, f1, f2, f3, f4, f5, f6, f7⟩ := HR4.out.cells
      have z0 := HR4.out.st.frozen
      have htwo : (v.a.rotateRight 2 ^^^ v.a.rotateRight 13 ^^^ v.a.rotateRight 22) + (v.a &&& v.b ||| v.a &&& v.c ||| v.b &&& v.c) = two v := by rw [maj_or]; rfl
      rw [htwo]
      generalize ho2 : two v = o2 at *
      have Ho2 := Lib.hid ho2
      clear ho2
      have hrn : rnds (sch q 64) R (r + 1) = ⟨o1 + o2, v.a, v.b, v.c, v.d + o1, v.e, v.f, v.g⟩ := by
        rw [Hnext.out, ← Hkr.out, ← Hwd.out, rnd, Ho1.out, Ho2.out]
      have Hrn := Lib.hid hrn
      clear hrn
      have hput := HR4.out.put hWV hkV ⟨o1 + o2, v.a, v.b, v.c, v.d + o1, v.e, v.f, v.g⟩
      have Hput := Lib.hid hput
      clear hput
      go_wp2_with fail
      go_roundw
      case rel => exact ⟨r + 1, by omega, by go_num, by rw [Hrn.out]; exact Hput.out⟩
      case measure => simp [intOf]; omega
    · skip
      have hr64 : r = 64 := by omega
      rw [hr64] at hRr
      have HRr := Lib.hid hRr
      have b64' : decide ((r : Int) < 64) = false := decide_eq_false (by omega)
      clear hr64 hRr
      go_wp2_with fail
      exact Hexit.out _ _ _ _ _ _ _ _ _ _ _ _ _ _ _ _ _ _ _ _ _ _ _ _ _ _ _ _ _ _ _ _ _ _ _ _ _ _ _ _ _ _ _ _ _ _ _ _ _ _ _ _ _ _ _ _ _ _ _ _ _ _ _ _ _ _ _ _ _ _ _ _ _ _ _ _ _ _ _ _ _ _ _ _ _ _ _ _ _ _ HRr.out

end Go.Proofs.YtinlciofhegciaaDoor

namespace Go.Proofs.YtinlciofhegciaaDoor
open Go.RowKit
set_option maxRecDepth 1000000 in
set_option maxHeartbeats 4000000 in
theorem add_loop (hb V : Nat) (x : World) (R v : St) (Q : Exit → Act → World → Prop) (hne : V ≠ hb) (hH : Blk x hb 69 R.cells) (hV : Blk x V 98 v.cells) (x0 x1 x2 x4 x5 x6 x7 x8 x9 x10 x11 x13 x14 x15 x16 x17 x19 x20 x21 x22 x23 x24 x25 x26 x27 x28 x29 x30 x31 x32 x33 x34 x35 x36 x37 x38 x39 x40 x41 x42 x43 x44 x45 x46 x47 x48 x49 x50 x51 x52 x53 x54 x55 x56 x57 x58 x59 x60 x61 x62 x63 x64 x65 x66 x67 x68 x69 x70 x71 x72 x73 x74 x75 x76 x77 x78 x79 x80 x81 x82 x83 x84 x85 x86 x87 x88 x89 x90 x91 x92 x93 x94 x95 x96 x97 x98 x99 x100 x101 x102 x103 x104 x105 x106 x107 x108 x109 x110 x111 x112 x113 x114 x115 x116 x117 x118 x119 x120 x121 x122 x123 x124 x125 x126 x127 x128 x129 x130 x131 x132 x133 x134 x135 x136 x137 x138 x139 x140 x141 x142 x143 x144 x145 x146 x147 x148 x149 x150 x151 x152 x153 x154 x155 x156 x157 x158 x159 x160 x161 x162 x163 x164 x165 x166 x167 x168 x169 x170 x171 x172 x173 x174 x175 x176 x177 x178 x179 x180 x181 x182 x183 x184 x185 x186 x187 x188 x189 x190 x191 x192 x193 x194 x195 x196 x197 x198 x199 x200 x201 x202 x203 x204 x205 x206 x207 x208 x209 x210 x211 x212 x213 x214 x215 x216 x217 x218 x219 x220 x221 x222 x223 x224 x225 x226 x227 x228 x229 x230 x231 x232 x233 x234 x235 x236 x237 x238 x239 x240 x241 x242 x243 x244 x245 x246 x247 x248 x249 x250 x251 x252 x253 x254 x255 x256 x257 x258 x259 x260 x261 x262 x263 x264 x265 x266 x267 : Value)
    (hexit : ∀ (u18 u240 u241 u242 u243 u244 u245 u246 u247 u248 u249 u250 u251 u252 u253 u254 : Value) (y : World), Blk y hb 69 (R.add v).cells → x.grownBy y (some hb) → Q (.exit 8) ⟨List.toArray (x0 :: x1 :: x2 :: .slice (some ⟨hb, 0, none⟩) 8 8 :: x4 :: x5 :: x6 :: x7 :: x8 :: x9 :: x10 :: x11 :: .pointer (some ⟨V, 0, none⟩) :: x13 :: x14 :: x15 :: x16 :: x17 :: u18 :: x19 :: x20 :: x21 :: x22 :: x23 :: x24 :: x25 :: x26 :: x27 :: x28 :: x29 :: x30 :: x31 :: x32 :: x33 :: x34 :: x35 :: x36 :: x37 :: x38 :: x39 :: x40 :: x41 :: x42 :: x43 :: x44 :: x45 :: x46 :: x47 :: x48 :: x49 :: x50 :: x51 :: x52 :: x53 :: x54 :: x55 :: x56 :: x57 :: x58 :: x59 :: x60 :: x61 :: x62 :: x63 :: x64 :: x65 :: x66 :: x67 :: x68 :: x69 :: x70 :: x71 :: x72 :: x73 :: x74 :: x75 :: x76 :: x77 :: x78 :: x79 :: x80 :: x81 :: x82 :: x83 :: x84 :: x85 :: x86 :: x87 :: x88 :: x89 :: x90 :: x91 :: x92 :: x93 :: x94 :: x95 :: x96 :: x97 :: x98 :: x99 :: x100 :: x101 :: x102 :: x103 :: x104 :: x105 :: x106 :: x107 :: x108 :: x109 :: x110 :: x111 :: x112 :: x113 :: x114 :: x115 :: x116 :: x117 :: x118 :: x119 :: x120 :: x121 :: x122 :: x123 :: x124 :: x125 :: x126 :: x127 :: x128 :: x129 :: x130 :: x131 :: x132 :: x133 :: x134 :: x135 :: x136 :: x137 :: x138 :: x139 :: x140 :: x141 :: x142 :: x143 :: x144 :: x145 :: x146 :: x147 :: x148 :: x149 :: x150 :: x151 :: x152 :: x153 :: x154 :: x155 :: x156 :: x157 :: x158 :: x159 :: x160 :: x161 :: x162 :: x163 :: x164 :: x165 :: x166 :: x167 :: x168 :: x169 :: x170 :: x171 :: x172 :: x173 :: x174 :: x175 :: x176 :: x177 :: x178 :: x179 :: x180 :: x181 :: x182 :: x183 :: x184 :: x185 :: x186 :: x187 :: x188 :: x189 :: x190 :: x191 :: x192 :: x193 :: x194 :: x195 :: x196 :: x197 :: x198 :: x199 :: x200 :: x201 :: x202 :: x203 :: x204 :: x205 :: x206 :: x207 :: x208 :: x209 :: x210 :: x211 :: x212 :: x213 :: x214 :: x215 :: x216 :: x217 :: x218 :: x219 :: x220 :: x221 :: x222 :: x223 :: x224 :: x225 :: x226 :: x227 :: x228 :: x229 :: x230 :: x231 :: x232 :: x233 :: x234 :: x235 :: x236 :: x237 :: x238 :: x239 :: u240 :: u241 :: u242 :: u243 :: u244 :: u245 :: u246 :: u247 :: u248 :: u249 :: u250 :: u251 :: u252 :: u253 :: u254 :: x255 :: x256 :: x257 :: x258 :: x259 :: x260 :: x261 :: x262 :: x263 :: x264 :: x265 :: x266 :: x267 :: []), []⟩ y) :
    (Code.loop refAdd).wp Tryd.prog Q ⟨List.toArray (x0 :: x1 :: x2 :: .slice (some ⟨hb, 0, none⟩) 8 8 :: x4 :: x5 :: x6 :: x7 :: x8 :: x9 :: x10 :: x11 :: .pointer (some ⟨V, 0, none⟩) :: x13 :: x14 :: x15 :: x16 :: x17 :: .int .i64 0 :: x19 :: x20 :: x21 :: x22 :: x23 :: x24 :: x25 :: x26 :: x27 :: x28 :: x29 :: x30 :: x31 :: x32 :: x33 :: x34 :: x35 :: x36 :: x37 :: x38 :: x39 :: x40 :: x41 :: x42 :: x43 :: x44 :: x45 :: x46 :: x47 :: x48 :: x49 :: x50 :: x51 :: x52 :: x53 :: x54 :: x55 :: x56 :: x57 :: x58 :: x59 :: x60 :: x61 :: x62 :: x63 :: x64 :: x65 :: x66 :: x67 :: x68 :: x69 :: x70 :: x71 :: x72 :: x73 :: x74 :: x75 :: x76 :: x77 :: x78 :: x79 :: x80 :: x81 :: x82 :: x83 :: x84 :: x85 :: x86 :: x87 :: x88 :: x89 :: x90 :: x91 :: x92 :: x93 :: x94 :: x95 :: x96 :: x97 :: x98 :: x99 :: x100 :: x101 :: x102 :: x103 :: x104 :: x105 :: x106 :: x107 :: x108 :: x109 :: x110 :: x111 :: x112 :: x113 :: x114 :: x115 :: x116 :: x117 :: x118 :: x119 :: x120 :: x121 :: x122 :: x123 :: x124 :: x125 :: x126 :: x127 :: x128 :: x129 :: x130 :: x131 :: x132 :: x133 :: x134 :: x135 :: x136 :: x137 :: x138 :: x139 :: x140 :: x141 :: x142 :: x143 :: x144 :: x145 :: x146 :: x147 :: x148 :: x149 :: x150 :: x151 :: x152 :: x153 :: x154 :: x155 :: x156 :: x157 :: x158 :: x159 :: x160 :: x161 :: x162 :: x163 :: x164 :: x165 :: x166 :: x167 :: x168 :: x169 :: x170 :: x171 :: x172 :: x173 :: x174 :: x175 :: x176 :: x177 :: x178 :: x179 :: x180 :: x181 :: x182 :: x183 :: x184 :: x185 :: x186 :: x187 :: x188 :: x189 :: x190 :: x191 :: x192 :: x193 :: x194 :: x195 :: x196 :: x197 :: x198 :: x199 :: x200 :: x201 :: x202 :: x203 :: x204 :: x205 :: x206 :: x207 :: x208 :: x209 :: x210 :: x211 :: x212 :: x213 :: x214 :: x215 :: x216 :: x217 :: x218 :: x219 :: x220 :: x221 :: x222 :: x223 :: x224 :: x225 :: x226 :: x227 :: x228 :: x229 :: x230 :: x231 :: x232 :: x233 :: x234 :: x235 :: x236 :: x237 :: x238 :: x239 :: x240 :: x241 :: x242 :: x243 :: x244 :: x245 :: x246 :: x247 :: x248 :: x249 :: x250 :: x251 :: x252 :: x253 :: x254 :: x255 :: x256 :: x257 :: x258 :: x259 :: x260 :: x261 :: x262 :: x263 :: x264 :: x265 :: x266 :: x267 :: []), []⟩ x := by
  have Hexit := Lib.hid hexit
  have HH := Lib.hid hH
  have HV := Lib.hid hV
  clear hexit hH hV
  conv => arg 2; arg 1; whnf
  go_loopw [18] (fun q y => ∃ i : Nat, i ≤ 8 ∧ q = .int .i64 (i : Int) ∧ Blk y hb 69 ((addTo R.list v.list i).map v32) ∧ Blk y V 98 v.cells ∧ x.grownBy y (some hb)) (fun q _ => (8 - intOf q).toNat)
  case atStart => exact ⟨0, by omega, rfl, HH.out, HV.out, grown_refl _ _⟩
  case round =>
    obtain ⟨y, rfl⟩ : ∃ y : World, y = wr := ⟨_, rfl⟩
    obtain ⟨i, hi, rfl, hH, hV, hg⟩ := hrel
    clear HH HV
    by_cases i8 : i < 8
    · skip
      have c8 : (i : Int) < 8 := by omega
      have d8 : decide ((i : Int) < 8) = true := decide_eq_true (by omega)
      have f1 : y.cell? ⟨hb, i, none⟩ = some (v32 (R.list.getD i 0)) := by
        rw [hH.cell, List.getElem?_map, addTo_get R v i i8]; rfl
      have f2 : y.cell? ⟨V, i, none⟩ = some (v32 (v.list.getD i 0)) := by rw [hV.cell, St.get v i i8]
      have z1 := hH.frozen i
      have hset := hH.set i (v32 (R.list.getD i 0 + v.list.getD i 0))
      rw [← List.map_set, addTo_set R v i i8] at hset
      have hoth : Blk (y.setCell ⟨hb, i, none⟩ (v32 (R.list.getD i 0 + v.list.getD i 0))) V 98 v.cells := hV.other hne _
      have hg2 := grown_trans hg (grown_set_drew y hb i (v32 (R.list.getD i 0 + v.list.getD i 0)))
      generalize R.list.getD i 0 = p1 at *
      generalize v.list.getD i 0 = q1 at *
      have ra := w32_add
      have Hset := Lib.hid hset
      have Hoth := Lib.hid hoth
      have Hg2 := Lib.hid hg2
      clear hH hV hg hset hoth hg2
      go_wp2_with fail
      refine wp_region_still_tail 11 Tryd.mixed (by kernel_rfl) ?_
      simp only [List.take_succ_cons, List.take_zero, List.drop_succ_cons, List.drop_zero]
      repeat still_step
      refine wpStill_nil ?_
      go_wp2
      go_roundw
      case rel => exact ⟨i + 1, by omega, by go_num, Hset.out, Hoth.out, Hg2.out⟩
      case measure => simp [intOf]; omega
    · skip
      have hi8 : i = 8 := by omega
      have d8 : decide ((i : Int) < 8) = false := decide_eq_false (by omega)
      rw [hi8, addTo_end, ← St.cells_eq] at hH
      have HH := Lib.hid hH
      have Hg := Lib.hid hg
      clear hi8 hH hV hg
      go_wp2_with fail
      exact Hexit.out _ _ _ _ _ _ _ _ _ _ _ _ _ _ _ _ _ HH.out Hg.out

end Go.Proofs.YtinlciofhegciaaDoor

namespace Go.Proofs.YtinlciofhegciaaDoor
open Go.RowKit
set_option maxRecDepth 1000000 in
set_option maxHeartbeats 8000000 in
theorem blocks_loop (hb g cap : Nat) (p : List UInt8) (w3 : World) (Q : Exit → Act → World → Prop) (hgw : hb + 1 < g) (hgs : g < w3.heap.size) (hp64 : p.length % 64 = 0) (hple : p.length ≤ 1099511628000) (hbs : Bs w3 hb g iv p) (x0 x1 x2 x7 x8 x9 x10 x11 x12 x13 x14 x15 x16 x17 x18 x19 x20 x21 x22 x23 x24 x25 x26 x27 x28 x29 x30 x31 x32 x33 x34 x35 x36 x37 x38 x39 x40 x41 x42 x43 x44 x45 x46 x47 x48 x49 x50 x51 x52 x53 x54 x55 x56 x57 x58 x59 x60 x61 x62 x63 x64 x65 x66 x67 x68 x69 x70 x71 x72 x73 x74 x75 x76 x77 x78 x79 x80 x81 x82 x83 x84 x85 x86 x87 x88 x89 x90 x91 x92 x93 x94 x95 x96 x97 x98 x99 x100 x101 x102 x103 x104 x105 x106 x107 x108 x109 x110 x111 x112 x113 x114 x115 x116 x117 x118 x119 x120 x121 x122 x123 x124 x125 x126 x127 x128 x129 x130 x131 x132 x133 x134 x135 x136 x137 x138 x139 x140 x141 x142 x143 x144 x145 x146 x147 x148 x149 x150 x151 x152 x153 x154 x155 x156 x157 x158 x159 x160 x161 x162 x163 x164 x165 x166 x167 x168 x169 x170 x171 x172 x173 x174 x175 x176 x177 x178 x179 x180 x181 x182 x183 x184 x185 x186 x187 x188 x189 x190 x191 x192 x193 x194 x195 x196 x197 x198 x199 x200 x201 x202 x203 x204 x205 x206 x207 x208 x209 x210 x211 x212 x213 x214 x215 x216 x217 x218 x219 x220 x221 x222 x223 x224 x225 x226 x227 x228 x229 x230 x231 x232 x233 x234 x235 x236 x237 x238 x239 x240 x241 x242 x243 x244 x245 x246 x247 x248 x249 x250 x251 x252 x253 x254 x255 x256 x257 x258 x259 x260 x261 x262 x263 x264 x265 x266 x267 : Value)
    (hexit : ∀ (u6 u7 u8 u9 u10 u11 u12 u13 u14 u15 u16 u17 u18 u40 u41 u42 u43 u44 u45 u46 u47 u48 u49 u50 u51 u52 u53 u54 u55 u56 u57 u58 u59 u60 u61 u62 u63 u64 u65 u66 u67 u68 u69 u70 u71 u72 u73 u74 u75 u76 u77 u78 u79 u80 u81 u82 u83 u84 u85 u86 u87 u88 u89 u90 u91 u92 u93 u94 u95 u96 u97 u98 u99 u100 u101 u102 u103 u104 u105 u106 u107 u108 u109 u110 u111 u112 u113 u114 u115 u116 u117 u118 u119 u120 u121 u122 u123 u124 u125 u126 u127 u128 u129 u130 u131 u132 u133 u134 u135 u136 u137 u138 u139 u140 u141 u142 u143 u144 u145 u146 u147 u148 u149 u150 u151 u152 u153 u154 u155 u156 u157 u158 u159 u160 u161 u162 u163 u164 u165 u166 u167 u168 u169 u170 u171 u172 u173 u174 u175 u176 u177 u178 u179 u180 u181 u182 u183 u184 u185 u186 u187 u188 u189 u190 u191 u192 u193 u194 u195 u196 u197 u198 u199 u200 u201 u202 u203 u204 u205 u206 u207 u208 u209 u210 u211 u212 u213 u214 u215 u216 u217 u218 u219 u220 u221 u222 u223 u224 u225 u226 u227 u228 u229 u230 u231 u232 u233 u234 u235 u236 u237 u238 u239 u240 u241 u242 u243 u244 u245 u246 u247 u248 u249 u250 u251 u252 u253 u254 : Value) (w' : World), Bs w' hb g (runs comp (p.length / 64) p iv) p → w3.grownBy w' (some hb) → Q (.exit 2) ⟨List.toArray (x0 :: x1 :: x2 :: .slice (some ⟨hb, 0, none⟩) 8 8 :: .slice (some ⟨hb + 1, 0, none⟩) 64 64 :: .slice (some ⟨g, 0, none⟩) p.length cap :: u6 :: u7 :: u8 :: u9 :: u10 :: u11 :: u12 :: u13 :: u14 :: u15 :: u16 :: u17 :: u18 :: x19 :: x20 :: x21 :: x22 :: x23 :: x24 :: x25 :: x26 :: x27 :: x28 :: x29 :: x30 :: x31 :: x32 :: x33 :: x34 :: x35 :: x36 :: x37 :: x38 :: x39 :: u40 :: u41 :: u42 :: u43 :: u44 :: u45 :: u46 :: u47 :: u48 :: u49 :: u50 :: u51 :: u52 :: u53 :: u54 :: u55 :: u56 :: u57 :: u58 :: u59 :: u60 :: u61 :: u62 :: u63 :: u64 :: u65 :: u66 :: u67 :: u68 :: u69 :: u70 :: u71 :: u72 :: u73 :: u74 :: u75 :: u76 :: u77 :: u78 :: u79 :: u80 :: u81 :: u82 :: u83 :: u84 :: u85 :: u86 :: u87 :: u88 :: u89 :: u90 :: u91 :: u92 :: u93 :: u94 :: u95 :: u96 :: u97 :: u98 :: u99 :: u100 :: u101 :: u102 :: u103 :: u104 :: u105 :: u106 :: u107 :: u108 :: u109 :: u110 :: u111 :: u112 :: u113 :: u114 :: u115 :: u116 :: u117 :: u118 :: u119 :: u120 :: u121 :: u122 :: u123 :: u124 :: u125 :: u126 :: u127 :: u128 :: u129 :: u130 :: u131 :: u132 :: u133 :: u134 :: u135 :: u136 :: u137 :: u138 :: u139 :: u140 :: u141 :: u142 :: u143 :: u144 :: u145 :: u146 :: u147 :: u148 :: u149 :: u150 :: u151 :: u152 :: u153 :: u154 :: u155 :: u156 :: u157 :: u158 :: u159 :: u160 :: u161 :: u162 :: u163 :: u164 :: u165 :: u166 :: u167 :: u168 :: u169 :: u170 :: u171 :: u172 :: u173 :: u174 :: u175 :: u176 :: u177 :: u178 :: u179 :: u180 :: u181 :: u182 :: u183 :: u184 :: u185 :: u186 :: u187 :: u188 :: u189 :: u190 :: u191 :: u192 :: u193 :: u194 :: u195 :: u196 :: u197 :: u198 :: u199 :: u200 :: u201 :: u202 :: u203 :: u204 :: u205 :: u206 :: u207 :: u208 :: u209 :: u210 :: u211 :: u212 :: u213 :: u214 :: u215 :: u216 :: u217 :: u218 :: u219 :: u220 :: u221 :: u222 :: u223 :: u224 :: u225 :: u226 :: u227 :: u228 :: u229 :: u230 :: u231 :: u232 :: u233 :: u234 :: u235 :: u236 :: u237 :: u238 :: u239 :: u240 :: u241 :: u242 :: u243 :: u244 :: u245 :: u246 :: u247 :: u248 :: u249 :: u250 :: u251 :: u252 :: u253 :: u254 :: x255 :: x256 :: x257 :: x258 :: x259 :: x260 :: x261 :: x262 :: x263 :: x264 :: x265 :: x266 :: x267 :: []), []⟩ w') :
    (Code.loop refBlocks).wp Tryd.prog Q ⟨List.toArray (x0 :: x1 :: x2 :: .slice (some ⟨hb, 0, none⟩) 8 8 :: .slice (some ⟨hb + 1, 0, none⟩) 64 64 :: .slice (some ⟨g, 0, none⟩) p.length cap :: .int .i64 0 :: x7 :: x8 :: x9 :: x10 :: x11 :: x12 :: x13 :: x14 :: x15 :: x16 :: x17 :: x18 :: x19 :: x20 :: x21 :: x22 :: x23 :: x24 :: x25 :: x26 :: x27 :: x28 :: x29 :: x30 :: x31 :: x32 :: x33 :: x34 :: x35 :: x36 :: x37 :: x38 :: x39 :: x40 :: x41 :: x42 :: x43 :: x44 :: x45 :: x46 :: x47 :: x48 :: x49 :: x50 :: x51 :: x52 :: x53 :: x54 :: x55 :: x56 :: x57 :: x58 :: x59 :: x60 :: x61 :: x62 :: x63 :: x64 :: x65 :: x66 :: x67 :: x68 :: x69 :: x70 :: x71 :: x72 :: x73 :: x74 :: x75 :: x76 :: x77 :: x78 :: x79 :: x80 :: x81 :: x82 :: x83 :: x84 :: x85 :: x86 :: x87 :: x88 :: x89 :: x90 :: x91 :: x92 :: x93 :: x94 :: x95 :: x96 :: x97 :: x98 :: x99 :: x100 :: x101 :: x102 :: x103 :: x104 :: x105 :: x106 :: x107 :: x108 :: x109 :: x110 :: x111 :: x112 :: x113 :: x114 :: x115 :: x116 :: x117 :: x118 :: x119 :: x120 :: x121 :: x122 :: x123 :: x124 :: x125 :: x126 :: x127 :: x128 :: x129 :: x130 :: x131 :: x132 :: x133 :: x134 :: x135 :: x136 :: x137 :: x138 :: x139 :: x140 :: x141 :: x142 :: x143 :: x144 :: x145 :: x146 :: x147 :: x148 :: x149 :: x150 :: x151 :: x152 :: x153 :: x154 :: x155 :: x156 :: x157 :: x158 :: x159 :: x160 :: x161 :: x162 :: x163 :: x164 :: x165 :: x166 :: x167 :: x168 :: x169 :: x170 :: x171 :: x172 :: x173 :: x174 :: x175 :: x176 :: x177 :: x178 :: x179 :: x180 :: x181 :: x182 :: x183 :: x184 :: x185 :: x186 :: x187 :: x188 :: x189 :: x190 :: x191 :: x192 :: x193 :: x194 :: x195 :: x196 :: x197 :: x198 :: x199 :: x200 :: x201 :: x202 :: x203 :: x204 :: x205 :: x206 :: x207 :: x208 :: x209 :: x210 :: x211 :: x212 :: x213 :: x214 :: x215 :: x216 :: x217 :: x218 :: x219 :: x220 :: x221 :: x222 :: x223 :: x224 :: x225 :: x226 :: x227 :: x228 :: x229 :: x230 :: x231 :: x232 :: x233 :: x234 :: x235 :: x236 :: x237 :: x238 :: x239 :: x240 :: x241 :: x242 :: x243 :: x244 :: x245 :: x246 :: x247 :: x248 :: x249 :: x250 :: x251 :: x252 :: x253 :: x254 :: x255 :: x256 :: x257 :: x258 :: x259 :: x260 :: x261 :: x262 :: x263 :: x264 :: x265 :: x266 :: x267 :: []), []⟩ w3 := by
  have Hexit := Lib.hid hexit
  have Hbs := Lib.hid hbs
  clear hexit hbs
  conv => arg 2; arg 1; whnf
  go_loopw [6] (fun x wr => ∃ j : Nat, 64 * j ≤ p.length ∧ x = .int .i64 ((64 * j : Nat) : Int) ∧ Bs wr hb g (runs comp j p iv) p ∧ w3.grownBy wr (some hb)) (fun x _ => p.length - (intOf x).toNat)
  case atStart => exact ⟨0, by omega, rfl, Hbs.out, grown_refl _ _⟩
  case round =>
    obtain ⟨wo, rfl⟩ : ∃ wo : World, wo = wr := ⟨_, rfl⟩
    obtain ⟨j, hj, rfl, hb', hgr⟩ := hrel
    obtain ⟨R, hR⟩ : ∃ R, R = runs comp j p iv := ⟨_, rfl⟩
    rw [← hR] at hb'
    have HR := Lib.hid hR
    have Hb := Lib.hid hb'
    have Hgr := Lib.hid hgr
    have hgo : g < wo.heap.size := by have := hgr.size; omega
    have hbo : hb + 1 < wo.heap.size := hb'.k.lt
    clear hR hb' hgr Hbs
    by_cases hlt : 64 * j < p.length
    · skip
      have bj : decide (((64 * j : Nat) : Int) < (p.length : Int)) = true := decide_eq_true (by omega)
      have hmk : ∀ W : World, (Instr.makeSlice 95 (.int .i64 64) (.int .i64 64)).run Tryd.prog W = .ok (.slice (some ⟨W.heap.size, 0, none⟩) 64 64) (W.alloc (.cells (madeCells #[.int .u32 0] 64) 69)) :=
        fun W => run_make_row' 95 69 (.int .u32 0) 4 Tryd.underlying_u32s Tryd.info_u32 rfl .i64 .i64 64 (by omega) (by omega) W
      obtain ⟨q, hq⟩ : ∃ q, q = (p.drop (64 * j)).take 64 := ⟨_, rfl⟩
      have hql : q.length = 64 := by rw [hq, List.length_take, List.length_drop]; omega
      have hqget : ∀ i, i < 64 → q.getD i 0 = p.getD (64 * j + i) 0 := by
        intro i hi
        rw [hq]
        simp [List.getD_eq_getElem?_getD, hi]
      have Hq := Lib.hid hq
      have Hqget := Lib.hid hqget
      clear hq hqget
      go_wp2_with fail
      clear hmk
      refine sched_loop g cap j _ p q wo _ _ (by omega) hgo hple (by omega) Hb.out.p Hqget.out (Blk.of _ _ _ _ (by kernel_rfl)) ((Below.refl _ _).alloc (Nat.le_refl _) _) _ _ _ _ _ _ _ _ _ _ _ _ _ _ _ _ _ _ _ _ _ _ _ _ _ _ _ _ _ _ _ _ _ _ _ _ _ _ _ _ _ _ _ _ _ _ _ _ _ _ _ _ _ _ _ _ _ _ _ _ _ _ _ _ _ _ _ _ _ _ _ _ _ _ _ _ _ _ _ _ _ _ _ _ _ _ _ _ _ _ _ _ _ _ _ _ _ _ _ _ _ _ _ _ _ _ _ _ _ _ _ _ _ _ _ _ _ _ _ _ _ _ _ _ _ _ _ _ _ _ _ _ _ _ _ _ _ _ _ _ _ _ _ _ _ _ _ _ _ _ _ _ _ _ _ _ _ _ _ _ _ _ _ _ _ _ _ _ _ _ _ _ _ _ _ _ _ _ _ _ _ _ _ _ _ _ _ _ _ _ _ _ _ _ _ _ _ _ _ _ _ _ _ _ _ _ _ _ _ _ _ _ _ _ _ _ _ _ _ _ _ _ _ _ _ _ _ _ _ _ _ _ _ _ _ _ _ _ _ _ _ _ _ _ _ _ _ _ _ _ _ _ _ _ _ _ _ _ _ _ _ _ _ _ ?_
      intro v8 v9 v10 v11 v47 v48 v49 v50 v51 v52 v53 v54 v55 v56 v57 v58 v59 v60 v61 v62 v63 v64 v65 v66 v67 v68 v69 v70 v71 v72 v73 v74 v75 v76 v77 v78 v79 v80 v81 v82 v83 v84 v85 v86 v87 v88 v89 v90 v91 v92 v93 v94 v95 v96 v97 v98 v99 v100 v101 v102 v103 v104 v105 v106 v107 v108 v109 v110 v111 v112 v113 v114 v115 v116 v117 v118 v119 v120 v121 v122 v123 v124 v125 v126 v127 v128 v129 v130 wt hA hB
      have hbt := Hb.out.below hgo hB
      have c0 : wt.cell? ⟨hb, 0, none⟩ = some (v32 R.a) := hbt.h.cell 0
      have c1 : wt.cell? ⟨hb, 1, none⟩ = some (v32 R.b) := hbt.h.cell 1
      have c2 : wt.cell? ⟨hb, 2, none⟩ = some (v32 R.c) := hbt.h.cell 2
      have c3 : wt.cell? ⟨hb, 3, none⟩ = some (v32 R.d) := hbt.h.cell 3
      have c4 : wt.cell? ⟨hb, 4, none⟩ = some (v32 R.e) := hbt.h.cell 4
      have c5 : wt.cell? ⟨hb, 5, none⟩ = some (v32 R.f) := hbt.h.cell 5
      have c6 : wt.cell? ⟨hb, 6, none⟩ = some (v32 R.g) := hbt.h.cell 6
      have c7 : wt.cell? ⟨hb, 7, none⟩ = some (v32 R.h) := hbt.h.cell 7
      have Hbt := Lib.hid hbt
      have HA2 := Lib.hid hA
      have HB := Lib.hid hB
      have hgt : g < wt.heap.size := by have := hB.size; omega
      have hbo2 : hb + 1 < wt.heap.size := hbt.k.lt
      have hbo3 : hb < wt.heap.size := by omega
      clear hbt hA hB
      go_wp2_with fail
      go_region_held3 (fun w' => w'.cell? ⟨hb, 0, none⟩ = some (v32 R.a) ∧ w'.cell? ⟨hb, 1, none⟩ = some (v32 R.b) ∧ w'.cell? ⟨hb, 2, none⟩ = some (v32 R.c) ∧ w'.cell? ⟨hb, 3, none⟩ = some (v32 R.d) ∧ w'.cell? ⟨hb, 4, none⟩ = some (v32 R.e) ∧ w'.cell? ⟨hb, 5, none⟩ = some (v32 R.f) ∧ w'.cell? ⟨hb, 6, none⟩ = some (v32 R.g) ∧ w'.cell? ⟨hb, 7, none⟩ = some (v32 R.h)) (go_keep) (fail)
      clear c0 c1 c2 c3 c4 c5 c6 c7
      go_wp2_with fail
      refine rounds_loop wt.heap.size wo.heap.size (hb + 1) wt _ R q _ (by have := HA2.out.lt; omega) (by omega) ⟨(Blk.of _ _ _ _ rfl).drew, (HA2.out.alloc _).drew, (Hbt.out.k.alloc _).drew, ((Below.refl _ _).alloc (Nat.le_refl _) _).drew⟩ _ _ _ _ _ _ _ _ _ _ _ _ _ _ _ _ _ _ _ _ _ _ _ _ _ _ _ _ _ _ _ _ _ _ _ _ _ _ _ _ _ _ _ _ _ _ _ _ _ _ _ _ _ _ _ _ _ _ _ _ _ _ _ _ _ _ _ _ _ _ _ _ _ _ _ _ _ _ _ _ _ _ _ _ _ _ _ _ _ _ _ _ _ _ _ _ _ _ _ _ _ _ _ _ _ _ _ _ _ _ _ _ _ _ _ _ _ _ _ _ _ _ _ _ _ _ _ _ _ _ _ _ _ _ _ _ _ _ _ _ _ _ _ _ _ _ _ _ _ _ _ _ _ _ _ _ _ _ _ _ _ _ _ _ _ _ _ _ _ _ _ _ _ _ _ _ _ _ _ _ _ _ _ _ _ _ _ _ _ _ _ _ _ _ _ _ _ _ _ _ _ _ _ _ _ _ _ _ _ _ _ _ _ _ _ _ _ _ _ _ _ _ _ _ _ _ _ _ _ _ _ _ _ _ _ _ _ _ _ _ _ _ _ _ _ _ _ _ _ _ _ _ _ _ _ _ _ _ _ _ _ _ _ _ ?_
      intro y13 y14 y15 y16 y17 y156 y157 y158 y159 y160 y161 y162 y163 y164 y165 y166 y167 y168 y169 y170 y171 y172 y173 y174 y175 y176 y177 y178 y179 y180 y181 y182 y183 y184 y185 y186 y187 y188 y189 y190 y191 y192 y193 y194 y195 y196 y197 y198 y199 y200 y201 y202 y203 y204 y205 y206 y207 y208 y209 y210 y211 y212 y213 y214 y215 y216 y217 y218 y219 y220 y221 y222 y223 y224 y225 y226 y227 y228 y229 y230 y231 y232 y233 y234 y235 y236 y237 y238 y239 x hRr
      obtain ⟨v, hv⟩ : ∃ v, v = rnds (sch q 64) R 64 := ⟨_, rfl⟩
      have hcomp : comp R q = R.add v := by rw [hv]; rfl
      rw [← hv] at hRr
      have hHx := Hbt.out.h.below hRr.below (by omega)
      have hpx : ∀ i, i < p.length → x.cell? ⟨g, i, none⟩ = some (.int .u8 ((p.getD i 0).toNat : Int)) := fun i hi => (hRr.below.cell (p := ⟨g, i, none⟩) hgt).trans (Hbt.out.p i hi)
      have hgx : w3.grownBy x (some hb) := grown_trans Hgr.out (grown_trans (grownBy_of_below HB.out _) (grownBy_of_below hRr.below _))
      have hnext : runs comp (j + 1) p iv = comp R q := by rw [runs_succ, ← HR.out, ← Hq.out]
      have HRx := Lib.hid hRr
      have HHx := Lib.hid hHx
      have Hpx := Lib.hid hpx
      have Hgx := Lib.hid hgx
      have Hnext := Lib.hid (hnext.trans hcomp)
      have hvx : wt.heap.size < x.heap.size := hRr.st.lt
      clear hHx hpx hgx hnext hcomp hv hRr Hbt HA2
      go_wp2_with fail
      refine add_loop hb wt.heap.size x R v _ (by omega) HHx.out HRx.out.st _ _ _ _ _ _ _ _ _ _ _ _ _ _ _ _ _ _ _ _ _ _ _ _ _ _ _ _ _ _ _ _ _ _ _ _ _ _ _ _ _ _ _ _ _ _ _ _ _ _ _ _ _ _ _ _ _ _ _ _ _ _ _ _ _ _ _ _ _ _ _ _ _ _ _ _ _ _ _ _ _ _ _ _ _ _ _ _ _ _ _ _ _ _ _ _ _ _ _ _ _ _ _ _ _ _ _ _ _ _ _ _ _ _ _ _ _ _ _ _ _ _ _ _ _ _ _ _ _ _ _ _ _ _ _ _ _ _ _ _ _ _ _ _ _ _ _ _ _ _ _ _ _ _ _ _ _ _ _ _ _ _ _ _ _ _ _ _ _ _ _ _ _ _ _ _ _ _ _ _ _ _ _ _ _ _ _ _ _ _ _ _ _ _ _ _ _ _ _ _ _ _ _ _ _ _ _ _ _ _ _ _ _ _ _ _ _ _ _ _ _ _ _ _ _ _ _ _ _ _ _ _ _ _ _ _ _ _ _ _ _ _ _ _ _ _ _ _ _ _ _ _ _ _ _ _ _ _ _ _ _ _ _ _ _ ?_
      intro z18 z240 z241 z242 z243 z244 z245 z246 z247 z248 z249 z250 z251 z252 z253 z254 y hH hg
      have hbs : Bs y hb g (runs comp (j + 1) p iv) p :=
        ⟨by rw [Hnext.out]; exact hH, HRx.out.ks.grown hg (by simp), fun i hi => hg.cell (Hpx.out i hi) (by simp; omega)⟩
      have hgy := grown_trans Hgx.out hg
      have Hbs := Lib.hid hbs
      have Hgy := Lib.hid hgy
      clear hH hg HRx HHx Hpx Hgx Hnext hbs hgy
      go_wp2
      go_roundw
      case rel => exact ⟨j + 1, by omega, by go_num, Hbs.out, Hgy.out⟩
      case measure => simp [intOf]; omega
    · skip
      have hjn : j = p.length / 64 := by omega
      have bj : decide (((64 * j : Nat) : Int) < (p.length : Int)) = false := decide_eq_false (by omega)
      have hB := Hb.out
      rw [HR.out, hjn] at hB
      have HB := Lib.hid hB
      clear hjn hB Hb HR
      go_wp2_with fail
      exact Hexit.out _ _ _ _ _ _ _ _ _ _ _ _ _ _ _ _ _ _ _ _ _ _ _ _ _ _ _ _ _ _ _ _ _ _ _ _ _ _ _ _ _ _ _ _ _ _ _ _ _ _ _ _ _ _ _ _ _ _ _ _ _ _ _ _ _ _ _ _ _ _ _ _ _ _ _ _ _ _ _ _ _ _ _ _ _ _ _ _ _ _ _ _ _ _ _ _ _ _ _ _ _ _ _ _ _ _ _ _ _ _ _ _ _ _ _ _ _ _ _ _ _ _ _ _ _ _ _ _ _ _ _ _ _ _ _ _ _ _ _ _ _ _ _ _ _ _ _ _ _ _ _ _ _ _ _ _ _ _ _ _ _ _ _ _ _ _ _ _ _ _ _ _ _ _ _ _ _ _ _ _ _ _ _ _ _ _ _ _ _ _ _ _ _ _ _ _ _ _ _ _ _ _ _ _ _ _ _ _ _ _ _ _ _ _ _ _ _ _ _ _ _ _ _ _ _ _ _ _ _ HB.out Hgr.out

end Go.Proofs.YtinlciofhegciaaDoor
