/- Joined texts, part 3: contracts of the functions that the laws reach, and what is needed for them. -/
import Derived.BigQuiet
import Derived.Deep.RegionHeld3
import Derived.ProofKit
import Derived.OpenShut
import Derived.ChangeOld
import Derived.Below
import Derived.Carry
import Derived.SizedLaws
import Derived.Laws.BitsAllLaws
import Derived.Lib.RabinKarpLaws
import Derived.Laws.Bits64b
import Derived.Test.YtinlciofhegciaaDoorS2
/- A region that draws its order: operations that only add blocks (calls, slices that are built, boxes), of whose values no more is known than a fact that later worlds keep: one walk in the order of the text serves every order; a tail in one forced order may follow. -/
namespace Go.Proofs.YtinlciofhegciaaDoor
open Go.RowKit Go.BigFrame

/-- w's blocks stand in w'. -/
def Lat (w w' : World) : Prop := Below w.heap.size w w'
theorem Lat.refl (w : World) : Lat w w := Below.refl _ _
theorem Lat.trans {a b c : World} (h : Lat a b) (k : Lat b c) : Lat a c := below_trans h k
theorem Lat.cell {w w' : World} (h : Lat w w') {a : Addr} {v : Value} (hc : w.cell? a = some v) : w'.cell? a = some v := below_cell h hc

/-- What is told of the value in a marked slot. -/
def Know : Type := List (Nat × (Value → World → Prop))
def Know.at (t : Nat) (v : Value) (w : World) : List (Nat × (Value → World → Prop)) → Prop
  | [] => True
  | p :: l => if t = p.1 then p.2 v w else Know.at t v w l
def Know.has (t : Nat) : List (Nat × (Value → World → Prop)) → Bool
  | [] => false
  | p :: l => t == p.1 || Know.has t l
def Know.stable (K : List (Nat × (Value → World → Prop))) : Prop := ∀ t v w w', Know.at t v w K → Lat w w' → Know.at t v w' K
theorem Know.stable_nil : Know.stable [] := fun _ _ _ _ _ _ => trivial
theorem Know.stable_cons {s : Nat} {φ : Value → World → Prop} {l : List (Nat × (Value → World → Prop))} (h : ∀ v w w', φ v w → Lat w w' → φ v w') (hl : Know.stable l) : Know.stable ((s, φ) :: l) := by
  intro t v w w' ha hw
  unfold Know.at at *
  split
  · rename_i ht; simp only [ht, if_true] at ha; exact h _ _ _ ha hw
  · rename_i ht; simp only [ht, if_false] at ha; exact hl _ _ _ _ ha hw

section
variable {P : Program} {ops : Array Oper} {md : Region.Mode} {K : List (Nat × (Value → World → Prop))} {W0 : World}

def gadd (g : Nat → Value → Prop) (t : Nat) (v : Value) : Nat → Value → Prop := fun s x => (s = t ∧ x = v) ∨ g s x
def Known (K : List (Nat × (Value → World → Prop))) (g : Nat → Value → Prop) (w : World) : Prop := ∀ t v, g t v → Know.at t v w K
def slotOf (o : Oper) : Nat := o.dst.getD 0
def marked (K : List (Nat × (Value → World → Prop))) (o : Oper) : Bool := match o.dst with
  | some t => Know.has t K
  | none => false
/-- What an operation knows of what it looks at. -/
def depsOf (K : List (Nat × (Value → World → Prop))) (ops : Array Oper) (o : Oper) (g : Nat → Value → Prop) (w : World) : Prop := ∀ t, t ∈ o.looksAt ops → ∀ v, g t v → Know.at t v w K
def plainUpon (w : World) (v : Value) : Result Next → Prop
  | .ok (.value u) w' => w' = w ∧ u = v
  | .ok .skip w' => w' = w ∧ v = undef
  | _ => False
def looseUpon (P : Program) (φ : Value → World → Prop) (w : World) : Result Next → Prop
  | .ok (.value u) w' => Lat w w' ∧ φ u w'
  | .ok (.enter f args) w' => w' = w ∧ Calls P f args w (fun e w'' => ∃ v, e = .returned v ∧ Lat w w'' ∧ φ v w'')
  | _ => False

inductive Kind where
  | skip
  | plain (u : Value)
  | loose
def Does (P : Program) (ops : Array Oper) (K : List (Nat × (Value → World → Prop))) (W0 : World) (o : Oper) (a : Act) (g : Nat → Value → Prop) : Kind → Prop
  | .skip => Region.wanted o (yielded ops a.tmps) = false
  | .plain u => Region.wanted o (yielded ops a.tmps) = true ∧ marked K o = false ∧ ∀ w, Lat W0 w → depsOf K ops o g w → plainUpon w u ((execOp a.eval o).run P w)
  | .loose => Region.wanted o (yielded ops a.tmps) = true ∧ marked K o = true ∧ ∀ w, Lat W0 w → depsOf K ops o g w → looseUpon P (fun v w => Know.at (slotOf o) v w K) w ((execOp a.eval o).run P w)
def Valid (K : List (Nat × (Value → World → Prop))) (o : Oper) (w : World) (v : Value) : Kind → Prop
  | .skip => v = undef
  | .plain u => v = u
  | .loose => ∃ w', Lat w w' ∧ Know.at (slotOf o) v w' K
def behind (o : Oper) (g : Nat → Value → Prop) (v : Value) : Kind → Nat → Value → Prop
  | .loose => gadd g (slotOf o) v
  | _ => g

theorem Known.deps {g : Nat → Value → Prop} {w : World} (h : Known K g w) (o : Oper) : depsOf K ops o g w := fun t _ v hv => h t v hv
theorem Known.later (hK : Know.stable K) {g : Nat → Value → Prop} {w w' : World} (h : Known K g w) (hw : Lat w w') : Known K g w' := fun t v hv => hK _ _ _ _ (h t v hv) hw
theorem Known.add {g : Nat → Value → Prop} {w : World} {t : Nat} {v : Value} (h : Known K g w) (hv : Know.at t v w K) : Known K (gadd g t v) w := by
  intro s x hx
  rcases hx with ⟨rfl, rfl⟩ | hx
  · exact hv
  · exact h s x hx
theorem Known.less {o : Oper} {κ : Kind} {g : Nat → Value → Prop} {w : World} {v : Value} (h : Known K (behind o g v κ) w) : Known K g w := by
  cases κ with
  | loose => exact fun t x hx => h t x (.inr hx)
  | _ => exact h
theorem Valid.reach (hK : Know.stable K) {o : Oper} {κ : Kind} {g : Nat → Value → Prop} {w : World} {v : Value} (hg : Known K g w) (h : Valid K o w v κ) : ∃ w', Lat w w' ∧ Known K (behind o g v κ) w' := by
  cases κ with
  | loose => obtain ⟨w', hw, hv⟩ := h; exact ⟨w', hw, (hg.later hK hw).add hv⟩
  | _ => exact ⟨w, Lat.refl w, hg⟩
theorem Valid.at_later (hK : Know.stable K) {o : Oper} {κ : Kind} {g : Nat → Value → Prop} {w w1 w2 : World} {v : Value} (h : Valid K o w v κ) (hg : Known K (behind o g v κ) w1) (hw : Lat w1 w2) : Valid K o w2 v κ := by
  cases κ with
  | loose => exact ⟨w2, Lat.refl _, hK _ _ _ _ (hg _ _ (.inl ⟨rfl, rfl⟩)) hw⟩
  | skip => exact h
  | plain u => exact h
theorem behind_comm {oi oj : Oper} {κi κj : Kind} {g : Nat → Value → Prop} {v u : Value} : behind oj (behind oi g v κi) u κj = behind oi (behind oj g u κj) v κi := by
  cases κi <;> cases κj <;> try rfl
  funext s x
  apply propext
  exact or_left_comm
theorem deps_behind {oi oj : Oper} {κ : Kind} {g : Nat → Value → Prop} {v : Value} {w : World} (h : ∀ d, oi.dst = some d → d ∉ oj.looksAt ops) (hm : κ = .loose → marked K oi = true) :
    depsOf K ops oj (behind oi g v κ) w ↔ depsOf K ops oj g w := by
  cases κ with
  | loose =>
    have hd : ∃ d, oi.dst = some d := by
      have := hm rfl
      unfold marked at this
      split at this
      · exact ⟨_, by assumption⟩
      · cases this
    obtain ⟨d, hd⟩ := hd
    refine ⟨fun hh t ht x hx => hh t ht x (.inr hx), fun hh t ht x hx => ?_⟩
    rcases hx with ⟨rfl, _⟩ | hx
    · exact absurd ht (by rw [slotOf, hd]; exact h d hd)
    · exact hh t ht x hx
  | _ => exact Iff.rfl
theorem Does.marks {o : Oper} {a : Act} {g : Nat → Value → Prop} {κ : Kind} (h : Does P ops K W0 o a g κ) : κ = .loose → marked K o = true := by
  rintro rfl; exact h.2.1
theorem Does.unique {o : Oper} {a : Act} {g : Nat → Value → Prop} {κ κ' : Kind} {w : World} (h : Does P ops K W0 o a g κ) (h' : Does P ops K W0 o a g κ') (hw : Lat W0 w) (hg : Known K g w) : κ = κ' := by
  cases κ with
  | skip => cases κ' with
    | skip => rfl
    | plain u => exact absurd (h.symm.trans h'.1) (by simp)
    | loose => exact absurd (h.symm.trans h'.1) (by simp)
  | plain u => cases κ' with
    | skip => exact absurd (h'.symm.trans h.1) (by simp)
    | plain u' =>
      have h1 := h.2.2 w hw (hg.deps o)
      have h2 := h'.2.2 w hw (hg.deps o)
      generalize (execOp a.eval o).run P w = r at h1 h2
      cases r with
      | ok n w' =>
        cases n <;> simp only [plainUpon] at h1 h2
        · rw [← h1.2, ← h2.2]
        · rw [h1.2, h2.2]
      | halt x w' => simp only [plainUpon] at h1
    | loose => exact absurd (h.2.1.symm.trans h'.2.1) (by simp)
  | loose => cases κ' with
    | skip => exact absurd (h'.symm.trans h.1) (by simp)
    | plain u => exact absurd (h'.2.1.symm.trans h.2.1) (by simp)
    | loose => rfl
theorem Does.of_same {o : Oper} {a a' : Act} {g g' : Nat → Value → Prop} {κ : Kind} (h : Does P ops K W0 o a g κ) (he : execOp a'.eval o = execOp a.eval o)
    (hw : Region.wanted o (yielded ops a'.tmps) = Region.wanted o (yielded ops a.tmps)) (hd : ∀ w, depsOf K ops o g' w → depsOf K ops o g w) : Does P ops K W0 o a' g' κ := by
  cases κ with
  | skip => exact hw.trans h
  | plain u => exact ⟨hw.trans h.1, h.2.1, fun w h1 h2 => by rw [he]; exact h.2.2 w h1 (hd w h2)⟩
  | loose => exact ⟨hw.trans h.1, h.2.1, fun w h1 h2 => by rw [he]; exact h.2.2 w h1 (hd w h2)⟩
/-- It can be carried out: there is a value. -/
theorem Does.some {o : Oper} {a : Act} {g : Nat → Value → Prop} {κ : Kind} {w : World} (h : Does P ops K W0 o a g κ) (hw : Lat W0 w) (hg : Known K g w) : ∃ v, Valid K o w v κ := by
  cases κ with
  | skip => exact ⟨_, rfl⟩
  | plain u => exact ⟨_, rfl⟩
  | loose =>
    have h1 := h.2.2 w hw (hg.deps o)
    generalize (execOp a.eval o).run P w = r at h1
    cases r with
    | ok n w' =>
      cases n <;> simp only [looseUpon] at h1
      · exact ⟨_, w', h1⟩
      · obtain ⟨e, w'', fr, ⟨v, _, hl, hv⟩, _⟩ := h1.2 []
        exact ⟨v, w'', hl, hv⟩
    | halt x w' => simp only [looseUpon] at h1

/-- Operation number i comes up. -/
def sOp (P : Program) (ops : Array Oper) (K : List (Nat × (Value → World → Prop))) (W0 : World) (i : Nat) (next : Act → (Nat → Value → Prop) → Prop) (a : Act) (g : Nat → Value → Prop) (w : World) : Prop :=
  match ops[i]? with
  | none => next a g
  | some o => ∃ κ, Does P ops K W0 o a g κ ∧ ∀ v, Valid K o w v κ → next (a.put o.dst v) (behind o g v κ)
/-- Whatever is picked, as long as the first n operations are not all listed. -/
def anyO (P : Program) (md : Region.Mode) (ops : Array Oper) (K : List (Nat × (Value → World → Prop))) (W0 : World) (n : Nat) (L : Array Bool → Act → (Nat → Value → Prop) → Prop) : Nat → Array Bool → Act → (Nat → Value → Prop) → Prop
  | 0, listed, a, g => L listed a g
  | f + 1, listed, a, g => ∀ w, Lat W0 w → Known K g w → Region.ready md ops listed ≠ [] ∧ ∀ i ∈ Region.ready md ops listed, i < n ∧ sOp P ops K W0 i (anyO P md ops K W0 n L f (listed.setIfInBounds i true)) a g w

theorem wpOp_of_sOp (hK : Know.stable K) {i : Nat} {a : Act} {g : Nat → Value → Prop} {next : Act → (Nat → Value → Prop) → Prop} {K' : Act → World → Prop} {Q' : Exit → Act → World → Prop} {w : World} (hw : Lat W0 w) (hg : Known K g w)
    (h : ∀ a g w', Lat W0 w' → Known K g w' → next a g → K' a w') (hh : sOp P ops K W0 i next a g w) : wpOp P ops Q' i K' a w := by
  unfold sOp at hh
  unfold wpOp
  split
  · rename_i ho; simp only [ho] at hh; exact h _ _ _ hw hg hh
  · rename_i o ho
    simp only [ho] at hh
    obtain ⟨κ, hd, hn⟩ := hh
    cases κ with
    | skip =>
      simp only [Does] at hd
      rw [hd]
      exact h _ _ _ hw hg (hn _ rfl)
    | plain u =>
      rw [if_pos hd.1]
      refine .inl ?_
      have h1 := hd.2.2 w hw (hg.deps o)
      unfold Oper.wp
      generalize (execOp a.eval o).run P w = r at h1
      cases r with
      | ok n w' =>
        cases n <;> simp only [plainUpon] at h1 <;> simp only [Oper.upon]
        · obtain ⟨rfl, rfl⟩ := h1; exact h _ _ _ hw hg (hn _ rfl)
        · obtain ⟨rfl, rfl⟩ := h1; exact h _ _ _ hw hg (hn _ rfl)
      | halt x w' => simp only [plainUpon] at h1
    | loose =>
      rw [if_pos hd.1]
      refine .inl ?_
      have h1 := hd.2.2 w hw (hg.deps o)
      unfold Oper.wp
      generalize (execOp a.eval o).run P w = r at h1
      cases r with
      | ok n w' =>
        cases n <;> simp only [looseUpon] at h1 <;> simp only [Oper.upon]
        · exact h _ _ _ (hw.trans h1.1) ((hg.later hK h1.1).add h1.2) (hn _ ⟨_, h1⟩)
        · obtain ⟨rfl, h1⟩ := h1
          refine Calls.mono h1 ?_
          rintro e w'' ⟨v, rfl, hl, hv⟩
          exact h _ _ _ (hw.trans hl) ((hg.later hK hl).add hv) (hn _ ⟨_, hl, hv⟩)
      | halt x w' => simp only [looseUpon] at h1

theorem wpAny_of_anyO (hK : Know.stable K) {n gq : Nat} {L : Array Bool → Act → (Nat → Value → Prop) → Prop} {Q' : Exit → Act → World → Prop} (hL : ∀ listed a g w, Lat W0 w → Known K g w → L listed a g → wpAny P md ops Q' gq listed a w) :
    ∀ (f : Nat) (listed : Array Bool) (a : Act) (g : Nat → Value → Prop) (w : World), Lat W0 w → Known K g w → anyO P md ops K W0 n L f listed a g → wpAny P md ops Q' (f + gq) listed a w
  | 0, listed, a, g, w, hw, hg, h => by rw [Nat.zero_add]; exact hL _ _ _ _ hw hg h
  | f + 1, listed, a, g, w, hw, hg, h => by
    rw [show f + 1 + gq = (f + gq) + 1 by omega]
    obtain ⟨h1, h2⟩ := h w hw hg
    exact ⟨fun h0 => absurd h0 h1, fun i hi => wpOp_of_sOp hK hw hg (fun a' g' w' hw' hg' h' => wpAny_of_anyO hK hL f _ a' g' w' hw' hg' h') (h2 i hi).2⟩

theorem anyO_first (hK : Know.stable K) {n i : Nat} {oi : Oper} {κ : Kind} {L : Array Bool → Act → (Nat → Value → Prop) → Prop} (hi : ops[i]? = some oi) (hsel : ∀ (j : Nat) (o : Oper) cs b, ops[j]? = some o → o.op ≠ .select cs b) (hin : i < n)
    (hwait : ∀ listed : Array Bool, HeadInv md ops n listed → listed.getD i true = false → ∀ j ∈ Region.ready md ops listed, j < n)
    (hdone : ∀ listed a g, L listed a g → ∀ j ∈ Region.ready md ops listed, n ≤ j) (f : Nat) :
    ∀ (listed : Array Bool) (a : Act) (g : Nat → Value → Prop), HeadInv md ops n listed →
      (∀ j oj, ops[j]? = some oj → j ≠ i → listed.getD j true = false → (∀ e ∈ oj.after, Region.binds md e = true → e.on ≠ i) → oi.apart ops oj = true) →
      i ∈ Region.ready md ops listed → Does P ops K W0 oi a g κ →
      (∀ w, Lat W0 w → Known K g w → ∀ v, Valid K oi w v κ → anyO P md ops K W0 n L f (listed.setIfInBounds i true) (a.put oi.dst v) (behind oi g v κ)) → anyO P md ops K W0 n L (f + 1) listed a g := by
  induction f with
  | zero =>
    intro listed a g inv _ hr hy H w hw hg
    have hun := (mem_ready.1 hr).1
    refine ⟨fun h => (by rw [h] at hr; cases hr), fun j hj => ?_⟩
    have hjn : j < n := hwait listed inv hun j hj
    refine ⟨hjn, ?_⟩
    by_cases hji : j = i
    · subst hji
      unfold sOp
      simp only [hi]
      exact ⟨κ, hy, fun v hv => H w hw hg v hv⟩
    · obtain ⟨v, hv⟩ := hy.some hw hg
      have := hdone _ _ _ (H w hw hg v hv) j (ready_mono hj hji)
      omega
  | succ f ih =>
    intro listed a g inv hfree hr hy H w hw hg
    have hun := (mem_ready.1 hr).1
    refine ⟨fun h => (by rw [h] at hr; cases hr), fun j hj => ?_⟩
    have hjn : j < n := hwait listed inv hun j hj
    refine ⟨hjn, ?_⟩
    by_cases hji : j = i
    · subst hji
      unfold sOp
      simp only [hi]
      exact ⟨κ, hy, fun v hv => H w hw hg v hv⟩
    · obtain ⟨hjun, oj, hoj, hall⟩ := mem_ready.1 hj
      have hnot : ∀ e ∈ oj.after, Region.binds md e = true → e.on ≠ i := fun e he hb heq => by
        have h1 := hall e he hb
        rw [heq, getD_both hun] at h1
        cases h1
      obtain ⟨a1, a2, a3⟩ := Oper.apart_spec (hfree j oj hoj hji hjun hnot)
      have hfree' : ∀ k ok, ops[k]? = some ok → k ≠ i → (listed.setIfInBounds j true).getD k true = false →
          (∀ e ∈ ok.after, Region.binds md e = true → e.on ≠ i) → oi.apart ops ok = true := fun k ok hk hki hun' hno => by
        refine hfree k ok hk hki ?_ hno
        by_cases hjk : j = k
        · subst hjk; exact hjun
        · rw [getD_set_ne true hjk] at hun'; exact hun'
      -- what operation j does behind i, it does here
      have back : ∀ v κj, Does P ops K W0 oj (a.put oi.dst v) (behind oi g v κ) κj → Does P ops K W0 oj a g κj := fun v κj hd =>
        hd.of_same (execOp_put oj (fun cs b => hsel j oj cs b hoj) a oi.dst v a1).symm (wanted_put oj a oi.dst v a1).symm (fun w h => (deps_behind a1 hy.marks).2 h)
      have at1 : ∀ w1, Lat W0 w1 → Known K g w1 → ∀ v, Valid K oi w1 v κ → ∃ w2, Lat w1 w2 ∧ Known K (behind oi g v κ) w2 ∧ ∃ κj, Does P ops K W0 oj a g κj ∧ ∀ u, Valid K oj w2 u κj →
          anyO P md ops K W0 n L f ((listed.setIfInBounds i true).setIfInBounds j true) ((a.put oi.dst v).put oj.dst u) (behind oj (behind oi g v κ) u κj) := fun w1 hw1 hg1 v hv => by
        obtain ⟨w2, hl2, hg2⟩ := hv.reach hK hg1
        have h1 := ((H w1 hw1 hg1 v hv) w2 (hw1.trans hl2) hg2).2 j (ready_mono hj hji)
        have h2 := h1.2
        unfold sOp at h2
        simp only [hoj] at h2
        obtain ⟨κj, hd, hn⟩ := h2
        exact ⟨w2, hl2, hg2, κj, back v κj hd, hn⟩
      obtain ⟨v0, hv0⟩ := hy.some hw hg
      obtain ⟨_, _, _, κj, hdj, _⟩ := at1 w hw hg v0 hv0
      unfold sOp
      simp only [hoj]
      refine ⟨κj, hdj, fun u hu => ?_⟩
      refine ih (listed.setIfInBounds j true) (a.put oj.dst u) (behind oj g u κj) (inv.set hj hjn) hfree' (ready_mono hr (Ne.symm hji)) ?_ ?_
      · exact hy.of_same (execOp_put oi (fun cs b => hsel i oi cs b hi) a oj.dst u a3) (wanted_put oi a oj.dst u a3) (fun w h => (deps_behind a3 hdj.marks).1 h)
      · intro w1 hw1 hg1 v hv
        have hg1' := hg1.less
        obtain ⟨w2, hl2, hg2, κj', hdj', hn⟩ := at1 w1 hw1 hg1' v hv
        have hκ : κj' = κj := hdj'.unique hdj hw1 hg1'
        subst hκ
        have := hn u (hu.at_later hK hg1 hl2)
        rw [Array.setIfInBounds_comm _ _ hji, ← Act.put_comm a v u a2, behind_comm]
        exact this

/-- The walk in the order of the text. -/
def wpLoose (P : Program) (ops : Array Oper) (K : List (Nat × (Value → World → Prop))) (W0 : World) (Q : Act → (Nat → Value → Prop) → Prop) : List Oper → Act → (Nat → Value → Prop) → Prop
  | [], a, g => Q a g
  | o :: rest, a, g => ∃ κ, Does P ops K W0 o a g κ ∧ ∀ v w, Lat W0 w → Known K g w → Valid K o w v κ → wpLoose P ops K W0 Q rest (a.put o.dst v) (behind o g v κ)

theorem anyO_lex (hK : Know.stable K) {n gq : Nat} {Lq : Act → (Nat → Value → Prop) → Prop} (hsel : Region.noSelect ops = true) (hwait : ∀ i, i < n → ∀ listed : Array Bool, HeadInv md ops n listed → listed.getD i true = false → ∀ j ∈ Region.ready md ops listed, j < n) :
    ∀ (l : List Oper) (k : Nat) (listed : Array Bool) (a : Act) (g : Nat → Value → Prop), (∀ j, j < l.length → l[j]? = ops[k + j]?) → k + l.length = n → HeadInv md ops n listed →
    Region.lexHead md ops gq l.length k listed = true → wpLoose P ops K W0 Lq l a g →
    anyO P md ops K W0 n (fun listed' a' g' => Region.seqB md ops gq n listed' = true ∧ Lq a' g') l.length listed a g
  | [], k, listed, a, g, _, hk, _, hB, h => by
    have : k = n := by simpa using hk
    subst this
    exact ⟨by simpa [Region.lexHead] using hB, h⟩
  | o :: l, k, listed, a, g, hl, hk, inv, hB, h => by
    have h0 : ops[k]? = some o := by simpa using (hl 0 (by simp)).symm
    simp only [List.length_cons, Region.lexHead, Bool.and_eq_true] at hB
    obtain ⟨⟨hr, hf⟩, hB'⟩ := hB
    have hkn : k < n := by simp only [List.length_cons] at hk; omega
    have hr' : k ∈ Region.ready md ops listed := by simpa using hr
    obtain ⟨κ, hd, hn⟩ := h
    refine anyO_first hK h0 (Region.noSelect_spec hsel) hkn (fun listed inv hun => hwait k hkn listed inv hun) (fun listed' a' g' hL => seqB_ready hL.1) l.length listed a g inv (Region.free_spec h0 hf) hr' hd ?_
    intro w hw hg v hv
    exact anyO_lex hK hsel hwait l (k + 1) _ _ _ (fun j hj => by have := hl (j + 1) (by simp; omega); simpa [Nat.add_assoc, Nat.add_comm 1 j] using this) (by simp only [List.length_cons] at hk; omega) (inv.set hr' hkn) hB' (hn v w hw hg hv)

/-- The check of a region without a tail. -/
def looseB (md : Region.Mode) (ops : Array Oper) : Bool := Region.noSelect ops && Region.lexHead md ops 0 ops.size 0 (Array.replicate ops.size false)

theorem region_loose {id : Nat} {Q : Exit → Act → World → Prop} {a : Act} {w : World} {l : List Oper} (K : List (Nat × (Value → World → Prop))) (hK : Know.stable K) (hm : P.follows .mixedOrders = true) (hB : looseB .any l.toArray = true)
    (h : wpLoose P l.toArray K w (fun a' g => ∀ w', Lat w w' → Known K g w' → Q .normal a' w') l a (fun _ _ => False)) : (Code.region id l.toArray true).wp P Q a w := by
  simp only [looseB, Bool.and_eq_true] at hB
  obtain ⟨hsel, hlex⟩ := hB
  have inv0 : HeadInv .any l.toArray l.toArray.size (Array.replicate l.toArray.size false) :=
    ⟨by simp, fun j oj _ hl => (by rw [getD_replicate_false] at hl; cases hl), fun t h1 h2 => by omega⟩
  have H := anyO_lex (md := .any) (gq := 0) hK hsel (fun i hi listed inv hun j hj => by
    obtain ⟨_, o, ho, _⟩ := mem_ready.1 hj
    exact (Array.getElem?_eq_some_iff.1 ho).1) l 0 _ a _ (fun j hj => by simp) (by simp) inv0 (by simpa using hlex) h
  refine wp_region_any hm ?_
  have G := wpAny_of_anyO (Q' := Q) (gq := 0) hK (fun listed a' g' w' hw' hg' hL => ⟨by simpa [Region.seqB] using hL.1, hL.2 w' hw' hg'⟩) _ _ _ _ _ (show Lat w { w with drawn := w.drawn + 1 } from (Below.refl _ _).drew) (fun _ _ h => h.elim) H
  simpa using G

theorem region_loose_tail {id : Nat} {Q : Exit → Act → World → Prop} {a : Act} {w : World} {l : List Oper} (K : List (Nat × (Value → World → Prop))) (n : Nat) (hK : Know.stable K) (hm : P.follows .mixedOrders = true) (hB : Region.lexTailB .any l.toArray n = true)
    (h : wpLoose P l.toArray K w (fun a' g => ∀ w', Lat w w' → Known K g w' → wpList P l.toArray Q (l.drop n) a' w') (l.take n) a (fun _ _ => False)) : (Code.region id l.toArray true).wp P Q a w := by
  simp only [Region.lexTailB, Bool.and_eq_true, decide_eq_true_eq] at hB
  obtain ⟨⟨⟨⟨hsel, hn⟩, hs⟩, hc⟩, hlex⟩ := hB
  have hn' : n < l.length := by simpa using hn
  have htl : (l.take n).length = n := by simp; omega
  have hdl : (l.drop n).length = l.toArray.size - n := by simp
  have inv0 : HeadInv .any l.toArray n (Array.replicate l.toArray.size false) :=
    ⟨by simp, fun j oj _ hl => (by rw [getD_replicate_false] at hl; cases hl), fun t _ ht => getD_in (by simpa using ht) (getD_replicate_false _ _)⟩
  have H := anyO_lex (md := .any) (gq := l.toArray.size - n) hK hsel (fun i hi listed inv hun j hj => Nat.lt_of_not_le fun h => tail_waits hs hc hn inv _ i rfl hi hun j h hj) (l.take n) 0 _ a _ (fun j hj => by
    have hj' : j < n := by rw [htl] at hj; exact hj
    simp [hj']) (by simpa using htl) inv0 (by rw [htl]; exact hlex) h
  refine wp_region_any hm ?_
  have G := wpAny_of_anyO (Q' := Q) (gq := l.toArray.size - n) hK (fun listed a' g' w' hw' hg' hL => by
    have hl1 : Region.seqB .any l.toArray (l.drop n).length n listed = true := by rw [hdl]; exact hL.1
    have hl2 := wpAny_of_seq (md := .any) (Q' := Q) (l.drop n) n listed a' w' (fun j => by simp) hl1 (hL.2 w' hw' hg')
    rwa [hdl] at hl2) _ _ _ _ _ (show Lat w { w with drawn := w.drawn + 1 } from (Below.refl _ _).drew) (fun _ _ h => h.elim) H
  rw [htl, show n + (l.toArray.size - n) = l.toArray.size by omega] at G
  exact G

/-! ### Steps of the walk -/
section
variable {a : Act} {g : Nat → Value → Prop} {o : Oper} {rest : List Oper} {Q : Act → (Nat → Value → Prop) → Prop}
def plainB (o : Oper) : Bool := match o.op with
  | .move _ | .assign _ | .pick .. | .load .. | .binOp .. | .unOp .. | .convert .. | .fieldAddr .. | .field .. | .indexAddr .. | .index .. | .slice .. | .extract .. | .build .. | .makeFunc .. => true
  | .call c => match c.callee with
    | .builtin .len => true
    | _ => false
  | _ => false
theorem value_run {s : Sem Value} {w : World} {f : FuncId} {args : Array Value} {w' : World} : (do pure (Next.value (← s)) : Sem Next).run P w ≠ .ok (.enter f args) w' := by
  simp only [Sem.run_bind]
  cases s.run P w with
  | ok v w1 => simp [Result.andThen, Sem.run_pure]
  | halt x w1 => simp [Result.andThen]
theorem plain_run {ρ : Operand → Value} (hp : plainB o = true) {w : World} {f : FuncId} {args : Array Value} {w' : World} : (execOp ρ o).run P w ≠ .ok (.enter f args) w' := by
  unfold plainB at hp
  unfold execOp
  split at hp
  · rename_i h; simp only [h]; simp [Sem.run_pure]
  · rename_i h; simp only [h]; simp [Sem.run_pure]
  · rename_i h; simp only [h]; simp only [Sem.run_bind]; cases (asBool _).run P w <;> simp [Result.andThen, Sem.run_pure]
  all_goals first
    | (rename_i h; simp only [h]; exact value_run)
    | skip
  · rename_i c h
    split at hp
    · rename_i hc
      simp only [h, resolve, hc, invoke, builtin, Sem.run_bind, Sem.run_pure, Result.andThen_ok]
      generalize Sem.run P (Builtin.len_ c.argTypes o.type (Array.map ρ c.args)) w = r
      cases r <;> simp [Result.andThen]
    · cases hp
  · cases hp

theorem loose_nil (h : Q a g) : wpLoose P ops K W0 Q [] a g := h
theorem loose_skip (hw : Region.wanted o (yielded ops a.tmps) = false) (h : wpLoose P ops K W0 Q rest (a.put o.dst undef) g) : wpLoose P ops K W0 Q (o :: rest) a g :=
  ⟨.skip, hw, fun v w _ _ hv => by cases (show v = undef from hv); exact h⟩
theorem loose_plain (hw : Region.wanted o (yielded ops a.tmps) = true) (hm : marked K o = false) (hp : plainB o = true)
    (h : ∀ Kc : Act → Prop, (∀ a', wpLoose P ops K W0 Q rest a' g → Kc a') → o.quiet P a (fun w' => ∃ p : Later W0, w' = p.val) Kc) : wpLoose P ops K W0 Q (o :: rest) a g := by
  obtain ⟨v, hq, hn⟩ := h _ (fun _ h => h)
  refine ⟨.plain v, ⟨hw, hm, fun w hl _ => ?_⟩, fun u w _ _ hu => by cases (show u = v from hu); exact hn⟩
  have h1 := hq w ⟨⟨w, hl⟩, rfl⟩
  unfold Oper.quietAt at h1
  have h2 := fun f args w' => plain_run (P := P) (ρ := a.eval) (w := w) (f := f) (args := args) (w' := w') hp
  generalize (execOp a.eval o).run P w = r at h1 h2
  cases r with
  | ok n w' =>
    cases n <;> simp only [Oper.quietUpon] at h1
    · exact h1
    · exact h1
    · exact absurd rfl (h2 _ _ _)
  | halt x w' => exact h1
theorem marked_of {t : Nat} (hd : o.dst = some t) (hm : Know.has t K = true) : marked K o = true := by unfold marked; rw [hd]; exact hm
/-- A call whose value is told. -/
theorem loose_fix (t : Nat) (v : Value) {f : FuncId} {args : Array Value} (hr : ∀ w : World, (execOp a.eval o).run P w = .ok (.enter f args) w) (hw : Region.wanted o (yielded ops a.tmps) = true) (hd : o.dst = some t) (hm : Know.has t K = true)
    (hat : ∀ u w, Know.at t u w K ↔ u = v) (hc : ∀ w, Lat W0 w → depsOf K ops o g w → Calls P f args w fun e w' => e = .returned v ∧ Below w.heap.size w w')
    (h : wpLoose P ops K W0 Q rest (a.put (some t) v) (gadd g t v)) : wpLoose P ops K W0 Q (o :: rest) a g := by
  have hs : slotOf o = t := by rw [slotOf, hd]; rfl
  refine ⟨.loose, ⟨hw, marked_of hd hm, fun w hl hdp => ?_⟩, fun u w _ _ hu => ?_⟩
  · rw [hr w]
    exact ⟨rfl, (hc w hl hdp).mono fun e w' ⟨he, hb⟩ => ⟨v, he, hb, by rw [hs]; exact (hat _ _).2 rfl⟩⟩
  · obtain ⟨w', _, hu⟩ := hu
    rw [hs] at hu
    have := (hat _ _).1 hu
    subst this
    show wpLoose P ops K W0 Q rest (a.put o.dst u) (gadd g (slotOf o) u)
    rw [hd, hs]
    exact h
/-- A call of whose value a fact is told. -/
theorem loose_call (t : Nat) {f : FuncId} {args : Array Value} (hr : ∀ w : World, (execOp a.eval o).run P w = .ok (.enter f args) w) (hw : Region.wanted o (yielded ops a.tmps) = true) (hd : o.dst = some t) (hm : Know.has t K = true)
    (hc : ∀ w, Lat W0 w → depsOf K ops o g w → Calls P f args w fun e w' => ∃ v, e = .returned v ∧ Below w.heap.size w w' ∧ Know.at t v w' K)
    (h : ∀ v w, Lat W0 w → Know.at t v w K → wpLoose P ops K W0 Q rest (a.put (some t) v) (gadd g t v)) : wpLoose P ops K W0 Q (o :: rest) a g := by
  have hs : slotOf o = t := by rw [slotOf, hd]; rfl
  refine ⟨.loose, ⟨hw, marked_of hd hm, fun w hl hdp => ?_⟩, fun u w hl _ hu => ?_⟩
  · rw [hr w]
    exact ⟨rfl, (hc w hl hdp).mono fun e w' ⟨v, he, hb, hv⟩ => ⟨v, he, hb, by rw [hs]; exact hv⟩⟩
  · obtain ⟨w', hl', hu⟩ := hu
    rw [hs] at hu
    show wpLoose P ops K W0 Q rest (a.put o.dst u) (gadd g (slotOf o) u)
    rw [hd, hs]
    exact h u w' (hl.trans hl') hu
/-- What makes a block: a slice that is built, a box. -/
theorem loose_make (t : Nat) {V : World → Value} {W : World → World} (hr : ∀ w : World, (execOp a.eval o).run P w = .ok (.value (V w)) (W w)) (hw : Region.wanted o (yielded ops a.tmps) = true) (hd : o.dst = some t) (hm : Know.has t K = true)
    (hv : ∀ w, Lat W0 w → depsOf K ops o g w → Below w.heap.size w (W w) ∧ Know.at t (V w) (W w) K)
    (h : ∀ v w, Lat W0 w → Know.at t v w K → wpLoose P ops K W0 Q rest (a.put (some t) v) (gadd g t v)) : wpLoose P ops K W0 Q (o :: rest) a g := by
  have hs : slotOf o = t := by rw [slotOf, hd]; rfl
  refine ⟨.loose, ⟨hw, marked_of hd hm, fun w hl hdp => ?_⟩, fun u w hl _ hu => ?_⟩
  · rw [hr w]
    obtain ⟨h1, h2⟩ := hv w hl hdp
    exact ⟨h1, by rw [hs]; exact h2⟩
  · obtain ⟨w', hl', hu⟩ := hu
    rw [hs] at hu
    show wpLoose P ops K W0 Q rest (a.put o.dst u) (gadd g (slotOf o) u)
    rw [hd, hs]
    exact h u w' (hl.trans hl') hu
end
end
end Go.Proofs.YtinlciofhegciaaDoor

/- A region by one loose walk, with a tail in one forced order ahead of which an extraction or a copy may still be open. -/
namespace Go.Proofs.YtinlciofhegciaaDoor
open Go.RowKit Go.BigFrame
section
variable {P : Program} {ops : Array Oper} {md : Region.Mode} {K : List (Nat × (Value → World → Prop))} {W0 : World}

/-- What may float: its value hangs on no world. -/
def freeB (o : Oper) : Bool := match o.op with
  | .extract .. | .move _ | .assign _ => true
  | _ => false
theorem free_run {ρ : Operand → Value} {o : Oper} (hf : freeB o = true) {w : World} {u : Value} (h : plainUpon w u ((execOp ρ o).run P w)) (w' : World) : (execOp ρ o).run P w' = .ok (.value u) w' := by
  unfold freeB at hf
  unfold execOp at h ⊢
  split at hf
  · rename_i t ix ho
    simp only [ho] at h ⊢
    generalize ρ t = tv at h ⊢
    cases tv <;> simp only [Instr.extract, Sem.run_bind] at h ⊢
    case tuple vs =>
      revert h
      cases vs[ix]? with
      | none => simp [stuck, plainUpon, Result.andThen]
      | some v => simp only [Sem.run_pure, Result.andThen_ok, plainUpon]; rintro ⟨_, rfl⟩; rfl
    all_goals (revert h; simp [stuck, plainUpon, Result.andThen])
  · rename_i x ho
    simp only [ho, Sem.run_pure, plainUpon] at h ⊢
    rw [h.2]
  · rename_i x ho
    simp only [ho, Sem.run_pure, plainUpon] at h ⊢
    rw [h.2]
  · cases hf

def freeAt (ops : Array Oper) (i : Nat) : Bool := match ops[i]? with
  | some o => freeB o
  | none => false
/-- Each of the first n operations floats, or one behind it waits for it. -/
def sinkF (md : Region.Mode) (ops : Array Oper) (n : Nat) : Bool :=
  (List.range n).all fun i => freeAt ops i || (List.range (n + 1)).any fun j => decide (i < j) && Region.waitsFor md ops j i && (j == n || !freeAt ops j)

theorem tail_waitsF {n : Nat} {listed : Array Bool} (hs : sinkF md ops n = true) (hc : Region.chainB md ops n = true) (hn : n < ops.size) (inv : HeadInv md ops n listed) :
    ∀ (d i : Nat), n - i = d → i < n → freeAt ops i = false → listed.getD i true = false → ∀ t, n ≤ t → t ∉ Region.ready md ops listed := by
  intro d
  induction d using Nat.strongRecOn with
  | _ d ih =>
    intro i hd hi hfr hun t ht hr
    obtain ⟨_, ot, hot, hall⟩ := mem_ready.1 hr
    have htlt : t < ops.size := (Array.getElem?_eq_some_iff.1 hot).1
    by_cases htn : t = n
    · subst htn
      have h1 := List.all_eq_true.1 hs i (List.mem_range.2 hi)
      rw [hfr, Bool.false_or] at h1
      obtain ⟨j, hj, hj2⟩ := List.any_eq_true.1 h1
      simp only [Bool.and_eq_true, decide_eq_true_eq, Bool.or_eq_true, beq_iff_eq, Bool.not_eq_true'] at hj2
      obtain ⟨oj, hoj, e, he, hb, hon⟩ := Region.waitsFor_spec hj2.1.2
      have hjle : j ≤ t := by have := List.mem_range.1 hj; omega
      by_cases hjt : j = t
      · subst hjt
        have : oj = ot := Option.some.inj (hoj.symm.trans hot)
        subst this
        have h2 := hall e he hb
        rw [hon, getD_both hun] at h2
        cases h2
      · cases hl : listed.getD j false with
        | true =>
          have h2 := inv.closed j oj hoj hl e he hb
          rw [hon, getD_both hun] at h2
          cases h2
        | false =>
          have hjs : j < listed.size := by rw [inv.size]; omega
          exact ih (t - j) (by omega) j rfl (by omega) (hj2.2.resolve_left hjt) (getD_in hjs hl) t (Nat.le_refl _) hr
    · have h1 := List.all_eq_true.1 hc t (List.mem_range.2 htlt)
      simp only [Bool.or_eq_true, decide_eq_true_eq] at h1
      rcases h1 with h1 | h1
      · omega
      · obtain ⟨o', ho', e, he, hb, hon⟩ := Region.waitsFor_spec h1
        have : o' = ot := Option.some.inj (ho'.symm.trans hot)
        subst this
        have h2 := hall e he hb
        rw [hon, getD_both (inv.tail (t - 1) (by omega) (by omega))] at h2
        cases h2

/-- Whatever is picked: of the first n operations; or, where one behind them may come up, the rest's own meaning. -/
def anyF (P : Program) (md : Region.Mode) (ops : Array Oper) (K : List (Nat × (Value → World → Prop))) (W0 : World) (n gq : Nat) (Q' : Exit → Act → World → Prop) (L : Array Bool → Act → (Nat → Value → Prop) → Prop) : Nat → Array Bool → Act → (Nat → Value → Prop) → Prop
  | 0, listed, a, g => L listed a g
  | f + 1, listed, a, g => ∀ w, Lat W0 w → Known K g w → Region.ready md ops listed ≠ [] ∧ (∀ i ∈ Region.ready md ops listed, i < n → sOp P ops K W0 i (anyF P md ops K W0 n gq Q' L f (listed.setIfInBounds i true)) a g w) ∧
      (∀ j ∈ Region.ready md ops listed, n ≤ j → wpAny P md ops Q' (f + 1 + gq) listed a w)

theorem wpAny_of_anyF (hK : Know.stable K) {n gq : Nat} {L : Array Bool → Act → (Nat → Value → Prop) → Prop} {Q' : Exit → Act → World → Prop} (hL : ∀ listed a g w, Lat W0 w → Known K g w → L listed a g → wpAny P md ops Q' gq listed a w) :
    ∀ (f : Nat) (listed : Array Bool) (a : Act) (g : Nat → Value → Prop) (w : World), Lat W0 w → Known K g w → anyF P md ops K W0 n gq Q' L f listed a g → wpAny P md ops Q' (f + gq) listed a w
  | 0, listed, a, g, w, hw, hg, h => by rw [Nat.zero_add]; exact hL _ _ _ _ hw hg h
  | f + 1, listed, a, g, w, hw, hg, h => by
    obtain ⟨h1, h2, h3⟩ := h w hw hg
    by_cases ht : ∃ j ∈ Region.ready md ops listed, n ≤ j
    · obtain ⟨j, hj, hjn⟩ := ht
      exact h3 j hj hjn
    · rw [show f + 1 + gq = (f + gq) + 1 by omega]
      exact ⟨fun h0 => absurd h0 h1, fun i hi => wpOp_of_sOp hK hw hg (fun a' g' w' hw' hg' h' => wpAny_of_anyF hK hL f _ a' g' w' hw' hg' h') (h2 i hi (Nat.lt_of_not_le fun hle => ht ⟨i, hi, hle⟩))⟩

theorem Does.yields {o : Oper} {a : Act} {g : Nat → Value → Prop} {κ : Kind} {w : World} (h : Does P ops K W0 o a g κ) (hw : Lat W0 w) (hg : Known K g w) (hf : freeB o = true) (hm : marked K o = false) :
    ∃ v, Valid K o w v κ ∧ Yields P ops o v a ∧ behind o g v κ = g := by
  cases κ with
  | skip => exact ⟨undef, rfl, .inr ⟨h, rfl⟩, rfl⟩
  | plain u => exact ⟨u, rfl, .inl ⟨h.1, free_run hf (h.2.2 w hw (hg.deps o))⟩, rfl⟩
  | loose => exact absurd (h.2.1.symm.trans hm) (by simp)

theorem anyF_first (hK : Know.stable K) {n i gq : Nat} {oi : Oper} {κ : Kind} {L : Array Bool → Act → (Nat → Value → Prop) → Prop} {Q' : Exit → Act → World → Prop} (hL : ∀ listed a g w, Lat W0 w → Known K g w → L listed a g → wpAny P md ops Q' gq listed a w)
    (hQ : ∀ c a d v w, Q' (.panic c) (Act.put a d v) w → Q' (.panic c) a w) (hi : ops[i]? = some oi) (hsel : ∀ (j : Nat) (o : Oper) cs b, ops[j]? = some o → o.op ≠ .select cs b) (hin : i < n)
    (hwait : (∀ listed : Array Bool, HeadInv md ops n listed → listed.getD i true = false → ∀ j ∈ Region.ready md ops listed, j < n) ∨ (freeB oi = true ∧ marked K oi = false))
    (hdone : ∀ listed a g, L listed a g → ∀ j ∈ Region.ready md ops listed, n ≤ j) (f : Nat) :
    ∀ (listed : Array Bool) (a : Act) (g : Nat → Value → Prop), HeadInv md ops n listed →
      (∀ j oj, ops[j]? = some oj → j ≠ i → listed.getD j true = false → (∀ e ∈ oj.after, Region.binds md e = true → e.on ≠ i) → oi.apart ops oj = true) →
      i ∈ Region.ready md ops listed → Does P ops K W0 oi a g κ →
      (∀ w, Lat W0 w → Known K g w → ∀ v, Valid K oi w v κ → anyF P md ops K W0 n gq Q' L f (listed.setIfInBounds i true) (a.put oi.dst v) (behind oi g v κ)) → anyF P md ops K W0 n gq Q' L (f + 1) listed a g := by
  -- the third part: a tail operation may come up while i is open
  have third : ∀ (f : Nat) (listed : Array Bool) (a : Act) (g : Nat → Value → Prop) (w : World), Lat W0 w → Known K g w → HeadInv md ops n listed →
      (∀ j oj, ops[j]? = some oj → j ≠ i → listed.getD j true = false → (∀ e ∈ oj.after, Region.binds md e = true → e.on ≠ i) → oi.apart ops oj = true) →
      i ∈ Region.ready md ops listed → Does P ops K W0 oi a g κ →
      (∀ w, Lat W0 w → Known K g w → ∀ v, Valid K oi w v κ → anyF P md ops K W0 n gq Q' L f (listed.setIfInBounds i true) (a.put oi.dst v) (behind oi g v κ)) →
      ∀ j ∈ Region.ready md ops listed, n ≤ j → wpAny P md ops Q' (f + 1 + gq) listed a w := by
    intro f listed a g w hw hg inv hfree hr hy H j hj hjn
    rcases hwait with hwait | ⟨hf, hm⟩
    · have := hwait listed inv (mem_ready.1 hr).1 j hj
      omega
    · obtain ⟨v, hv, hyv, hb⟩ := hy.yields hw hg hf hm
      have h1 := H w hw hg v hv
      rw [hb] at h1
      rw [show f + 1 + gq = (f + gq) + 1 by omega]
      exact wpAny_first hi hsel (fun c a w h => hQ c a _ _ w h) (f + gq) listed a w hfree hr hyv (wpAny_of_anyF hK hL f _ _ _ _ hw hg h1)
  induction f with
  | zero =>
    intro listed a g inv hfree hr hy H w hw hg
    have hun := (mem_ready.1 hr).1
    refine ⟨fun h => (by rw [h] at hr; cases hr), fun j hj hjn => ?_, third 0 listed a g w hw hg inv hfree hr hy H⟩
    by_cases hji : j = i
    · subst hji
      unfold sOp
      simp only [hi]
      exact ⟨κ, hy, fun v hv => H w hw hg v hv⟩
    · obtain ⟨v, hv⟩ := hy.some hw hg
      have := hdone _ _ _ (H w hw hg v hv) j (ready_mono hj hji)
      omega
  | succ f ih =>
    intro listed a g inv hfree hr hy H w hw hg
    have hun := (mem_ready.1 hr).1
    refine ⟨fun h => (by rw [h] at hr; cases hr), fun j hj hjn => ?_, third (f + 1) listed a g w hw hg inv hfree hr hy H⟩
    by_cases hji : j = i
    · subst hji
      unfold sOp
      simp only [hi]
      exact ⟨κ, hy, fun v hv => H w hw hg v hv⟩
    · obtain ⟨hjun, oj, hoj, hall⟩ := mem_ready.1 hj
      have hnot : ∀ e ∈ oj.after, Region.binds md e = true → e.on ≠ i := fun e he hb heq => by
        have h1 := hall e he hb
        rw [heq, getD_both hun] at h1
        cases h1
      obtain ⟨a1, a2, a3⟩ := Oper.apart_spec (hfree j oj hoj hji hjun hnot)
      have hfree' : ∀ k ok, ops[k]? = some ok → k ≠ i → (listed.setIfInBounds j true).getD k true = false →
          (∀ e ∈ ok.after, Region.binds md e = true → e.on ≠ i) → oi.apart ops ok = true := fun k ok hk hki hun' hno => by
        refine hfree k ok hk hki ?_ hno
        by_cases hjk : j = k
        · subst hjk; exact hjun
        · rw [getD_set_ne true hjk] at hun'; exact hun'
      have back : ∀ v κj, Does P ops K W0 oj (a.put oi.dst v) (behind oi g v κ) κj → Does P ops K W0 oj a g κj := fun v κj hd =>
        hd.of_same (execOp_put oj (fun cs b => hsel j oj cs b hoj) a oi.dst v a1).symm (wanted_put oj a oi.dst v a1).symm (fun w h => (deps_behind a1 hy.marks).2 h)
      have at1 : ∀ w1, Lat W0 w1 → Known K g w1 → ∀ v, Valid K oi w1 v κ → ∃ w2, Lat w1 w2 ∧ Known K (behind oi g v κ) w2 ∧ ∃ κj, Does P ops K W0 oj a g κj ∧ ∀ u, Valid K oj w2 u κj →
          anyF P md ops K W0 n gq Q' L f ((listed.setIfInBounds i true).setIfInBounds j true) ((a.put oi.dst v).put oj.dst u) (behind oj (behind oi g v κ) u κj) := fun w1 hw1 hg1 v hv => by
        obtain ⟨w2, hl2, hg2⟩ := hv.reach hK hg1
        have h2 := ((H w1 hw1 hg1 v hv) w2 (hw1.trans hl2) hg2).2.1 j (ready_mono hj hji) hjn
        unfold sOp at h2
        simp only [hoj] at h2
        obtain ⟨κj, hd, hn⟩ := h2
        exact ⟨w2, hl2, hg2, κj, back v κj hd, hn⟩
      obtain ⟨v0, hv0⟩ := hy.some hw hg
      obtain ⟨_, _, _, κj, hdj, _⟩ := at1 w hw hg v0 hv0
      unfold sOp
      simp only [hoj]
      refine ⟨κj, hdj, fun u hu => ?_⟩
      refine ih (listed.setIfInBounds j true) (a.put oj.dst u) (behind oj g u κj) (inv.set hj hjn) hfree' (ready_mono hr (Ne.symm hji)) ?_ ?_
      · exact hy.of_same (execOp_put oi (fun cs b => hsel i oi cs b hi) a oj.dst u a3) (wanted_put oi a oj.dst u a3) (fun w h => (deps_behind a3 hdj.marks).1 h)
      · intro w1 hw1 hg1 v hv
        have hg1' := hg1.less
        obtain ⟨w2, hl2, hg2, κj', hdj', hn⟩ := at1 w1 hw1 hg1' v hv
        have hκ : κj' = κj := hdj'.unique hdj hw1 hg1'
        subst hκ
        have := hn u (hu.at_later hK hg1 hl2)
        rw [Array.setIfInBounds_comm _ _ hji, ← Act.put_comm a v u a2, behind_comm]
        exact this

theorem anyF_lex (hK : Know.stable K) {n gq : Nat} {Lq : Act → (Nat → Value → Prop) → Prop} {Q' : Exit → Act → World → Prop} (hL : ∀ listed a g w, Lat W0 w → Known K g w → (Region.seqB md ops gq n listed = true ∧ Lq a g) → wpAny P md ops Q' gq listed a w)
    (hQ : ∀ c a d v w, Q' (.panic c) (Act.put a d v) w → Q' (.panic c) a w) (hsel : Region.noSelect ops = true)
    (hwait : ∀ i o, i < n → ops[i]? = some o → (∀ listed : Array Bool, HeadInv md ops n listed → listed.getD i true = false → ∀ j ∈ Region.ready md ops listed, j < n) ∨ (freeB o = true ∧ marked K o = false)) :
    ∀ (l : List Oper) (k : Nat) (listed : Array Bool) (a : Act) (g : Nat → Value → Prop), (∀ j, j < l.length → l[j]? = ops[k + j]?) → k + l.length = n → HeadInv md ops n listed →
    Region.lexHead md ops gq l.length k listed = true → wpLoose P ops K W0 Lq l a g →
    anyF P md ops K W0 n gq Q' (fun listed' a' g' => Region.seqB md ops gq n listed' = true ∧ Lq a' g') l.length listed a g
  | [], k, listed, a, g, _, hk, _, hB, h => by
    have : k = n := by simpa using hk
    subst this
    exact ⟨by simpa [Region.lexHead] using hB, h⟩
  | o :: l, k, listed, a, g, hl, hk, inv, hB, h => by
    have h0 : ops[k]? = some o := by simpa using (hl 0 (by simp)).symm
    simp only [List.length_cons, Region.lexHead, Bool.and_eq_true] at hB
    obtain ⟨⟨hr, hf⟩, hB'⟩ := hB
    have hkn : k < n := by simp only [List.length_cons] at hk; omega
    have hr' : k ∈ Region.ready md ops listed := by simpa using hr
    obtain ⟨κ, hd, hn⟩ := h
    refine anyF_first hK hL hQ h0 (Region.noSelect_spec hsel) hkn (hwait k o hkn h0) (fun listed' a' g' hL => seqB_ready hL.1) l.length listed a g inv (Region.free_spec h0 hf) hr' hd ?_
    intro w hw hg v hv
    exact anyF_lex hK hL hQ hsel hwait l (k + 1) _ _ _ (fun j hj => by have := hl (j + 1) (by simp; omega); simpa [Nat.add_assoc, Nat.add_comm 1 j] using this) (by simp only [List.length_cons] at hk; omega) (inv.set hr' hkn) hB' (hn v w hw hg hv)

def floatB (md : Region.Mode) (ops : Array Oper) (n : Nat) : Bool :=
  Region.noSelect ops && decide (n < ops.size) && sinkF md ops n && Region.chainB md ops n && Region.lexHead md ops (ops.size - n) n 0 (Array.replicate ops.size false)
def unmarkedB (K : List (Nat × (Value → World → Prop))) (ops : Array Oper) : Bool := ops.toList.all fun o => !freeB o || !marked K o

theorem region_float_tail {id : Nat} {Q : Exit → Act → World → Prop} {a : Act} {w : World} {l : List Oper} (K : List (Nat × (Value → World → Prop))) (n : Nat) (hK : Know.stable K) (hm : P.follows .mixedOrders = true) (hB : floatB .any l.toArray n = true)
    (hu : unmarkedB K l.toArray = true)
    (h : wpLoose P l.toArray K w (fun a' g => ∀ w', Lat w w' → Known K g w' → wpList P l.toArray (NoPanic Q) (l.drop n) a' w') (l.take n) a (fun _ _ => False)) : (Code.region id l.toArray true).wp P Q a w := by
  have hQ : ∀ c a d v w, NoPanic Q (.panic c) (Act.put a d v) w → NoPanic Q (.panic c) a w := fun _ _ _ _ _ h => h
  refine wp_region_noPanic ?_
  simp only [floatB, Bool.and_eq_true, decide_eq_true_eq] at hB
  obtain ⟨⟨⟨⟨hsel, hn⟩, hs⟩, hc⟩, hlex⟩ := hB
  have hn' : n < l.length := by simpa using hn
  have htl : (l.take n).length = n := by simp; omega
  have hdl : (l.drop n).length = l.toArray.size - n := by simp
  have inv0 : HeadInv .any l.toArray n (Array.replicate l.toArray.size false) :=
    ⟨by simp, fun j oj _ hl => (by rw [getD_replicate_false] at hl; cases hl), fun t _ ht => getD_in (by simpa using ht) (getD_replicate_false _ _)⟩
  have hL : ∀ (listed : Array Bool) (a' : Act) (g' : Nat → Value → Prop) (w' : World), Lat w w' → Known K g' w' → (Region.seqB .any l.toArray (l.toArray.size - n) n listed = true ∧ ∀ w', Lat w w' → Known K g' w' → wpList P l.toArray (NoPanic Q) (l.drop n) a' w') →
      wpAny P .any l.toArray (NoPanic Q) (l.toArray.size - n) listed a' w' := fun listed a' g' w' hw' hg' hL => by
    have hl1 : Region.seqB .any l.toArray (l.drop n).length n listed = true := by rw [hdl]; exact hL.1
    have hl2 := wpAny_of_seq (md := .any) (Q' := NoPanic Q) (l.drop n) n listed a' w' (fun j => by simp) hl1 (hL.2 w' hw' hg')
    rwa [hdl] at hl2
  have H := anyF_lex (md := .any) (gq := l.toArray.size - n) (Lq := fun a' g => ∀ w', Lat w w' → Known K g w' → wpList P l.toArray (NoPanic Q) (l.drop n) a' w') hK hL hQ hsel (fun i o hi ho => by
    cases hf : freeB o with
    | true =>
      refine .inr ⟨rfl, ?_⟩
      have := List.all_eq_true.1 hu o (by simpa using Array.mem_of_getElem? ho)
      simpa [hf] using this
    | false => exact .inl fun listed inv hun j hj => Nat.lt_of_not_le fun h => tail_waitsF hs hc hn inv _ i rfl hi (by rw [freeAt, ho]; exact hf) hun j h hj) (l.take n) 0 _ a _ (fun j hj => by
    have hj' : j < n := by rw [htl] at hj; exact hj
    simp [hj']) (by simpa using htl) inv0 (by rw [htl]; exact hlex) h
  refine wp_region_any hm ?_
  have G := wpAny_of_anyF (Q' := NoPanic Q) (gq := l.toArray.size - n) hK hL _ _ _ _ _ (show Lat w { w with drawn := w.drawn + 1 } from (Below.refl _ _).drew) (fun _ _ h => h.elim) H
  rw [htl, show n + (l.toArray.size - n) = l.toArray.size by omega] at G
  exact G
end
end Go.Proofs.YtinlciofhegciaaDoor

/- A text's veil: the program's walk. -/
namespace Go.Proofs.YtinlciofhegciaaDoor
open Go.RowKit Go.BigFrame

theorem blend_get {x y : List UInt8} {i : Nat} {q : UInt8} (hl : y.length = x.length) (hq : x[i]? = some q) : (y.take i ++ x.drop i)[i]? = some q := by
  obtain ⟨hi, _⟩ := List.getElem?_eq_some_iff.1 hq
  have hm : (y.take i).length = i := by rw [List.length_take]; omega
  rw [List.getElem?_append_right (by omega), hm, List.getElem?_drop, Nat.sub_self, Nat.add_zero, hq]
theorem blend_set {x y : List UInt8} {i : Nat} {q : UInt8} (hl : y.length = x.length) (hq : y[i]? = some q) : (y.take i ++ x.drop i).set i q = y.take (i + 1) ++ x.drop (i + 1) := by
  obtain ⟨hi, hqi⟩ := List.getElem?_eq_some_iff.1 hq
  have hm : (y.take i).length = i := by rw [List.length_take]; omega
  rw [List.set_append_right _ _ (by omega), hm, Nat.sub_self, List.drop_eq_getElem_cons (by omega : i < x.length), List.set_cons_zero, List.take_add_one, hq, List.append_assoc]
  rfl
theorem veilL_length (k : List UInt8) (r s : Int) (t : List UInt8) (ht : t.length = 8) (hl : (streamOf k (aboutL [98, 111, 100, 121] r s) 8).length = 8) : (veilL k r s t).length = 8 := by
  unfold veilL; rw [List.length_map, List.length_zip, hl, ht]; rfl

set_option maxRecDepth 100000 in
set_option maxHeartbeats 2000000 in
theorem veil_any (k : List UInt8) (r s : Int) (t : List UInt8) (w : World) (hk : k.length ≤ 1000000) (ht : t.length = 8) :
    Calls Tryd.prog 11 #[.string (str k), .int .i64 r, .int .i64 s, .string (str t)] w fun e w' => e = .returned (.string (str (veilL k r s t))) ∧ Below w.heap.size w w' := by
  have hab := about_any [98, 111, 100, 121] r s w (by simp)
  have hla := aboutL_length [98, 111, 100, 121] r s
  have hvd : veilL k r s t = ((streamOf k (aboutL [98, 111, 100, 121] r s) 8).zip t).map fun p => p.1 ^^^ p.2 := rfl
  obtain ⟨a, ha⟩ : ∃ a, a = aboutL [98, 111, 100, 121] r s := ⟨_, rfl⟩
  rw [← ha] at hab hla hvd
  simp only [List.length_cons, List.length_nil] at hla
  have hm := fun W => stream_any k a 8 W (by omega) (by omega) (by omega) (by omega)
  have hml : (streamOf k a 8).length = 8 := stream8 k a
  obtain ⟨x, hx0⟩ : ∃ m, m = streamOf k a 8 := ⟨_, rfl⟩
  rw [← hx0] at hm hml hvd
  obtain ⟨y, hy⟩ : ∃ y, y = veilL k r s t := ⟨_, rfl⟩
  rw [← hy] at hvd ⊢
  have hyl : y.length = x.length := by rw [hvd, List.length_map, List.length_zip, hml, ht]; rfl
  have Hab := Lib.hid hab
  have Hm := Lib.hid hm
  have Hvd := Lib.hid hvd
  have Hyl := Lib.hid hyl
  have Hml := Lib.hid hml
  clear hab hm ha hx0 hvd hy hyl hla
  go_enter Tryd.func11, Tryd.ntmps11
  go_wp2_with fail
  refine Hab.out.mono ?_
  rintro e w1 ⟨rfl, hb1⟩
  have Hb1 := Lib.hid hb1
  clear hb1
  go_wp2_with fail
  refine (Hm.out w1).mono ?_
  rintro e w2 ⟨rfl, hb2⟩
  have Hb2 := Lib.hid (below_trans Hb1.out hb2)
  clear hb2
  have hr := run_bytes_of Tryd.underlying_str Tryd.underlying_bytes Tryd.underlying_u8 (P := Tryd.prog) x w2
  have hrow := row_bytes w2 5 x (by rw [hml]; simp only [maxLen]; omega)
  rw [hml] at hr hrow
  have Hrow := Lib.hid hrow
  clear hrow hml
  go_wp2_with fail
  clear hr
  obtain ⟨cp, hcp⟩ : ∃ c, c = grownCap w2 8 0 5 := ⟨_, rfl⟩
  have hR := Hrow.out
  rw [← hcp] at hR ⊢
  have HR := Lib.hid hR
  clear hR hcp Hrow
  go_loopw [19] (fun v wr => ∃ i : Nat, i ≤ 8 ∧ v = .int .i64 (i : Int) ∧ Row wr w2.heap.size 5 1 (.slice (some ⟨w2.heap.size, 0, none⟩) 8 cp) 8 (vbytes (y.take i ++ x.drop i)) ∧ Below w2.heap.size w2 wr) (fun v _ => (8 - intOf v).toNat)
  case atStart => exact ⟨0, by omega, rfl, by simpa using HR.out.1, HR.out.2⟩
  case round =>
    obtain ⟨i, hi, rfl, hrow, hb⟩ := hrel
    clear HR
    by_cases h8 : i < 8
    · have b8 : decide ((i : Int) < 8) = true := decide_eq_true (by omega)
      have c8 : (i : Int) < 8 := by omega
      have hml := Hml.out
      obtain ⟨q, hq⟩ : ∃ q, x[i]? = some q := ⟨_, List.getElem?_eq_getElem (by omega)⟩
      obtain ⟨p, hp⟩ : ∃ p, t[i]? = some p := ⟨_, List.getElem?_eq_getElem (by omega)⟩
      have hyi : y[i]? = some (q ^^^ p) := by
        rw [Hvd.out, List.getElem?_map, show (x.zip t)[i]? = some (q, p) from List.getElem?_zip_eq_some.2 ⟨hq, hp⟩]; rfl
      have hL := blend_get Hyl.out hq
      have hL2 := blend_set Hyl.out hyi
      have hix := fun W : World => run_index_str Tryd.underlying_str (str t) (i : Int) i p rfl (by rw [str_list]; exact hp) W
      obtain ⟨g2, cap2, hv2, _, hg2, _, hcells⟩ := hrow.form (by omega)
      injection hv2 with hv3 _ hv4
      injection hv3 with hv3
      injection hv3 with hv3
      subst hv3 hv4
      obtain ⟨hc1, hf1⟩ := hcells i (.int .u8 (q.toNat : Int)) (by rw [vbytes, List.getElem?_map, hL]; rfl)
      have hst2 : (vbytes (y.take i ++ x.drop i)).set i (.int .u8 ((q ^^^ p).toNat : Int)) = vbytes (y.take (i + 1) ++ x.drop (i + 1)) := by
        rw [← hL2, vbytes, vbytes, ← List.map_set]
      have hx8 : bits .xor .u8 (q.toNat : Int) (p.toNat : Int) = ((q ^^^ p).toNat : Int) := by
        rw [u8_xor_nat _ _ q.toNat_lt p.toNat_lt]; rfl
      have hci : (vbytes (y.take i ++ x.drop i))[i]? = some (.int .u8 (q.toNat : Int)) := by rw [vbytes, List.getElem?_map, hL]; rfl
      have Hst2 := Lib.hid hst2
      have Hci := Lib.hid hci
      have Hrow := Lib.hid hrow
      have Hb := Lib.hid hb
      clear hrow hb hst2 hci hL hL2 hcells hq hp hyi hml hf1
      go_wp2_with fail
      have l1 := Later.cell hc1
      refine region_float_tail [] 9 Know.stable_nil (by kernel_rfl) (by kernel_rfl) (by rfl) ?_
      simp only [List.take_succ_cons, List.take_zero, List.drop_succ_cons, List.drop_zero]
      (repeat (first | (refine loose_skip (by rfl) ?_; simp only [Act.put, List.setIfInBounds_toArray, List.set_cons_zero, List.set_cons_succ]) | (refine loose_plain (by rfl) (by rfl) (by rfl) (fun Kc hKc => ?_); go_big_quiet_op; refine hKc _ ?_; clear hKc Kc)))
      refine loose_nil ?_
      intro wq hbq _
      have hrow := Hrow.out.below (show Below wr.heap.size wr wq from hbq)
      obtain ⟨g2, cap2, hv2, _, hg2, _, hcells⟩ := hrow.form (by omega)
      injection hv2 with hv3 _ hv4
      injection hv3 with hv3
      injection hv3 with hv3
      subst hv3 hv4
      obtain ⟨hc1, hf1⟩ := hcells i _ Hci.out
      have hst := hrow.store i (.int .u8 ((q ^^^ p).toNat : Int))
      rw [Hst2.out] at hst
      have Hst := Lib.hid hst
      have Hbq := Lib.hid (below_set (below_trans Hb.out hbq) (b := w2.heap.size) (Nat.le_refl _) i (.int .u8 ((q ^^^ p).toNat : Int)))
      clear hrow hst hcells l1 hbq
      go_wp2_with fail
      refine NoPanic.normal ?_
      go_wp2_with fail
      go_roundw
      case rel => exact ⟨i + 1, by omega, by go_num, Hst.out, Hbq.out⟩
      case measure => simp [intOf]; omega
    · have b8 : decide ((i : Int) < 8) = false := decide_eq_false (by omega)
      have hi8 : i = 8 := by omega
      have hml := Hml.out
      have hyl := Hyl.out
      have hfin : y.take i ++ x.drop i = y := by
        rw [hi8, List.take_of_length_le (by omega), List.drop_of_length_le (by omega), List.append_nil]
      rw [hfin] at hrow
      have hs1 := Row.string (P := Tryd.prog) (l := y) (src := 39) (dst := 9) Tryd.underlying_bytes Tryd.underlying_u8 Tryd.underlying_str (by rw [hyl, hml]; exact hrow)
      have Hbf := Lib.hid (below_trans Hb2.out hb)
      clear hrow hb hi8 hfin hml hyl
      go_wp2_with fail
      go_ret
      exact ⟨rfl, Hbf.out⟩
end Go.Proofs.YtinlciofhegciaaDoor

/- Six bytes as a number: both walks. -/
namespace Go.Proofs.YtinlciofhegciaaDoor
open Go.RowKit
def foldN (l : List UInt8) : Nat := l.foldl (fun n c => n * 256 + c.toNat) 0
theorem foldN_take {l : List UInt8} {k : Nat} {c : UInt8} (h : l[k]? = some c) : foldN (l.take (k + 1)) = foldN (l.take k) * 256 + c.toNat := by
  unfold foldN
  rw [List.take_add_one, h, List.foldl_append]; rfl
theorem foldN_lt (l : List UInt8) : foldN l < 256 ^ l.length := by
  have : ∀ (l : List UInt8) (n : Nat), l.foldl (fun n c => n * 256 + c.toNat) n + 1 ≤ (n + 1) * 256 ^ l.length := by
    intro l
    induction l with
    | nil => intro n; simp
    | cons c l ih =>
      intro n
      have h1 := ih (n * 256 + c.toNat)
      have h2 : c.toNat < 256 := c.toNat_lt
      have h3 : (n * 256 + c.toNat + 1) * 256 ^ l.length ≤ (n + 1) * 256 * 256 ^ l.length := Nat.mul_le_mul_right _ (by omega)
      rw [List.foldl_cons, List.length_cons, Nat.pow_succ, Nat.mul_comm (256 ^ l.length), ← Nat.mul_assoc]
      omega
  have := this l 0
  unfold foldN
  omega
theorem foldN_take_lt (l : List UInt8) (k : Nat) (hk : k ≤ 6) : foldN (l.take k) < 281474976710656 := by
  have h1 := foldN_lt (l.take k)
  have h2 : (l.take k).length ≤ 6 := by rw [List.length_take]; omega
  have h3 : 256 ^ (l.take k).length ≤ 256 ^ 6 := Nat.pow_le_pow_right (by omega) h2
  have h4 : 256 ^ 6 = 281474976710656 := by decide
  omega
set_option maxRecDepth 100000 in
set_option maxHeartbeats 1000000 in
theorem refSix_any (l : List UInt8) (w : World) (h6 : 6 ≤ l.length) (hl : l.length ≤ 1000000) :
    Calls Tryd.prog 47 #[.string (str l)] w fun e w' => e = .returned (.int .u64 (six l : Int)) ∧ Below w.heap.size w w' := by
  go_enter Tryd.func47, Tryd.ntmps47
  go_wp2_with fail
  go_loopw [3, 4] (fun nv iv wr => ∃ k : Nat, iv = .int .i64 (k : Int) ∧ k ≤ 6 ∧ nv = .int .u64 (foldN (l.take k) : Int) ∧ wr = w) (fun _ iv _ => 6 - (intOf iv).toNat)
  case atStart => exact ⟨0, rfl, by omega, rfl, rfl⟩
  case round =>
    obtain ⟨k, rfl, hk, rfl, rfl⟩ := hrel
    by_cases hk6 : k < 6
    · have d6 : decide ((k : Int) < 6) = true := decide_eq_true (by omega)
      have hki : (k : Int) < 6 := by omega
      obtain ⟨c, hc⟩ : ∃ c, l[k]? = some c := ⟨_, List.getElem?_eq_getElem (by omega)⟩
      have hix := fun W => run_index_str Tryd.underlying_str (str l) (k : Int) k c rfl (by rw [str_list]; exact hc) W
      have hn := foldN_take hc
      have hb := foldN_take_lt l k (by omega)
      obtain ⟨n, hn0⟩ : ∃ n, n = foldN (l.take k) := ⟨_, rfl⟩
      rw [← hn0] at hn hb ⊢
      have Hn := Lib.hid hn
      have hcb : c.toNat < 256 := c.toNat_lt
      clear hn hn0 hc
      go_wp2_with fail
      go_roundw
      case rel => exact ⟨k + 1, by go_num, by omega, by rw [Hn.out]; push_cast; rfl, by trivial⟩
      case measure => simp [intOf]; omega
    · have d6 : decide ((k : Int) < 6) = false := decide_eq_false (by omega)
      have hkk : k = 6 := by omega
      subst hkk
      go_wp2_with fail
      go_ret
      exact ⟨rfl, Below.refl _ _⟩
theorem join8 {n c : Nat} (hn : n < 281474976710656) (hc : c < 256) : bits .or .u64 ((n : Int) * 256) (c : Int) = (n : Int) * 256 + (c : Int) := by
  refine bits_join .u64 64 (by decide) (fun m h0 h1 => ?_) 8 _ _ (by omega) (by omega) (by omega) (by omega) (by omega) (by omega)
  show m % (2 ^ 64 : Int) = m
  exact Int.emod_eq_of_lt h0 h1
set_option maxRecDepth 100000 in
set_option maxHeartbeats 1000000 in
theorem number6_any (l : List UInt8) (w : World) (h6 : 6 ≤ l.length) (hl : l.length ≤ 1000000) :
    Calls Tryd.prog 19 #[.string (str l)] w fun e w' => e = .returned (.int .u64 (six l : Int)) ∧ Below w.heap.size w w' := by
  have hsz : (str l).size = l.length := str_size l
  have hex : (str l).extract 0 6 = str (l.take 6) := str_take l 6
  have a2 := fun W : World => run_bytes_of (P := Tryd.prog) Tryd.underlying_str Tryd.underlying_bytes Tryd.underlying_u8 (l.take 6) W
  have hi6 : (6 : Int) ≤ (l.length : Int) := by omega
  go_enter Tryd.func19, Tryd.ntmps19
  go_wp2_with fail
  have hR := row_bytes w 5 (l.take 6) (by rw [List.length_take]; simp only [maxLen]; omega)
  have ht6 : (l.take 6).length = 6 := by rw [List.length_take]; omega
  rw [ht6] at hR
  obtain ⟨cp2, hcp2⟩ : ∃ c, c = grownCap w 6 0 5 := ⟨_, rfl⟩
  rw [← hcp2] at hR ⊢
  have HR := Lib.hid hR
  clear hR hcp2 a2 hex hsz
  generalize Lib.bytesWorld w 5 (str (l.take 6)) = w4 at *
  obtain ⟨b, hb⟩ : ∃ b, b = l.take 6 := ⟨_, rfl⟩
  rw [← hb] at HR ht6
  have Hb := Lib.hid hb
  clear hb
  go_loopw [3, 10] (fun nv iv wr => ∃ k : Nat, iv = .int .i64 (k : Int) ∧ k ≤ 6 ∧ nv = .int .u64 (foldN (b.take k) : Int) ∧ Row wr w.heap.size 5 1 (.slice (some ⟨w.heap.size, 0, none⟩) 6 cp2) 6 (vbytes b) ∧ Below w.heap.size w wr) (fun _ iv _ => 6 - (intOf iv).toNat)
  case atStart => exact ⟨0, rfl, by omega, rfl, HR.out.1, HR.out.2⟩
  case round =>
    obtain ⟨k, rfl, hk, rfl, hrow, hbl⟩ := hrel
    have Hbl := Lib.hid hbl
    clear hbl HR
    by_cases hk6 : k < 6
    · have d6 : decide ((k : Int) < 6) = true := decide_eq_true (by omega)
      have hki : (k : Int) < 6 := by omega
      obtain ⟨c, hc⟩ : ∃ c, b[k]? = some c := ⟨_, List.getElem?_eq_getElem (by omega)⟩
      obtain ⟨g2, cap2, hv2, _, _, _, hcells⟩ := hrow.form (by omega)
      injection hv2 with hv3 _ hv4
      injection hv3 with hv3
      injection hv3 with hv3
      subst hv3 hv4
      have hc0 := (hcells k (.int .u8 (c.toNat : Int)) (by simp [vbytes, hc])).1
      have hn := foldN_take hc
      have hbd := foldN_take_lt b k (by omega)
      obtain ⟨n, hn0⟩ : ∃ n, n = foldN (b.take k) := ⟨_, rfl⟩
      rw [← hn0] at hn hbd ⊢
      have Hn := Lib.hid hn
      have Hrow := Lib.hid hrow
      have hcb : c.toNat < 256 := c.toNat_lt
      clear hn hn0 hc hcells hrow
      go_wp2_with fail
      have hj : bits .or .u64 ((n : Int) * 256) (c.toNat : Int) = (n : Int) * 256 + (c.toNat : Int) := join8 hbd hcb
      rw [hj]
      go_roundw
      case rel => exact ⟨k + 1, by go_num, by omega, by rw [Hn.out]; push_cast; rfl, Hrow.out, Hbl.out⟩
      case measure => simp [intOf]; omega
    · have d6 : decide ((k : Int) < 6) = false := decide_eq_false (by omega)
      have hkk : k = 6 := by omega
      subst hkk
      have hfin : foldN (b.take 6) = six l := by rw [Hb.out, List.take_take, Nat.min_self]; rfl
      rw [hfin]
      have Hfin := Lib.hid hfin
      clear hfin hrow
      go_wp2_with fail
      go_ret
      exact ⟨rfl, Hbl.out⟩
end Go.Proofs.YtinlciofhegciaaDoor

/- A text is sealed: the program's walk. -/
namespace Go.Proofs.YtinlciofhegciaaDoor
open Go.RowKit Go.BigFrame

def plainL (t : List UInt8) : List UInt8 := be 1 t.length ++ (t ++ List.replicate (7 - t.length) 0)
def allL (k : List UInt8) (r s : Int) (p : List UInt8) : List UInt8 := veilL k r s p ++ signL k r s (veilL k r s p)
def sealV (k : List UInt8) (r s : Int) (t : List UInt8) : Value := if t.length ≤ 7 then .tuple #[.agg #[.int .u64 (six (allL k r s (plainL t)) : Int), .int .u64 (six ((allL k r s (plainL t)).drop 6) : Int)], .bool true] else .tuple #[.agg #[.int .u64 0, .int .u64 0], .bool false]
theorem two_cellsK {w : World} {b : Nat} {t : TypeId} {x y : Value} (h : Blk w b t [x, y]) : w.cell? ⟨b, 0, none⟩ = some x ∧ w.cell? ⟨b, 1, none⟩ = some y := ⟨h.cell 0, h.cell 1⟩
theorem plainL_length {t : List UInt8} (h : t.length ≤ 7) : (plainL t).length = 8 := by
  unfold plainL; rw [List.length_append, List.length_append, List.length_replicate, be_length]; omega
theorem repeat_any (n : Nat) (w : World) (h : n ≤ 7) : Calls Tryd.prog 18 #[.string ⟨#[0]⟩, .int .i64 (n : Int)] w fun e w' => e = .returned (.string (str (List.replicate n 0))) ∧ Below w.heap.size w w' := by
  refine (Tryd.strings_Repeat ⟨#[0]⟩ n w (by omega) (by show 1 * n ≤ _; omega)).mono ?_
  rintro e w1 ⟨he, hb⟩
  refine ⟨?_, hb⟩
  rw [he]
  congr 2
  rw [← repeatL_one]; rfl

set_option maxRecDepth 100000 in
set_option maxHeartbeats 2000000 in
theorem seal_any (k : List UInt8) (r s : Int) (t : List UInt8) (w : World) (hk : k.length ≤ 1000000) (ht : t.length ≤ 9223372036854775807) :
    Calls Tryd.prog 7 #[.string (str k), .int .i64 r, .int .i64 s, .string (str t)] w fun e w' => e = .returned (sealV k r s t) ∧ Below w.heap.size w w' := by
  obtain ⟨n, hn⟩ : ∃ n, n = t.length := ⟨_, rfl⟩
  have hsz : (str t).size = n := by rw [str_size, hn]
  by_cases h7 : n ≤ 7
  · have d1 : decide ((7 : Int) < (n : Int)) = false := decide_eq_false (by omega)
    have hout : sealV k r s t = .tuple #[.agg #[.int .u64 (six (allL k r s (plainL t)) : Int), .int .u64 (six ((allL k r s (plainL t)).drop 6) : Int)], .bool true] := by unfold sealV; rw [if_pos (by omega)]
    rw [hout]
    have hpl := plainL_length (t := t) (by omega)
    have hpd : plainL t = be 1 n ++ (t ++ List.replicate (7 - n) 0) := by rw [hn]; rfl
    obtain ⟨p, hp⟩ : ∃ p, p = plainL t := ⟨_, rfl⟩
    rw [← hp] at hpl hpd ⊢
    have hv := fun W => veil_any k r s p W hk hpl
    have hvl : (veilL k r s p).length = 8 := veilL_length k r s p hpl (stream8 _ _)
    have hall : allL k r s p = veilL k r s p ++ signL k r s (veilL k r s p) := rfl
    obtain ⟨v, hv0⟩ : ∃ v, v = veilL k r s p := ⟨_, rfl⟩
    rw [← hv0] at hv hvl hall
    have hsg := fun W => sign_any k r s v W hk (by omega)
    have hsl : (signL k r s v).length = 4 := by unfold signL; rw [List.length_take, hmac_length]; rfl
    obtain ⟨g, hg0⟩ : ∃ g, g = signL k r s v := ⟨_, rfl⟩
    rw [← hg0] at hsg hsl hall
    obtain ⟨a, ha⟩ : ∃ a, a = allL k r s p := ⟨_, rfl⟩
    rw [← ha] at hall ⊢
    have hal : a.length = 12 := by rw [hall, List.length_append, hvl, hsl]
    have h1 := fun W => number6_any a W (by omega) (by omega)
    have h2 := fun W => number6_any (a.drop 6) W (by rw [List.length_drop]; omega) (by rw [List.length_drop]; omega)
    obtain ⟨x, hx⟩ : ∃ x, x = six a := ⟨_, rfl⟩
    obtain ⟨y, hy⟩ : ∃ y, y = six (a.drop 6) := ⟨_, rfl⟩
    rw [← hx] at h1
    rw [← hy] at h2
    rw [← hx, ← hy]
    have hcv : IntKind.u64.wrap (n : Int) = (n : Int) := by show (n : Int) % (18446744073709551616 : Int) = _; exact Int.emod_eq_of_lt (by omega) (by omega)
    have a1 := str_add Tryd.prog (be 1 n) t (by rw [be_length]; omega)
    have a2 := str_add Tryd.prog (be 1 n ++ t) (List.replicate (7 - n) 0) (by rw [List.length_append, be_length, List.length_replicate]; omega)
    have a3 := str_add Tryd.prog v g (by omega)
    have hrp := repeat_any (7 - n) 
    have hc7 : (7 : Int) - (n : Int) = ((7 - n : Nat) : Int) := by omega
    rw [List.append_assoc, ← hpd] at a2
    rw [← hall] at a3
    have hasz : (str a).size = 12 := by rw [str_size, hal]
    have had : (str a).extract 6 12 = str (a.drop 6) := by have := str_drop a 6; rwa [hal] at this
    have Hv := Lib.hid hv
    have Hsg := Lib.hid hsg
    have H1 := Lib.hid h1
    have H2 := Lib.hid h2
    have Hrp := Lib.hid hrp
    have Hb0 := Lib.hid (show Lat w (w.alloc (.cells #[.int .u64 0, .int .u64 0] 23)) from (Below.refl _ _).alloc (Nat.le_refl _) _)
    have Hk0 := Lib.hid (Blk.of w 23 #[.int .u64 0, .int .u64 0] _ rfl)
    clear hout hpl hpd hp hv hvl hall hv0 hsg hsl hg0 ha hal h1 h2 hx hy hrp hn ht
    go_enter Tryd.func7, Tryd.ntmps7
    go_wp2_with fail
    refine (sbytes_any n 1 _ (by omega) (by omega)).mono ?_
    rintro e w1 ⟨rfl, hb1⟩
    have Hb1 := Lib.hid hb1
    clear hb1
    go_wp2_with fail
    refine (Hrp.out w1 (by omega)).mono ?_
    rintro e w2 ⟨rfl, hb2⟩
    have Hb2 := Lib.hid (below_trans Hb1.out hb2)
    clear hb2
    go_wp2_with fail
    refine (Hv.out w2).mono ?_
    rintro e w3 ⟨rfl, hb3⟩
    have Hb3 := Lib.hid (below_trans Hb2.out hb3)
    clear hb3
    go_wp2_with fail
    refine (Hsg.out w3).mono ?_
    rintro e w4 ⟨rfl, hb4⟩
    have Hb4 := Lib.hid (below_trans Hb3.out hb4)
    clear hb4
    go_wp2_with fail
    refine region_float_tail [(38, fun u _ => u = .int .u64 (x : Int)), (41, fun u _ => u = .int .u64 (y : Int))] 6 (Know.stable_cons (fun _ _ _ h _ => h) (Know.stable_cons (fun _ _ _ h _ => h) Know.stable_nil)) (by kernel_rfl) (by kernel_rfl) (by rfl) ?_
    simp only [List.take_succ_cons, List.take_zero, List.drop_succ_cons, List.drop_zero]
    (repeat (first | (refine loose_skip (by rfl) ?_; simp only [Act.put, List.setIfInBounds_toArray, List.set_cons_zero, List.set_cons_succ]) | (refine loose_plain (by rfl) (by rfl) (by rfl) (fun Kc hKc => ?_); go_big_quiet_op; refine hKc _ ?_; clear hKc Kc)))
    refine loose_fix 38 (.int .u64 (x : Int)) (f := 19) (args := #[.string (str a)]) (fun w => by kernel_rfl) (by rfl) (by rfl) (by rfl) (fun _ _ => Iff.rfl) (fun wk _ _ => H1.out wk) ?_
    simp only [Act.put, List.setIfInBounds_toArray, List.set_cons_zero, List.set_cons_succ]
    (repeat (first | (refine loose_skip (by rfl) ?_; simp only [Act.put, List.setIfInBounds_toArray, List.set_cons_zero, List.set_cons_succ]) | (refine loose_plain (by rfl) (by rfl) (by rfl) (fun Kc hKc => ?_); go_big_quiet_op; refine hKc _ ?_; clear hKc Kc)))
    refine loose_fix 41 (.int .u64 (y : Int)) (f := 19) (args := #[.string (str (a.drop 6))]) (fun w => by kernel_rfl) (by rfl) (by rfl) (by rfl) (fun _ _ => Iff.rfl) (fun wk _ _ => H2.out wk) ?_
    simp only [Act.put, List.setIfInBounds_toArray, List.set_cons_zero, List.set_cons_succ]
    (repeat (first | (refine loose_skip (by rfl) ?_; simp only [Act.put, List.setIfInBounds_toArray, List.set_cons_zero, List.set_cons_succ]) | (refine loose_plain (by rfl) (by rfl) (by rfl) (fun Kc hKc => ?_); go_big_quiet_op; refine hKc _ ?_; clear hKc Kc)))
    refine loose_nil ?_
    intro wz hbz _
    have hbt := below_trans Hb4.out hbz
    obtain ⟨o0, o1⟩ := two_cellsK (Hk0.out.below hbt Hk0.out.lt)
    have f0 := (Hk0.out.below hbt Hk0.out.lt).frozen 0
    have f1 := (Hk0.out.below hbt Hk0.out.lt).frozen 1
    obtain ⟨wy, hwy⟩ : ∃ wy, wy = (wz.setCell ⟨w.heap.size, 0, none⟩ (.int .u64 (x : Int))).setCell ⟨w.heap.size, 1, none⟩ (.int .u64 (y : Int)) := ⟨_, rfl⟩
    have hyk := ((Hk0.out.below hbt Hk0.out.lt).set 0 (.int .u64 (x : Int))).set 1 (.int .u64 (y : Int))
    have hby : Lat w wy := by rw [hwy]; exact below_set (below_set (below_trans Hb0.out hbt) (Nat.le_refl _) _ _) (Nat.le_refl _) _ _
    rw [show List.set (List.set [Value.int .u64 0, .int .u64 0] 0 (.int .u64 (x : Int))) 1 (.int .u64 (y : Int)) = [.int .u64 (x : Int), .int .u64 (y : Int)] from rfl, ← hwy] at hyk
    obtain ⟨y0, y1⟩ := two_cellsK hyk
    have Hby := Lib.hid hby
    have Hwy := Lib.hid hwy
    clear hbz hbt hyk hby hwy
    go_wp2_with fail
    refine NoPanic.normal ?_
    go_wp2_with fail
    rw [← Hwy.out]
    exact bodyPost_ret (v := .tuple #[.agg #[.int .u64 (x : Int), .int .u64 (y : Int)], .bool true]) (by simp [results, Tryd.results7, go_sem, y0, y1]) rfl ⟨rfl, Hby.out⟩
  · have d1 : decide ((7 : Int) < (n : Int)) = true := decide_eq_true (by omega)
    have hout : sealV k r s t = .tuple #[.agg #[.int .u64 0, .int .u64 0], .bool false] := by unfold sealV; rw [if_neg (by omega)]
    rw [hout]
    clear hout
    obtain ⟨y0, y1⟩ := two_cellsK (Blk.of w 23 #[.int .u64 0, .int .u64 0] _ rfl)
    have Hb0 := Lib.hid (show Lat w (w.alloc (.cells #[.int .u64 0, .int .u64 0] 23)) from (Below.refl _ _).alloc (Nat.le_refl _) _)
    obtain ⟨wy, hwy⟩ : ∃ W, W = w.alloc (.cells #[.int .u64 0, .int .u64 0] 23) := ⟨_, rfl⟩
    rw [← hwy] at Hb0 y0 y1
    have Hwy := Lib.hid hwy
    clear hwy
    go_enter Tryd.func7, Tryd.ntmps7
    go_wp2_with fail
    rw [← Hwy.out]
    exact bodyPost_ret (v := .tuple #[.agg #[.int .u64 0, .int .u64 0], .bool false]) (by simp [results, Tryd.results7, go_sem, y0, y1]) rfl ⟨rfl, Hb0.out⟩
end Go.Proofs.YtinlciofhegciaaDoor

/- What an argument's reading says of its cells: numbers, texts, arrays, structs, slices, each a lemma; the arguments read behind a call that only grows memory as they did. -/
namespace Go.Proofs.YtinlciofhegciaaDoor
open Go.ChangeShapes Go.WideShapes Go.ChangeAt Go.RowKit
section
variable {H : Type} {enc : TypeId × Value → H} {P : Program} {w : World}

/-- These cells read as data of the type, and no part of it is too large. -/
def Rdg (enc : TypeId × Value → H) (P : Program) (w : World) (t : TypeId) (cs : List Value) : Prop :=
  ∃ n x, DataW.trod enc P w 0 (fun _ => true) true n t cs = some x ∧ (x.1.weights P t).all (· ≤ reachBytes) = true

theorem all_sub {l m : List Nat} (h : m.all (· ≤ reachBytes) = true) (hs : ∀ x ∈ l, x ∈ m) : l.all (· ≤ reachBytes) = true :=
  List.all_eq_true.2 fun x hx => List.all_eq_true.1 h x (hs x hx)
theorem weightsAll_mem {e : TypeId} : ∀ {ds : List (DataW H)} {i : Nat} {d : DataW H}, ds[i]? = some d → ∀ x ∈ d.weights P e, x ∈ DataW.weightsAll P e ds
  | d0 :: ds, 0, d, h, x, hx => by
    simp only [List.getElem?_cons_zero, Option.some.injEq] at h
    subst h
    simp only [DataW.weightsAll, List.mem_append]
    exact .inl hx
  | d0 :: ds, i + 1, d, h, x, hx => by
    simp only [List.getElem?_cons_succ] at h
    simp only [DataW.weightsAll, List.mem_append]
    exact .inr (weightsAll_mem h x hx)
  | [], _, _, h, _, _ => by simp at h

theorem rd_of {t : TypeId} {v : Value} {d : DataW H} {p : List MemPlace} {ts : List TypeId} {ds : List (DataW H)} (h : DataW.Trod enc P w 0 (fun _ => true) true t v d p)
    (hz : (DataW.weightsEach P ts ds).all (· ≤ reachBytes) = true) (j : Nat) (ht : ts[j]? = some t) (hd : ds[j]? = some d) : Rdg enc P w t v.cells.toList := by
  obtain ⟨n, hn⟩ := h
  exact ⟨n, _, hn, all_sub hz fun x hx => DataW.weights_mem_each ht hd x hx⟩
theorem rd_string {t : TypeId} {cs : List Value} (hu : P.underlying t = some .string) (h : Rdg enc P w t cs) : ∃ s : ByteArray, cs = [.string s] ∧ s.size ≤ reachBytes := by
  obtain ⟨n, x, hx, hz⟩ := h
  obtain ⟨s, hc, rfl, _⟩ := DataW.trod_string hu hx
  refine ⟨s, hc, ?_⟩
  simpa [DataW.weights] using hz
theorem rd_int {t : TypeId} {k : IntKind} {cs : List Value} (hu : P.underlying t = some (.int k)) (h : Rdg enc P w t cs) : ∃ n : Int, cs = [.int k n] ∧ (Lit.int k n).wf = true := by
  obtain ⟨n, x, hx, _⟩ := h
  obtain ⟨m, hc, _, hw⟩ := DataW.trod_int hu hx
  exact ⟨m, hc, hw⟩
theorem rd_bool {t : TypeId} {cs : List Value} (hu : P.underlying t = some .bool) (h : Rdg enc P w t cs) : ∃ b, cs = [.bool b] := by
  obtain ⟨n, x, hx, _⟩ := h
  obtain ⟨m, hc, _⟩ := DataW.trod_bool hu hx
  exact ⟨m, hc⟩
theorem rd_array {t e : TypeId} {n : Nat} {cs : List Value} (hu : P.underlying t = some (.array n e)) (h : Rdg enc P w t cs) :
    cs.length = P.cellsOf t ∧ ∀ i, i < n → Rdg enc P w e ((cs.drop (i * P.cellsOf e)).take (P.cellsOf e)) := by
  obtain ⟨m, x, hx, hz⟩ := h
  obtain ⟨xs, m', rfl, rfl, hl, hn, hall⟩ := DataW.trod_array hu hx
  refine ⟨hl, fun i hi => ?_⟩
  have hxi : xs[i]? = some xs[i] := List.getElem?_eq_getElem (by omega)
  refine ⟨m', xs[i], by rw [hall i hi, hxi], all_sub hz fun y hy => ?_⟩
  simp only [DataW.weights, hu]
  exact weightsAll_mem (i := i) (d := xs[i].1) (by rw [List.getElem?_map, hxi]; rfl) y hy
theorem rd_struct {t : TypeId} {fs : Array Field} {cs : List Value} (hu : P.underlying t = some (.struct fs)) (h : Rdg enc P w t cs) :
    cs.length = P.cellsOf t ∧ ∀ (i : Nat) (f : Field), fs[i]? = some f → Rdg enc P w f.type ((cs.drop f.offset).take (P.cellsOf f.type)) := by
  obtain ⟨m, x, hx, hz⟩ := h
  obtain ⟨xs, m', rfl, rfl, hl, hn, hall⟩ := DataW.trod_struct hu hx
  refine ⟨hl, fun i f hf => ?_⟩
  have hi : i < xs.length := by rw [hn]; exact (Array.getElem?_eq_some_iff.1 hf).1
  have hxi : xs[i]? = some xs[i] := List.getElem?_eq_getElem hi
  refine ⟨m', xs[i], by rw [hall i f hf, hxi], all_sub hz fun y hy => ?_⟩
  simp only [DataW.weights, hu]
  exact DataW.weights_mem_each (j := i) (t := f.type) (d := xs[i].1) (by rw [List.getElem?_map, Array.getElem?_toList, hf]; rfl) (by rw [List.getElem?_map, hxi]; rfl) y hy
theorem rd_slice {t e : TypeId} {cs : List Value} (hu : P.underlying t = some (.slice e)) (h : Rdg enc P w t cs) :
    cs = [.slice none 0 0] ∨ ∃ (a : Addr) (len cap : Nat), cs = [.slice (some a) len cap] ∧ len ≤ cap ∧ cap * P.bytesOf e ≤ reachBytes ∧ cap ≤ maxLen ∧
      ∀ i, i < len → ∃ cells, w.cells? 0 (a.add (i * P.cellsOf e)) (P.cellsOf e) = some cells ∧ Rdg enc P w e cells := by
  obtain ⟨m, x, hx, hz⟩ := h
  rcases DataW.trod_slice hu hx with ⟨h0, _⟩ | ⟨a, len, cap, elems, rest, m', rfl, hc, rfl, _, hl, hm, hel, hi, hs, _⟩
  · exact .inl h0
  · refine .inr ⟨a, len, cap, hc, hl, ?_, hm, fun i h => ?_⟩
    · have hr := (hs rfl).1
      have := List.all_eq_true.1 hz ((elems.length + rest.length) * P.bytesOf e) (by simp [DataW.weights, hu])
      rw [hel, hr, Nat.add_sub_cancel' hl] at this
      simpa using this
    · have hei : elems[i]? = some elems[i] := List.getElem?_eq_getElem (by omega)
      have h1 := hi i h
      rw [hei, Option.bind_eq_some_iff] at h1
      obtain ⟨cells, hcc, ht⟩ := h1
      refine ⟨cells, hcc, m', elems[i], ht, all_sub hz fun y hy => ?_⟩
      simp only [DataW.weights, hu, List.mem_cons, List.mem_append]
      exact .inr (.inl (weightsAll_mem (i := i) (d := elems[i].1) (by rw [List.getElem?_map, hei]; rfl) y hy))
theorem cells_one {a : Addr} {cs : List Value} (h : w.cells? 0 a 1 = some cs) : ∃ v, cs = [v] ∧ w.cell? a = some v := by
  unfold World.cells? at h
  rw [if_pos (Nat.zero_le _)] at h
  have hr : List.range 1 = [0] := rfl
  rw [hr] at h
  cases hc : w.cell? (a.add 0) with
  | none => simp [hc] at h
  | some v =>
    simp [hc] at h
    exact ⟨v, h.symm, hc⟩

theorem cells_get {a : Addr} {n : Nat} {cs : List Value} (h : w.cells? 0 a n = some cs) : cs.length = n ∧ ∀ i v, cs[i]? = some v → w.cell? (a.add i) = some v := by
  unfold World.cells? at h
  rw [if_pos (Nat.zero_le _)] at h
  have hl := mapM_some_length h
  refine ⟨by simpa using hl, fun i v hi => ?_⟩
  have hlt : i < n := by have := (List.getElem?_eq_some_iff.1 hi).1; simp at hl; omega
  have := mapM_some_get h i i (by simp [hlt])
  rw [this, hi]

theorem trodAll_below (hl : laidOutB P = true) : ∀ {ts : List TypeId} {vs : List Value} {ds : List (DataW H)} {ps : List MemPlace} {W W' : World},
    (ts.all fun t => P.readableRec t && decide (t < P.types.size)) = true → DataW.TrodAll enc P W 0 (fun _ => true) true ts vs ds ps → Below W.heap.size W W' → (∀ x ∈ ps, x.block < W.heap.size) →
    DataW.TrodAll enc P W' 0 (fun b => decide (b < W.heap.size)) true ts vs ds ps
  | [], [], [], _, _, _, _, h, _, _ => h
  | t :: ts, v :: vs, d :: ds, ps, W, W', hr, ⟨p, q, h1, h2, e⟩, hb, hlt => by
    simp only [List.all_cons, Bool.and_eq_true, decide_eq_true_eq] at hr
    exact ⟨p, q, Below.trod hl hr.1.1 hr.1.2 h1 hb (fun x hx => hlt x (by rw [e]; exact List.mem_append_left _ hx)), trodAll_below hl (by simpa using hr.2) h2 hb (fun x hx => hlt x (by rw [e]; exact List.mem_append_right _ hx)), e⟩
end
theorem okWide_agg {P : Program} {w : World} {r : Reach} {b : Nat} {t e : TypeId} {n : Nat} {v : Value} (ht : P.underlying t = some (.array n e)) (h : Value.okWide P w r b t v) : ∃ cs, v = .agg cs ∧ cs.size = P.cellsOf t := by
  simp only [Value.okWide, ht] at h
  obtain ⟨cs, h1, h2, _⟩ := h
  exact ⟨cs, h1, h2⟩
section
variable {H : Type} {enc : TypeId × Value → H} {P : Program} {w : World}
theorem rd_array2 {t e : TypeId} {cs : List Value} (hu : P.underlying t = some (.array 2 e)) (hc : P.cellsOf t = 2) (he : P.cellsOf e = 1) (h : Rdg enc P w t cs) : ∃ c0 c1, cs = [c0, c1] ∧ Rdg enc P w e [c0] ∧ Rdg enc P w e [c1] := by
  obtain ⟨hl, hall⟩ := rd_array hu h
  rw [hc] at hl
  match cs, hl with
  | [c0, c1], _ =>
    refine ⟨c0, c1, rfl, ?_, ?_⟩
    · have := hall 0 (by omega); rw [he] at this; exact this
    · have := hall 1 (by omega); rw [he] at this; exact this
theorem rd_array3 {t e : TypeId} {cs : List Value} (hu : P.underlying t = some (.array 3 e)) (hc : P.cellsOf t = 3) (he : P.cellsOf e = 1) (h : Rdg enc P w t cs) : ∃ c0 c1 c2, cs = [c0, c1, c2] ∧ Rdg enc P w e [c0] ∧ Rdg enc P w e [c1] ∧ Rdg enc P w e [c2] := by
  obtain ⟨hl, hall⟩ := rd_array hu h
  rw [hc] at hl
  match cs, hl with
  | [c0, c1, c2], _ =>
    refine ⟨c0, c1, c2, rfl, ?_, ?_, ?_⟩
    · have := hall 0 (by omega); rw [he] at this; exact this
    · have := hall 1 (by omega); rw [he] at this; exact this
    · have := hall 2 (by omega); rw [he] at this; exact this
end
end Go.Proofs.YtinlciofhegciaaDoor

/- A slice of strings that is only read; a number turned in its last place; where a text climbs to. -/
namespace Go.Proofs.YtinlciofhegciaaDoor
open Go.RowKit

/-- The slice of strings at A: read only. -/
structure Strs (w : World) (A : Option Addr) (cap : Nat) (l : List (List UInt8)) : Prop where
  len : l.length ≤ cap
  cells : ∀ i x, l[i]? = some x → ∃ a, A = some a ∧ w.cell? (a.add i) = some (.string (str x))
theorem Strs.below {w w1 : World} {A : Option Addr} {cap : Nat} {l : List (List UInt8)} (h : Strs w A cap l) (hb : Below w.heap.size w w1) : Strs w1 A cap l :=
  ⟨h.len, fun i x hx => let ⟨a, ha, hc⟩ := h.cells i x hx; ⟨a, ha, below_cell hb hc⟩⟩
theorem addr_add (a : Addr) (i j : Nat) : (a.add i).add j = a.add (i + j) := by
  unfold Addr.add
  split <;> split <;> simp_all <;> omega
theorem Strs.tail {w : World} {A : Option Addr} {cap : Nat} {x : List UInt8} {l : List (List UInt8)} (h : Strs w A cap (x :: l)) :
    Strs w (if cap = 1 then A else A.map (·.add 1)) (cap - 1) l := by
  have hl := h.len
  simp only [List.length_cons] at hl
  refine ⟨by omega, fun i y hy => ?_⟩
  obtain ⟨a, ha, hc⟩ := h.cells (i + 1) y (by simpa using hy)
  have hi := (List.getElem?_eq_some_iff.1 hy).1
  rw [if_neg (by omega), ha]
  exact ⟨_, rfl, by rw [addr_add, Nat.add_comm 1 i]; exact hc⟩

theorem i64_xor_one (i : Nat) (hi : i < 9223372036854775808) : bits .xor .i64 (i : Int) 1 = ((i ^^^ 1 : Nat) : Int) := by
  have hx : i ^^^ 1 < 2 ^ 63 := Nat.xor_lt_two_pow (by omega) (by omega)
  show IntKind.i64.wrap ((BitVec.ofInt 64 (i : Int) ^^^ BitVec.ofInt 64 ((1 : Nat) : Int)).toNat : Int) = _
  rw [BitVec.toNat_xor, ofInt_u64 i (by omega), ofInt_u64 1 (by omega), IntKind.wrap_i64]
  omega
theorem xor_one_le (i : Nat) : i ^^^ 1 ≤ i + 1 := by
  have h : (i ^^^ 1) / 2 ^ 1 = i / 2 ^ 1 ^^^ 1 / 2 ^ 1 := Nat.xor_div_two_pow
  have h1 : (1 : Nat) / 2 ^ 1 = 0 := by decide
  rw [h1, Nat.xor_zero] at h
  omega

/-- From place i of n up to the root, by the path; so many rows at most. -/
def climbG : Nat → Nat → Nat → List UInt8 → List (List UInt8) → Option (List UInt8)
  | 0, _, _, x, p => if p = [] then some x else none
  | f + 1, i, n, x, p =>
    if n ≤ 1 then (if p = [] then some x else none)
    else if n ≤ i ^^^ 1 then climbG f (i / 2) ((n + 1) / 2) x p
    else match p with
      | [] => none
      | y :: p => if y.length = 32 then climbG f (i / 2) ((n + 1) / 2) (if i % 2 = 0 then sha (1 :: (x ++ y)) else sha (1 :: (y ++ x))) p else none
/-- Where a text climbs to. -/
def climbOf (item : List UInt8) (i n : Int) (p : List (List UInt8)) : Option (List UInt8) :=
  if i < 0 ∨ n ≤ i ∨ 65536 < n then none else climbG n.toNat i.toNat n.toNat (sha (0 :: item)) p
/-- As two results. -/
def climbRes (r : Option (List UInt8)) : Value × Value := match r with
  | some x => (.string (str x), .bool true)
  | none => (.string (str []), .bool false)
theorem rd_strs {H : Type} {enc : TypeId × Value → H} {P : Program} {w : World} {t e : TypeId} {cs : List Value} (hu : P.underlying t = some (.slice e)) (he : P.underlying e = some .string) (hc : P.cellsOf e = 1) (h : Rdg enc P w t cs) :
    ∃ A cap l, cs = [.slice A l.length cap] ∧ Strs w A cap l ∧ (∀ x ∈ l, x.length ≤ reachBytes) ∧ cap * P.bytesOf e ≤ reachBytes ∧ cap ≤ maxLen := by
  rcases rd_slice hu h with rfl | ⟨a, len, cap, rfl, hl, hb, hm, hall⟩
  · exact ⟨none, 0, [], rfl, ⟨Nat.le_refl _, fun i x hx => by simp at hx⟩, fun x hx => by simp at hx, by simp, by simp⟩
  · have each : ∀ i, ∃ s : List UInt8, i < len → w.cell? (a.add i) = some (.string (str s)) ∧ s.length ≤ reachBytes := by
      intro i
      by_cases hi : i < len
      · obtain ⟨cells, hcc, hr⟩ := hall i hi
        rw [hc, Nat.mul_one] at hcc
        obtain ⟨v, rfl, hv⟩ := cells_one hcc
        obtain ⟨s, hs, hz⟩ := rd_string he hr
        simp only [List.cons.injEq, and_true] at hs
        subst hs
        refine ⟨s.data.toList, fun _ => ⟨by rw [str_of]; exact hv, ?_⟩⟩
        have : s.data.toList.length = s.size := by rw [← ByteArray.size_data]; simp
        omega
      · exact ⟨[], fun h => absurd h hi⟩
    have hch := Classical.axiomOfChoice each
    obtain ⟨f, hf⟩ := hch
    have hlen : ((List.range len).map f).length = len := by simp
    refine ⟨some a, cap, (List.range len).map f, by rw [hlen], ⟨by rw [hlen]; exact hl, fun i x hx => ?_⟩, fun x hx => ?_, hb, hm⟩
    · have hi : i < len := by have := (List.getElem?_eq_some_iff.1 hx).1; simpa using this
      rw [List.getElem?_map, List.getElem?_range hi] at hx
      simp only [Option.map_some, Option.some.injEq] at hx
      subst hx
      exact ⟨a, rfl, (hf i hi).1⟩
    · obtain ⟨i, hi, rfl⟩ := List.mem_map.1 hx
      exact (hf i (List.mem_range.1 hi)).2
theorem str_toList (l : List UInt8) : (str l).toList = l := by rw [ByteArray.toList_eq, str_list]
theorem str_eq_yes {a b : List UInt8} (h : a = b) : ((str a).toList == (str b).toList) = true := by rw [str_toList, str_toList, h]; simp
theorem str_eq_no {a b : List UInt8} (h : a ≠ b) : ((str a).toList == (str b).toList) = false := by rw [str_toList, str_toList]; simpa using h
theorem str_ne_yes {a b : List UInt8} (h : a ≠ b) : ((str a).toList != (str b).toList) = true := by rw [str_toList, str_toList]; simpa using h
theorem str_ne_no {a b : List UInt8} (h : a = b) : ((str a).toList != (str b).toList) = false := by rw [str_toList, str_toList, h]; simp
end Go.Proofs.YtinlciofhegciaaDoor

/- A body is opened: the program's walk. -/
namespace Go.Proofs.YtinlciofhegciaaDoor
open Go.RowKit Go.BigFrame

theorem str_mid (l : List UInt8) (i n : Nat) : (str l).extract i (i + n) = str ((l.drop i).take n) := by
  simp [str, ByteArray.extract, ByteArray.copySlice, List.extract_eq_take_drop, ByteArray.emptyWithCapacity]
def bodyL (b0 b1 : Nat) : List UInt8 := be 6 b0 ++ be 6 b1
theorem bodyL_length (b0 b1 : Nat) : (bodyL b0 b1).length = 12 := by unfold bodyL; rw [List.length_append, be_length, be_length]
def noV : Value := .tuple #[.string ⟨#[]⟩, .bool false]
def openV (k : List UInt8) (r s : Int) (b0 b1 : Nat) : Value :=
  if 281474976710656 ≤ b0 ∨ 281474976710656 ≤ b1 then noV
  else if signL k r s ((bodyL b0 b1).take 8) ≠ (bodyL b0 b1).drop 8 then noV
  else if 7 < ((veilL k r s ((bodyL b0 b1).take 8)).headD 0).toNat ∨ Lib.trimB ((veilL k r s ((bodyL b0 b1).take 8)).drop (1 + ((veilL k r s ((bodyL b0 b1).take 8)).headD 0).toNat)) 0 ≠ [] then noV
  else .tuple #[.string (str (((veilL k r s ((bodyL b0 b1).take 8)).drop 1).take ((veilL k r s ((bodyL b0 b1).take 8)).headD 0).toNat)), .bool true]
theorem big_or {b0 b1 : Nat} (h0 : b0 < 18446744073709551616) (h1 : b1 < 18446744073709551616) :
    (bits .or .u64 ((b0 : Int) / 281474976710656) ((b1 : Int) / 281474976710656) != 0) = decide (281474976710656 ≤ b0 ∨ 281474976710656 ≤ b1) := by
  have e0 : ((b0 : Int) / 281474976710656) = ((b0 / 281474976710656 : Nat) : Int) := by omega
  have e1 : ((b1 : Int) / 281474976710656) = ((b1 / 281474976710656 : Nat) : Int) := by omega
  rw [e0, e1, bits_or_u64_nat _ _ (by omega) (by omega)]
  by_cases h : 281474976710656 ≤ b0 ∨ 281474976710656 ≤ b1
  · rw [decide_eq_true h, bne_iff_ne]
    intro hz
    have hz' : b0 / 281474976710656 ||| b1 / 281474976710656 = 0 := by exact_mod_cast hz
    have h2 := Nat.left_le_or (n := b0 / 281474976710656) (m := b1 / 281474976710656)
    have h3 := Nat.right_le_or (n := b0 / 281474976710656) (m := b1 / 281474976710656)
    omega
  · rw [decide_eq_false h]
    have z0 : b0 / 281474976710656 = 0 := by omega
    have z1 : b1 / 281474976710656 = 0 := by omega
    rw [z0, z1]; rfl

set_option maxRecDepth 100000 in
set_option maxHeartbeats 2000000 in
theorem open_any (k : List UInt8) (r s : Int) (b0 b1 : Nat) (w : World) (hk : k.length ≤ 1000000) (h0 : b0 < 18446744073709551616) (h1 : b1 < 18446744073709551616) :
    Calls Tryd.prog 5 #[.string (str k), .int .i64 r, .int .i64 s, .agg #[.int .u64 (b0 : Int), .int .u64 (b1 : Int)]] w fun e w' => e = .returned (openV k r s b0 b1) ∧ Below w.heap.size w w' := by
  have hbig := big_or h0 h1
  obtain ⟨w0, hw0⟩ : ∃ w0, w0 = w.alloc (.cells #[.int .u64 (b0 : Int), .int .u64 (b1 : Int)] 23) := ⟨_, rfl⟩
  have hbk : Blk w0 w.heap.size 23 [.int .u64 (b0 : Int), .int .u64 (b1 : Int)] := by rw [hw0]; exact Blk.of _ _ _ _ rfl
  have Hb0 := Lib.hid (show Lat w w0 by rw [hw0]; exact (Below.refl _ _).alloc (Nat.le_refl _) _)
  have Hw0 := Lib.hid hw0
  obtain ⟨c0, c1⟩ := two_cellsK hbk
  clear hw0 hbk
  by_cases hB : 281474976710656 ≤ b0 ∨ 281474976710656 ≤ b1
  · rw [decide_eq_true hB] at hbig
    have hout : openV k r s b0 b1 = noV := by unfold openV; rw [if_pos hB]
    rw [hout]
    clear hout
    go_enter Tryd.func5, Tryd.ntmps5
    go_wp2_with fail
    rw [← Hw0.out]
    go_ret2
    exact ⟨rfl, Hb0.out⟩
  · rw [decide_eq_false hB] at hbig
    have hout : openV k r s b0 b1 = if signL k r s ((bodyL b0 b1).take 8) ≠ (bodyL b0 b1).drop 8 then noV
        else if 7 < ((veilL k r s ((bodyL b0 b1).take 8)).headD 0).toNat ∨ Lib.trimB ((veilL k r s ((bodyL b0 b1).take 8)).drop (1 + ((veilL k r s ((bodyL b0 b1).take 8)).headD 0).toNat)) 0 ≠ [] then noV
        else .tuple #[.string (str (((veilL k r s ((bodyL b0 b1).take 8)).drop 1).take ((veilL k r s ((bodyL b0 b1).take 8)).headD 0).toNat)), .bool true] := by
      unfold openV; rw [if_neg hB]
    rw [hout]
    clear hout
    have hal := bodyL_length b0 b1
    have a1 := str_add Tryd.prog (be 6 b0) (be 6 b1) (by rw [be_length, be_length]; omega)
    have hbd : be 6 b0 ++ be 6 b1 = bodyL b0 b1 := rfl
    rw [hbd] at a1
    obtain ⟨a, ha⟩ : ∃ a, a = bodyL b0 b1 := ⟨_, rfl⟩
    rw [← ha] at hal a1 ⊢
    have Ha := Lib.hid ha
    clear ha hbd
    have hsz : (str a).size = 12 := by rw [str_size, hal]
    have hx1 : (str a).extract 0 8 = str (a.take 8) := str_take a 8
    have hx2 : (str a).extract 8 12 = str (a.drop 8) := by have := str_drop a 8; rwa [hal] at this
    have hs8 : (a.take 8).length = 8 := by rw [List.length_take]; omega
    obtain ⟨t, ht⟩ : ∃ t, t = a.take 8 := ⟨_, rfl⟩
    obtain ⟨g, hg⟩ : ∃ g, g = a.drop 8 := ⟨_, rfl⟩
    rw [← ht] at hx1 hs8 ⊢
    rw [← hg] at hx2 ⊢
    have hsg := fun W => sign_any k r s t W hk (by omega)
    have hv := fun W => veil_any k r s t W hk hs8
    have hvl : (veilL k r s t).length = 8 := veilL_length k r s t hs8 (stream8 _ _)
    obtain ⟨v, hv0⟩ : ∃ v, v = veilL k r s t := ⟨_, rfl⟩
    obtain ⟨q, hq0⟩ : ∃ q, q = signL k r s t := ⟨_, rfl⟩
    rw [← hv0] at hv hvl ⊢
    rw [← hq0] at hsg ⊢
    obtain ⟨out, hout⟩ : ∃ o, o = (if q ≠ g then noV else if 7 < (v.headD 0).toNat ∨ Lib.trimB (v.drop (1 + (v.headD 0).toNat)) 0 ≠ [] then noV else .tuple #[.string (str ((v.drop 1).take (v.headD 0).toNat)), .bool true]) := ⟨_, rfl⟩
    rw [← hout]
    have Hout := Lib.hid hout
    clear hout
    have Hsg := Lib.hid hsg
    have Hv := Lib.hid hv
    have Hvl := Lib.hid hvl
    clear hsg hv hvl hv0 hq0 ht hg hs8 hal
    have hb6 := fun (x : Nat) W => sbytes_any x 6 W (by omega) (by omega)
    have Hb6 := Lib.hid hb6
    clear hb6
    go_enter Tryd.func5, Tryd.ntmps5
    go_wp2_with fail
    rw [← Hw0.out]
    have l0 := Later.cell c0
    have l1 := Later.cell c1
    refine region_loose [(23, fun u _ => u = .string (str (be 6 b0))), (26, fun u _ => u = .string (str (be 6 b1)))] (Know.stable_cons (fun _ _ _ h _ => h) (Know.stable_cons (fun _ _ _ h _ => h) Know.stable_nil)) (by kernel_rfl) (by kernel_rfl) ?_
    (repeat (first | (refine loose_skip (by rfl) ?_; simp only [Act.put, List.setIfInBounds_toArray, List.set_cons_zero, List.set_cons_succ]) | (refine loose_plain (by rfl) (by rfl) (by rfl) (fun Kc hKc => ?_); go_big_quiet_op; refine hKc _ ?_; clear hKc Kc)))
    refine loose_fix 23 (.string (str (be 6 b0))) (f := 9) (args := #[.int .u64 (b0 : Int), .int .i64 6]) (fun w => by kernel_rfl) (by rfl) (by rfl) (by rfl) (fun _ _ => Iff.rfl) (fun wk _ _ => Hb6.out b0 wk) ?_
    simp only [Act.put, List.setIfInBounds_toArray, List.set_cons_zero, List.set_cons_succ]
    (repeat (first | (refine loose_skip (by rfl) ?_; simp only [Act.put, List.setIfInBounds_toArray, List.set_cons_zero, List.set_cons_succ]) | (refine loose_plain (by rfl) (by rfl) (by rfl) (fun Kc hKc => ?_); go_big_quiet_op; refine hKc _ ?_; clear hKc Kc)))
    refine loose_fix 26 (.string (str (be 6 b1))) (f := 9) (args := #[.int .u64 (b1 : Int), .int .i64 6]) (fun w => by kernel_rfl) (by rfl) (by rfl) (by rfl) (fun _ _ => Iff.rfl) (fun wk _ _ => Hb6.out b1 wk) ?_
    simp only [Act.put, List.setIfInBounds_toArray, List.set_cons_zero, List.set_cons_succ]
    (repeat (first | (refine loose_skip (by rfl) ?_; simp only [Act.put, List.setIfInBounds_toArray, List.set_cons_zero, List.set_cons_succ]) | (refine loose_plain (by rfl) (by rfl) (by rfl) (fun Kc hKc => ?_); go_big_quiet_op; refine hKc _ ?_; clear hKc Kc)))
    refine loose_nil ?_
    intro w1 hb1 _
    have Hb1 := Lib.hid (below_trans Hb0.out hb1)
    clear l0 l1 c0 c1 hb1
    go_wp2_with fail
    by_cases hqg : q = g
    · have hc := str_eq_yes hqg
      have hout2 : out = if 7 < (v.headD 0).toNat ∨ Lib.trimB (v.drop (1 + (v.headD 0).toNat)) 0 ≠ [] then noV else .tuple #[.string (str ((v.drop 1).take (v.headD 0).toNat)), .bool true] := by rw [Hout.out, if_neg (by simpa using hqg)]
      have Hout2 := Lib.hid hout2
      clear hout2 hqg Hout
      refine region_loose [(33, fun u _ => u = .string (str q))] (Know.stable_cons (fun _ _ _ h _ => h) Know.stable_nil) (by kernel_rfl) (by kernel_rfl) ?_
      (repeat (first | (refine loose_skip (by rfl) ?_; simp only [Act.put, List.setIfInBounds_toArray, List.set_cons_zero, List.set_cons_succ]) | (refine loose_plain (by rfl) (by rfl) (by rfl) (fun Kc hKc => ?_); go_big_quiet_op; refine hKc _ ?_; clear hKc Kc)))
      refine loose_fix 33 (.string (str q)) (f := 10) (args := #[.string (str k), .int .i64 r, .int .i64 s, .string (str t)]) (fun w => by kernel_rfl) (by rfl) (by rfl) (by rfl) (fun _ _ => Iff.rfl) (fun wk _ _ => Hsg.out wk) ?_
      simp only [Act.put, List.setIfInBounds_toArray, List.set_cons_zero, List.set_cons_succ]
      (repeat (first | (refine loose_skip (by rfl) ?_; simp only [Act.put, List.setIfInBounds_toArray, List.set_cons_zero, List.set_cons_succ]) | (refine loose_plain (by rfl) (by rfl) (by rfl) (fun Kc hKc => ?_); go_big_quiet_op; refine hKc _ ?_; clear hKc Kc)))
      refine loose_nil ?_
      intro w2 hb2 _
      have Hb2 := Lib.hid (below_trans Hb1.out hb2)
      clear hb2
      go_wp2_with fail
      refine (Hv.out w2).mono ?_
      rintro e w3 ⟨rfl, hb3⟩
      have Hb3 := Lib.hid (below_trans Hb2.out hb3)
      clear hb3 hc hsz hx1 hx2 a1
      have hvl := Hvl.out
      obtain ⟨c, hc⟩ : ∃ c, v[0]? = some c := ⟨_, List.getElem?_eq_getElem (by omega)⟩
      have hh : v.headD 0 = c := by
        cases v with
        | nil => simp at hc
        | cons x l => simp at hc; simp [hc]
      have hout3 : out = if 7 < c.toNat ∨ Lib.trimB (v.drop (1 + c.toNat)) 0 ≠ [] then noV else .tuple #[.string (str ((v.drop 1).take c.toNat)), .bool true] := by rw [Hout2.out, hh]
      have hix := fun W : World => run_index_str Tryd.underlying_str (str v) 0 0 c rfl (by rw [str_list]; exact hc) W
      obtain ⟨n, hn⟩ : ∃ n, n = c.toNat := ⟨_, rfl⟩
      have hn8 : n < 256 := by rw [hn]; exact c.toNat_lt
      rw [← hn] at hix hout3
      have Hout3 := Lib.hid hout3
      clear hh hc hn hout3 Hout2
      have hvs : (str v).size = 8 := by rw [str_size, hvl]
      by_cases h7 : 7 < n
      · have d1 : decide ((7 : Int) < (n : Int)) = true := decide_eq_true (by omega)
        go_wp2_with fail
        go_ret2
        exact ⟨by rw [Hout3.out, if_pos (.inl h7)]; rfl, Hb3.out⟩
      · have d1 : decide ((7 : Int) < (n : Int)) = false := decide_eq_false (by omega)
        obtain ⟨x, hx⟩ : ∃ x, x = v.drop (1 + n) := ⟨_, rfl⟩
        have hxl : (str x).size ≤ 9223372036854775807 := by rw [str_size, hx, List.length_drop]; omega
        have htr := fun W => Tryd.strings_Trim_one (str x) 0 (by decide) W hxl
        rw [str_list] at htr
        obtain ⟨y, hy⟩ : ∃ y, y = Lib.trimB x 0 := ⟨_, rfl⟩
        rw [← hy] at htr
        have hx3 : (str v).extract (1 + n) 8 = str x := by have := str_drop v (1 + n); rw [hvl] at this; rw [this, hx]
        have hout4 : out = if y ≠ [] then noV else .tuple #[.string (str ((v.drop 1).take n)), .bool true] := by
          rw [Hout3.out, ← hx, ← hy]
          by_cases hye : y = []
          · rw [if_neg (by simp [hye]; omega), if_neg (by simpa using hye)]
          · rw [if_pos (.inr hye), if_pos hye]
        have Hout4 := Lib.hid hout4
        have Htr := Lib.hid htr
        have h1n : (1 : Int) + (n : Int) ≤ 8 := by omega
        clear hx hxl htr hy hout4 Hout3
        go_wp2_with fail
        refine (Htr.out w3).mono ?_
        rintro e w4 ⟨rfl, hw4⟩
        have hb4 : Below w3.heap.size w3 w4 := by
          rcases hw4 with rfl | rfl
          · exact Below.refl _ _
          · exact (Below.refl _ _).drew
        have Hb4 := Lib.hid (below_trans Hb3.out hb4)
        have hsy : (⟨y.toArray⟩ : ByteArray) = str y := rfl
        rw [hsy]
        clear hw4 hb4 hsy
        have hem : (⟨#[]⟩ : ByteArray) = str [] := rfl
        by_cases hye : y = []
        · have hc2 : (str y).toList.isEmpty = true := by rw [str_toList, hye]; rfl
          have hout5 : out = .tuple #[.string (str ((v.drop 1).take n)), .bool true] := by rw [Hout4.out, if_neg (by simpa using hye)]
          have hsl : ∀ W : World, (Instr.slice 9 (.string (str v)) (some (.int .i64 1)) (some (.int .i64 (1 + (n : Int)))) none).run Tryd.prog W = .ok (.string (str ((v.drop 1).take n))) W := fun W => by
            have h := run_slice_string (P := Tryd.prog) W 9 (str v) .i64 .i64 1 (1 + (n : Int)) Tryd.underlying_str (by omega) (by omega) (by rw [hvs]; omega)
            rw [h, show (1 : Int).toNat = 1 from rfl, show (1 + (n : Int)).toNat = 1 + n by omega, str_mid]
          have Hout5 := Lib.hid hout5
          clear hye hout5 Hout4 hem
          go_wp2_with fail
          go_ret2
          exact ⟨by rw [Hout5.out, List.drop_one]; rfl, Hb4.out⟩
        · have hc2 : (str y).toList.isEmpty = false := by rw [str_toList]; simpa using hye
          have Hye := Lib.hid hye
          clear hye hem
          go_wp2_with fail
          go_ret2
          exact ⟨by rw [Hout4.out, if_pos Hye.out]; rfl, Hb4.out⟩
    · have hc := str_eq_no hqg
      have Hqg := Lib.hid hqg
      clear hqg
      refine region_loose [(33, fun u _ => u = .string (str q))] (Know.stable_cons (fun _ _ _ h _ => h) Know.stable_nil) (by kernel_rfl) (by kernel_rfl) ?_
      (repeat (first | (refine loose_skip (by rfl) ?_; simp only [Act.put, List.setIfInBounds_toArray, List.set_cons_zero, List.set_cons_succ]) | (refine loose_plain (by rfl) (by rfl) (by rfl) (fun Kc hKc => ?_); go_big_quiet_op; refine hKc _ ?_; clear hKc Kc)))
      refine loose_fix 33 (.string (str q)) (f := 10) (args := #[.string (str k), .int .i64 r, .int .i64 s, .string (str t)]) (fun w => by kernel_rfl) (by rfl) (by rfl) (by rfl) (fun _ _ => Iff.rfl) (fun wk _ _ => Hsg.out wk) ?_
      simp only [Act.put, List.setIfInBounds_toArray, List.set_cons_zero, List.set_cons_succ]
      (repeat (first | (refine loose_skip (by rfl) ?_; simp only [Act.put, List.setIfInBounds_toArray, List.set_cons_zero, List.set_cons_succ]) | (refine loose_plain (by rfl) (by rfl) (by rfl) (fun Kc hKc => ?_); go_big_quiet_op; refine hKc _ ?_; clear hKc Kc)))
      refine loose_nil ?_
      intro w2 hb2 _
      have Hb2 := Lib.hid (below_trans Hb1.out hb2)
      clear hb2
      go_wp2_with fail
      go_ret2
      exact ⟨by rw [Hout.out, if_pos Hqg.out]; rfl, Hb2.out⟩
end Go.Proofs.YtinlciofhegciaaDoor

/- append of one element to a row, and where the row lies then. -/
namespace Go.Proofs.YtinlciofhegciaaDoor
open Go.RowKit

theorem run_append_rowW {P : Program} (w : World) (B : Nat) (t t2 ty e : TypeId) (d2 : TypeDesc) (ht : P.underlying t = some (.slice e)) (ht2 : P.underlying t2 = some d2) (hd2 : (match d2 with | .slice _ => true | .string => true | _ => false) = true)
    (i : TypeInfo) (z : Value) (sz bytes : Nat) (hi : P.info? e = some i) (hz : i.zero = some z) (hsz : i.size = sz) (hby : i.bytes = bytes) (hzs : z.cells.size = sz) (hpos : 0 < sz)
    (v : Value) (n : Nat) (xs : List Value) (hown : Row w B e sz v n xs) (x : Value) (m : Nat) (news : List Value) (hnl : news.length = m * sz) (hlen : ∀ w : World, (Builtin.lenOf x).run P w = .ok m w)
    (hf : (Builtin.firstCells sz m x).run P w = .ok news.toArray w) (hf' : (Builtin.firstCells sz m x).run P w.drew = .ok news.toArray w.drew) (h1 : ∀ u ∈ news, u.oneCell' = true)
    (h63 : n + m ≤ maxLen) (hbytes : (n + m) * bytes ≤ 140737488355328) (hB : B ≤ w.heap.size) :
    ∃ v' w', (Builtin.append_ #[t, t2] ty #[v, x]).run P w = .ok v' w' ∧ Row w' B e sz v' (n + m) (xs ++ news) ∧ w.grownBy w' v.ownBlock ∧ (v'.ownBlock = v.ownBlock ∨ v'.ownBlock = some w.heap.size) := by
  subst hsz
  subst hby
  have hsmall : n + m ≤ 9223372036854775807 := by simp only [maxLen] at h63; omega
  have hxl := hown.1
  have hall : (xs ++ news).length = (n + m) * i.size := by rw [List.length_append, hxl, hnl, Nat.add_mul]
  have hgrown : ∀ (old : Nat), old < n + m → ∀ (row : Option Nat),
      Row (w.drew.alloc (.cells (xs.toArray ++ news.toArray ++ Builtin.zeroCells z.cells (grownCap w (n + m) old e - (n + m))) e)) B e i.size (.slice (some ⟨w.heap.size, 0, none⟩) (n + m) (grownCap w (n + m) old e)) (n + m) (xs ++ news) ∧
      w.grownBy (w.drew.alloc (.cells (xs.toArray ++ news.toArray ++ Builtin.zeroCells z.cells (grownCap w (n + m) old e - (n + m))) e)) row := by
    intro old ho row
    have hge := grownCap_ge w (n + m) old e
    have hcm : grownCap w (n + m) old e ≤ maxLen := grownCap_le_maxLen w (n + m) old e h63
    refine ⟨⟨hall, .inr ⟨w.heap.size, _, _, (0, 0), rfl, hB, heap_alloc_new w.drew _, fun o _ => by simp, hge, hcm, ?_, ?_⟩⟩, ⟨rfl, rfl, rfl, by simp, fun k hk _ => Below.heap_alloc w.drew _ k hk⟩⟩
    · simp only [Array.size_append, List.size_toArray, size_zeroCells, hzs, hxl, hnl, ← Nat.add_mul]
      congr 1
      omega
    · simp only [Array.toList_append, List.append_assoc]
      rw [← List.append_assoc, ← hall]
      exact List.take_left
  rcases hown.2 with ⟨rfl, rfl⟩ | ⟨g, cap, cur, fz, rfl, hbg, hg, hloose, hnc, hcm, hcs, htake⟩
  · obtain rfl : xs = [] := List.eq_nil_of_length_eq_zero (by simpa using hxl)
    by_cases hm : m = 0
    · subst hm
      obtain rfl : news = [] := List.eq_nil_of_length_eq_zero (by simpa using hnl)
      refine ⟨.slice none 0 0, w, ?_, Row.nil w B e i.size, grown_refl _ _, .inl rfl⟩
      cases d2 <;> simp at hd2
      all_goals simp [Builtin.append_, run_underlying ht, run_underlying ht2, sizeOf, typeInfo, hi, hlen, hf]
      all_goals simp [Builtin.lenOf]
    · have hn0 : ¬ (0 + m ≤ 0) := by omega
      have h63' : ¬ (9223372036854775807 < (m : Int)) := by omega
      have h48 := growslice_fits (need := 0 + m) (old := 0) (by omega) hbytes
      have h48' : ¬ (281474976710656 < Builtin.nextslicecap m 0 * i.bytes) := by simp only [Nat.zero_add] at h48; omega
      have hgr := hgrown 0 (by omega) (Value.ownBlock (.slice none 0 0))
      refine ⟨_, _, ?_, hgr.1, hgr.2, .inr rfl⟩
      cases d2 <;> simp at hd2
      all_goals simp [Builtin.append_, run_underlying ht, run_underlying ht2, sizeOf, typeInfo, zeroValue, hi, hz, hlen, hm, h63', h48', Question.forced, hf', newRow, grownCap, run_firstCells_none]
  · by_cases hroom : n + m ≤ cap
    · have hfit : n * i.size + news.length ≤ cur.size := by rw [hnl, hcs, ← Nat.add_mul]; exact Nat.mul_le_mul_right _ hroom
      obtain ⟨arr, ha, hb, hc⟩ := setCells_heap g e fz news (n * i.size) w cur hg hfit
      have hst := run_storeCells_cells (P := P) g (n * i.size) news 0 w (fun j hj => by
          have : (n * i.size + 0 + j) < cur.size := by omega
          simp [World.cell?, hg]; omega) (fun j hj => by
          have := hloose (n * i.size + 0 + j) (by omega)
          simpa [World.frozen?, hg] using this) h1
      simp only [Nat.add_zero] at hst
      refine ⟨.slice (some ⟨g, 0, none⟩) (n + m) cap, _, ?_, ⟨hall, .inr ⟨g, cap, arr, fz, rfl, hbg, ha, ?_, hroom, hcm, ?_, ?_⟩⟩, hc, .inl rfl⟩
      · cases d2 <;> simp at hd2
        all_goals simp [Builtin.append_, run_underlying ht, run_underlying ht2, sizeOf, typeInfo, hi, hlen, hroom, hf, Addr.add_lit, hst]
      · have hs : arr.size = cur.size := by
          have := congrArg List.length hb
          simp at this; omega
        rw [hs]; exact hloose
      · have := congrArg List.length hb
        simp at this; omega
      · rw [hb, htake, ← hall]
        exact List.take_left
    · have hholds : ∀ j u, xs[j]? = some u → w.drew.cell? ((⟨g, 0, none⟩ : Addr).add j) = some u := by
        intro j u hu
        have hadd : (⟨g, 0, none⟩ : Addr).add j = ⟨g, j, none⟩ := by unfold Addr.add; split <;> simp_all
        rw [hadd]
        rw [← htake, List.getElem?_take] at hu
        split at hu
        · have hj : cur[j]? = some u := by simpa using hu
          show w.cell? _ = _
          simp [World.cell?, hg, hj]
        · cases hu
      have hfo := run_firstCells_some (P := P) w.drew i.size n ⟨g, 0, none⟩ n cap xs hxl hholds
      have h63' : ¬ (9223372036854775807 < ((n : Int) + (m : Int))) := by omega
      have h48 := growslice_fits (need := n + m) (old := cap) (by omega) hbytes
      have h48' : ¬ (281474976710656 < Builtin.nextslicecap (n + m) cap * i.bytes) := by omega
      have hgr := hgrown cap (by omega) (Value.ownBlock (.slice (some ⟨g, 0, none⟩) n cap))
      refine ⟨_, _, ?_, hgr.1, hgr.2, .inr rfl⟩
      cases d2 <;> simp at hd2
      all_goals simp [Builtin.append_, run_underlying ht, run_underlying ht2, sizeOf, typeInfo, zeroValue, hi, hz, hlen, hroom, h63', h48', Question.forced, hf', hfo, newRow, grownCap]
      all_goals (congr 2; apply Array.ext'; simp [List.append_assoc])
section
variable {P : Program} {ops : Array Oper} {rest : List Oper} {o : Oper} {a : Act} {Q : Exit → Act → World → Prop}
theorem ap_oneW {W : World} {B : Nat} {t e : TypeId} {z : Value} {bytes : Nat} (ht : P.underlying t = some (.slice e)) (hinfo : (P.info? e).map (fun i => (i.zero, i.size, i.bytes)) = some (some z, 1, bytes)) (hz : z.cells.size = 1)
    {v y : Value} {xs : List Value} (HO : Row W B e 1 v xs.length xs) (h1 : y.oneCell' = true) (hb0 : 0 < bytes) (hl : (xs.length + 1) * bytes ≤ 140737488355328) (hB : B ≤ W.heap.size)
    (hgd : o.guard = none) (s x : Operand) (ho : o.op = .call { callee := .builtin .append, args := #[s, x], argTypes := #[t, t] }) (hs : a.eval s = v) (hx : a.eval x = .slice (some ⟨W.heap.size, 0, none⟩) 1 1)
    (h : ∀ v1 w1, Row w1 B e 1 v1 (xs ++ [y]).length (xs ++ [y]) → W.grownBy w1 v.ownBlock → (v1.ownBlock = v.ownBlock ∨ v1.ownBlock = some (W.heap.size + 1)) → wpList P ops Q rest (a.put o.dst v1) w1) :
    wpList P ops Q (o :: rest) a (W.alloc (.cells #[y] e)) := by
  obtain ⟨i, hi, hz3⟩ := Option.map_eq_some_iff.1 hinfo
  simp only [Prod.mk.injEq] at hz3
  obtain ⟨hz0, hz1, hz2⟩ := hz3
  have hlen : xs.length + 1 ≤ 140737488355328 := Nat.le_trans (Nat.le_mul_of_pos_right _ hb0) hl
  have hcell := cell_one_new W y e
  have HO' : Row (W.alloc (.cells #[y] e)) B e 1 v xs.length xs := HO.kept (row := none) (grown_alloc W _ _) (by cases v.ownBlock <;> simp)
  obtain ⟨v', w', hr, hrow, hg, hw⟩ := run_append_rowW (P := P) (W.alloc (.cells #[y] e)) B t t o.type e (.slice e) ht ht rfl i z 1 bytes hi hz0 hz1 hz2 hz (by omega) v xs.length xs HO' (.slice (some ⟨W.heap.size, 0, none⟩) 1 1) 1 [y]
    rfl (fun w => by simp [Builtin.lenOf]) (run_firstCells_some (P := P) _ 1 1 _ 1 1 [y] rfl hcell) (run_firstCells_some (P := P) _ 1 1 _ 1 1 [y] rfl (fun j u hj => hcell j u hj)) (by simpa using h1) (by simp only [maxLen]; omega) hl (by simp; omega)
  refine wpList_plain hgd fun K hK => ?_
  unfold Oper.wp execOp
  simp only [ho, resolve, invoke, builtin, Sem.run_bind, Sem.run_pure, Result.andThen_ok, List.map_toArray, List.map_cons, List.map_nil, hs, hx, hr]
  refine hK _ _ (h v' w' (by simpa using hrow) ?_ (by simpa using hw))
  exact ⟨hg.os, hg.tape, hg.output, by have := hg.size; simp at this; omega, fun k hk hne => by
    rw [hg.block k (by simp; omega) hne]; exact Below.heap_alloc W _ k hk⟩
end
end Go.Proofs.YtinlciofhegciaaDoor

/- A block that is known whole, as a row. -/
namespace Go.Proofs.YtinlciofhegciaaDoor
open Go.RowKit
theorem Row.of_blk {w : World} {b : Nat} {T : TypeId} {cs : List Value} (h : Blk w b T cs) (n : Nat) (hn : cs.length = n) (hm : n ≤ maxLen) : Row w b T 1 (.slice (some ⟨b, 0, none⟩) n n) n cs := by
  refine ⟨by omega, .inr ⟨b, n, cs.toArray, (0, 0), rfl, Nat.le_refl _, h, fun o _ => by simp, Nat.le_refl _, hm, by simp [hn], ?_⟩⟩
  simp [List.take_of_length_le (show cs.length ≤ n by omega)]

theorem row_low {w : World} {B B' : Nat} {e : TypeId} {sz n : Nat} {v : Value} {xs : List Value} (h : Row w B e sz v n xs) (hB : B' ≤ B) : Row w B' e sz v n xs := by
  refine ⟨h.1, ?_⟩
  rcases h.2 with hn | ⟨g, cap, cur, fz, rfl, hb, rest⟩
  · exact .inl hn
  · exact .inr ⟨g, cap, cur, fz, rfl, Nat.le_trans hB hb, rest⟩
end Go.Proofs.YtinlciofhegciaaDoor
