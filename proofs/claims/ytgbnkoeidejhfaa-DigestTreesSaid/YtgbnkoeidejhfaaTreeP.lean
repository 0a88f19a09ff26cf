/- Root and Path of a tree. -/
import Derived.Test.YtgbnkoeidejhfaaTreeO
import Derived.Deep.OwnRows
import Derived.Laws.CopyOwn
namespace Go.Proofs.Ytgbnkoeidejhfaa
open Go.RowKit

theorem Row.strsAll {w : World} {B : Nat} {e : TypeId} {v : Value} {l : List (List UInt8)} (h : Row w B e 1 v l.length (l.map tv)) : ∃ A cap, v = .slice A l.length cap ∧ Strs w A cap l := by
  by_cases hn : 0 < l.length
  · obtain ⟨g, cap, hv, _, _, hs⟩ := h.strs hn
    exact ⟨_, cap, hv, hs⟩
  · obtain ⟨A, c, hv⟩ := h.slice
    have : l = [] := List.eq_nil_of_length_eq_zero (by omega)
    subst this
    exact ⟨A, c, hv, Nat.zero_le _, fun i x hx => by simp at hx⟩
theorem Row.strsAllB {w : World} {B : Nat} {e : TypeId} {v : Value} {l : List (List UInt8)} (h : Row w B e 1 v l.length (l.map tv)) : ∃ A cap, v = .slice A l.length cap ∧ Strs w A cap l ∧ ∀ a, A = some a → B ≤ a.block := by
  obtain ⟨A, cap, rfl, hs⟩ := h.strsAll
  refine ⟨A, cap, rfl, hs, fun a ha => ?_⟩
  subst ha
  rcases h.2 with ⟨hv, _⟩ | ⟨g, _, _, _, hv, hb, _⟩
  · injection hv with hv; cases hv
  · injection hv with hv
    injection hv with hv
    subst hv
    exact hb
theorem below_of_none {w w1 : World} (h : w.grownBy w1 none) : Below w.heap.size w w1 := ⟨h.os, h.tape, h.output, h.size, fun k hk => h.block k hk (by simp)⟩
theorem made_list (v : Value) (n : Nat) : (madeCells #[v] n).toList = List.replicate n v := by
  simp only [madeCells]
  apply List.ext_getElem?
  intro i
  simp [Nat.mod_one, List.getElem?_replicate]
  by_cases h : i < n <;> simp [h]

set_option maxRecDepth 100000 in
set_option maxHeartbeats 2000000 in
theorem climbAll_any (o : Option Nat) (l : List (List UInt8)) (A : Option Addr) (cap i : Nat) (w : World) (hp : Strs w A cap l) (hlen : ∀ x ∈ l, x.length ≤ 1099511627775) (hl : l.length ≤ 1073741824) (hi : i ≤ 1073741824)
    (ho : ∀ pb, o = some pb → pb < w.heap.size ∧ Blk w pb 30 [.slice none 0 0]) :
    Calls Try.prog 38 #[.slice A l.length cap, .int .i64 (i : Int), besideV o] w fun e w' => e = .returned (.string (str (rootOf l))) ∧ w.grownBy w' o ∧ ∃ g, PathAt w.heap.size o w' g (pathOf l i) := by
  have hPA0 : ∀ (w' : World) (g : Nat), Below w.heap.size w w' → PathAt w.heap.size o w' g [] := by
    intro w' g hb
    cases o with
    | none => trivial
    | some pb =>
      obtain ⟨h1, h2⟩ := ho pb rfl
      exact ⟨h1, _, h2.below hb h1, Row.nil _ _ _ _, by simp [Value.ownBlock]⟩
  by_cases hn : l = []
  · subst hn
    have hc : ({ data := #[] } : ByteArray) = str [] := rfl
    have hr : rootOf [] = sha [] := if_pos rfl
    rw [hr]
    have HPA0 := Lib.hid hPA0
    clear hPA0 hr ho hlen hp
    go_enter Try.func38, Try.ntmps38
    go_wp2_with fail
    refine (sumTop_any [] _ (by simp)).mono ?_
    rintro e w1 ⟨rfl, hb1⟩
    have Hb1 := Lib.hid hb1
    clear hb1
    go_wp2_with fail
    go_ret
    exact ⟨rfl, grownBy_of_below Hb1.out _, 0, HPA0.out _ _ Hb1.out⟩
  · have hl1 : 1 ≤ l.length := by
      cases l with
      | nil => exact absurd rfl hn
      | cons => simp
    have hr : rootOf l = rootG l.length (leafs l) := if_neg hn
    obtain ⟨root, hroot⟩ : ∃ r, r = rootOf l := ⟨_, rfl⟩
    obtain ⟨full, hfull⟩ : ∃ r, r = pathOf l i := ⟨_, rfl⟩
    rw [← hroot] at hr
    rw [← hroot, ← hfull]
    have hfl : full.length ≤ 1073741824 := by
      have := pathG_le l.length (leafs l) i
      rw [hfull, pathOf]; omega
    obtain ⟨R0, hR0⟩ : ∃ R, R = leafs l := ⟨_, rfl⟩
    have hR0l : R0.length = l.length := by rw [hR0, leafs_length]
    have h32 : All32 R0 := by rw [hR0]; exact leafs_32 l
    have hrt : rootG l.length R0 = root := by rw [hr, hR0]
    have hpt : pathG l.length R0 i = full := by rw [hfull, hR0]; rfl
    have hmk : ∀ W : World, (Instr.makeSlice 30 (.int .i64 (l.length : Int)) (.int .i64 (l.length : Int))).run Try.prog W = .ok (.slice (some ⟨W.heap.size, 0, none⟩) l.length l.length) (W.alloc (.cells (madeCells #[.string ⟨#[]⟩] l.length) 9)) :=
      fun W => run_make_row' 30 9 (.string ⟨#[]⟩) 16 Try.un_strs Try.inf_str rfl .i64 .i64 l.length (by omega) (by omega) W
    have d0 : ((l.length : Int) == 0) = false := by rw [beq_eq_false_iff_ne]; omega
    have Hp := Lib.hid hp
    have Hlen := Lib.hid hlen
    have HPA0 := Lib.hid hPA0
    have HR0 := Lib.hid hR0
    have HR0l := Lib.hid hR0l
    have H32 := Lib.hid h32
    have HRt := Lib.hid hrt
    have HPt := Lib.hid hpt
    clear hp hlen hPA0 hR0 hR0l h32 hrt hpt hroot hfull hr ho
    go_enter Try.func38, Try.ntmps38
    go_wp2_with fail
    clear hmk
    refine climbL1_any l A cap w Hp.out Hlen.out hl _ _ (Blk.of _ _ _ _ (made_list _ _)) ((Below.refl _ _).alloc (Nat.le_refl _) _) _ _ _ _ _ _ _ _ _ _ _ _ _ _ _ _ _ _ _ _ _ _ _ _ _ _ _ _ _ _ _ _ _ _ _ _ _ _ _ _ _ _ _ _ _ _ _ _ _ _ _ _ _ _ _ _ _ _ _ _ _ _ _ _ _ _ _ ?_
    intro y8 y9 y20 y21 y22 y23 y24 y25 y26 y27 y28 y29 y30 w1 hA hB
    rw [← HR0.out] at hA
    have hst : Strs w1 (some ⟨w.heap.size, 0, none⟩) R0.length R0 := by
      refine ⟨Nat.le_refl _, fun k x hx => ⟨_, rfl, ?_⟩⟩
      have e : (⟨w.heap.size, 0, none⟩ : Addr).add k = ⟨w.heap.size, k, none⟩ := by unfold Addr.add; split <;> simp_all
      rw [e, hA.cell, List.getElem?_map, hx]; rfl
    have HB := Lib.hid hB
    have Hst := Lib.hid hst
    clear hA hB hst
    rw [← HR0l.out]
    go_wp2_with fail
    refine climbL2_any o w i l.length w.heap.size R0.length R0 full root w1 _ Hst.out (Nat.le_refl _) H32.out (by rw [HR0l.out]; omega) (by rw [HR0l.out]; omega) (by rw [HR0l.out]; omega) hi HRt.out HPt.out hfl (HPA0.out _ _ HB.out) (grownBy_of_below HB.out _) _ _ _ _ _ _ _ _ _ _ _ _ _ _ _ _ _ _ _ _ _ _ _ _ _ _ _ _ _ _ _ _ _ _ _ _ _ _ _ _ _ _ _ _ _ _ _ _ _ _ _ _ _ _ _ _ _ _ _ _ _ _ _ _ _ _ _ _ ?_
    intro v10 v31 v32 v33 v34 v35 v36 v37 v38 v39 v40 v41 v42 v43 v44 v45 v46 v47 v48 v49 v50 v51 v52 v53 v54 v55 v56 v57 v58 v59 v60 v61 v62 v63 v64 v65 v66 v67 i' g cp w2 hS hPA hG
    obtain ⟨a, ha, hc⟩ := hS.cells 0 root rfl
    injection ha with ha
    subst ha
    have hc0 : w2.cell? ⟨g, 0, none⟩ = some (.string (str root)) := hc
    have HPA := Lib.hid hPA
    have HG := Lib.hid hG
    clear hPA hG hS hc
    go_wp2_with fail
    go_ret
    exact ⟨rfl, HG.out, g, HPA.out⟩

set_option maxRecDepth 100000 in
set_option maxHeartbeats 400000 in
theorem rootTop_any (l : List (List UInt8)) (A : Option Addr) (cap : Nat) (w : World) (hp : Strs w A cap l) (hlen : ∀ x ∈ l, x.length ≤ 1099511627775) (hl : l.length ≤ 1073741824) :
    Calls Try.prog 20 #[.slice A l.length cap] w fun e w' => e = .returned (.string (str (rootOf l))) ∧ Below w.heap.size w w' := by
  have Hp := Lib.hid hp
  have Hlen := Lib.hid hlen
  clear hp hlen
  go_enter Try.func20, Try.ntmps20
  go_wp2_with fail
  refine (climbAll_any none l A cap 0 _ Hp.out Hlen.out hl (by omega) (fun pb h => by cases h)).mono ?_
  rintro e w1 ⟨rfl, hg, _⟩
  have Hg := Lib.hid hg
  clear hg
  go_wp2_with fail
  go_ret
  exact ⟨rfl, below_of_none Hg.out⟩
end Go.Proofs.Ytgbnkoeidejhfaa
