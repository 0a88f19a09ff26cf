import Derived.Test.YtgbnkoeidejhfaaDigC
namespace Go.Proofs.Ytgbnkoeidejhfaa
open Go.RowKit

theorem mk_set0 (d s d' : Int) (ks : List W32) : (mk d s ks).set 0 (.int .u32 d') = mk d' s ks := rfl
theorem mk_set1 (d s s' : Int) (ks : List W32) : (mk d s ks).set 1 (.int .i32 s') = mk d s' ks := rfl
theorem Maker.done {w : World} {b : Nat} {d s : Int} {ks : List W32} (h : Maker w b d s ks) : w.cell? ⟨b, 0, none⟩ = some (.int .u32 d) := h.cell 0
theorem Maker.lock {w : World} {b : Nat} {d s : Int} {ks : List W32} (h : Maker w b d s ks) : w.cell? ⟨b, 1, none⟩ = some (.int .i32 s) := h.cell 1

set_option maxRecDepth 100000 in
set_option maxHeartbeats 1600000 in
theorem slow_any (b : Nat) (pl : Addr) (hpb : ¬ b = pl.block) (w : World) (hp : w.cell? pl = some (.pointer (some ⟨b, 0, none⟩))) (hM : Maker w b 0 0 (List.replicate 64 0)) :
    Calls Try.prog 66 #[.pointer (some ⟨b, 0, none⟩), .func (.func 56) #[] #[.pointer (some pl)]] w fun e w' => e = .returned (.tuple #[]) ∧ Maker w' b 1 0 kList ∧ w.grownBy w' (some b) ∧ w'.heap.size = w.heap.size := by
  have h0 := hM.lock
  have f0 := hM.frozen 1
  have hM1 : Maker (w.setCell ⟨b, 1, none⟩ (.int .i32 1)) b 0 1 (List.replicate 64 0) := by have := hM.set 1 (.int .i32 1); rwa [mk_set1] at this
  have hl := run_call_load (P := Try.prog) Try.func73 (by kernel_rfl) (by kernel_rfl) (by kernel_rfl) .u32 (by kernel_rfl) hM1.done
  have hp1 : (w.setCell ⟨b, 1, none⟩ (.int .i32 1)).cell? pl = some (.pointer (some ⟨b, 0, none⟩)) := (World.cell?_setCell_other _ ⟨b, 1, none⟩ pl _ (fun h => hpb (by rw [← h]))).trans hp
  have hnot : ∀ (x : Bool) (w : World), (Op.unary .not (.bool x)).run Try.prog w = .ok (.bool (!x)) w := fun _ _ => rfl
  have HM1 := Lib.hid hM1
  have hg1 := Lib.hid (grown_set w b 1 (.int .i32 1))
  clear hM1 hM
  go_enter_defers Try.func66, Try.ntmps66
  go_wp2_with (first | (go_at_call 74; refine (o_lock ⟨b, 1, none⟩ _ h0 f0).mono ?_; rintro e w' ⟨rfl, rfl⟩) | (go_at_call 65; go_in))
  refine (fill_any pl b _ hpb hp1 HM1.out).mono ?_
  rintro e w2 ⟨rfl, hM2, hg2, hs2⟩
  have hM3 : Maker (w2.drew.setCell ⟨b, 0, none⟩ (.int .u32 1)) b 1 1 kList := by have := hM2.drew.set 0 (.int .u32 1); rwa [mk_set0] at this
  have hM4 : Maker ((w2.drew.setCell ⟨b, 0, none⟩ (.int .u32 1)).setCell ⟨b, 1, none⟩ (.int .i32 0)) b 1 0 kList := by have := hM3.set 1 (.int .i32 0); rwa [mk_set1] at this
  have d2 := hM2.done
  have l2 := hM2.lock
  have z0 := hM2.frozen 0
  have z1 := hM2.frozen 1
  have c3 := hM3.lock
  have z3 := hM3.frozen 1
  have hgr : w.grownBy ((w2.drew.setCell ⟨b, 0, none⟩ (.int .u32 1)).setCell ⟨b, 1, none⟩ (.int .i32 0)) (some b) :=
    grown_trans (grown_trans (grown_trans hg1.out hg2) (grown_trans (grown_drewN w2 1 _) (grown_set w2.drew b 0 _))) (grown_set _ b 1 _)
  have HM4 := Lib.hid hM4
  have Hgr := Lib.hid hgr
  have Hs2 := Lib.hid hs2
  clear hM2 hM3 hM4 hgr hs2 hg2
  go_wp2
  refine leaves_cons (f := 76) (args := #[.pointer (some ⟨b, 0, none⟩), .bool true]) (by simp) (by simp [go_sem]) ?_
  refine (o_store ⟨b, 0, none⟩ (.int .u32 0) .returning _ d2 z0).mono ?_
  rintro e u' w'' ⟨rfl, rfl, rfl⟩
  refine leaves_cons (f := 75) (args := #[.pointer (some ⟨b, 1, none⟩)]) (by simp [settle]) (by simp [go_sem]) ?_
  refine (o_unlock ⟨b, 1, none⟩ _ _ c3 z3).mono ?_
  rintro e u' w'' ⟨rfl, rfl, rfl⟩
  simp [Leaves, settle, results, Try.results66]
  exact ⟨HM4.out, Hgr.out, by have := Hs2.out; simp [World.setCell] at this ⊢; exact this⟩

set_option maxRecDepth 100000 in
set_option maxHeartbeats 1600000 in
theorem do_first (b : Nat) (pl : Addr) (hpb : ¬ b = pl.block) (w : World) (hp : w.cell? pl = some (.pointer (some ⟨b, 0, none⟩))) (hM : Maker w b 0 0 (List.replicate 64 0)) :
    Calls Try.prog 55 #[.pointer (some ⟨b, 0, none⟩), .func (.func 56) #[] #[.pointer (some pl)]] w fun e w' => e = .returned (.tuple #[]) ∧ Maker w' b 1 0 kList ∧ w.grownBy w' (some b) ∧ w'.heap.size = w.heap.size := by
  have hl := run_call_load (P := Try.prog) Try.func73 (by kernel_rfl) (by kernel_rfl) (by kernel_rfl) .u32 (by kernel_rfl) hM.done
  have hnot : ∀ (x : Bool) (w : World), (Op.unary .not (.bool x)).run Try.prog w = .ok (.bool (!x)) w := fun _ _ => rfl
  have HM := Lib.hid hM
  clear hM
  go_enter Try.func55, Try.ntmps55
  go_wp2_with (first | (go_at_call 66; refine (slow_any b pl hpb _ hp HM.out).mono ?_; rintro e w' ⟨rfl, hM2, hg2, hs2⟩; have HM2 := Lib.hid hM2; have Hg2 := Lib.hid hg2; have Hs2 := Lib.hid hs2; clear hM2 hg2 hs2) | (go_at_call 65; go_in))
  go_end0
  exact ⟨rfl, HM2.out, Hg2.out, Hs2.out⟩

set_option maxRecDepth 100000 in
theorem do_done (b : Nat) (fv : Value) (s : Int) (ks : List W32) (w : World) (hM : Maker w b 1 s ks) :
    Calls Try.prog 55 #[.pointer (some ⟨b, 0, none⟩), fv] w fun e w' => e = .returned (.tuple #[]) ∧ w = w' := by
  have hl := run_call_load (P := Try.prog) Try.func73 (by kernel_rfl) (by kernel_rfl) (by kernel_rfl) .u32 (by kernel_rfl) hM.done
  have hnot : ∀ (x : Bool) (w : World), (Op.unary .not (.bool x)).run Try.prog w = .ok (.bool (!x)) w := fun _ _ => rfl
  clear hM
  go_enter Try.func55, Try.ntmps55
  go_wp2
  go_end0
  exact ⟨rfl, rfl⟩

/-- A maker that is new, or has made K. -/
def Ready (w : World) (b : Nat) : Prop := Maker w b 0 0 (List.replicate 64 0) ∨ Maker w b 1 0 kList
theorem Ready.lt {w : World} {b : Nat} (h : Ready w b) : b < w.heap.size := h.elim Blk.lt Blk.lt
theorem Ready.alloc {w : World} {b : Nat} (h : Ready w b) (o : Obj) : Ready (w.alloc o) b := h.imp (·.alloc o) (·.alloc o)

set_option maxRecDepth 100000 in
set_option maxHeartbeats 1600000 in
theorem numbers_any (b : Nat) (w : World) (hM : Ready w b) :
    Calls Try.prog 47 #[.pointer (some ⟨b, 0, none⟩)] w fun e w' => e = .returned (.pointer (some ⟨b, 3, none⟩)) ∧ Maker w' b 1 0 kList ∧ w.grownBy w' (some b) := by
  have hmf : ∀ (fn : Fn) (first cap : Array Value) (w : World), (Instr.makeFunc fn first cap).run Try.prog w = .ok (.func fn first cap) w := fun _ _ _ _ => rfl
  have hb := hM.lt
  rcases hM with hM | hM
  · have p0 : (w.alloc (.cells #[.pointer (some ⟨b, 0, none⟩)] 46)).cell? ⟨w.heap.size, 0, none⟩ = some (.pointer (some ⟨b, 0, none⟩)) := by simp
    have H := do_first b ⟨w.heap.size, 0, none⟩ (by simp; omega) _ p0 (hM.alloc _)
    have HH := Lib.hid H
    clear H hM
    go_enter Try.func47, Try.ntmps47
    go_wp2_with (go_at_call 55; refine HH.out.mono ?_; rintro e w' ⟨rfl, hM2, hg2, hs2⟩; have pE := hg2.cell p0 (by simp; omega); have HM2 := Lib.hid hM2; have Hg2 := Lib.hid hg2; clear hM2 hg2 hs2)
    go_ret
    exact ⟨rfl, HM2.out, grown_trans (grown_alloc _ _ _) Hg2.out⟩
  · have p0 : (w.alloc (.cells #[.pointer (some ⟨b, 0, none⟩)] 46)).cell? ⟨w.heap.size, 0, none⟩ = some (.pointer (some ⟨b, 0, none⟩)) := by simp
    have H := do_done b (.func (.func 56) #[] #[.pointer (some ⟨w.heap.size, 0, none⟩)]) 0 kList _ (hM.alloc (.cells #[.pointer (some ⟨b, 0, none⟩)] 46))
    have HH := Lib.hid H
    have HM := Lib.hid (hM.alloc (.cells #[.pointer (some ⟨b, 0, none⟩)] 46))
    clear H hM
    go_enter Try.func47, Try.ntmps47
    go_wp2_with (go_at_call 55; refine HH.out.mono ?_; rintro e w' ⟨rfl, rfl⟩)
    go_ret
    exact ⟨rfl, HM.out, grown_alloc _ _ _⟩
end Go.Proofs.Ytgbnkoeidejhfaa
