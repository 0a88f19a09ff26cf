/- Joined texts, part 7: contracts of the functions that the laws reach, and what is needed for them. -/
import Derived.Deep.OwnRows
import Derived.Laws.CopyOwn
import Derived.Deep.RegionHeld3
import Derived.Test.YtinlciofhegciaaGreatJ6
/- The small claim is proved and accepted: law07.awake. -/
namespace Go.Proofs.YtinlciofhegciaaGreat
open Go.RowKit Go.BigFrame

theorem ClaimV.below {w w' : World} {A : Option Addr} {cT : Nat} {T : List Nat} {B : Option Addr} {cB : Nat} {rs : List NumV} (h : Nums w A cT T ∧ Grid w B cB rs) (hl : Lat w w') : Nums w' A cT T ∧ Grid w' B cB rs := ⟨h.1.below hl, h.2.below hl⟩
/-- A claim as a value. -/
def ClaimV (T : List Nat) (L : List (List Nat)) (u : Value) (w : World) : Prop :=
  ∃ A cT B cB rs, u = cval A cT T.length B cB rs.length ∧ (Nums w A cT T ∧ Grid w B cB rs) ∧ rs.map (·.l) = L
theorem ClaimV.later {T : List Nat} {L : List (List Nat)} {u : Value} {w w' : World} (h : ClaimV T L u w) (hl : Lat w w') : ClaimV T L u w' :=
  let ⟨A, cT, B, cB, rs, e, hn, hm⟩ := h; ⟨A, cT, B, cB, rs, e, ClaimV.below hn hl, hm⟩
theorem ClaimV.of {T : List Nat} {L : List (List Nat)} {e : Ending} {w : World} (h : OutClaim T L e w) : ∃ u, e = .returned u ∧ ClaimV T L u w :=
  let ⟨A, cT, B, cB, rs, he, h1, h2, hm⟩ := h; ⟨_, he, A, cT, B, cB, rs, rfl, ⟨h1, h2⟩, hm⟩
/-- A slice of numbers as a value. -/
def NumsV (l : List Nat) (u : Value) (w : World) : Prop := ∃ A c, u = .slice A l.length c ∧ Nums w A c l
theorem NumsV.later {l : List Nat} {u : Value} {w w' : World} (h : NumsV l u w) (hl : Lat w w') : NumsV l u w' := let ⟨A, c, e, hn⟩ := h; ⟨A, c, e, hn.below hl⟩
theorem one_row {rs : List NumV} {l : List Nat} (h : rs.map (·.l) = [l]) : ∃ r, rs = [r] ∧ r.l = l := by
  cases rs with
  | nil => simp at h
  | cons r rs =>
    simp at h
    exact ⟨r, by rw [h.2], h.1⟩

theorem Row.otherT {w : World} {B b : Nat} {e T : TypeId} {n : Nat} {v : Value} {xs cs : List Value} (h : Row w B e 1 v n xs) (hb : Blk w b T cs) (hne : e ≠ T) (o : Nat) (x : Value) : Row (w.setCell ⟨b, o, none⟩ x) B e 1 v n xs := by
  refine h.kept (grown_set w b o x) ?_
  cases hv : v.ownBlock with
  | none => exact .inl rfl
  | some k =>
    refine .inr ?_
    intro hk
    injection hk with hk
    subst hk
    rcases h.2 with ⟨rfl, _⟩ | ⟨g, cap, cur, fz, rfl, _, hg, _⟩
    · simp [Value.ownBlock] at hv
    · simp [Value.ownBlock] at hv
      subst hv
      unfold Blk at hb
      rw [hg] at hb
      injection hb with hb
      injection hb with _ hb _
      exact hne hb

set_option maxRecDepth 100000 in
set_option maxHeartbeats 4000000 in
theorem awake7_any (w : World) : Calls Tryz.prog 7 #[] w fun e w' => e = .returned (.bool true) ∧ Below w.heap.size w w' := by
  obtain ⟨t, z, hpr, hac1, hac2, htl, hzl, htb, hzb⟩ := awake_proof
  have Hpr := Lib.hid hpr
  have Hac1 := Lib.hid hac1
  have Hac2 := Lib.hid hac2
  have Htl := Lib.hid htl
  have Hzl := Lib.hid hzl
  have Htb := Lib.hid htb
  have Hzb := Lib.hid hzb
  clear hpr hac1 hac2 htl hzl htb hzb
  go_enter Tryz.func7, Tryz.ntmps7
  go_wp2_with fail
  refine (small_any w).mono ?_
  rintro e w1 ⟨⟨SA, sn, sc, rfl⟩, hb1⟩
  unfold gval
  have Hb1 := Lib.hid hb1
  clear hb1
  go_wp2_with fail
  obtain ⟨w2, hw2⟩ : ∃ w2, w2 = w1.alloc (.cells #[.int .u64 2027, .int .u64 1013, .int .u64 4, .int .u64 9, .slice SA sn sc] 25) := ⟨_, rfl⟩
  rw [← hw2]
  have hb2 : Below w1.heap.size w1 w2 := by rw [hw2]; exact (Below.refl _ _).alloc (Nat.le_refl _) _
  have hk2 : Blk w2 w1.heap.size 25 (glist 2027 1013 4 9 (.slice SA sn sc)) := by rw [hw2]; exact Blk.at_new _ _ _ _ _ rfl rfl
  obtain ⟨g0, g1, g2, g3, g4⟩ := gcells hk2
  have Hb2 := Lib.hid (below_trans Hb1.out hb2)
  have Hk2 := Lib.hid hk2
  have hgl := hk2.lt
  clear hw2 hb2 hk2
  have l0 := Later.cell g0
  have l1 := Later.cell g1
  have l2 := Later.cell g2
  have l3 := Later.cell g3
  have l4 := Later.cell g4
  refine region_float_tail [(8, ClaimV [64] [[4]]), (9, NumsV [3]), (10, NumsV [700]), (11, fun u w' => ∃ v1 v2, u = .tuple #[.agg #[v1, v2], .bool true] ∧ Row w' w2.heap.size 22 1 v1 t.length (u64s t) ∧ Row w' w2.heap.size 22 1 v2 z.length (u64s z)), (2, fun u w' => ∃ b, u = .pointer (some ⟨b, 0, none⟩) ∧ w2.heap.size ≤ b ∧ Blk w' b 36 [.slice none 0 0, .slice none 0 0])] 10
    (Know.stable_cons (fun _ _ _ h hl => h.later hl) (Know.stable_cons (fun _ _ _ h hl => h.later hl) (Know.stable_cons (fun _ _ _ h hl => h.later hl) (Know.stable_cons (fun _ _ _ h hl => let ⟨v1, v2, e, h1, h2⟩ := h; ⟨v1, v2, e, h1.below hl, h2.below hl⟩) (Know.stable_cons (fun _ _ _ h hl => let ⟨b, e, h1, h2⟩ := h; ⟨b, e, h1, h2.below hl h2.lt⟩) Know.stable_nil))))) (by kernel_rfl) (by kernel_rfl) (by rfl) ?_
  simp only [List.take_succ_cons, List.take_zero, List.drop_succ_cons, List.drop_zero]
  (repeat (first | (refine loose_skip (by rfl) ?_; simp only [Act.put, List.setIfInBounds_toArray, List.set_cons_zero, List.set_cons_succ]) | (refine loose_plain (by rfl) (by rfl) (by rfl) (fun Kc hKc => ?_); go_big_quiet_op; refine hKc _ ?_; clear hKc Kc)))
  refine loose_call 8 (f := 18) (args := #[.agg #[.int .u64 2027, .int .u64 1013, .int .u64 4, .int .u64 9, .slice SA sn sc], .int .u64 64]) (fun w => by go_simp; try rfl) (by rfl) (by rfl) (by rfl) (fun wk hl _ => (keeps_any 2027 1013 4 9 64 (.slice SA sn sc) wk (by omega) (by omega)).mono fun e w' ⟨h, hb⟩ => let ⟨u, he, hu⟩ := ClaimV.of h; ⟨u, he, hb, hu⟩) ?_
  rintro _ wk8 _ ⟨A, cT, B, cB, rs, rfl, _, hrs⟩
  obtain ⟨r8, rfl, hr8⟩ := one_row hrs
  clear hrs
  unfold cval
  simp only [List.length_cons, List.length_nil]
  simp only [Act.put, List.setIfInBounds_toArray, List.set_cons_zero, List.set_cons_succ]
  refine loose_make 9 (V := fun w => .slice (some ⟨w.heap.size, 0, none⟩) 1 1) (W := fun w => w.alloc (.cells #[.int .u64 3] 22)) (fun w => by go_simp) (by rfl) (by rfl) (by rfl) (fun w _ _ => ⟨(Below.refl _ _).alloc (Nat.le_refl _) _, _, _, rfl, nums_new w [3] _ (by simp)⟩) ?_
  rintro _ wk9 _ ⟨A9, c9, rfl, _⟩
  simp only [Act.put, List.setIfInBounds_toArray, List.set_cons_zero, List.set_cons_succ]
  refine loose_make 10 (V := fun w => .slice (some ⟨w.heap.size, 0, none⟩) 1 1) (W := fun w => w.alloc (.cells #[.int .u64 700] 22)) (fun w => by go_simp) (by rfl) (by rfl) (by rfl) (fun w _ _ => ⟨(Below.refl _ _).alloc (Nat.le_refl _) _, _, _, rfl, nums_new w [700] _ (by simp)⟩) ?_
  rintro _ wk10 _ ⟨A10, c10, rfl, _⟩
  simp only [List.length_cons, List.length_nil]
  simp only [Act.put, List.setIfInBounds_toArray, List.set_cons_zero, List.set_cons_succ]
  refine loose_call 11 (f := 10) (args := #[.agg #[.int .u64 2027, .int .u64 1013, .int .u64 4, .int .u64 9, .slice SA sn sc], .string (str [97]), .agg #[.slice A (0 + 1) cT, .slice B (0 + 1) cB], .slice A9 (0 + 1) c9, .slice A10 (0 + 1) c10]) (fun w => by go_simp; try rfl) (by rfl) (by rfl) (by rfl) (fun wk hl hd => by
    obtain ⟨A', cT', B', cB', rs', he, ⟨hn8, hg8⟩, hrs'⟩ := hd 8 (by decide) _ (.inr (.inr (.inl ⟨rfl, rfl⟩)))
    obtain ⟨r8', rfl, hr8'⟩ := one_row hrs'
    obtain ⟨A9', c9', he9, hn9⟩ := hd 9 (by decide) _ (.inr (.inl ⟨rfl, rfl⟩))
    obtain ⟨A10', c10', he10, hn10⟩ := hd 10 (by decide) _ (.inl ⟨rfl, rfl⟩)
    unfold cval at he
    injection he with he; injection he with he; injection he with h1 h2; injection h2 with h2 _
    injection h1 with h1 _ h1c; injection h2 with h2 _ h2c
    injection he9 with h3 _ h3c; injection he10 with h4 _ h4c
    subst h1 h1c h2 h2c h3 h3c h4 h4c
    have hc := prove_any 2027 1013 4 9 (.slice SA sn sc) [97] A cT [64] B cB [r8'] A9 c9 [3] A10 c10 [700] wk (by omega) (by decide) (by omega) (by omega) (by omega) (by omega) hn8 hg8 hn9 hn10 (by simp) (by simp) (by simp) (by simp [hr8']) (by simp) (by simp)
    rw [show [r8'].map (·.l) = [[4]] by simp [hr8'], Hpr.out] at hc
    exact hc.mono fun e w' ⟨⟨v1, v2, he, hr1, hr2⟩, hb⟩ => ⟨_, he, hb, v1, v2, rfl, row_low hr1 hl.size, row_low hr2 hl.size⟩) ?_
  rintro _ wk11 _ ⟨v1, v2, rfl, hr1, hr2⟩
  obtain ⟨V1, d1, rfl⟩ := hr1.slice
  obtain ⟨V2, d2, rfl⟩ := hr2.slice
  clear hr1 hr2
  simp only [Act.put, List.setIfInBounds_toArray, List.set_cons_zero, List.set_cons_succ]
  (repeat (first | (refine loose_skip (by rfl) ?_; simp only [Act.put, List.setIfInBounds_toArray, List.set_cons_zero, List.set_cons_succ]) | (refine loose_plain (by rfl) (by rfl) (by rfl) (fun Kc hKc => ?_); go_big_quiet_op; refine hKc _ ?_; clear hKc Kc)))
  refine loose_make 2 (V := fun w => .pointer (some ⟨w.heap.size, 0, none⟩)) (W := fun w => w.alloc (.cells #[.slice none 0 0, .slice none 0 0] 36)) (fun w => by go_simp) (by rfl) (by rfl) (by rfl) (fun w hl _ => ⟨(Below.refl _ _).alloc (Nat.le_refl _) _, _, rfl, hl.size, Blk.of w _ _ _ rfl⟩) ?_
  rintro _ wk2 _ ⟨pb, rfl, hpb, _⟩
  simp only [Act.put, List.setIfInBounds_toArray, List.set_cons_zero, List.set_cons_succ]
  refine loose_nil ?_
  intro wq hbq hkn
  obtain ⟨pb', hpe, _, hpk⟩ := hkn 2 _ (.inl ⟨rfl, rfl⟩)
  injection hpe with hpe; injection hpe with hpe; injection hpe with hpe
  subst hpe
  obtain ⟨v1', v2', hve, hr1, hr2⟩ := hkn 11 _ (.inr (.inl ⟨rfl, rfl⟩))
  injection hve with hve; injection hve with hve; injection hve with hve _; injection hve with hve; injection hve with hve; injection hve with hv1 hv2; injection hv2 with hv2 _
  subst hv1 hv2
  obtain ⟨p0, p1⟩ := two_cells hpk
  have q0 := hpk.frozen 0
  have q1 := hpk.frozen 1
  have hgq := Hk2.out.below hbq hgl
  have hne : (22 : TypeId) ≠ 36 := by decide
  have hpk1 := hpk.set 0 (.slice V1 t.length d1)
  have hpk2 := hpk1.set 1 (.slice V2 z.length d2)
  have hr1b := (hr1.otherT hpk hne 0 (.slice V1 t.length d1)).otherT hpk1 hne 1 (.slice V2 z.length d2)
  have hr2b := (hr2.otherT hpk hne 0 (.slice V1 t.length d1)).otherT hpk1 hne 1 (.slice V2 z.length d2)
  have hnb : w1.heap.size ≠ pb := by omega
  have hgb := (hgq.other (a := ⟨pb, 0, none⟩) hnb (.slice V1 t.length d1)).other (a := ⟨pb, 1, none⟩) hnb (.slice V2 z.length d2)
  have hbb : Below w.heap.size w ((wq.setCell ⟨pb, 0, none⟩ (.slice V1 t.length d1)).setCell ⟨pb, 1, none⟩ (.slice V2 z.length d2)) := below_set (below_set (below_trans Hb2.out hbq) (by have := Hb2.out.size; omega) _ _) (by have := Hb2.out.size; omega) _ _
  have Hr1 := Lib.hid hr1b
  have Hr2 := Lib.hid hr2b
  have Hpk := Lib.hid hpk2
  have Hgb := Lib.hid hgb
  have Hbb := Lib.hid hbb
  clear hr1 hr2 hr1b hr2b hpk1 hpk2 hgb hbb hgq hpk hkn hbq l0 l1 l2 l3 l4 hr8 hne g0 g1 g2 g3 g4
  go_wp2_with fail
  refine NoPanic.normal ?_
  go_wp2_with fail
  obtain ⟨w4, hw4⟩ : ∃ w4, w4 = (wq.setCell ⟨pb, 0, none⟩ (.slice V1 t.length d1)).setCell ⟨pb, 1, none⟩ (.slice V2 z.length d2) := ⟨_, rfl⟩
  rw [← hw4] at Hr1 Hr2 Hpk Hgb Hbb ⊢
  clear hw4 p0 p1 q0 q1
  obtain ⟨X1, e1, hx1, hN1⟩ := nums_of_row Hr1.out Htb.out
  obtain ⟨X2, e2, hx2, hN2⟩ := nums_of_row Hr2.out Hzb.out
  injection hx1 with hx1 _ hx1c
  injection hx2 with hx2 _ hx2c
  subst hx1 hx1c hx2 hx2c
  have HN1 := Lib.hid hN1
  have HN2 := Lib.hid hN2
  obtain ⟨g0, g1, g2, g3, g4⟩ := gcells Hgb.out
  obtain ⟨p0, p1⟩ := two_cells Hpk.out
  have l0 := Later.cell g0
  have l1 := Later.cell g1
  have l2 := Later.cell g2
  have l3 := Later.cell g3
  have l4 := Later.cell g4
  have l5 := Later.cell p0
  have l6 := Later.cell p1
  clear hN1 hN2
  refine region_loose [(18, ClaimV [64] [[4]]), (20, fun u _ => u = .bool true), (25, ClaimV [9] [[4]]), (27, fun u _ => u = .bool false)]
    (Know.stable_cons (fun _ _ _ h hl => h.later hl) (Know.stable_cons (fun _ _ _ h _ => h) (Know.stable_cons (fun _ _ _ h hl => h.later hl) (Know.stable_cons (fun _ _ _ h _ => h) Know.stable_nil)))) (by kernel_rfl) (by kernel_rfl) ?_
  (repeat (first | (refine loose_skip (by rfl) ?_; simp only [Act.put, List.setIfInBounds_toArray, List.set_cons_zero, List.set_cons_succ]) | (refine loose_plain (by rfl) (by rfl) (by rfl) (fun Kc hKc => ?_); go_big_quiet_op; refine hKc _ ?_; clear hKc Kc)))
  refine loose_call 18 (f := 18) (args := #[.agg #[.int .u64 2027, .int .u64 1013, .int .u64 4, .int .u64 9, .slice SA sn sc], .int .u64 64]) (fun w => by go_simp; try rfl) (by rfl) (by rfl) (by rfl) (fun wk hl _ => (keeps_any 2027 1013 4 9 64 (.slice SA sn sc) wk (by omega) (by omega)).mono fun e w' ⟨h, hb⟩ => let ⟨u, he, hu⟩ := ClaimV.of h; ⟨u, he, hb, hu⟩) ?_
  rintro _ wk18 _ ⟨A18, cT18, B18, cB18, rs18, rfl, _, hrs⟩
  obtain ⟨r18, rfl, hr18⟩ := one_row hrs
  clear hrs hr18
  unfold cval
  simp only [List.length_cons, List.length_nil]
  simp only [Act.put, List.setIfInBounds_toArray, List.set_cons_zero, List.set_cons_succ]
  (repeat (first | (refine loose_skip (by rfl) ?_; simp only [Act.put, List.setIfInBounds_toArray, List.set_cons_zero, List.set_cons_succ]) | (refine loose_plain (by rfl) (by rfl) (by rfl) (fun Kc hKc => ?_); go_big_quiet_op; refine hKc _ ?_; clear hKc Kc)))
  refine loose_fix 20 (.bool true) (f := 14) (args := #[.agg #[.int .u64 2027, .int .u64 1013, .int .u64 4, .int .u64 9, .slice SA sn sc], .string (str [97]), .agg #[.slice A18 (0 + 1) cT18, .slice B18 (0 + 1) cB18], .agg #[.slice V1 t.length d1, .slice V2 z.length d2]]) (fun w => by go_simp; try rfl) (by rfl) (by rfl) (by rfl) (fun _ _ => Iff.rfl) (fun wk hl hd => by
    obtain ⟨A', cT', B', cB', rs', he, ⟨hn8, hg8⟩, hrs'⟩ := hd 18 (by decide) _ (.inl ⟨rfl, rfl⟩)
    obtain ⟨r8', rfl, hr8'⟩ := one_row hrs'
    unfold cval at he
    injection he with he; injection he with he; injection he with h1 h2; injection h2 with h2 _
    injection h1 with h1 _ h1c; injection h2 with h2 _ h2c
    subst h1 h1c h2 h2c
    have hc := accept_any 2027 1013 4 9 (.slice SA sn sc) [97] A18 cT18 [64] B18 cB18 [r8'] V1 d1 t V2 d2 z wk (by omega) (by decide) (by omega) (by omega) (by omega) (by omega) hn8 hg8 (HN1.out.below hl) (HN2.out.below hl) (by simp) (by simp) (by simp) (by simp [hr8']) (by rw [Htl.out]; omega) (by rw [Hzl.out]; omega)
    rw [show [r8'].map (·.l) = [[4]] by simp [hr8'], Hac1.out] at hc
    exact hc) ?_
  simp only [Act.put, List.setIfInBounds_toArray, List.set_cons_zero, List.set_cons_succ]
  (repeat (first | (refine loose_skip (by rfl) ?_; simp only [Act.put, List.setIfInBounds_toArray, List.set_cons_zero, List.set_cons_succ]) | (refine loose_plain (by rfl) (by rfl) (by rfl) (fun Kc hKc => ?_); go_big_quiet_op; refine hKc _ ?_; clear hKc Kc)))
  refine loose_call 25 (f := 18) (args := #[.agg #[.int .u64 2027, .int .u64 1013, .int .u64 4, .int .u64 9, .slice SA sn sc], .int .u64 9]) (fun w => by go_simp; try rfl) (by rfl) (by rfl) (by rfl) (fun wk hl _ => (keeps_any 2027 1013 4 9 9 (.slice SA sn sc) wk (by omega) (by omega)).mono fun e w' ⟨h, hb⟩ => let ⟨u, he, hu⟩ := ClaimV.of h; ⟨u, he, hb, hu⟩) ?_
  rintro _ wk25 _ ⟨A25, cT25, B25, cB25, rs25, rfl, _, hrs⟩
  obtain ⟨r25, rfl, hr25⟩ := one_row hrs
  clear hrs hr25
  unfold cval
  simp only [List.length_cons, List.length_nil]
  simp only [Act.put, List.setIfInBounds_toArray, List.set_cons_zero, List.set_cons_succ]
  (repeat (first | (refine loose_skip (by rfl) ?_; simp only [Act.put, List.setIfInBounds_toArray, List.set_cons_zero, List.set_cons_succ]) | (refine loose_plain (by rfl) (by rfl) (by rfl) (fun Kc hKc => ?_); go_big_quiet_op; refine hKc _ ?_; clear hKc Kc)))
  refine loose_fix 27 (.bool false) (f := 14) (args := #[.agg #[.int .u64 2027, .int .u64 1013, .int .u64 4, .int .u64 9, .slice SA sn sc], .string (str [97]), .agg #[.slice A25 (0 + 1) cT25, .slice B25 (0 + 1) cB25], .agg #[.slice V1 t.length d1, .slice V2 z.length d2]]) (fun w => by go_simp; try rfl) (by rfl) (by rfl) (by rfl) (fun _ _ => Iff.rfl) (fun wk hl hd => by
    obtain ⟨A', cT', B', cB', rs', he, ⟨hn8, hg8⟩, hrs'⟩ := hd 25 (by decide) _ (.inl ⟨rfl, rfl⟩)
    obtain ⟨r8', rfl, hr8'⟩ := one_row hrs'
    unfold cval at he
    injection he with he; injection he with he; injection he with h1 h2; injection h2 with h2 _
    injection h1 with h1 _ h1c; injection h2 with h2 _ h2c
    subst h1 h1c h2 h2c
    have hc := accept_any 2027 1013 4 9 (.slice SA sn sc) [97] A25 cT25 [9] B25 cB25 [r8'] V1 d1 t V2 d2 z wk (by omega) (by decide) (by omega) (by omega) (by omega) (by omega) hn8 hg8 (HN1.out.below hl) (HN2.out.below hl) (by simp) (by simp) (by simp) (by simp [hr8']) (by rw [Htl.out]; omega) (by rw [Hzl.out]; omega)
    rw [show [r8'].map (·.l) = [[4]] by simp [hr8'], Hac2.out] at hc
    exact hc) ?_
  simp only [Act.put, List.setIfInBounds_toArray, List.set_cons_zero, List.set_cons_succ]
  (repeat (first | (refine loose_skip (by rfl) ?_; simp only [Act.put, List.setIfInBounds_toArray, List.set_cons_zero, List.set_cons_succ]) | (refine loose_plain (by rfl) (by rfl) (by rfl) (fun Kc hKc => ?_); go_big_quiet_op; refine hKc _ ?_; clear hKc Kc)))
  refine loose_nil ?_
  intro wr hbr _
  have Hbr := Lib.hid (show Below w4.heap.size w4 wr from hbr)
  clear hbr l0 l1 l2 l3 l4 l5 l6
  go_wp2_with fail
  go_ret
  exact ⟨rfl, below_trans Hbb.out Hbr.out⟩
end Go.Proofs.YtinlciofhegciaaGreat

namespace Go.Proofs.YtinlciofhegciaaGreat
open Go.RowKit

theorem runs_add (c : St → List UInt8 → St) (a b : Nat) (l : List UInt8) (h : St) : runs c (a + b) l h = runs c b (l.drop (64 * a)) (runs c a l h) := by
  induction a generalizing l h with
  | zero => simp [runs]
  | succ a ih =>
    rw [show a + 1 + b = (a + b) + 1 by omega, runs, ih, runs, List.drop_drop]
    congr 2; omega
theorem runs_front (c : St → List UInt8 → St) (a : Nat) (l m : List UInt8) (h : St) (hl : 64 * a ≤ l.length) : runs c a (l ++ m) h = runs c a l h := by
  induction a generalizing l h with
  | zero => rfl
  | succ a ih =>
    rw [runs, runs, List.take_append_of_le_length (by omega), List.drop_append_of_le_length (by omega), ih _ _ (by rw [List.length_drop]; omega)]
/-- What is cut into blocks. -/
def padOf (l : List UInt8) : List UInt8 := l ++ [128] ++ List.replicate ((119 - l.length % 64) % 64) 0 ++ be 8 (8 * l.length)
theorem padOf_eq (l : List UInt8) : padOf l = l.take (64 * (l.length / 64)) ++ tailOf l := by
  have hr : (l.drop (64 * (l.length / 64))).length = l.length % 64 := by rw [List.length_drop]; omega
  simp only [tailOf, padOf, hr]
  rw [← List.append_assoc, ← List.append_assoc, ← List.append_assoc, List.take_append_drop]
theorem tailOf_length (l : List UInt8) : (tailOf l).length = l.length % 64 + 1 + (119 - l.length % 64) % 64 + 8 := by
  have hr : (l.drop (64 * (l.length / 64))).length = l.length % 64 := by rw [List.length_drop]; omega
  simp [tailOf, be_length, hr]; omega
theorem padOf_length (l : List UInt8) : (padOf l).length = 64 * (l.length / 64) + (tailOf l).length := by
  rw [padOf_eq, List.length_append, List.length_take]; omega
theorem sha_pad (l : List UInt8) : sha l = outOf (runs comp ((padOf l).length / 64) (padOf l) iv) := by
  have h1 : (padOf l).length / 64 = l.length / 64 + (tailOf l).length / 64 := by rw [padOf_length]; omega
  have h2 : (l.take (64 * (l.length / 64))).length = 64 * (l.length / 64) := by rw [List.length_take]; omega
  have h3 : runs comp (l.length / 64) l iv = runs comp (l.length / 64) (l.take (64 * (l.length / 64))) iv := by
    exact (congrArg (fun x => runs comp (l.length / 64) x iv) (List.take_append_drop (64 * (l.length / 64)) l)).symm.trans (runs_front _ _ _ _ _ (by rw [h2]; exact Nat.le_refl _))
  rw [sha, h1, runs_add, padOf_eq, runs_front _ _ _ _ _ (by rw [h2]; exact Nat.le_refl _), ← h3, List.drop_append, h2, List.drop_of_length_le (by rw [h2]; exact Nat.le_refl _)]
  simp

theorem ch_or (e f g : W32) : e &&& f ||| ~~~e &&& g = e &&& f ^^^ ~~~e &&& g := by
  ext i hi
  simp only [BitVec.getElem_or, BitVec.getElem_and, BitVec.getElem_xor, BitVec.getElem_not]
  cases e[i] <;> cases f[i] <;> cases g[i] <;> rfl
theorem maj_or (a b c : W32) : a &&& b ||| a &&& c ||| b &&& c = a &&& b ^^^ a &&& c ^^^ b &&& c := by
  ext i hi
  simp only [BitVec.getElem_or, BitVec.getElem_and, BitVec.getElem_xor]
  cases a[i] <;> cases b[i] <;> cases c[i] <;> rfl
theorem pword4 (s : List UInt8) (t : Nat) : pword s t 4 = BitVec.ofNat 32 (s.getD (4 * t) 0).toNat <<< 24 ||| BitVec.ofNat 32 (s.getD (4 * t + 1) 0).toNat <<< 16 ||| BitVec.ofNat 32 (s.getD (4 * t + 2) 0).toNat <<< 8 ||| BitVec.ofNat 32 (s.getD (4 * t + 3) 0).toNat := by
  simp only [pword, BitVec.shiftLeft_or_distrib, Nat.add_zero]
  simp [← BitVec.shiftLeft_add]

set_option maxRecDepth 100000 in
set_option maxHeartbeats 400000 in
theorem ks_any (w : World) :
    Calls Tryz.prog 89 #[] w fun e w' => e = .returned (.slice (some ⟨w.heap.size, 0, none⟩) 64 64) ∧ Blk w' w.heap.size 119 (kList.map v32) ∧ Below w.heap.size w w' := by
  go_enter Tryz.func89, Tryz.ntmps89
  go_wp2
  go_ret
  exact ⟨rfl, Blk.of _ _ _ _ (by kernel_rfl), (Below.refl _ _).alloc (Nat.le_refl _) _⟩

end Go.Proofs.YtinlciofhegciaaGreat

namespace Go.Proofs.YtinlciofhegciaaGreat
open Go.RowKit

theorem Tryz.underlying_u32s : Tryz.prog.underlying 131 = some (.slice 119) := by kernel_rfl
theorem Tryz.info_u32 : (Tryz.prog.info? 119).map (fun i => (i.zero, i.size, i.bytes)) = some (some (.int .u32 0), 1, 4) := by kernel_rfl
/-- What the sums' rounds read and leave: h (in place), K, the padded text. -/
structure Bs (x : World) (b0 g : Nat) (h : St) (p : List UInt8) : Prop where
  h : Blk x b0 119 h.cells
  k : Blk x (b0 + 1) 119 (kList.map v32)
  p : ∀ j, j < p.length → x.cell? ⟨g, j, none⟩ = some (.int .u8 ((p.getD j 0).toNat : Int))
theorem Bs.below {x y : World} {b0 g : Nat} {h : St} {p : List UInt8} (hb : Bs x b0 g h p) (hg : g < x.heap.size) (hy : Below x.heap.size x y) : Bs y b0 g h p :=
  ⟨hb.h.below hy hb.h.lt, hb.k.below hy hb.k.lt, fun j hj => (hy.cell (p := ⟨g, j, none⟩) hg).trans (hb.p j hj)⟩

/-- What a round of the reference's sums reads. -/
structure Rf (x : World) (V W kb : Nat) (w0 : World) (v : St) (l : List UInt8) : Prop where
  st : Blk x V 134 v.cells
  ws : Blk x W 119 (wArr l 64)
  ks : Blk x kb 119 (kList.map v32)
  below : Below V w0 x
theorem Rf.drewN {x : World} {V W kb : Nat} {w0 : World} {v : St} {l : List UInt8} (h : Rf x V W kb w0 v l) (n : Nat) : Rf (x.drewN n) V W kb w0 v l := ⟨h.st, h.ws, h.ks, below_drewN h.below n⟩
theorem Rf.cells {x : World} {V W kb : Nat} {w0 : World} {v : St} {l : List UInt8} (h : Rf x V W kb w0 v l) :
    x.cell? ⟨V, 0, none⟩ = some (v32 v.a) ∧ x.cell? ⟨V, 1, none⟩ = some (v32 v.b) ∧ x.cell? ⟨V, 2, none⟩ = some (v32 v.c) ∧ x.cell? ⟨V, 3, none⟩ = some (v32 v.d) ∧ x.cell? ⟨V, 4, none⟩ = some (v32 v.e) ∧ x.cell? ⟨V, 5, none⟩ = some (v32 v.f) ∧ x.cell? ⟨V, 6, none⟩ = some (v32 v.g) ∧ x.cell? ⟨V, 7, none⟩ = some (v32 v.h) :=
  ⟨h.st.cell 0, h.st.cell 1, h.st.cell 2, h.st.cell 3, h.st.cell 4, h.st.cell 5, h.st.cell 6, h.st.cell 7⟩
theorem Rf.word {x : World} {V W kb : Nat} {w0 : World} {v : St} {l : List UInt8} (h : Rf x V W kb w0 v l) (t : Nat) (ht : t < 64) : x.cell? ⟨W, t, none⟩ = some (v32 ((sch l 64).getD t 0)) := by
  rw [h.ws.cell, wArr_get l 64 t ht]
theorem Rf.put {x : World} {V W kb : Nat} {w0 : World} {v : St} {l : List UInt8} (h : Rf x V W kb w0 v l) (hW : W ≠ V) (hk : kb ≠ V) (n : St) :
    Rf ((((((((x.setCell ⟨V, 0, none⟩ (v32 n.a)).setCell ⟨V, 1, none⟩ (v32 n.b)).setCell ⟨V, 2, none⟩ (v32 n.c)).setCell ⟨V, 3, none⟩ (v32 n.d)).setCell ⟨V, 4, none⟩ (v32 n.e)).setCell ⟨V, 5, none⟩ (v32 n.f)).setCell ⟨V, 6, none⟩ (v32 n.g)).setCell ⟨V, 7, none⟩ (v32 n.h)) V W kb w0 n l :=
  ⟨(((((((h.st.set 0 _).set 1 _).set 2 _).set 3 _).set 4 _).set 5 _).set 6 _).set 7 _,
   (((((((h.ws.other hW _).other hW _).other hW _).other hW _).other hW _).other hW _).other hW _).other hW _,
   (((((((h.ks.other hk _).other hk _).other hk _).other hk _).other hk _).other hk _).other hk _).other hk _,
   below_set (below_set (below_set (below_set (below_set (below_set (below_set (below_set h.below (Nat.le_refl _) _ _) (Nat.le_refl _) _ _) (Nat.le_refl _) _ _) (Nat.le_refl _) _ _) (Nat.le_refl _) _ _) (Nat.le_refl _) _ _) (Nat.le_refl _) _ _) (Nat.le_refl _) _ _⟩
theorem kmap_get (t : Nat) (ht : t < 64) : (kList.map v32)[t]? = some (v32 (kList.getD t 0)) := by
  have : t < kList.length := by rw [kList_length]; exact ht
  simp [List.getD_eq_getElem?_getD, this]
theorem Rf.k {x : World} {V W kb : Nat} {w0 : World} {v : St} {l : List UInt8} (h : Rf x V W kb w0 v l) (t : Nat) (ht : t < 64) : x.cell? ⟨kb, t, none⟩ = some (v32 (kList.getD t 0)) := by
  rw [h.ks.cell, kmap_get t ht]


noncomputable def refBlocks : Code := nthLoop (Tryz.f80.body.getD .skip) 1
noncomputable def refSched : Code := nthLoop refBlocks 0
noncomputable def refRounds : Code := nthLoop refBlocks 1
noncomputable def refAdd : Code := nthLoop refBlocks 2
noncomputable def refOut : Code := nthLoop (Tryz.f80.body.getD .skip) 2
set_option maxRecDepth 1000000 in
set_option maxHeartbeats 4000000 in
theorem sched_loop (g cap j : Nat) (z : Int) (p q : List UInt8) (wo w0 : World) (Q : Exit → Act → World → Prop) (hz : z = ((64 * j : Nat) : Int)) (hgo : g < wo.heap.size) (hpl : p.length ≤ 1099511628000) (hj : 64 * j + 64 ≤ p.length)
    (hp : ∀ i, i < p.length → wo.cell? ⟨g, i, none⟩ = some (.int .u8 ((p.getD i 0).toNat : Int))) (hqget : ∀ i, i < 64 → q.getD i 0 = p.getD (64 * j + i) 0)
    (hA0 : Blk w0 wo.heap.size 119 (wArr q 0)) (hB0 : Below wo.heap.size wo w0) (x0 x1 x2 x3 x4 x9 x10 x11 x12 x13 x14 x15 x16 x17 x18 x19 x20 x21 x22 x23 x24 x25 x26 x27 x28 x29 x30 x31 x32 x33 x34 x35 x36 x37 x38 x39 x40 x41 x42 x43 x44 x45 x46 x47 x48 x49 x50 x51 x52 x53 x54 x55 x56 x57 x58 x59 x60 x61 x62 x63 x64 x65 x66 x67 x68 x69 x70 x71 x72 x73 x74 x75 x76 x77 x78 x79 x80 x81 x82 x83 x84 x85 x86 x87 x88 x89 x90 x91 x92 x93 x94 x95 x96 x97 x98 x99 x100 x101 x102 x103 x104 x105 x106 x107 x108 x109 x110 x111 x112 x113 x114 x115 x116 x117 x118 x119 x120 x121 x122 x123 x124 x125 x126 x127 x128 x129 x130 x131 x132 x133 x134 x135 x136 x137 x138 x139 x140 x141 x142 x143 x144 x145 x146 x147 x148 x149 x150 x151 x152 x153 x154 x155 x156 x157 x158 x159 x160 x161 x162 x163 x164 x165 x166 x167 x168 x169 x170 x171 x172 x173 x174 x175 x176 x177 x178 x179 x180 x181 x182 x183 x184 x185 x186 x187 x188 x189 x190 x191 x192 x193 x194 x195 x196 x197 x198 x199 x200 x201 x202 x203 x204 x205 x206 x207 x208 x209 x210 x211 x212 x213 x214 x215 x216 x217 x218 x219 x220 x221 x222 x223 x224 x225 x226 x227 x228 x229 x230 x231 x232 x233 x234 x235 x236 x237 x238 x239 x240 x241 x242 x243 x244 x245 x246 x247 x248 x249 x250 x251 x252 x253 x254 x255 x256 x257 x258 x259 x260 x261 x262 x263 x264 x265 x266 x267 : Value)
    (hexit : ∀ (u8 u9 u10 u11 u47 u48 u49 u50 u51 u52 u53 u54 u55 u56 u57 u58 u59 u60 u61 u62 u63 u64 u65 u66 u67 u68 u69 u70 u71 u72 u73 u74 u75 u76 u77 u78 u79 u80 u81 u82 u83 u84 u85 u86 u87 u88 u89 u90 u91 u92 u93 u94 u95 u96 u97 u98 u99 u100 u101 u102 u103 u104 u105 u106 u107 u108 u109 u110 u111 u112 u113 u114 u115 u116 u117 u118 u119 u120 u121 u122 u123 u124 u125 u126 u127 u128 u129 u130 : Value) (w' : World), Blk w' wo.heap.size 119 (wArr q 64) → Below wo.heap.size wo w' → Q (.exit 4) ⟨List.toArray (x0 :: x1 :: x2 :: x3 :: x4 :: .slice (some ⟨g, 0, none⟩) p.length cap :: .int .i64 z :: .slice (some ⟨wo.heap.size, 0, none⟩) 64 64 :: u8 :: u9 :: u10 :: u11 :: x12 :: x13 :: x14 :: x15 :: x16 :: x17 :: x18 :: x19 :: x20 :: x21 :: x22 :: x23 :: x24 :: x25 :: x26 :: x27 :: x28 :: x29 :: x30 :: x31 :: x32 :: x33 :: x34 :: x35 :: x36 :: x37 :: x38 :: x39 :: x40 :: x41 :: x42 :: x43 :: x44 :: x45 :: x46 :: u47 :: u48 :: u49 :: u50 :: u51 :: u52 :: u53 :: u54 :: u55 :: u56 :: u57 :: u58 :: u59 :: u60 :: u61 :: u62 :: u63 :: u64 :: u65 :: u66 :: u67 :: u68 :: u69 :: u70 :: u71 :: u72 :: u73 :: u74 :: u75 :: u76 :: u77 :: u78 :: u79 :: u80 :: u81 :: u82 :: u83 :: u84 :: u85 :: u86 :: u87 :: u88 :: u89 :: u90 :: u91 :: u92 :: u93 :: u94 :: u95 :: u96 :: u97 :: u98 :: u99 :: u100 :: u101 :: u102 :: u103 :: u104 :: u105 :: u106 :: u107 :: u108 :: u109 :: u110 :: u111 :: u112 :: u113 :: u114 :: u115 :: u116 :: u117 :: u118 :: u119 :: u120 :: u121 :: u122 :: u123 :: u124 :: u125 :: u126 :: u127 :: u128 :: u129 :: u130 :: x131 :: x132 :: x133 :: x134 :: x135 :: x136 :: x137 :: x138 :: x139 :: x140 :: x141 :: x142 :: x143 :: x144 :: x145 :: x146 :: x147 :: x148 :: x149 :: x150 :: x151 :: x152 :: x153 :: x154 :: x155 :: x156 :: x157 :: x158 :: x159 :: x160 :: x161 :: x162 :: x163 :: x164 :: x165 :: x166 :: x167 :: x168 :: x169 :: x170 :: x171 :: x172 :: x173 :: x174 :: x175 :: x176 :: x177 :: x178 :: x179 :: x180 :: x181 :: x182 :: x183 :: x184 :: x185 :: x186 :: x187 :: x188 :: x189 :: x190 :: x191 :: x192 :: x193 :: x194 :: x195 :: x196 :: x197 :: x198 :: x199 :: x200 :: x201 :: x202 :: x203 :: x204 :: x205 :: x206 :: x207 :: x208 :: x209 :: x210 :: x211 :: x212 :: x213 :: x214 :: x215 :: x216 :: x217 :: x218 :: x219 :: x220 :: x221 :: x222 :: x223 :: x224 :: x225 :: x226 :: x227 :: x228 :: x229 :: x230 :: x231 :: x232 :: x233 :: x234 :: x235 :: x236 :: x237 :: x238 :: x239 :: x240 :: x241 :: x242 :: x243 :: x244 :: x245 :: x246 :: x247 :: x248 :: x249 :: x250 :: x251 :: x252 :: x253 :: x254 :: x255 :: x256 :: x257 :: x258 :: x259 :: x260 :: x261 :: x262 :: x263 :: x264 :: x265 :: x266 :: x267 :: []), []⟩ w') :
    (Code.loop refSched).wp Tryz.prog Q ⟨List.toArray (x0 :: x1 :: x2 :: x3 :: x4 :: .slice (some ⟨g, 0, none⟩) p.length cap :: .int .i64 z :: .slice (some ⟨wo.heap.size, 0, none⟩) 64 64 :: .int .i64 0 :: x9 :: x10 :: x11 :: x12 :: x13 :: x14 :: x15 :: x16 :: x17 :: x18 :: x19 :: x20 :: x21 :: x22 :: x23 :: x24 :: x25 :: x26 :: x27 :: x28 :: x29 :: x30 :: x31 :: x32 :: x33 :: x34 :: x35 :: x36 :: x37 :: x38 :: x39 :: x40 :: x41 :: x42 :: x43 :: x44 :: x45 :: x46 :: x47 :: x48 :: x49 :: x50 :: x51 :: x52 :: x53 :: x54 :: x55 :: x56 :: x57 :: x58 :: x59 :: x60 :: x61 :: x62 :: x63 :: x64 :: x65 :: x66 :: x67 :: x68 :: x69 :: x70 :: x71 :: x72 :: x73 :: x74 :: x75 :: x76 :: x77 :: x78 :: x79 :: x80 :: x81 :: x82 :: x83 :: x84 :: x85 :: x86 :: x87 :: x88 :: x89 :: x90 :: x91 :: x92 :: x93 :: x94 :: x95 :: x96 :: x97 :: x98 :: x99 :: x100 :: x101 :: x102 :: x103 :: x104 :: x105 :: x106 :: x107 :: x108 :: x109 :: x110 :: x111 :: x112 :: x113 :: x114 :: x115 :: x116 :: x117 :: x118 :: x119 :: x120 :: x121 :: x122 :: x123 :: x124 :: x125 :: x126 :: x127 :: x128 :: x129 :: x130 :: x131 :: x132 :: x133 :: x134 :: x135 :: x136 :: x137 :: x138 :: x139 :: x140 :: x141 :: x142 :: x143 :: x144 :: x145 :: x146 :: x147 :: x148 :: x149 :: x150 :: x151 :: x152 :: x153 :: x154 :: x155 :: x156 :: x157 :: x158 :: x159 :: x160 :: x161 :: x162 :: x163 :: x164 :: x165 :: x166 :: x167 :: x168 :: x169 :: x170 :: x171 :: x172 :: x173 :: x174 :: x175 :: x176 :: x177 :: x178 :: x179 :: x180 :: x181 :: x182 :: x183 :: x184 :: x185 :: x186 :: x187 :: x188 :: x189 :: x190 :: x191 :: x192 :: x193 :: x194 :: x195 :: x196 :: x197 :: x198 :: x199 :: x200 :: x201 :: x202 :: x203 :: x204 :: x205 :: x206 :: x207 :: x208 :: x209 :: x210 :: x211 :: x212 :: x213 :: x214 :: x215 :: x216 :: x217 :: x218 :: x219 :: x220 :: x221 :: x222 :: x223 :: x224 :: x225 :: x226 :: x227 :: x228 :: x229 :: x230 :: x231 :: x232 :: x233 :: x234 :: x235 :: x236 :: x237 :: x238 :: x239 :: x240 :: x241 :: x242 :: x243 :: x244 :: x245 :: x246 :: x247 :: x248 :: x249 :: x250 :: x251 :: x252 :: x253 :: x254 :: x255 :: x256 :: x257 :: x258 :: x259 :: x260 :: x261 :: x262 :: x263 :: x264 :: x265 :: x266 :: x267 :: []), []⟩ w0 := by
  have Hexit := Lib.hid hexit
  have Hz := Lib.hid hz
  have Hp := Lib.hid hp
  have Hqget := Lib.hid hqget
  have HA0 := Lib.hid hA0
  have HB0 := Lib.hid hB0
  have hz0 : 0 ≤ z := by omega
  have hz1 : z ≤ 1099511628000 := by omega
  clear hexit hz hp hqget hA0 hB0
  conv => arg 2; arg 1; whnf
  go_loopw [8] (fun y wr => ∃ t : Nat, t ≤ 64 ∧ y = .int .i64 (t : Int) ∧ Blk wr wo.heap.size 119 (wArr q t) ∧ Below wo.heap.size wo wr) (fun y _ => (64 - intOf y).toNat)
  case atStart => exact ⟨0, by omega, rfl, HA0.out, HB0.out⟩
  case round =>
    obtain ⟨wt, rfl⟩ : ∃ wt : World, wt = wr := ⟨_, rfl⟩
    obtain ⟨t, ht, rfl, hA, hB⟩ := hrel
    have HA := Lib.hid hA
    have HB := Lib.hid hB
    clear hA hB HA0 HB0
    by_cases h64 : t < 64
    · have b64 : decide ((t : Int) < 64) = true := decide_eq_true (by omega)
      have c64 : (t : Int) < 64 := by omega
      have hz := wArr_zero q t h64
      have g0 : wt.cell? ⟨wo.heap.size, t, none⟩ = some (v32 0) := by rw [HA.out.cell, hz]
      have hfr := HA.out.frozen t
      by_cases h16 : t < 16
      · skip
        have hpt : ∀ i, i < p.length → wt.cell? ⟨g, i, none⟩ = some (.int .u8 ((p.getD i 0).toNat : Int)) := fun i hi => (HB.out.cell (p := ⟨g, i, none⟩) hgo).trans (Hp.out i hi)
        have b16 : decide ((t : Int) < 16) = true := decide_eq_true (by omega)
        obtain ⟨i0, hi0⟩ : ∃ i : Nat, i = 64 * j + 4 * t := ⟨_, rfl⟩
        have hip : i0 + 3 < p.length := by omega
        have e0 : wt.cell? ⟨g, i0, none⟩ = some (.int .u8 ((q.getD (4 * t) 0).toNat : Int)) := by
          rw [hpt i0 (by omega), Hqget.out (4 * t) (by omega), hi0]
        have e1 : wt.cell? ⟨g, i0 + 1, none⟩ = some (.int .u8 ((q.getD (4 * t + 1) 0).toNat : Int)) := by
          rw [hpt (i0 + 1) (by omega), Hqget.out (4 * t + 1) (by omega), hi0]; rfl
        have e2 : wt.cell? ⟨g, i0 + 2, none⟩ = some (.int .u8 ((q.getD (4 * t + 2) 0).toNat : Int)) := by
          rw [hpt (i0 + 2) (by omega), Hqget.out (4 * t + 2) (by omega), hi0]; rfl
        have e3 : wt.cell? ⟨g, i0 + 3, none⟩ = some (.int .u8 ((q.getD (4 * t + 3) 0).toNat : Int)) := by
          rw [hpt (i0 + 3) (by omega), Hqget.out (4 * t + 3) (by omega), hi0]; rfl
        have hset := HA.out.set t (v32 (wnext q t (sch q t)))
        rw [wArr_succ q t h64, show wnext q t (sch q t) = pword q t 4 by simp [wnext, h16], pword4] at hset
        generalize (q.getD (4 * t) 0).toNat = c0 at *
        generalize (q.getD (4 * t + 1) 0).toNat = c1 at *
        generalize (q.getD (4 * t + 2) 0).toNat = c2 at *
        generalize (q.getD (4 * t + 3) 0).toNat = c3 at *
        have Hset := Lib.hid hset
        have hrw : z + 4 * (t : Int) = (i0 : Int) := by have := Hz.out; omega
        have q1 : IntKind.i64.wrap ((i0 : Int) + 1) = (i0 : Int) + 1 := IntWalk.i64_in _ (by omega)
        have q2 : IntKind.i64.wrap ((i0 : Int) + 2) = (i0 : Int) + 2 := IntWalk.i64_in _ (by omega)
        have q3 : IntKind.i64.wrap ((i0 : Int) + 3) = (i0 : Int) + 3 := IntWalk.i64_in _ (by omega)
        have n1 : ((i0 : Int) + 1).toNat = i0 + 1 := by omega
        have n2 : ((i0 : Int) + 2).toNat = i0 + 2 := by omega
        have n3 : ((i0 : Int) + 3).toNat = i0 + 3 := by omega
        have k0 : (i0 : Int) < (p.length : Int) := by omega
        have k1 : (i0 : Int) + 1 < (p.length : Int) := by omega
        have k2 : (i0 : Int) + 2 < (p.length : Int) := by omega
        have k3 : (i0 : Int) + 3 < (p.length : Int) := by omega
        have j1 : (0 : Int) ≤ (i0 : Int) + 1 := by omega
        have j2 : (0 : Int) ≤ (i0 : Int) + 2 := by omega
        have j3 : (0 : Int) ≤ (i0 : Int) + 3 := by omega
        have rc := w32_wrap
        have r8 := w32_shl8
        have r16 := w32_shl16
        have r24 := w32_shl24
        have ro := w32_or
        clear hpt hset hz hi0
        go_wp2_with fail
        refine wp_region_still_tail 32 Tryz.mixed (by kernel_rfl) ?_
        simp only [List.take_succ_cons, List.take_zero, List.drop_succ_cons, List.drop_zero]
        repeat still_step
        refine wpStill_nil ?_
        clear rc r8 r16 r24 ro q1 q2 q3 n1 n2 n3 e0 e1 e2 e3
        go_wp2_with fail
        go_roundw
        case rel => exact ⟨t + 1, by omega, by go_num, Hset.out, below_set_drew HB.out (Nat.le_refl _) _ _⟩
        case measure => simp [intOf]; omega
      · skip
        have b16 : decide ((t : Int) < 16) = false := decide_eq_false (by omega)
        have hg : ∀ i, i < t → wt.cell? ⟨wo.heap.size, i, none⟩ = some (v32 ((sch q t).getD i 0)) := fun i hi => by rw [HA.out.cell, wArr_get q t i hi]
        have g15 := hg (t - 15) (by omega)
        have g2 := hg (t - 2) (by omega)
        have g16 := hg (t - 16) (by omega)
        have g7 := hg (t - 7) (by omega)
        obtain ⟨x15, e15⟩ : ∃ x, x = (sch q t).getD (t - 15) 0 := ⟨_, rfl⟩
        obtain ⟨x2, e2⟩ : ∃ x, x = (sch q t).getD (t - 2) 0 := ⟨_, rfl⟩
        obtain ⟨x16, e16⟩ : ∃ x, x = (sch q t).getD (t - 16) 0 := ⟨_, rfl⟩
        obtain ⟨x7, e7⟩ : ∃ x, x = (sch q t).getD (t - 7) 0 := ⟨_, rfl⟩
        have hval : wnext q t (sch q t) = x16 + (x15.rotateRight 7 ^^^ x15.rotateRight 18 ^^^ x15 >>> 3) + x7 + (x2.rotateRight 17 ^^^ x2.rotateRight 19 ^^^ x2 >>> 10) := by
          rw [e15, e2, e16, e7]; simp [wnext, h16, sg0, sg1]
        rw [← e15] at g15
        rw [← e2] at g2
        rw [← e16] at g16
        rw [← e7] at g7
        have Hval := Lib.hid hval
        have u15 : ((t : Int) - 15).toNat = t - 15 := by omega
        have u2 : ((t : Int) - 2).toNat = t - 2 := by omega
        have u16 : ((t : Int) - 16).toNat = t - 16 := by omega
        have u7 : ((t : Int) - 7).toNat = t - 7 := by omega
        have q16 : IntKind.i64.wrap ((t : Int) - 16) = (t : Int) - 16 := IntWalk.i64_in _ (by omega)
        have q7 : IntKind.i64.wrap ((t : Int) - 7) = (t : Int) - 7 := IntWalk.i64_in _ (by omega)
        have d16 : (16 : Int) ≤ (t : Int) := by omega
        have d7 : (7 : Int) ≤ (t : Int) := by omega
        have k16 : (t : Int) - 16 < 64 := by omega
        have k7 : (t : Int) - 7 < 64 := by omega
        have j16 : 0 ≤ (t : Int) - 16 := by omega
        have j7 : 0 ≤ (t : Int) - 7 := by omega
        have rx := w32_xor
        have ra := w32_add
        have r3 := w32_shr3
        have r10 := w32_shr10
        clear hg hval e15 e2 e16 e7 hz
        go_wp2_with fail
        refine region_quiet_tail (fun w' => ∃ n, w' = wt.drewN n) 32 Tryz.mixed (by kernel_rfl) ⟨1, rfl⟩ ?_
        simp only [List.take_succ_cons, List.take_zero, List.drop_succ_cons, List.drop_zero]
        repeat (quiet_step (fail))
        quiet_step ((exact Calls.quiet_of (rturn_any 7 _ _ rfl _ (by omega) (by omega))))
        repeat (quiet_step (fail))
        quiet_step ((exact Calls.quiet_of (rturn_any 18 _ _ rfl _ (by omega) (by omega))))
        repeat (quiet_step (fail))
        quiet_step ((exact Calls.quiet_of (rturn_any 17 _ _ rfl _ (by omega) (by omega))))
        repeat (quiet_step (fail))
        quiet_step ((exact Calls.quiet_of (rturn_any 19 _ _ rfl _ (by omega) (by omega))))
        repeat (quiet_step (fail))
        refine wpQuiet_nil ?_
        rintro w' ⟨nq, rfl⟩
        have hset' := ((HA.out.drewN nq).set t (v32 (wnext q t (sch q t))))
        rw [wArr_succ q t h64, Hval.out] at hset'
        have hb' : Below wo.heap.size wo (wt.drewN nq) := below_drewN HB.out nq
        have g0' : (wt.drewN nq).cell? ⟨wo.heap.size, t, none⟩ = some (v32 0) := g0
        have hfr' : (wt.drewN nq).frozen? ⟨wo.heap.size, t, none⟩ = false := hfr
        have Hset' := Lib.hid hset'
        have Hb' := Lib.hid hb'
        clear g16 g7 g0 hfr HA HB g15 g2 hset' hb' rx ra r3 r10 q16 q7
        generalize wt.drewN nq = wq at *
        go_wp2_with fail
        go_roundw
        case rel => exact ⟨t + 1, by omega, by go_num, Hset'.out, below_set Hb'.out (Nat.le_refl _) _ _⟩
        case measure => simp [intOf]; omega
    · have b64 : decide ((t : Int) < 64) = false := decide_eq_false (by omega)
      have hA : Blk wt wo.heap.size 119 (wArr q 64) := by rw [← show t = 64 from by omega]; exact HA.out
      go_wp2_with fail
      exact Hexit.out _ _ _ _ _ _ _ _ _ _ _ _ _ _ _ _ _ _ _ _ _ _ _ _ _ _ _ _ _ _ _ _ _ _ _ _ _ _ _ _ _ _ _ _ _ _ _ _ _ _ _ _ _ _ _ _ _ _ _ _ _ _ _ _ _ _ _ _ _ _ _ _ _ _ _ _ _ _ _ _ _ _ _ _ _ _ _ _ _ hA HB.out

end Go.Proofs.YtinlciofhegciaaGreat

namespace Go.Proofs.YtinlciofhegciaaGreat
open Go.RowKit
set_option maxRecDepth 1000000 in
set_option maxHeartbeats 4000000 in
theorem rounds_loop (V W kb : Nat) (wb w0 : World) (R : St) (q : List UInt8) (Q : Exit → Act → World → Prop) (hWV : W ≠ V) (hkV : kb ≠ V) (h0 : Rf w0 V W kb wb R q) (x0 x1 x2 x3 x5 x6 x8 x9 x10 x11 x14 x15 x16 x17 x18 x19 x20 x21 x22 x23 x24 x25 x26 x27 x28 x29 x30 x31 x32 x33 x34 x35 x36 x37 x38 x39 x40 x41 x42 x43 x44 x45 x46 x47 x48 x49 x50 x51 x52 x53 x54 x55 x56 x57 x58 x59 x60 x61 x62 x63 x64 x65 x66 x67 x68 x69 x70 x71 x72 x73 x74 x75 x76 x77 x78 x79 x80 x81 x82 x83 x84 x85 x86 x87 x88 x89 x90 x91 x92 x93 x94 x95 x96 x97 x98 x99 x100 x101 x102 x103 x104 x105 x106 x107 x108 x109 x110 x111 x112 x113 x114 x115 x116 x117 x118 x119 x120 x121 x122 x123 x124 x125 x126 x127 x128 x129 x130 x131 x132 x133 x134 x135 x136 x137 x138 x139 x140 x141 x142 x143 x144 x145 x146 x147 x148 x149 x150 x151 x152 x153 x154 x155 x156 x157 x158 x159 x160 x161 x162 x163 x164 x165 x166 x167 x168 x169 x170 x171 x172 x173 x174 x175 x176 x177 x178 x179 x180 x181 x182 x183 x184 x185 x186 x187 x188 x189 x190 x191 x192 x193 x194 x195 x196 x197 x198 x199 x200 x201 x202 x203 x204 x205 x206 x207 x208 x209 x210 x211 x212 x213 x214 x215 x216 x217 x218 x219 x220 x221 x222 x223 x224 x225 x226 x227 x228 x229 x230 x231 x232 x233 x234 x235 x236 x237 x238 x239 x240 x241 x242 x243 x244 x245 x246 x247 x248 x249 x250 x251 x252 x253 x254 x255 x256 x257 x258 x259 x260 x261 x262 x263 x264 x265 x266 x267 : Value)
    (hexit : ∀ (u13 u14 u15 u16 u17 u156 u157 u158 u159 u160 u161 u162 u163 u164 u165 u166 u167 u168 u169 u170 u171 u172 u173 u174 u175 u176 u177 u178 u179 u180 u181 u182 u183 u184 u185 u186 u187 u188 u189 u190 u191 u192 u193 u194 u195 u196 u197 u198 u199 u200 u201 u202 u203 u204 u205 u206 u207 u208 u209 u210 u211 u212 u213 u214 u215 u216 u217 u218 u219 u220 u221 u222 u223 u224 u225 u226 u227 u228 u229 u230 u231 u232 u233 u234 u235 u236 u237 u238 u239 : Value) (w' : World), Rf w' V W kb wb (rnds (sch q 64) R 64) q → Q (.exit 6) ⟨List.toArray (x0 :: x1 :: x2 :: x3 :: .slice (some ⟨kb, 0, none⟩) 64 64 :: x5 :: x6 :: .slice (some ⟨W, 0, none⟩) 64 64 :: x8 :: x9 :: x10 :: x11 :: .pointer (some ⟨V, 0, none⟩) :: u13 :: u14 :: u15 :: u16 :: u17 :: x18 :: x19 :: x20 :: x21 :: x22 :: x23 :: x24 :: x25 :: x26 :: x27 :: x28 :: x29 :: x30 :: x31 :: x32 :: x33 :: x34 :: x35 :: x36 :: x37 :: x38 :: x39 :: x40 :: x41 :: x42 :: x43 :: x44 :: x45 :: x46 :: x47 :: x48 :: x49 :: x50 :: x51 :: x52 :: x53 :: x54 :: x55 :: x56 :: x57 :: x58 :: x59 :: x60 :: x61 :: x62 :: x63 :: x64 :: x65 :: x66 :: x67 :: x68 :: x69 :: x70 :: x71 :: x72 :: x73 :: x74 :: x75 :: x76 :: x77 :: x78 :: x79 :: x80 :: x81 :: x82 :: x83 :: x84 :: x85 :: x86 :: x87 :: x88 :: x89 :: x90 :: x91 :: x92 :: x93 :: x94 :: x95 :: x96 :: x97 :: x98 :: x99 :: x100 :: x101 :: x102 :: x103 :: x104 :: x105 :: x106 :: x107 :: x108 :: x109 :: x110 :: x111 :: x112 :: x113 :: x114 :: x115 :: x116 :: x117 :: x118 :: x119 :: x120 :: x121 :: x122 :: x123 :: x124 :: x125 :: x126 :: x127 :: x128 :: x129 :: x130 :: x131 :: x132 :: x133 :: x134 :: x135 :: x136 :: x137 :: x138 :: x139 :: x140 :: x141 :: x142 :: x143 :: x144 :: x145 :: x146 :: x147 :: x148 :: x149 :: x150 :: x151 :: x152 :: x153 :: x154 :: x155 :: u156 :: u157 :: u158 :: u159 :: u160 :: u161 :: u162 :: u163 :: u164 :: u165 :: u166 :: u167 :: u168 :: u169 :: u170 :: u171 :: u172 :: u173 :: u174 :: u175 :: u176 :: u177 :: u178 :: u179 :: u180 :: u181 :: u182 :: u183 :: u184 :: u185 :: u186 :: u187 :: u188 :: u189 :: u190 :: u191 :: u192 :: u193 :: u194 :: u195 :: u196 :: u197 :: u198 :: u199 :: u200 :: u201 :: u202 :: u203 :: u204 :: u205 :: u206 :: u207 :: u208 :: u209 :: u210 :: u211 :: u212 :: u213 :: u214 :: u215 :: u216 :: u217 :: u218 :: u219 :: u220 :: u221 :: u222 :: u223 :: u224 :: u225 :: u226 :: u227 :: u228 :: u229 :: u230 :: u231 :: u232 :: u233 :: u234 :: u235 :: u236 :: u237 :: u238 :: u239 :: x240 :: x241 :: x242 :: x243 :: x244 :: x245 :: x246 :: x247 :: x248 :: x249 :: x250 :: x251 :: x252 :: x253 :: x254 :: x255 :: x256 :: x257 :: x258 :: x259 :: x260 :: x261 :: x262 :: x263 :: x264 :: x265 :: x266 :: x267 :: []), []⟩ w') :
    (Code.loop refRounds).wp Tryz.prog Q ⟨List.toArray (x0 :: x1 :: x2 :: x3 :: .slice (some ⟨kb, 0, none⟩) 64 64 :: x5 :: x6 :: .slice (some ⟨W, 0, none⟩) 64 64 :: x8 :: x9 :: x10 :: x11 :: .pointer (some ⟨V, 0, none⟩) :: .int .i64 0 :: x14 :: x15 :: x16 :: x17 :: x18 :: x19 :: x20 :: x21 :: x22 :: x23 :: x24 :: x25 :: x26 :: x27 :: x28 :: x29 :: x30 :: x31 :: x32 :: x33 :: x34 :: x35 :: x36 :: x37 :: x38 :: x39 :: x40 :: x41 :: x42 :: x43 :: x44 :: x45 :: x46 :: x47 :: x48 :: x49 :: x50 :: x51 :: x52 :: x53 :: x54 :: x55 :: x56 :: x57 :: x58 :: x59 :: x60 :: x61 :: x62 :: x63 :: x64 :: x65 :: x66 :: x67 :: x68 :: x69 :: x70 :: x71 :: x72 :: x73 :: x74 :: x75 :: x76 :: x77 :: x78 :: x79 :: x80 :: x81 :: x82 :: x83 :: x84 :: x85 :: x86 :: x87 :: x88 :: x89 :: x90 :: x91 :: x92 :: x93 :: x94 :: x95 :: x96 :: x97 :: x98 :: x99 :: x100 :: x101 :: x102 :: x103 :: x104 :: x105 :: x106 :: x107 :: x108 :: x109 :: x110 :: x111 :: x112 :: x113 :: x114 :: x115 :: x116 :: x117 :: x118 :: x119 :: x120 :: x121 :: x122 :: x123 :: x124 :: x125 :: x126 :: x127 :: x128 :: x129 :: x130 :: x131 :: x132 :: x133 :: x134 :: x135 :: x136 :: x137 :: x138 :: x139 :: x140 :: x141 :: x142 :: x143 :: x144 :: x145 :: x146 :: x147 :: x148 :: x149 :: x150 :: x151 :: x152 :: x153 :: x154 :: x155 :: x156 :: x157 :: x158 :: x159 :: x160 :: x161 :: x162 :: x163 :: x164 :: x165 :: x166 :: x167 :: x168 :: x169 :: x170 :: x171 :: x172 :: x173 :: x174 :: x175 :: x176 :: x177 :: x178 :: x179 :: x180 :: x181 :: x182 :: x183 :: x184 :: x185 :: x186 :: x187 :: x188 :: x189 :: x190 :: x191 :: x192 :: x193 :: x194 :: x195 :: x196 :: x197 :: x198 :: x199 :: x200 :: x201 :: x202 :: x203 :: x204 :: x205 :: x206 :: x207 :: x208 :: x209 :: x210 :: x211 :: x212 :: x213 :: x214 :: x215 :: x216 :: x217 :: x218 :: x219 :: x220 :: x221 :: x222 :: x223 :: x224 :: x225 :: x226 :: x227 :: x228 :: x229 :: x230 :: x231 :: x232 :: x233 :: x234 :: x235 :: x236 :: x237 :: x238 :: x239 :: x240 :: x241 :: x242 :: x243 :: x244 :: x245 :: x246 :: x247 :: x248 :: x249 :: x250 :: x251 :: x252 :: x253 :: x254 :: x255 :: x256 :: x257 :: x258 :: x259 :: x260 :: x261 :: x262 :: x263 :: x264 :: x265 :: x266 :: x267 :: []), []⟩ w0 := by
  have Hexit := Lib.hid hexit
  have H0 := Lib.hid h0
  clear hexit h0
  conv => arg 2; arg 1; whnf
  go_loopw [13] (fun y x => ∃ r : Nat, r ≤ 64 ∧ y = .int .i64 (r : Int) ∧ Rf x V W kb wb (rnds (sch q 64) R r) q) (fun y _ => (64 - intOf y).toNat)
  case atStart => exact ⟨0, by omega, rfl, H0.out⟩
  case round =>
    obtain ⟨x, rfl⟩ : ∃ x : World, x = wr := ⟨_, rfl⟩
    obtain ⟨r, hr, rfl, hRr⟩ := hrel
    clear H0
    by_cases r64 : r < 64
    · skip
      have b64' : decide ((r : Int) < 64) = true := decide_eq_true (by omega)
      have c64' : (r : Int) < 64 := by omega
      obtain ⟨v, hv⟩ : ∃ v, v = rnds (sch q 64) R r := ⟨_, rfl⟩
      rw [← hv] at hRr
      have hnext : rnds (sch q 64) R (r + 1) = rnd v (kList.getD r 0) ((sch q 64).getD r 0) := by rw [hv]; rfl
      have Hnext := Lib.hid hnext
      have HRr := Lib.hid hRr
      clear hv hnext hRr
      obtain ⟨kr, hkr⟩ : ∃ k, k = kList.getD r 0 := ⟨_, rfl⟩
      obtain ⟨wd, hwd⟩ : ∃ k, k = (sch q 64).getD r 0 := ⟨_, rfl⟩
      have Hkr := Lib.hid hkr
      have Hwd := Lib.hid hwd
      clear hkr hwd
      obtain ⟨f0, f1, f2, f3, f4, f5, f6, f7⟩ := HRr.out.cells
      have fw := HRr.out.word r r64
      have fk := HRr.out.k r r64
      rw [← Hkr.out] at fk
      rw [← Hwd.out] at fw
      have rx := w32_xor
      have rn := w32_and
      have rr := w32_or
      have ra := w32_add
      have ro := w32_not
      go_wp2_with fail
      refine wp_region_quiet_lit (by kernel_rfl) (by kernel_rfl) ?_
      repeat (quiet_step (fail))
      quiet_step ((exact Calls.quiet_of (rturn_any 6 _ _ rfl _ (by omega) (by omega))))
      repeat (quiet_step (fail))
      quiet_step ((exact Calls.quiet_of (rturn_any 11 _ _ rfl _ (by omega) (by omega))))
      repeat (quiet_step (fail))
      quiet_step ((exact Calls.quiet_of (rturn_any 25 _ _ rfl _ (by omega) (by omega))))
      repeat (quiet_step (fail))
      refine wpQuiet_nil ?_
      intro _ hw'
      obtain ⟨nq2, hw''⟩ := hw'
      subst hw''
      have HR3 := Lib.hid (HRr.out.drewN nq2)
      clear HRr f0 f1 f2 f3 f4 f5 f6 f7 fk fw
      generalize x.drewN nq2 = x3 at *
      obtain ⟨f0, f1, f2, f3, f4, f5, f6, f7⟩ := HR3.out.cells
      have hone : v.h + (v.e.rotateRight 6 ^^^ v.e.rotateRight 11 ^^^ v.e.rotateRight 25) + (v.e &&& v.f ||| ~~~v.e &&& v.g) + kr + wd = one v kr wd := by rw [ch_or]; rfl
      rw [hone]
      generalize ho1 : one v kr wd = o1 at *
      have Ho1 := Lib.hid ho1
      clear ho1
      go_wp2_with fail
      refine wp_region_quiet_lit (by kernel_rfl) (by kernel_rfl) ?_
      repeat (quiet_step (fail))
      quiet_step ((exact Calls.quiet_of (rturn_any 2 _ _ rfl _ (by omega) (by omega))))
      repeat (quiet_step (fail))
      quiet_step ((exact Calls.quiet_of (rturn_any 13 _ _ rfl _ (by omega) (by omega))))
      repeat (quiet_step (fail))
      quiet_step ((exact Calls.quiet_of (rturn_any 22 _ _ rfl _ (by omega) (by omega))))
      repeat (quiet_step (fail))
      refine wpQuiet_nil ?_
      intro _ hw'
      obtain ⟨nq3, hw''⟩ := hw'
      subst hw''
      have HR4 := Lib.hid (HR3.out.drewN nq3)
      clear HR3 f0 f1 f2 f3 f4 f5 f6 f7
      generalize x3.drewN nq3 = x4 at *
      obtain ⟨f0, f1, f2, f3, f4, f5, f6, f7⟩ := HR4.out.cells
      have z0 := HR4.out.st.frozen
      have htwo : (v.a.rotateRight 2 ^^^ v.a.rotateRight 13 ^^^ v.a.rotateRight 22) + (v.a &&& v.b ||| v.a &&& v.c ||| v.b &&& v.c) = two v := by rw [maj_or]; rfl
      rw [htwo]
      generalize ho2 : two v = o2 at *
      have Ho2 := Lib.hid ho2
      clear ho2
      have hrn : rnds (sch q 64) R (r + 1) = ⟨o1 + o2, v.a, v.b, v.c, v.d + o1, v.e, v.f, v.g⟩ := by
        rw [Hnext.out, ← Hkr.out, ← Hwd.out, rnd, Ho1.out, Ho2.out]
      have Hrn := Lib.hid hrn
      clear hrn
      have hput := HR4.out.put hWV hkV ⟨o1 + o2, v.a, v.b, v.c, v.d + o1, v.e, v.f, v.g⟩
      have Hput := Lib.hid hput
      clear hput
      go_wp2_with fail
      go_roundw
      case rel => exact ⟨r + 1, by omega, by go_num, by rw [Hrn.out]; exact Hput.out⟩
      case measure => simp [intOf]; omega
    · skip
      have hr64 : r = 64 := by omega
      rw [hr64] at hRr
      have HRr := Lib.hid hRr
      have b64' : decide ((r : Int) < 64) = false := decide_eq_false (by omega)
      clear hr64 hRr
      go_wp2_with fail
      exact Hexit.out _ _ _ _ _ _ _ _ _ _ _ _ _ _ _ _ _ _ _ _ _ _ _ _ _ _ _ _ _ _ _ _ _ _ _ _ _ _ _ _ _ _ _ _ _ _ _ _ _ _ _ _ _ _ _ _ _ _ _ _ _ _ _ _ _ _ _ _ _ _ _ _ _ _ _ _ _ _ _ _ _ _ _ _ _ _ _ _ _ _ HRr.out

end Go.Proofs.YtinlciofhegciaaGreat

namespace Go.Proofs.YtinlciofhegciaaGreat
open Go.RowKit
set_option maxRecDepth 1000000 in
set_option maxHeartbeats 4000000 in
theorem add_loop (hb V : Nat) (x : World) (R v : St) (Q : Exit → Act → World → Prop) (hne : V ≠ hb) (hH : Blk x hb 119 R.cells) (hV : Blk x V 134 v.cells) (x0 x1 x2 x4 x5 x6 x7 x8 x9 x10 x11 x13 x14 x15 x16 x17 x19 x20 x21 x22 x23 x24 x25 x26 x27 x28 x29 x30 x31 x32 x33 x34 x35 x36 x37 x38 x39 x40 x41 x42 x43 x44 x45 x46 x47 x48 x49 x50 x51 x52 x53 x54 x55 x56 x57 x58 x59 x60 x61 x62 x63 x64 x65 x66 x67 x68 x69 x70 x71 x72 x73 x74 x75 x76 x77 x78 x79 x80 x81 x82 x83 x84 x85 x86 x87 x88 x89 x90 x91 x92 x93 x94 x95 x96 x97 x98 x99 x100 x101 x102 x103 x104 x105 x106 x107 x108 x109 x110 x111 x112 x113 x114 x115 x116 x117 x118 x119 x120 x121 x122 x123 x124 x125 x126 x127 x128 x129 x130 x131 x132 x133 x134 x135 x136 x137 x138 x139 x140 x141 x142 x143 x144 x145 x146 x147 x148 x149 x150 x151 x152 x153 x154 x155 x156 x157 x158 x159 x160 x161 x162 x163 x164 x165 x166 x167 x168 x169 x170 x171 x172 x173 x174 x175 x176 x177 x178 x179 x180 x181 x182 x183 x184 x185 x186 x187 x188 x189 x190 x191 x192 x193 x194 x195 x196 x197 x198 x199 x200 x201 x202 x203 x204 x205 x206 x207 x208 x209 x210 x211 x212 x213 x214 x215 x216 x217 x218 x219 x220 x221 x222 x223 x224 x225 x226 x227 x228 x229 x230 x231 x232 x233 x234 x235 x236 x237 x238 x239 x240 x241 x242 x243 x244 x245 x246 x247 x248 x249 x250 x251 x252 x253 x254 x255 x256 x257 x258 x259 x260 x261 x262 x263 x264 x265 x266 x267 : Value)
    (hexit : ∀ (u18 u240 u241 u242 u243 u244 u245 u246 u247 u248 u249 u250 u251 u252 u253 u254 : Value) (y : World), Blk y hb 119 (R.add v).cells → x.grownBy y (some hb) → Q (.exit 8) ⟨List.toArray (x0 :: x1 :: x2 :: .slice (some ⟨hb, 0, none⟩) 8 8 :: x4 :: x5 :: x6 :: x7 :: x8 :: x9 :: x10 :: x11 :: .pointer (some ⟨V, 0, none⟩) :: x13 :: x14 :: x15 :: x16 :: x17 :: u18 :: x19 :: x20 :: x21 :: x22 :: x23 :: x24 :: x25 :: x26 :: x27 :: x28 :: x29 :: x30 :: x31 :: x32 :: x33 :: x34 :: x35 :: x36 :: x37 :: x38 :: x39 :: x40 :: x41 :: x42 :: x43 :: x44 :: x45 :: x46 :: x47 :: x48 :: x49 :: x50 :: x51 :: x52 :: x53 :: x54 :: x55 :: x56 :: x57 :: x58 :: x59 :: x60 :: x61 :: x62 :: x63 :: x64 :: x65 :: x66 :: x67 :: x68 :: x69 :: x70 :: x71 :: x72 :: x73 :: x74 :: x75 :: x76 :: x77 :: x78 :: x79 :: x80 :: x81 :: x82 :: x83 :: x84 :: x85 :: x86 :: x87 :: x88 :: x89 :: x90 :: x91 :: x92 :: x93 :: x94 :: x95 :: x96 :: x97 :: x98 :: x99 :: x100 :: x101 :: x102 :: x103 :: x104 :: x105 :: x106 :: x107 :: x108 :: x109 :: x110 :: x111 :: x112 :: x113 :: x114 :: x115 :: x116 :: x117 :: x118 :: x119 :: x120 :: x121 :: x122 :: x123 :: x124 :: x125 :: x126 :: x127 :: x128 :: x129 :: x130 :: x131 :: x132 :: x133 :: x134 :: x135 :: x136 :: x137 :: x138 :: x139 :: x140 :: x141 :: x142 :: x143 :: x144 :: x145 :: x146 :: x147 :: x148 :: x149 :: x150 :: x151 :: x152 :: x153 :: x154 :: x155 :: x156 :: x157 :: x158 :: x159 :: x160 :: x161 :: x162 :: x163 :: x164 :: x165 :: x166 :: x167 :: x168 :: x169 :: x170 :: x171 :: x172 :: x173 :: x174 :: x175 :: x176 :: x177 :: x178 :: x179 :: x180 :: x181 :: x182 :: x183 :: x184 :: x185 :: x186 :: x187 :: x188 :: x189 :: x190 :: x191 :: x192 :: x193 :: x194 :: x195 :: x196 :: x197 :: x198 :: x199 :: x200 :: x201 :: x202 :: x203 :: x204 :: x205 :: x206 :: x207 :: x208 :: x209 :: x210 :: x211 :: x212 :: x213 :: x214 :: x215 :: x216 :: x217 :: x218 :: x219 :: x220 :: x221 :: x222 :: x223 :: x224 :: x225 :: x226 :: x227 :: x228 :: x229 :: x230 :: x231 :: x232 :: x233 :: x234 :: x235 :: x236 :: x237 :: x238 :: x239 :: u240 :: u241 :: u242 :: u243 :: u244 :: u245 :: u246 :: u247 :: u248 :: u249 :: u250 :: u251 :: u252 :: u253 :: u254 :: x255 :: x256 :: x257 :: x258 :: x259 :: x260 :: x261 :: x262 :: x263 :: x264 :: x265 :: x266 :: x267 :: []), []⟩ y) :
    (Code.loop refAdd).wp Tryz.prog Q ⟨List.toArray (x0 :: x1 :: x2 :: .slice (some ⟨hb, 0, none⟩) 8 8 :: x4 :: x5 :: x6 :: x7 :: x8 :: x9 :: x10 :: x11 :: .pointer (some ⟨V, 0, none⟩) :: x13 :: x14 :: x15 :: x16 :: x17 :: .int .i64 0 :: x19 :: x20 :: x21 :: x22 :: x23 :: x24 :: x25 :: x26 :: x27 :: x28 :: x29 :: x30 :: x31 :: x32 :: x33 :: x34 :: x35 :: x36 :: x37 :: x38 :: x39 :: x40 :: x41 :: x42 :: x43 :: x44 :: x45 :: x46 :: x47 :: x48 :: x49 :: x50 :: x51 :: x52 :: x53 :: x54 :: x55 :: x56 :: x57 :: x58 :: x59 :: x60 :: x61 :: x62 :: x63 :: x64 :: x65 :: x66 :: x67 :: x68 :: x69 :: x70 :: x71 :: x72 :: x73 :: x74 :: x75 :: x76 :: x77 :: x78 :: x79 :: x80 :: x81 :: x82 :: x83 :: x84 :: x85 :: x86 :: x87 :: x88 :: x89 :: x90 :: x91 :: x92 :: x93 :: x94 :: x95 :: x96 :: x97 :: x98 :: x99 :: x100 :: x101 :: x102 :: x103 :: x104 :: x105 :: x106 :: x107 :: x108 :: x109 :: x110 :: x111 :: x112 :: x113 :: x114 :: x115 :: x116 :: x117 :: x118 :: x119 :: x120 :: x121 :: x122 :: x123 :: x124 :: x125 :: x126 :: x127 :: x128 :: x129 :: x130 :: x131 :: x132 :: x133 :: x134 :: x135 :: x136 :: x137 :: x138 :: x139 :: x140 :: x141 :: x142 :: x143 :: x144 :: x145 :: x146 :: x147 :: x148 :: x149 :: x150 :: x151 :: x152 :: x153 :: x154 :: x155 :: x156 :: x157 :: x158 :: x159 :: x160 :: x161 :: x162 :: x163 :: x164 :: x165 :: x166 :: x167 :: x168 :: x169 :: x170 :: x171 :: x172 :: x173 :: x174 :: x175 :: x176 :: x177 :: x178 :: x179 :: x180 :: x181 :: x182 :: x183 :: x184 :: x185 :: x186 :: x187 :: x188 :: x189 :: x190 :: x191 :: x192 :: x193 :: x194 :: x195 :: x196 :: x197 :: x198 :: x199 :: x200 :: x201 :: x202 :: x203 :: x204 :: x205 :: x206 :: x207 :: x208 :: x209 :: x210 :: x211 :: x212 :: x213 :: x214 :: x215 :: x216 :: x217 :: x218 :: x219 :: x220 :: x221 :: x222 :: x223 :: x224 :: x225 :: x226 :: x227 :: x228 :: x229 :: x230 :: x231 :: x232 :: x233 :: x234 :: x235 :: x236 :: x237 :: x238 :: x239 :: x240 :: x241 :: x242 :: x243 :: x244 :: x245 :: x246 :: x247 :: x248 :: x249 :: x250 :: x251 :: x252 :: x253 :: x254 :: x255 :: x256 :: x257 :: x258 :: x259 :: x260 :: x261 :: x262 :: x263 :: x264 :: x265 :: x266 :: x267 :: []), []⟩ x := by
  have Hexit := Lib.hid hexit
  have HH := Lib.hid hH
  have HV := Lib.hid hV
  clear hexit hH hV
  conv => arg 2; arg 1; whnf
  go_loopw [18] (fun q y => ∃ i : Nat, i ≤ 8 ∧ q = .int .i64 (i : Int) ∧ Blk y hb 119 ((addTo R.list v.list i).map v32) ∧ Blk y V 134 v.cells ∧ x.grownBy y (some hb)) (fun q _ => (8 - intOf q).toNat)
  case atStart => exact ⟨0, by omega, rfl, HH.out, HV.out, grown_refl _ _⟩
  case round =>
    obtain ⟨y, rfl⟩ : ∃ y : World, y = wr := ⟨_, rfl⟩
    obtain ⟨i, hi, rfl, hH, hV, hg⟩ := hrel
    clear HH HV
    by_cases i8 : i < 8
    · skip
      have c8 : (i : Int) < 8 := by omega
      have d8 : decide ((i : Int) < 8) = true := decide_eq_true (by omega)
      have f1 : y.cell? ⟨hb, i, none⟩ = some (v32 (R.list.getD i 0)) := by
        rw [hH.cell, List.getElem?_map, addTo_get R v i i8]; rfl
      have f2 : y.cell? ⟨V, i, none⟩ = some (v32 (v.list.getD i 0)) := by rw [hV.cell, St.get v i i8]
      have z1 := hH.frozen i
      have hset := hH.set i (v32 (R.list.getD i 0 + v.list.getD i 0))
      rw [← List.map_set, addTo_set R v i i8] at hset
      have hoth : Blk (y.setCell ⟨hb, i, none⟩ (v32 (R.list.getD i 0 + v.list.getD i 0))) V 134 v.cells := hV.other hne _
      have hg2 := grown_trans hg (grown_set_drew y hb i (v32 (R.list.getD i 0 + v.list.getD i 0)))
      generalize R.list.getD i 0 = p1 at *
      generalize v.list.getD i 0 = q1 at *
      have ra := w32_add
      have Hset := Lib.hid hset
      have Hoth := Lib.hid hoth
      have Hg2 := Lib.hid hg2
      clear hH hV hg hset hoth hg2
      go_wp2_with fail
      refine wp_region_still_tail 11 Tryz.mixed (by kernel_rfl) ?_
      simp only [List.take_succ_cons, List.take_zero, List.drop_succ_cons, List.drop_zero]
      repeat still_step
      refine wpStill_nil ?_
      go_wp2
      go_roundw
      case rel => exact ⟨i + 1, by omega, by go_num, Hset.out, Hoth.out, Hg2.out⟩
      case measure => simp [intOf]; omega
    · skip
      have hi8 : i = 8 := by omega
      have d8 : decide ((i : Int) < 8) = false := decide_eq_false (by omega)
      rw [hi8, addTo_end, ← St.cells_eq] at hH
      have HH := Lib.hid hH
      have Hg := Lib.hid hg
      clear hi8 hH hV hg
      go_wp2_with fail
      exact Hexit.out _ _ _ _ _ _ _ _ _ _ _ _ _ _ _ _ _ HH.out Hg.out

end Go.Proofs.YtinlciofhegciaaGreat

namespace Go.Proofs.YtinlciofhegciaaGreat
open Go.RowKit
set_option maxRecDepth 1000000 in
set_option maxHeartbeats 8000000 in
theorem blocks_loop (hb g cap : Nat) (p : List UInt8) (w3 : World) (Q : Exit → Act → World → Prop) (hgw : hb + 1 < g) (hgs : g < w3.heap.size) (hp64 : p.length % 64 = 0) (hple : p.length ≤ 1099511628000) (hbs : Bs w3 hb g iv p) (x0 x1 x2 x7 x8 x9 x10 x11 x12 x13 x14 x15 x16 x17 x18 x19 x20 x21 x22 x23 x24 x25 x26 x27 x28 x29 x30 x31 x32 x33 x34 x35 x36 x37 x38 x39 x40 x41 x42 x43 x44 x45 x46 x47 x48 x49 x50 x51 x52 x53 x54 x55 x56 x57 x58 x59 x60 x61 x62 x63 x64 x65 x66 x67 x68 x69 x70 x71 x72 x73 x74 x75 x76 x77 x78 x79 x80 x81 x82 x83 x84 x85 x86 x87 x88 x89 x90 x91 x92 x93 x94 x95 x96 x97 x98 x99 x100 x101 x102 x103 x104 x105 x106 x107 x108 x109 x110 x111 x112 x113 x114 x115 x116 x117 x118 x119 x120 x121 x122 x123 x124 x125 x126 x127 x128 x129 x130 x131 x132 x133 x134 x135 x136 x137 x138 x139 x140 x141 x142 x143 x144 x145 x146 x147 x148 x149 x150 x151 x152 x153 x154 x155 x156 x157 x158 x159 x160 x161 x162 x163 x164 x165 x166 x167 x168 x169 x170 x171 x172 x173 x174 x175 x176 x177 x178 x179 x180 x181 x182 x183 x184 x185 x186 x187 x188 x189 x190 x191 x192 x193 x194 x195 x196 x197 x198 x199 x200 x201 x202 x203 x204 x205 x206 x207 x208 x209 x210 x211 x212 x213 x214 x215 x216 x217 x218 x219 x220 x221 x222 x223 x224 x225 x226 x227 x228 x229 x230 x231 x232 x233 x234 x235 x236 x237 x238 x239 x240 x241 x242 x243 x244 x245 x246 x247 x248 x249 x250 x251 x252 x253 x254 x255 x256 x257 x258 x259 x260 x261 x262 x263 x264 x265 x266 x267 : Value)
    (hexit : ∀ (u6 u7 u8 u9 u10 u11 u12 u13 u14 u15 u16 u17 u18 u40 u41 u42 u43 u44 u45 u46 u47 u48 u49 u50 u51 u52 u53 u54 u55 u56 u57 u58 u59 u60 u61 u62 u63 u64 u65 u66 u67 u68 u69 u70 u71 u72 u73 u74 u75 u76 u77 u78 u79 u80 u81 u82 u83 u84 u85 u86 u87 u88 u89 u90 u91 u92 u93 u94 u95 u96 u97 u98 u99 u100 u101 u102 u103 u104 u105 u106 u107 u108 u109 u110 u111 u112 u113 u114 u115 u116 u117 u118 u119 u120 u121 u122 u123 u124 u125 u126 u127 u128 u129 u130 u131 u132 u133 u134 u135 u136 u137 u138 u139 u140 u141 u142 u143 u144 u145 u146 u147 u148 u149 u150 u151 u152 u153 u154 u155 u156 u157 u158 u159 u160 u161 u162 u163 u164 u165 u166 u167 u168 u169 u170 u171 u172 u173 u174 u175 u176 u177 u178 u179 u180 u181 u182 u183 u184 u185 u186 u187 u188 u189 u190 u191 u192 u193 u194 u195 u196 u197 u198 u199 u200 u201 u202 u203 u204 u205 u206 u207 u208 u209 u210 u211 u212 u213 u214 u215 u216 u217 u218 u219 u220 u221 u222 u223 u224 u225 u226 u227 u228 u229 u230 u231 u232 u233 u234 u235 u236 u237 u238 u239 u240 u241 u242 u243 u244 u245 u246 u247 u248 u249 u250 u251 u252 u253 u254 : Value) (w' : World), Bs w' hb g (runs comp (p.length / 64) p iv) p → w3.grownBy w' (some hb) → Q (.exit 2) ⟨List.toArray (x0 :: x1 :: x2 :: .slice (some ⟨hb, 0, none⟩) 8 8 :: .slice (some ⟨hb + 1, 0, none⟩) 64 64 :: .slice (some ⟨g, 0, none⟩) p.length cap :: u6 :: u7 :: u8 :: u9 :: u10 :: u11 :: u12 :: u13 :: u14 :: u15 :: u16 :: u17 :: u18 :: x19 :: x20 :: x21 :: x22 :: x23 :: x24 :: x25 :: x26 :: x27 :: x28 :: x29 :: x30 :: x31 :: x32 :: x33 :: x34 :: x35 :: x36 :: x37 :: x38 :: x39 :: u40 :: u41 :: u42 :: u43 :: u44 :: u45 :: u46 :: u47 :: u48 :: u49 :: u50 :: u51 :: u52 :: u53 :: u54 :: u55 :: u56 :: u57 :: u58 :: u59 :: u60 :: u61 :: u62 :: u63 :: u64 :: u65 :: u66 :: u67 :: u68 :: u69 :: u70 :: u71 :: u72 :: u73 :: u74 :: u75 :: u76 :: u77 :: u78 :: u79 :: u80 :: u81 :: u82 :: u83 :: u84 :: u85 :: u86 :: u87 :: u88 :: u89 :: u90 :: u91 :: u92 :: u93 :: u94 :: u95 :: u96 :: u97 :: u98 :: u99 :: u100 :: u101 :: u102 :: u103 :: u104 :: u105 :: u106 :: u107 :: u108 :: u109 :: u110 :: u111 :: u112 :: u113 :: u114 :: u115 :: u116 :: u117 :: u118 :: u119 :: u120 :: u121 :: u122 :: u123 :: u124 :: u125 :: u126 :: u127 :: u128 :: u129 :: u130 :: u131 :: u132 :: u133 :: u134 :: u135 :: u136 :: u137 :: u138 :: u139 :: u140 :: u141 :: u142 :: u143 :: u144 :: u145 :: u146 :: u147 :: u148 :: u149 :: u150 :: u151 :: u152 :: u153 :: u154 :: u155 :: u156 :: u157 :: u158 :: u159 :: u160 :: u161 :: u162 :: u163 :: u164 :: u165 :: u166 :: u167 :: u168 :: u169 :: u170 :: u171 :: u172 :: u173 :: u174 :: u175 :: u176 :: u177 :: u178 :: u179 :: u180 :: u181 :: u182 :: u183 :: u184 :: u185 :: u186 :: u187 :: u188 :: u189 :: u190 :: u191 :: u192 :: u193 :: u194 :: u195 :: u196 :: u197 :: u198 :: u199 :: u200 :: u201 :: u202 :: u203 :: u204 :: u205 :: u206 :: u207 :: u208 :: u209 :: u210 :: u211 :: u212 :: u213 :: u214 :: u215 :: u216 :: u217 :: u218 :: u219 :: u220 :: u221 :: u222 :: u223 :: u224 :: u225 :: u226 :: u227 :: u228 :: u229 :: u230 :: u231 :: u232 :: u233 :: u234 :: u235 :: u236 :: u237 :: u238 :: u239 :: u240 :: u241 :: u242 :: u243 :: u244 :: u245 :: u246 :: u247 :: u248 :: u249 :: u250 :: u251 :: u252 :: u253 :: u254 :: x255 :: x256 :: x257 :: x258 :: x259 :: x260 :: x261 :: x262 :: x263 :: x264 :: x265 :: x266 :: x267 :: []), []⟩ w') :
    (Code.loop refBlocks).wp Tryz.prog Q ⟨List.toArray (x0 :: x1 :: x2 :: .slice (some ⟨hb, 0, none⟩) 8 8 :: .slice (some ⟨hb + 1, 0, none⟩) 64 64 :: .slice (some ⟨g, 0, none⟩) p.length cap :: .int .i64 0 :: x7 :: x8 :: x9 :: x10 :: x11 :: x12 :: x13 :: x14 :: x15 :: x16 :: x17 :: x18 :: x19 :: x20 :: x21 :: x22 :: x23 :: x24 :: x25 :: x26 :: x27 :: x28 :: x29 :: x30 :: x31 :: x32 :: x33 :: x34 :: x35 :: x36 :: x37 :: x38 :: x39 :: x40 :: x41 :: x42 :: x43 :: x44 :: x45 :: x46 :: x47 :: x48 :: x49 :: x50 :: x51 :: x52 :: x53 :: x54 :: x55 :: x56 :: x57 :: x58 :: x59 :: x60 :: x61 :: x62 :: x63 :: x64 :: x65 :: x66 :: x67 :: x68 :: x69 :: x70 :: x71 :: x72 :: x73 :: x74 :: x75 :: x76 :: x77 :: x78 :: x79 :: x80 :: x81 :: x82 :: x83 :: x84 :: x85 :: x86 :: x87 :: x88 :: x89 :: x90 :: x91 :: x92 :: x93 :: x94 :: x95 :: x96 :: x97 :: x98 :: x99 :: x100 :: x101 :: x102 :: x103 :: x104 :: x105 :: x106 :: x107 :: x108 :: x109 :: x110 :: x111 :: x112 :: x113 :: x114 :: x115 :: x116 :: x117 :: x118 :: x119 :: x120 :: x121 :: x122 :: x123 :: x124 :: x125 :: x126 :: x127 :: x128 :: x129 :: x130 :: x131 :: x132 :: x133 :: x134 :: x135 :: x136 :: x137 :: x138 :: x139 :: x140 :: x141 :: x142 :: x143 :: x144 :: x145 :: x146 :: x147 :: x148 :: x149 :: x150 :: x151 :: x152 :: x153 :: x154 :: x155 :: x156 :: x157 :: x158 :: x159 :: x160 :: x161 :: x162 :: x163 :: x164 :: x165 :: x166 :: x167 :: x168 :: x169 :: x170 :: x171 :: x172 :: x173 :: x174 :: x175 :: x176 :: x177 :: x178 :: x179 :: x180 :: x181 :: x182 :: x183 :: x184 :: x185 :: x186 :: x187 :: x188 :: x189 :: x190 :: x191 :: x192 :: x193 :: x194 :: x195 :: x196 :: x197 :: x198 :: x199 :: x200 :: x201 :: x202 :: x203 :: x204 :: x205 :: x206 :: x207 :: x208 :: x209 :: x210 :: x211 :: x212 :: x213 :: x214 :: x215 :: x216 :: x217 :: x218 :: x219 :: x220 :: x221 :: x222 :: x223 :: x224 :: x225 :: x226 :: x227 :: x228 :: x229 :: x230 :: x231 :: x232 :: x233 :: x234 :: x235 :: x236 :: x237 :: x238 :: x239 :: x240 :: x241 :: x242 :: x243 :: x244 :: x245 :: x246 :: x247 :: x248 :: x249 :: x250 :: x251 :: x252 :: x253 :: x254 :: x255 :: x256 :: x257 :: x258 :: x259 :: x260 :: x261 :: x262 :: x263 :: x264 :: x265 :: x266 :: x267 :: []), []⟩ w3 := by
  have Hexit := Lib.hid hexit
  have Hbs := Lib.hid hbs
  clear hexit hbs
  conv => arg 2; arg 1; whnf
  go_loopw [6] (fun x wr => ∃ j : Nat, 64 * j ≤ p.length ∧ x = .int .i64 ((64 * j : Nat) : Int) ∧ Bs wr hb g (runs comp j p iv) p ∧ w3.grownBy wr (some hb)) (fun x _ => p.length - (intOf x).toNat)
  case atStart => exact ⟨0, by omega, rfl, Hbs.out, grown_refl _ _⟩
  case round =>
    obtain ⟨wo, rfl⟩ : ∃ wo : World, wo = wr := ⟨_, rfl⟩
    obtain ⟨j, hj, rfl, hb', hgr⟩ := hrel
    obtain ⟨R, hR⟩ : ∃ R, R = runs comp j p iv := ⟨_, rfl⟩
    rw [← hR] at hb'
    have HR := Lib.hid hR
    have Hb := Lib.hid hb'
    have Hgr := Lib.hid hgr
    have hgo : g < wo.heap.size := by have := hgr.size; omega
    have hbo : hb + 1 < wo.heap.size := hb'.k.lt
    clear hR hb' hgr Hbs
    by_cases hlt : 64 * j < p.length
    · skip
      have bj : decide (((64 * j : Nat) : Int) < (p.length : Int)) = true := decide_eq_true (by omega)
      have hmk : ∀ W : World, (Instr.makeSlice 131 (.int .i64 64) (.int .i64 64)).run Tryz.prog W = .ok (.slice (some ⟨W.heap.size, 0, none⟩) 64 64) (W.alloc (.cells (madeCells #[.int .u32 0] 64) 119)) :=
        fun W => run_make_row' 131 119 (.int .u32 0) 4 Tryz.underlying_u32s Tryz.info_u32 rfl .i64 .i64 64 (by omega) (by omega) W
      obtain ⟨q, hq⟩ : ∃ q, q = (p.drop (64 * j)).take 64 := ⟨_, rfl⟩
      have hql : q.length = 64 := by rw [hq, List.length_take, List.length_drop]; omega
      have hqget : ∀ i, i < 64 → q.getD i 0 = p.getD (64 * j + i) 0 := by
        intro i hi
        rw [hq]
        simp [List.getD_eq_getElem?_getD, hi]
      have Hq := Lib.hid hq
      have Hqget := Lib.hid hqget
      clear hq hqget
      go_wp2_with fail
      clear hmk
      refine sched_loop g cap j _ p q wo _ _ (by omega) hgo hple (by omega) Hb.out.p Hqget.out (Blk.of _ _ _ _ (by kernel_rfl)) ((Below.refl _ _).alloc (Nat.le_refl _) _) _ _ _ _ _ _ _ _ _ _ _ _ _ _ _ _ _ _ _ _ _ _ _ _ _ _ _ _ _ _ _ _ _ _ _ _ _ _ _ _ _ _ _ _ _ _ _ _ _ _ _ _ _ _ _ _ _ _ _ _ _ _ _ _ _ _ _ _ _ _ _ _ _ _ _ _ _ _ _ _ _ _ _ _ _ _ _ _ _ _ _ _ _ _ _ _ _ _ _ _ _ _ _ _ _ _ _ _ _ _ _ _ _ _ _ _ _ _ _ _ _ _ _ _ _ _ _ _ _ _ _ _ _ _ _ _ _ _ _ _ _ _ _ _ _ _ _ _ _ _ _ _ _ _ _ _ _ _ _ _ _ _ _ _ _ _ _ _ _ _ _ _ _ _ _ _ _ _ _ _ _ _ _ _ _ _ _ _ _ _ _ _ _ _ _ _ _ _ _ _ _ _ _ _ _ _ _ _ _ _ _ _ _ _ _ _ _ _ _ _ _ _ _ _ _ _ _ _ _ _ _ _ _ _ _ _ _ _ _ _ _ _ _ _ _ _ _ _ _ _ _ _ _ _ _ _ _ _ _ _ _ _ _ _ ?_
      intro v8 v9 v10 v11 v47 v48 v49 v50 v51 v52 v53 v54 v55 v56 v57 v58 v59 v60 v61 v62 v63 v64 v65 v66 v67 v68 v69 v70 v71 v72 v73 v74 v75 v76 v77 v78 v79 v80 v81 v82 v83 v84 v85 v86 v87 v88 v89 v90 v91 v92 v93 v94 v95 v96 v97 v98 v99 v100 v101 v102 v103 v104 v105 v106 v107 v108 v109 v110 v111 v112 v113 v114 v115 v116 v117 v118 v119 v120 v121 v122 v123 v124 v125 v126 v127 v128 v129 v130 wt hA hB
      have hbt := Hb.out.below hgo hB
      have c0 : wt.cell? ⟨hb, 0, none⟩ = some (v32 R.a) := hbt.h.cell 0
      have c1 : wt.cell? ⟨hb, 1, none⟩ = some (v32 R.b) := hbt.h.cell 1
      have c2 : wt.cell? ⟨hb, 2, none⟩ = some (v32 R.c) := hbt.h.cell 2
      have c3 : wt.cell? ⟨hb, 3, none⟩ = some (v32 R.d) := hbt.h.cell 3
      have c4 : wt.cell? ⟨hb, 4, none⟩ = some (v32 R.e) := hbt.h.cell 4
      have c5 : wt.cell? ⟨hb, 5, none⟩ = some (v32 R.f) := hbt.h.cell 5
      have c6 : wt.cell? ⟨hb, 6, none⟩ = some (v32 R.g) := hbt.h.cell 6
      have c7 : wt.cell? ⟨hb, 7, none⟩ = some (v32 R.h) := hbt.h.cell 7
      have Hbt := Lib.hid hbt
      have HA2 := Lib.hid hA
      have HB := Lib.hid hB
      have hgt : g < wt.heap.size := by have := hB.size; omega
      have hbo2 : hb + 1 < wt.heap.size := hbt.k.lt
      have hbo3 : hb < wt.heap.size := by omega
      clear hbt hA hB
      go_wp2_with fail
      go_region_held3 (fun w' => w'.cell? ⟨hb, 0, none⟩ = some (v32 R.a) ∧ w'.cell? ⟨hb, 1, none⟩ = some (v32 R.b) ∧ w'.cell? ⟨hb, 2, none⟩ = some (v32 R.c) ∧ w'.cell? ⟨hb, 3, none⟩ = some (v32 R.d) ∧ w'.cell? ⟨hb, 4, none⟩ = some (v32 R.e) ∧ w'.cell? ⟨hb, 5, none⟩ = some (v32 R.f) ∧ w'.cell? ⟨hb, 6, none⟩ = some (v32 R.g) ∧ w'.cell? ⟨hb, 7, none⟩ = some (v32 R.h)) (go_keep) (fail)
      clear c0 c1 c2 c3 c4 c5 c6 c7
      go_wp2_with fail
      refine rounds_loop wt.heap.size wo.heap.size (hb + 1) wt _ R q _ (by have := HA2.out.lt; omega) (by omega) ⟨(Blk.of _ _ _ _ rfl).drew, (HA2.out.alloc _).drew, (Hbt.out.k.alloc _).drew, ((Below.refl _ _).alloc (Nat.le_refl _) _).drew⟩ _ _ _ _ _ _ _ _ _ _ _ _ _ _ _ _ _ _ _ _ _ _ _ _ _ _ _ _ _ _ _ _ _ _ _ _ _ _ _ _ _ _ _ _ _ _ _ _ _ _ _ _ _ _ _ _ _ _ _ _ _ _ _ _ _ _ _ _ _ _ _ _ _ _ _ _ _ _ _ _ _ _ _ _ _ _ _ _ _ _ _ _ _ _ _ _ _ _ _ _ _ _ _ _ _ _ _ _ _ _ _ _ _ _ _ _ _ _ _ _ _ _ _ _ _ _ _ _ _ _ _ _ _ _ _ _ _ _ _ _ _ _ _ _ _ _ _ _ _ _ _ _ _ _ _ _ _ _ _ _ _ _ _ _ _ _ _ _ _ _ _ _ _ _ _ _ _ _ _ _ _ _ _ _ _ _ _ _ _ _ _ _ _ _ _ _ _ _ _ _ _ _ _ _ _ _ _ _ _ _ _ _ _ _ _ _ _ _ _ _ _ _ _ _ _ _ _ _ _ _ _ _ _ _ _ _ _ _ _ _ _ _ _ _ _ _ _ _ _ _ _ _ _ _ _ _ _ _ _ _ _ _ _ _ ?_
      intro y13 y14 y15 y16 y17 y156 y157 y158 y159 y160 y161 y162 y163 y164 y165 y166 y167 y168 y169 y170 y171 y172 y173 y174 y175 y176 y177 y178 y179 y180 y181 y182 y183 y184 y185 y186 y187 y188 y189 y190 y191 y192 y193 y194 y195 y196 y197 y198 y199 y200 y201 y202 y203 y204 y205 y206 y207 y208 y209 y210 y211 y212 y213 y214 y215 y216 y217 y218 y219 y220 y221 y222 y223 y224 y225 y226 y227 y228 y229 y230 y231 y232 y233 y234 y235 y236 y237 y238 y239 x hRr
      obtain ⟨v, hv⟩ : ∃ v, v = rnds (sch q 64) R 64 := ⟨_, rfl⟩
      have hcomp : comp R q = R.add v := by rw [hv]; rfl
      rw [← hv] at hRr
      have hHx := Hbt.out.h.below hRr.below (by omega)
      have hpx : ∀ i, i < p.length → x.cell? ⟨g, i, none⟩ = some (.int .u8 ((p.getD i 0).toNat : Int)) := fun i hi => (hRr.below.cell (p := ⟨g, i, none⟩) hgt).trans (Hbt.out.p i hi)
      have hgx : w3.grownBy x (some hb) := grown_trans Hgr.out (grown_trans (grownBy_of_below HB.out _) (grownBy_of_below hRr.below _))
      have hnext : runs comp (j + 1) p iv = comp R q := by rw [runs_succ, ← HR.out, ← Hq.out]
      have HRx := Lib.hid hRr
      have HHx := Lib.hid hHx
      have Hpx := Lib.hid hpx
      have Hgx := Lib.hid hgx
      have Hnext := Lib.hid (hnext.trans hcomp)
      have hvx : wt.heap.size < x.heap.size := hRr.st.lt
      clear hHx hpx hgx hnext hcomp hv hRr Hbt HA2
      go_wp2_with fail
      refine add_loop hb wt.heap.size x R v _ (by omega) HHx.out HRx.out.st _ _ _ _ _ _ _ _ _ _ _ _ _ _ _ _ _ _ _ _ _ _ _ _ _ _ _ _ _ _ _ _ _ _ _ _ _ _ _ _ _ _ _ _ _ _ _ _ _ _ _ _ _ _ _ _ _ _ _ _ _ _ _ _ _ _ _ _ _ _ _ _ _ _ _ _ _ _ _ _ _ _ _ _ _ _ _ _ _ _ _ _ _ _ _ _ _ _ _ _ _ _ _ _ _ _ _ _ _ _ _ _ _ _ _ _ _ _ _ _ _ _ _ _ _ _ _ _ _ _ _ _ _ _ _ _ _ _ _ _ _ _ _ _ _ _ _ _ _ _ _ _ _ _ _ _ _ _ _ _ _ _ _ _ _ _ _ _ _ _ _ _ _ _ _ _ _ _ _ _ _ _ _ _ _ _ _ _ _ _ _ _ _ _ _ _ _ _ _ _ _ _ _ _ _ _ _ _ _ _ _ _ _ _ _ _ _ _ _ _ _ _ _ _ _ _ _ _ _ _ _ _ _ _ _ _ _ _ _ _ _ _ _ _ _ _ _ _ _ _ _ _ _ _ _ _ _ _ _ _ _ _ _ _ _ ?_
      intro z18 z240 z241 z242 z243 z244 z245 z246 z247 z248 z249 z250 z251 z252 z253 z254 y hH hg
      have hbs : Bs y hb g (runs comp (j + 1) p iv) p :=
        ⟨by rw [Hnext.out]; exact hH, HRx.out.ks.grown hg (by simp), fun i hi => hg.cell (Hpx.out i hi) (by simp; omega)⟩
      have hgy := grown_trans Hgx.out hg
      have Hbs := Lib.hid hbs
      have Hgy := Lib.hid hgy
      clear hH hg HRx HHx Hpx Hgx Hnext hbs hgy
      go_wp2
      go_roundw
      case rel => exact ⟨j + 1, by omega, by go_num, Hbs.out, Hgy.out⟩
      case measure => simp [intOf]; omega
    · skip
      have hjn : j = p.length / 64 := by omega
      have bj : decide (((64 * j : Nat) : Int) < (p.length : Int)) = false := decide_eq_false (by omega)
      have hB := Hb.out
      rw [HR.out, hjn] at hB
      have HB := Lib.hid hB
      clear hjn hB Hb HR
      go_wp2_with fail
      exact Hexit.out _ _ _ _ _ _ _ _ _ _ _ _ _ _ _ _ _ _ _ _ _ _ _ _ _ _ _ _ _ _ _ _ _ _ _ _ _ _ _ _ _ _ _ _ _ _ _ _ _ _ _ _ _ _ _ _ _ _ _ _ _ _ _ _ _ _ _ _ _ _ _ _ _ _ _ _ _ _ _ _ _ _ _ _ _ _ _ _ _ _ _ _ _ _ _ _ _ _ _ _ _ _ _ _ _ _ _ _ _ _ _ _ _ _ _ _ _ _ _ _ _ _ _ _ _ _ _ _ _ _ _ _ _ _ _ _ _ _ _ _ _ _ _ _ _ _ _ _ _ _ _ _ _ _ _ _ _ _ _ _ _ _ _ _ _ _ _ _ _ _ _ _ _ _ _ _ _ _ _ _ _ _ _ _ _ _ _ _ _ _ _ _ _ _ _ _ _ _ _ _ _ _ _ _ _ _ _ _ _ _ _ _ _ _ _ _ _ _ _ _ _ _ _ _ _ _ _ _ _ HB.out Hgr.out

end Go.Proofs.YtinlciofhegciaaGreat

namespace Go.Proofs.YtinlciofhegciaaGreat
open Go.RowKit
set_option maxRecDepth 1000000 in
set_option maxHeartbeats 4000000 in
theorem out_loop (hb : Nat) (R : St) (wo : World) (Q : Exit → Act → World → Prop) (hh : ∀ n, n < 8 → wo.cell? ⟨hb, n, none⟩ = some (v32 (R.list.getD n 0))) (hlt0 : hb < wo.heap.size) (x0 x1 x2 x4 x5 x6 x7 x8 x9 x10 x11 x12 x13 x14 x15 x16 x17 x18 x21 x22 x23 x24 x25 x26 x27 x28 x29 x30 x31 x32 x33 x34 x35 x36 x37 x38 x39 x40 x41 x42 x43 x44 x45 x46 x47 x48 x49 x50 x51 x52 x53 x54 x55 x56 x57 x58 x59 x60 x61 x62 x63 x64 x65 x66 x67 x68 x69 x70 x71 x72 x73 x74 x75 x76 x77 x78 x79 x80 x81 x82 x83 x84 x85 x86 x87 x88 x89 x90 x91 x92 x93 x94 x95 x96 x97 x98 x99 x100 x101 x102 x103 x104 x105 x106 x107 x108 x109 x110 x111 x112 x113 x114 x115 x116 x117 x118 x119 x120 x121 x122 x123 x124 x125 x126 x127 x128 x129 x130 x131 x132 x133 x134 x135 x136 x137 x138 x139 x140 x141 x142 x143 x144 x145 x146 x147 x148 x149 x150 x151 x152 x153 x154 x155 x156 x157 x158 x159 x160 x161 x162 x163 x164 x165 x166 x167 x168 x169 x170 x171 x172 x173 x174 x175 x176 x177 x178 x179 x180 x181 x182 x183 x184 x185 x186 x187 x188 x189 x190 x191 x192 x193 x194 x195 x196 x197 x198 x199 x200 x201 x202 x203 x204 x205 x206 x207 x208 x209 x210 x211 x212 x213 x214 x215 x216 x217 x218 x219 x220 x221 x222 x223 x224 x225 x226 x227 x228 x229 x230 x231 x232 x233 x234 x235 x236 x237 x238 x239 x240 x241 x242 x243 x244 x245 x246 x247 x248 x249 x250 x251 x252 x253 x254 x255 x256 x257 x258 x259 x260 x261 x262 x263 x264 x265 x266 x267 : Value)
    (hexit : ∀ (u20 u255 u256 u257 u258 u259 u260 u261 u262 u263 u264 u265 u266 : Value) (w' : World), Below wo.heap.size wo w' → Q (.exit 10) ⟨List.toArray (x0 :: x1 :: x2 :: .slice (some ⟨hb, 0, none⟩) 8 8 :: x4 :: x5 :: x6 :: x7 :: x8 :: x9 :: x10 :: x11 :: x12 :: x13 :: x14 :: x15 :: x16 :: x17 :: x18 :: .string (str (outOf R)) :: u20 :: x21 :: x22 :: x23 :: x24 :: x25 :: x26 :: x27 :: x28 :: x29 :: x30 :: x31 :: x32 :: x33 :: x34 :: x35 :: x36 :: x37 :: x38 :: x39 :: x40 :: x41 :: x42 :: x43 :: x44 :: x45 :: x46 :: x47 :: x48 :: x49 :: x50 :: x51 :: x52 :: x53 :: x54 :: x55 :: x56 :: x57 :: x58 :: x59 :: x60 :: x61 :: x62 :: x63 :: x64 :: x65 :: x66 :: x67 :: x68 :: x69 :: x70 :: x71 :: x72 :: x73 :: x74 :: x75 :: x76 :: x77 :: x78 :: x79 :: x80 :: x81 :: x82 :: x83 :: x84 :: x85 :: x86 :: x87 :: x88 :: x89 :: x90 :: x91 :: x92 :: x93 :: x94 :: x95 :: x96 :: x97 :: x98 :: x99 :: x100 :: x101 :: x102 :: x103 :: x104 :: x105 :: x106 :: x107 :: x108 :: x109 :: x110 :: x111 :: x112 :: x113 :: x114 :: x115 :: x116 :: x117 :: x118 :: x119 :: x120 :: x121 :: x122 :: x123 :: x124 :: x125 :: x126 :: x127 :: x128 :: x129 :: x130 :: x131 :: x132 :: x133 :: x134 :: x135 :: x136 :: x137 :: x138 :: x139 :: x140 :: x141 :: x142 :: x143 :: x144 :: x145 :: x146 :: x147 :: x148 :: x149 :: x150 :: x151 :: x152 :: x153 :: x154 :: x155 :: x156 :: x157 :: x158 :: x159 :: x160 :: x161 :: x162 :: x163 :: x164 :: x165 :: x166 :: x167 :: x168 :: x169 :: x170 :: x171 :: x172 :: x173 :: x174 :: x175 :: x176 :: x177 :: x178 :: x179 :: x180 :: x181 :: x182 :: x183 :: x184 :: x185 :: x186 :: x187 :: x188 :: x189 :: x190 :: x191 :: x192 :: x193 :: x194 :: x195 :: x196 :: x197 :: x198 :: x199 :: x200 :: x201 :: x202 :: x203 :: x204 :: x205 :: x206 :: x207 :: x208 :: x209 :: x210 :: x211 :: x212 :: x213 :: x214 :: x215 :: x216 :: x217 :: x218 :: x219 :: x220 :: x221 :: x222 :: x223 :: x224 :: x225 :: x226 :: x227 :: x228 :: x229 :: x230 :: x231 :: x232 :: x233 :: x234 :: x235 :: x236 :: x237 :: x238 :: x239 :: x240 :: x241 :: x242 :: x243 :: x244 :: x245 :: x246 :: x247 :: x248 :: x249 :: x250 :: x251 :: x252 :: x253 :: x254 :: u255 :: u256 :: u257 :: u258 :: u259 :: u260 :: u261 :: u262 :: u263 :: u264 :: u265 :: u266 :: x267 :: []), []⟩ w') :
    (Code.loop refOut).wp Tryz.prog Q ⟨List.toArray (x0 :: x1 :: x2 :: .slice (some ⟨hb, 0, none⟩) 8 8 :: x4 :: x5 :: x6 :: x7 :: x8 :: x9 :: x10 :: x11 :: x12 :: x13 :: x14 :: x15 :: x16 :: x17 :: x18 :: .string { data := #[] } :: .int .i64 0 :: x21 :: x22 :: x23 :: x24 :: x25 :: x26 :: x27 :: x28 :: x29 :: x30 :: x31 :: x32 :: x33 :: x34 :: x35 :: x36 :: x37 :: x38 :: x39 :: x40 :: x41 :: x42 :: x43 :: x44 :: x45 :: x46 :: x47 :: x48 :: x49 :: x50 :: x51 :: x52 :: x53 :: x54 :: x55 :: x56 :: x57 :: x58 :: x59 :: x60 :: x61 :: x62 :: x63 :: x64 :: x65 :: x66 :: x67 :: x68 :: x69 :: x70 :: x71 :: x72 :: x73 :: x74 :: x75 :: x76 :: x77 :: x78 :: x79 :: x80 :: x81 :: x82 :: x83 :: x84 :: x85 :: x86 :: x87 :: x88 :: x89 :: x90 :: x91 :: x92 :: x93 :: x94 :: x95 :: x96 :: x97 :: x98 :: x99 :: x100 :: x101 :: x102 :: x103 :: x104 :: x105 :: x106 :: x107 :: x108 :: x109 :: x110 :: x111 :: x112 :: x113 :: x114 :: x115 :: x116 :: x117 :: x118 :: x119 :: x120 :: x121 :: x122 :: x123 :: x124 :: x125 :: x126 :: x127 :: x128 :: x129 :: x130 :: x131 :: x132 :: x133 :: x134 :: x135 :: x136 :: x137 :: x138 :: x139 :: x140 :: x141 :: x142 :: x143 :: x144 :: x145 :: x146 :: x147 :: x148 :: x149 :: x150 :: x151 :: x152 :: x153 :: x154 :: x155 :: x156 :: x157 :: x158 :: x159 :: x160 :: x161 :: x162 :: x163 :: x164 :: x165 :: x166 :: x167 :: x168 :: x169 :: x170 :: x171 :: x172 :: x173 :: x174 :: x175 :: x176 :: x177 :: x178 :: x179 :: x180 :: x181 :: x182 :: x183 :: x184 :: x185 :: x186 :: x187 :: x188 :: x189 :: x190 :: x191 :: x192 :: x193 :: x194 :: x195 :: x196 :: x197 :: x198 :: x199 :: x200 :: x201 :: x202 :: x203 :: x204 :: x205 :: x206 :: x207 :: x208 :: x209 :: x210 :: x211 :: x212 :: x213 :: x214 :: x215 :: x216 :: x217 :: x218 :: x219 :: x220 :: x221 :: x222 :: x223 :: x224 :: x225 :: x226 :: x227 :: x228 :: x229 :: x230 :: x231 :: x232 :: x233 :: x234 :: x235 :: x236 :: x237 :: x238 :: x239 :: x240 :: x241 :: x242 :: x243 :: x244 :: x245 :: x246 :: x247 :: x248 :: x249 :: x250 :: x251 :: x252 :: x253 :: x254 :: x255 :: x256 :: x257 :: x258 :: x259 :: x260 :: x261 :: x262 :: x263 :: x264 :: x265 :: x266 :: x267 :: []), []⟩ wo := by
  have Hexit := Lib.hid hexit
  have Hh := Lib.hid hh
  clear hexit hh
  conv => arg 2; arg 1; whnf
  go_loopw [19, 20] (fun s y wr => ∃ n : Nat, n ≤ 8 ∧ y = .int .i64 (n : Int) ∧ s = .string (str ((R.list.take n).flatMap fun x => be 4 x.toNat)) ∧ Below wo.heap.size wo wr) (fun _ y _ => (8 - intOf y).toNat)
  case atStart => exact ⟨0, by omega, rfl, rfl, Below.refl _ _⟩
  case round =>
    obtain ⟨n, hn, rfl, rfl, hbe⟩ := hrel
    by_cases n8 : n < 8
    · skip
      have b8 : decide ((n : Int) < 8) = true := decide_eq_true (by omega)
      have c8 : (n : Int) < 8 := by omega
      have hcell : wr.cell? ⟨hb, n, none⟩ = some (v32 (R.list.getD n 0)) := (hbe.cell (p := ⟨hb, n, none⟩) hlt0).trans (Hh.out n n8)
      have hnx : (R.list.take (n + 1)).flatMap (fun x => be 4 x.toNat) = (R.list.take n).flatMap (fun x => be 4 x.toNat) ++ be 4 (R.list.getD n 0).toNat := by
        have : n = 0 ∨ n = 1 ∨ n = 2 ∨ n = 3 ∨ n = 4 ∨ n = 5 ∨ n = 6 ∨ n = 7 := by omega
        rcases this with rfl | rfl | rfl | rfl | rfl | rfl | rfl | rfl <;> simp [St.list]
      obtain ⟨acc, hacc⟩ : ∃ a, a = (R.list.take n).flatMap fun x => be 4 x.toNat := ⟨_, rfl⟩
      have hal : acc.length ≤ 32 := by rw [hacc]; exact flat_le R n
      rw [← hacc] at hnx ⊢
      generalize R.list.getD n 0 = q at *
      have hw : IntKind.u64.wrap (iw q) = iw q := by have := iw_bound q; rw [IntKind.wrap_u64]; omega
      have hadd := str_add Tryz.prog acc (be 4 q.toNat) (by rw [be_length]; omega)
      rw [← hnx] at hadd
      obtain ⟨acc2, hacc2⟩ : ∃ a, a = (R.list.take (n + 1)).flatMap fun x => be 4 x.toNat := ⟨_, rfl⟩
      rw [← hacc2] at hadd
      have Hadd := Lib.hid hadd
      have Hacc2 := Lib.hid hacc2
      have Hbe := Lib.hid hbe
      clear hbe hnx hacc hadd hacc2
      go_wp2_with fail
      refine (bytes_any q.toNat 4 _ (by omega) (by omega)).mono ?_
      rintro e w4 ⟨rfl, hb4⟩
      have Hbe4 := Lib.hid (Hbe.out.trans (hb4.mono Hbe.out.size))
      have ha := Hadd.out
      clear hb4 Hbe
      go_wp2_with fail
      go_roundw
      case rel => exact ⟨n + 1, by omega, by go_num, by rw [Hacc2.out], Hbe4.out⟩
      case measure => simp [intOf]; omega
    · skip
      have b8 : decide ((n : Int) < 8) = false := decide_eq_false (by omega)
      have hn8 : n = 8 := by omega
      have hres : (R.list.take n).flatMap (fun x => be 4 x.toNat) = outOf R := by rw [hn8]; rfl
      rw [hres]
      have Hbe := Lib.hid hbe
      clear hn8 hres hbe
      go_wp2_with fail
      exact Hexit.out _ _ _ _ _ _ _ _ _ _ _ _ _ _ Hbe.out

end Go.Proofs.YtinlciofhegciaaGreat

namespace Go.Proofs.YtinlciofhegciaaGreat
open Go.RowKit
set_option maxRecDepth 1000000 in
set_option maxHeartbeats 8000000 in
theorem refSum_any (l : List UInt8) (w : World) (hl : l.length ≤ 1099511627776) :
    Calls Tryz.prog 80 #[.string (str l)] w fun e w' => e = .returned (.string (str (sha l))) ∧ Below w.heap.size w w' := by
  have hsz := str_size l
  have hc1 : ({ data := #[128] } : ByteArray) = str [128] := rfl
  obtain ⟨x1, hx1⟩ : ∃ x, x = l ++ [(128 : UInt8)] := ⟨_, rfl⟩
  have h1l : x1.length = l.length + 1 := by rw [hx1]; simp
  have a1 := str_add Tryz.prog l [128] (by simp; omega)
  rw [← hx1] at a1
  have a2 := run_bytes_of Tryz.underlying_str Tryz.underlying_bytes Tryz.underlying_u8 x1
  have Hx1 := Lib.hid hx1
  clear hx1
  go_enter Tryz.func80, Tryz.ntmps80
  go_wp2_with (go_at_call 89; refine (ks_any _).mono ?_; rintro e w1 ⟨rfl, hk1, hb1⟩; have Hk1 := Lib.hid hk1; have Hb1 := Lib.hid hb1; clear hk1 hb1)
  have hH1 : Blk w1 w.heap.size 119 iv.cells := (Blk.of w _ _ iv.cells rfl).below Hb1.out (by simp)
  have hB1 : Below w.heap.size w w1 := ((Below.refl _ _).alloc (Nat.le_refl _) _).trans (Hb1.out.mono (by simp))
  have hK1 : Blk w1 (w.heap.size + 1) 119 (kList.map v32) := by have := Hk1.out; simpa using this
  have hR := row_bytes w1 5 x1 (by simp only [maxLen]; omega)
  rw [h1l] at hR
  have HH1 := Lib.hid hH1
  have HB1 := Lib.hid hB1
  have HK1 := Lib.hid hK1
  have HR := Lib.hid hR
  have hw1s : w.heap.size + 1 < w1.heap.size := hK1.lt
  clear hH1 hB1 hK1 hR Hk1 Hb1 a1 a2 hc1
  obtain ⟨zm, hzm⟩ : ∃ z, z = (119 - l.length % 64) % 64 := ⟨_, rfl⟩
  have Hzm := Lib.hid hzm
  clear hzm
  go_loopw [5] (fun v wr => ∃ z : Nat, z ≤ zm ∧ Row wr w1.heap.size 5 1 v (l.length + 1 + z) (vbytes (x1 ++ List.replicate z 0)) ∧ Below w1.heap.size w1 wr) (fun v _ => match v with | .slice _ n _ => (l.length + 100) - n | _ => 0)
  case atStart => exact ⟨0, by omega, by simpa using HR.out.1, HR.out.2⟩
  case round =>
    obtain ⟨wo, rfl⟩ : ∃ wo : World, wo = wr := ⟨_, rfl⟩
    obtain ⟨z, hz, hrow, hb⟩ := hrel
    obtain ⟨A, c, rfl⟩ := hrow.slice
    have Hrow := Lib.hid hrow
    have Hb := Lib.hid hb
    clear hrow hb HR
    have hzl : z ≤ 63 := by have := Hzm.out; omega
    obtain ⟨L, hL⟩ : ∃ L, L = x1 ++ List.replicate z (0 : UInt8) := ⟨_, rfl⟩
    have hLl : L.length = l.length + 1 + z := by rw [hL, List.length_append, h1l, List.length_replicate]
    have hL1 : x1 ++ List.replicate (z + 1) (0 : UInt8) = L ++ [0] := by rw [hL, List.replicate_succ', List.append_assoc]
    have hrow2 : Row wo w1.heap.size 5 1 (.slice A (l.length + 1 + z) c) (vbytes L).length (vbytes L) := by rw [vbytes_length, hLl, hL]; exact Hrow.out
    have Hrow2 := Lib.hid hrow2
    have HL := Lib.hid hL
    have HLl := Lib.hid hLl
    have HL1 := Lib.hid hL1
    clear hrow2 hL hLl hL1 Hrow
    by_cases hlt : z < zm
    · have hne : ((((l.length : Int) + 1 + (z : Int)) % 64) != 56) = true := by rw [bne_iff_ne]; have := Hzm.out; omega
      go_wp2_with (at_builtin; go_must (refine ap_one Tryz.underlying_bytes Tryz.info_u8 rfl Hrow2.out rfl (by omega) (by rw [vbytes_length, HLl.out]; omega) (Hb.out.size) rfl _ _ rfl rfl rfl ?_; intro v1 w2 hr1 hg1; rw [show (vbytes L ++ [Value.int .u8 0]).length = l.length + 1 + (z + 1) from by rw [List.length_append, vbytes_length, HLl.out]; rfl, show vbytes L ++ [Value.int .u8 0] = vbytes (x1 ++ List.replicate (z + 1) 0) from by rw [HL1.out, vbytes_append]; rfl] at hr1; obtain ⟨A1, c1, rfl⟩ := hr1.slice; have Hr1 := Lib.hid hr1; have Hb2 := Lib.hid (Hb.out.grown hg1 Hb.out.size (fun k hk => (Hrow2.out.block k hk).1)); clear hr1 hg1))
      go_roundw
      case rel => exact ⟨z + 1, by omega, Hr1.out, Hb2.out⟩
      case measure => simp; omega
    · obtain rfl : z = zm := by omega
      have hne : ((((l.length : Int) + 1 + (z : Int)) % 64) != 56) = false := by rw [bne_eq_false_iff_eq]; have := Hzm.out; omega
      have hmul : IntKind.u64.wrap ((l.length : Int) * 8) = ((8 * l.length : Nat) : Int) := by
        rw [IntKind.wrap_u64]; push_cast; omega
      have hlw : IntKind.u64.wrap (l.length : Int) = (l.length : Int) := by rw [IntKind.wrap_u64]; omega
      have hpl : L ++ be 8 (8 * l.length) = padOf l := by rw [HL.out, Hx1.out, Hzm.out, padOf]
      have Hpl := Lib.hid hpl
      clear hpl
      go_wp2_with (first | (go_at_call 79; refine (bytes_any (8 * l.length) 8 _ (by omega) (by omega)).mono ?_; rintro e w2 ⟨rfl, hb2⟩; have Hb2 := Lib.hid (Hb.out.trans (hb2.mono Hb.out.size)); have Hr2 := Lib.hid (Hrow2.out.below hb2); rw [vbytes_length] at Hr2; clear hb2) | (at_builtin; go_must (refine ap_str (l := L) (m := be 8 (8 * l.length)) Tryz.underlying_bytes Tryz.underlying_str Tryz.info_u8 Hr2.out (by rw [be_length, HLl.out]; omega) Hb2.out.size rfl _ _ rfl rfl rfl ?_; intro v1 w3 hr1 hg1; rw [Hpl.out] at hr1; obtain ⟨A1, c1, rfl⟩ := hr1.slice; have Hr3 := Lib.hid hr1; have Hb3 := Lib.hid (Hb2.out.grown hg1 Hb2.out.size (fun k hk => (Hr2.out.block k hk).1)); clear hr1 hg1)))
      have hpn : (padOf l).length = 64 * (l.length / 64) + (tailOf l).length := padOf_length l
      have htl : (tailOf l).length = l.length % 64 + 1 + (119 - l.length % 64) % 64 + 8 := tailOf_length l
      have hsha := sha_pad l
      obtain ⟨p, hp⟩ : ∃ p, p = padOf l := ⟨_, rfl⟩
      rw [← hp] at Hr3 hpn hsha ⊢
      have hp64 : p.length % 64 = 0 := by omega
      have hpos : 0 < p.length := by omega
      have hple : p.length ≤ 1099511628000 := by omega
      obtain ⟨g, cap, hv, hg1, hg2, hcap, hcells⟩ := Hr3.out.form hpos
      injection hv with hv1 _ hv2
      subst hv1 hv2
      have hbs : Bs w3 w.heap.size g iv p := by
        refine ⟨HH1.out.below Hb3.out (by omega), HK1.out.below Hb3.out (by omega), fun j hj => (hcells j _ ?_).1⟩
        simp [vbytes, List.getD_eq_getElem?_getD, hj]
      have hB3 : Below w.heap.size w w3 := HB1.out.trans (Hb3.out.mono HB1.out.size)
      have Hbs := Lib.hid hbs
      have HB3 := Lib.hid hB3
      have Hsha := Lib.hid hsha
      clear hcells hbs hB3 hsha Hr3 Hb3 HH1 HB1 HK1 HL HLl HL1 Hrow2 Hb Hzm Hpl hp hpn htl hne hmul hlw Hr2 Hb2 hsz Hx1
      have hgw : w.heap.size + 1 < g := by omega
      clear hw1s
      have hgs : g < w3.heap.size := by omega
      refine blocks_loop w.heap.size g _ p w3 _ hgw hgs hp64 hple Hbs.out _ _ _ _ _ _ _ _ _ _ _ _ _ _ _ _ _ _ _ _ _ _ _ _ _ _ _ _ _ _ _ _ _ _ _ _ _ _ _ _ _ _ _ _ _ _ _ _ _ _ _ _ _ _ _ _ _ _ _ _ _ _ _ _ _ _ _ _ _ _ _ _ _ _ _ _ _ _ _ _ _ _ _ _ _ _ _ _ _ _ _ _ _ _ _ _ _ _ _ _ _ _ _ _ _ _ _ _ _ _ _ _ _ _ _ _ _ _ _ _ _ _ _ _ _ _ _ _ _ _ _ _ _ _ _ _ _ _ _ _ _ _ _ _ _ _ _ _ _ _ _ _ _ _ _ _ _ _ _ _ _ _ _ _ _ _ _ _ _ _ _ _ _ _ _ _ _ _ _ _ _ _ _ _ _ _ _ _ _ _ _ _ _ _ _ _ _ _ _ _ _ _ _ _ _ _ _ _ _ _ _ _ _ _ _ _ _ _ _ _ _ _ _ _ _ _ _ _ _ _ _ _ _ _ _ _ _ _ _ _ _ _ _ _ _ _ _ _ _ _ _ _ _ _ _ _ _ _ _ _ _ _ _ _ ?_
      intro v6 v7 v8 v9 v10 v11 v12 v13 v14 v15 v16 v17 v18 v40 v41 v42 v43 v44 v45 v46 v47 v48 v49 v50 v51 v52 v53 v54 v55 v56 v57 v58 v59 v60 v61 v62 v63 v64 v65 v66 v67 v68 v69 v70 v71 v72 v73 v74 v75 v76 v77 v78 v79 v80 v81 v82 v83 v84 v85 v86 v87 v88 v89 v90 v91 v92 v93 v94 v95 v96 v97 v98 v99 v100 v101 v102 v103 v104 v105 v106 v107 v108 v109 v110 v111 v112 v113 v114 v115 v116 v117 v118 v119 v120 v121 v122 v123 v124 v125 v126 v127 v128 v129 v130 v131 v132 v133 v134 v135 v136 v137 v138 v139 v140 v141 v142 v143 v144 v145 v146 v147 v148 v149 v150 v151 v152 v153 v154 v155 v156 v157 v158 v159 v160 v161 v162 v163 v164 v165 v166 v167 v168 v169 v170 v171 v172 v173 v174 v175 v176 v177 v178 v179 v180 v181 v182 v183 v184 v185 v186 v187 v188 v189 v190 v191 v192 v193 v194 v195 v196 v197 v198 v199 v200 v201 v202 v203 v204 v205 v206 v207 v208 v209 v210 v211 v212 v213 v214 v215 v216 v217 v218 v219 v220 v221 v222 v223 v224 v225 v226 v227 v228 v229 v230 v231 v232 v233 v234 v235 v236 v237 v238 v239 v240 v241 v242 v243 v244 v245 v246 v247 v248 v249 v250 v251 v252 v253 v254 wo hbo hgr
      have hsha2 : sha l = outOf (runs comp (p.length / 64) p iv) := Hsha.out
      obtain ⟨R, hR⟩ : ∃ R, R = runs comp (p.length / 64) p iv := ⟨_, rfl⟩
      rw [← hR] at hsha2 hbo
      have hh : ∀ n, n < 8 → wo.cell? ⟨w.heap.size, n, none⟩ = some (v32 (R.list.getD n 0)) := fun n hn => by rw [hbo.h.cell, St.get R n hn]
      have hB : Below w.heap.size w wo := HB3.out.grown hgr HB3.out.size (fun k hk => by cases hk; exact Nat.le_refl _)
      have hlt0 : w.heap.size < wo.heap.size := hbo.h.lt
      have Hh := Lib.hid hh
      have HBo := Lib.hid hB
      have Hsha2 := Lib.hid hsha2
      clear hR hsha2 hh hB hbo hgr HB3 Hsha Hbs
      go_wp2_with fail
      refine out_loop w.heap.size R wo _ Hh.out hlt0 _ _ _ _ _ _ _ _ _ _ _ _ _ _ _ _ _ _ _ _ _ _ _ _ _ _ _ _ _ _ _ _ _ _ _ _ _ _ _ _ _ _ _ _ _ _ _ _ _ _ _ _ _ _ _ _ _ _ _ _ _ _ _ _ _ _ _ _ _ _ _ _ _ _ _ _ _ _ _ _ _ _ _ _ _ _ _ _ _ _ _ _ _ _ _ _ _ _ _ _ _ _ _ _ _ _ _ _ _ _ _ _ _ _ _ _ _ _ _ _ _ _ _ _ _ _ _ _ _ _ _ _ _ _ _ _ _ _ _ _ _ _ _ _ _ _ _ _ _ _ _ _ _ _ _ _ _ _ _ _ _ _ _ _ _ _ _ _ _ _ _ _ _ _ _ _ _ _ _ _ _ _ _ _ _ _ _ _ _ _ _ _ _ _ _ _ _ _ _ _ _ _ _ _ _ _ _ _ _ _ _ _ _ _ _ _ _ _ _ _ _ _ _ _ _ _ _ _ _ _ _ _ _ _ _ _ _ _ _ _ _ _ _ _ _ _ _ _ _ _ _ _ _ _ _ _ _ _ _ _ _ _ _ _ _ ?_
      intro z20 z255 z256 z257 z258 z259 z260 z261 z262 z263 z264 z265 z266 w5 hb5
      have HB5 := Lib.hid (HBo.out.trans (hb5.mono HBo.out.size))
      rw [← Hsha2.out]
      clear hb5
      go_wp2_with fail
      go_ret
      exact ⟨rfl, HB5.out⟩

end Go.Proofs.YtinlciofhegciaaGreat

namespace Go.Proofs.YtinlciofhegciaaGreat
open Go.RowKit

theorem fold_no (q : Nat) (h : rightB q = false) (l : List UInt8) : l.foldl (numStep q) 0 = 0 := by
  induction l with
  | nil => rfl
  | cons c l ih => rw [List.foldl_cons, show numStep q 0 c = 0 from addM_no h]; exact ih
theorem numberOf_no (label : List UInt8) (parts : List (List UInt8)) (q : Nat) (h : rightB q = false) : numberOf label parts q = 0 := fold_no q h _
theorem refMul_d (a b m : Nat) (w : World) (ha : a < 18446744073709551616) (hb : b < 18446744073709551616) (hm : m < 18446744073709551616) :
    Calls Tryz.prog 59 #[.int .u64 (a : Int), .int .u64 (b : Int), .int .u64 (m : Int)] w fun e w' => e = .returned (.int .u64 (mulM a b m : Int)) ∧ ∃ n, w' = w.drewN n :=
  (refMul_any a b m w ha hb hm).mono fun _ _ ⟨he, hw⟩ => ⟨he, 0, hw.symm⟩

set_option maxRecDepth 100000 in
set_option maxHeartbeats 2000000 in
theorem refNumber_any (label : List UInt8) (A : Option Addr) (cap : Nat) (parts : List (List UInt8)) (q : Nat) (w : World) (hp : Strs w A cap parts) (hq : q < 18446744073709551616) (hT : (numText (label :: parts)).length ≤ 1099511627776) (hlen : parts.length ≤ 1099511627776) :
    Calls Tryz.prog 62 #[.string (str label), .slice A parts.length cap, .int .u64 (q : Int)] w fun e w' => e = .returned (.int .u64 (numberOf label parts q : Int)) ∧ Below w.heap.size w w' := by
  cases hrt : rightB q with
  | false =>
    rw [numberOf_no _ _ _ hrt]
    by_cases h2 : q < 2
    · have d1 : decide ((q : Int) < 2) = true := decide_eq_true (by omega)
      go_enter Tryz.func62, Tryz.ntmps62
      go_wp2_with fail
      go_ret
      exact ⟨rfl, Below.refl _ _⟩
    · have d1 : decide ((q : Int) < 2) = false := decide_eq_false (by omega)
      have d2 : decide ((4611686018427387904 : Int) < (q : Int)) = true := decide_eq_true (by have := rightB_no hrt; omega)
      clear hrt
      go_enter Tryz.func62, Tryz.ntmps62
      go_wp2_with fail
      go_ret
      exact ⟨rfl, Below.refl _ _⟩
  | true =>
    obtain ⟨hq1, hq2⟩ := rightB_yes hrt
    have d1 : decide ((q : Int) < 2) = false := decide_eq_false (by omega)
    have d2 : decide ((4611686018427387904 : Int) < (q : Int)) = false := decide_eq_false (by omega)
    have Hp := Lib.hid hp
    obtain ⟨r, hr⟩ : ∃ r, r = numberOf label parts q := ⟨_, rfl⟩
    rw [← hr]
    have Hr := Lib.hid hr
    obtain ⟨n, hn⟩ : ∃ n, n = parts.length := ⟨_, rfl⟩
    rw [← hn] at hlen
    rw [← hn]
    have Hn := Lib.hid hn
    have hszl := str_size label
    have hll : label.length ≤ 1099511627776 := by
      have := numText_length (label :: parts)
      simp only [totalLen, List.map_cons, List.sum_cons] at this
      omega
    obtain ⟨ll, hll2⟩ : ∃ j, j = label.length := ⟨_, rfl⟩
    rw [← hll2] at hszl hll
    have hcv : IntKind.u64.wrap (ll : Int) = (ll : Int) := by rw [IntKind.wrap_u64]; omega
    have ha := str_add Tryz.prog (be 8 ll) label (by rw [be_length]; omega)
    obtain ⟨T0, hT0⟩ : ∃ T, T = be 8 ll ++ label := ⟨_, rfl⟩
    rw [← hT0] at ha
    have HT0 : Hid (T0 = lenText label) := by show T0 = lenText label; rw [hT0, hll2]; rfl
    clear hp hr hrt hn hT0 hll2
    go_enter Tryz.func62, Tryz.ntmps62
    go_wp2_with fail
    refine (bytes_any ll 8 _ (by omega) (by omega)).mono ?_
    rintro e w1 ⟨rfl, hb1⟩
    have Hb1 := Lib.hid hb1
    clear hb1
    go_wp2_with fail
    clear ha hcv hszl d1 d2
    go_loopw [7, 8] (fun x y wr => ∃ k : Nat, k ≤ n ∧ y = .int .i64 (k : Int) ∧ x = .string (str (lenText label ++ numText (parts.take k))) ∧ Below w.heap.size w wr) (fun _ y _ => n - (intOf y).toNat)
    case atStart => exact ⟨0, by omega, rfl, by rw [HT0.out]; simp [numText], Hb1.out⟩
    case round =>
      obtain ⟨k, hk, rfl, rfl, hb⟩ := hrel
      obtain ⟨M, hM⟩ : ∃ M, M = lenText label ++ numText (parts.take k) := ⟨_, rfl⟩
      rw [← hM]
      have Hb := Lib.hid hb
      clear hb Hb1 HT0
      by_cases hlt : k < n
      · have d1 : decide ((k : Int) < (n : Int)) = true := decide_eq_true (by omega)
        have k1 : (k : Int) < (n : Int) := by omega
        have hkL : k < parts.length := by rw [← Hn.out]; exact hlt
        obtain ⟨x, hx⟩ : ∃ x, parts[k]? = some x := ⟨_, List.getElem?_eq_getElem hkL⟩
        obtain ⟨a, rfl, hc⟩ := Hp.out.cells k x hx
        have hnx := numText_take parts k x hx
        have hb8 : (numText (parts.take (k + 1))).length ≤ (numText parts).length := numText_take_le parts (k + 1)
        have hTb : (numText (label :: parts)).length = (lenText label).length + (numText parts).length := by simp [numText]
        have hMl : M.length + (lenText x).length ≤ 1099511627776 := by
          rw [hM, List.length_append]
          rw [hnx, List.length_append] at hb8
          omega
        have hcell : ∀ w', Below wr.heap.size wr w' → w'.cell? (a.add k) = some (.string (str x)) := fun w' hw => below_cell hw (below_cell Hb.out hc)
        have hsz := str_size x
        obtain ⟨xl, hxl2⟩ : ∃ xl, xl = x.length := ⟨_, rfl⟩
        have hxl : xl ≤ 1099511627776 := by rw [lenText, List.length_append, be_length] at hMl; omega
        rw [← hxl2] at hsz
        have hcv : IntKind.u64.wrap (xl : Int) = (xl : Int) := by rw [IntKind.wrap_u64]; omega
        have ha := str_add Tryz.prog M (be 8 xl) (by rw [be_length]; omega)
        obtain ⟨M1, hM1⟩ : ∃ T, T = M ++ be 8 xl := ⟨_, rfl⟩
        have ha2 := str_add Tryz.prog M1 x (by rw [hM1, List.length_append, be_length]; omega)
        obtain ⟨M2, hM2⟩ : ∃ T, T = M1 ++ x := ⟨_, rfl⟩
        rw [← hM1] at ha
        rw [← hM2] at ha2
        have hM3 : M2 = lenText label ++ numText (parts.take (k + 1)) := by
          rw [hM2, hM1, hM, hnx, hxl2, lenText]
          simp [List.append_assoc, lenText]
        have HM3 := Lib.hid hM3
        clear hM hM1 hM2 hM3 hnx hb8 hTb hMl hkL hx hxl2 hc
        go_wp2_with fail
        refine region_quiet_tail (fun w' => Below wr.heap.size wr w') 14 Tryz.mixed (by kernel_rfl) (Below.refl _ _).drew ?_
        simp only [List.take_succ_cons, List.take_zero, List.drop_succ_cons, List.drop_zero]
        repeat (refine wpQuiet_step (fun K hK => ?_); go_simp; refine ⟨_, fun w' hb => (by first | rfl | exact ⟨rfl, rfl⟩ | (rw [hcell w' hb]; exact ⟨rfl, rfl⟩)), hK _ ?_⟩; clear hK K)
        refine wpQuiet_step (fun K hK => ?_)
        go_simp
        refine ⟨.string (str (be 8 xl)), fun w' hb => ?_, hK _ ?_⟩
        · refine (bytes_any xl 8 w' (by omega) (by omega)).mono ?_
          rintro e w4 ⟨rfl, hb4⟩
          exact ⟨rfl, below_trans hb hb4⟩
        clear hK K
        repeat (refine wpQuiet_step (fun K hK => ?_); go_simp; refine ⟨_, fun w' hb => (by first | rfl | exact ⟨rfl, rfl⟩ | (rw [hcell w' hb]; exact ⟨rfl, rfl⟩)), hK _ ?_⟩; clear hK K)
        refine wpQuiet_nil ?_
        intro w4 hb4
        have Hb4 := Lib.hid (below_trans Hb.out hb4)
        clear hb4 hcell
        go_wp2_with fail
        go_roundw
        case rel => exact ⟨k + 1, by omega, by go_num, by rw [HM3.out], Hb4.out⟩
        case measure => simp [intOf]; omega
      · have d1 : decide ((k : Int) < (n : Int)) = false := decide_eq_false (by omega)
        have hMe : M = numText (label :: parts) := by
          rw [hM, List.take_of_length_le (by rw [← Hn.out]; omega)]; rfl
        have hMl : M.length ≤ 1099511627776 := by rw [hMe]; exact hT
        obtain ⟨h, hh⟩ : ∃ h, h = sha M := ⟨_, rfl⟩
        have hhl : h.length = 32 := by rw [hh, sha_length]
        have hsz : (str h).size = 32 := by rw [str_size, hhl]
        have hfin : r = (h.take 16).foldl (numStep q) 0 := by rw [Hr.out, numberOf, ← hMe, ← hh]
        have Hfin := Lib.hid hfin
        have Hh := Lib.hid hh
        have Hhl := Lib.hid hhl
        clear hM hMe hh hhl hfin Hr
        go_wp2_with fail
        refine (refSum_any M _ hMl).mono ?_
        rintro e w2 ⟨rfl, hb2⟩
        rw [← Hh.out]
        have Hb2 := Lib.hid (below_trans Hb.out hb2)
        clear hb2 Hb
        go_wp2_with fail
        go_loopw [10, 11] (fun x y wr => ∃ j z : Nat, j ≤ 16 ∧ y = .int .i64 (j : Int) ∧ x = .int .u64 (z : Int) ∧ z ≤ 4611686018427387904 ∧ z = ((h.take 16).take j).foldl (numStep q) 0 ∧ Below w.heap.size w wr) (fun _ y _ => 16 - (intOf y).toNat)
        case atStart => exact ⟨0, 0, by omega, rfl, rfl, by omega, rfl, Hb2.out⟩
        case round =>
          obtain ⟨j, z, hj, rfl, rfl, hz, hzf, hb3⟩ := hrel
          have Hzf := Lib.hid hzf
          have Hb3 := Lib.hid hb3
          clear hzf hb3 Hb2
          have hbl : (h.take 16).length = 16 := by rw [List.length_take, Hhl.out]; rfl
          by_cases hj16 : j < 16
          · have c1 : decide ((j : Int) < 16) = true := decide_eq_true (by omega)
            obtain ⟨c, hc⟩ : ∃ c, (h.take 16)[j]? = some c := ⟨_, List.getElem?_eq_getElem (by omega)⟩
            have hc2 : h[j]? = some c := by rw [List.getElem?_take, if_pos hj16] at hc; exact hc
            have hidx : ∀ W : World, (Instr.index 9 (.string (str h)) (.int .i64 (j : Int))).run Tryz.prog W = .ok (.int .u8 (c.toNat : Int)) W :=
              fun W => run_index_str Tryz.underlying_str (str h) (j : Int) j c rfl (by rw [str_get]; exact hc2) W
            have hft := fold_take q (h.take 16) j c hc
            rw [← Hzf.out] at hft
            have hcb := c.toNat_lt
            obtain ⟨m1, hm1⟩ : ∃ m, m = mulM z 256 q := ⟨_, rfl⟩
            have hm1b : m1 ≤ 4611686018427387904 := by rw [hm1]; exact mulM_lt _ _ _
            obtain ⟨z2, hz2⟩ : ∃ m, m = addM m1 c.toNat q := ⟨_, rfl⟩
            have hz2b : z2 ≤ 4611686018427387904 := by rw [hz2]; exact addM_lt _ _ _
            have hft2 : ((h.take 16).take (j + 1)).foldl (numStep q) 0 = z2 := by rw [hft, numStep, ← hm1, ← hz2]
            have Hm1 := Lib.hid hm1
            have Hz2 := Lib.hid hz2
            have Hft := Lib.hid hft2
            have cv : IntKind.u64.wrap (c.toNat : Int) = (c.toNat : Int) := by rw [IntKind.wrap_u64]; omega
            have cM : ∀ W : World, Calls Tryz.prog 59 #[.int .u64 (z : Int), .int .u64 256, .int .u64 (q : Int)] W fun e w' => e = .returned (.int .u64 (m1 : Int)) ∧ ∃ n, w' = W.drewN n := by
              intro W; rw [hm1]; exact refMul_d z 256 q W (by omega) (by omega) hq
            have cA : ∀ W : World, Calls Tryz.prog 60 #[.int .u64 (m1 : Int), .int .u64 (c.toNat : Int), .int .u64 (q : Int)] W fun e w' => e = .returned (.int .u64 (z2 : Int)) ∧ ∃ n, w' = W.drewN n := by
              intro W; rw [hz2]; exact refAdd_any m1 c.toNat q W (by omega) (by omega) hq
            have CM := Lib.hid cM
            have CA := Lib.hid cA
            clear hc hc2 hft hft2 hm1 hz2 hbl cM cA
            go_wp2_with fail
            go_quiet ((first | (go_at_call 59; exact Calls.quiet_of (CM.out _)) | (go_at_call 60; exact Calls.quiet_of (CA.out _))))
            go_wp2_with fail
            go_roundw
            case rel => exact ⟨j + 1, z2, by omega, by go_num, rfl, hz2b, Hft.out.symm, below_drewN Hb3.out _⟩
            case measure => simp [intOf]; omega
          · have c1 : decide ((j : Int) < 16) = false := decide_eq_false (by omega)
            have hzr : z = r := by rw [Hzf.out, Hfin.out, List.take_of_length_le (by omega)]
            clear hbl
            subst hzr
            go_wp2_with fail
            go_ret
            exact ⟨rfl, Hb3.out⟩
end Go.Proofs.YtinlciofhegciaaGreat
