/- Joined texts, part 6: contracts of the functions that the laws reach, and what is needed for them. -/
import Derived.Test.YtbpenkaficiodaaGreatP5
/- Claims of crossings: both walks. -/
namespace Go.Proofs.YtbpenkaficiodaaGreat
open Go.RowKit Go.BigFrame

set_option maxRecDepth 100000 in
set_option maxHeartbeats 4000000 in
theorem crosses_any (P Q G H x y a0 a1 a2 b0 b1 b2 : Nat) (R : Value) (w : World) (hP : P < 18446744073709551616) (hG : G < 18446744073709551616) (hx : x < 18446744073709551616) (hy : y < 18446744073709551616)
    (ha0 : a0 < 18446744073709551616) (ha1 : a1 < 18446744073709551616) (ha2 : a2 < 18446744073709551616) (hb1 : b1 < 18446744073709551616) (hb2 : b2 < 18446744073709551616) :
    Calls Tryz.prog 79 #[gval P Q G H R, .int .u64 (x : Int), .int .u64 (y : Int), .agg #[.int .u64 (a0 : Int), .int .u64 (a1 : Int), .int .u64 (a2 : Int)], .agg #[.int .u64 (b0 : Int), .int .u64 (b1 : Int), .int .u64 (b2 : Int)]] w fun e w' => OutClaim [x, overG P b1 a1, overG P b2 a2] [[G, 1], [1, G], [overG P 1 a0, y]] e w' ∧ Below w.heap.size w w' := by
  obtain ⟨o1, ho1⟩ : ∃ o, o = overG P b1 a1 := ⟨_, rfl⟩
  obtain ⟨o2, ho2⟩ : ∃ o, o = overG P b2 a2 := ⟨_, rfl⟩
  obtain ⟨o3, ho3⟩ : ∃ o, o = overG P 1 a0 := ⟨_, rfl⟩
  have h1 := fun W => over_any P Q G H b1 a1 R W hP hb1 ha1
  have h2 := fun W => over_any P Q G H b2 a2 R W hP hb2 ha2
  have h3 := fun W => over_any P Q G H 1 a0 R W hP (by omega) ha0
  unfold gval at h1 h2 h3 ⊢
  rw [← ho1] at h1
  rw [← ho2] at h2
  rw [← ho3] at h3
  rw [← ho1, ← ho2, ← ho3]
  have hs1 : o1 < 18446744073709551616 := by rw [ho1]; exact overG_lt _ _ _
  have hs2 : o2 < 18446744073709551616 := by rw [ho2]; exact overG_lt _ _ _
  have hs3 : o3 < 18446744073709551616 := by rw [ho3]; exact overG_lt _ _ _
  have Ho1 := Lib.hid h1
  have Ho2 := Lib.hid h2
  have Ho3 := Lib.hid h3
  obtain ⟨w0, hw0⟩ : ∃ w0, w0 = ((((w.alloc (.cells #[.int .u64 (P : Int), .int .u64 (Q : Int), .int .u64 (G : Int), .int .u64 (H : Int), R] 25)).alloc (.cells #[.int .u64 (a0 : Int), .int .u64 (a1 : Int), .int .u64 (a2 : Int)] 38)).alloc (.cells #[.int .u64 (b0 : Int), .int .u64 (b1 : Int), .int .u64 (b2 : Int)] 38)).alloc (.cells #[.slice none 0 0, .slice none 0 0] 83)) := ⟨_, rfl⟩
  have hbb : Below w.heap.size w w0 := by rw [hw0]; exact ((((Below.refl _ _).alloc (Nat.le_refl _) _).alloc (by simp) _).alloc (by simp; omega) _).alloc (by simp; omega) _
  have hg0 : Blk w0 w.heap.size 25 (glist P Q G H R) := by rw [hw0]; exact (((Blk.of w _ _ _ rfl).alloc _).alloc _).alloc _
  have hk1 : Blk w0 (w.heap.size + 1) 38 [.int .u64 (a0 : Int), .int .u64 (a1 : Int), .int .u64 (a2 : Int)] := by rw [hw0]; exact ((Blk.at_new _ _ _ _ _ (by simp) rfl).alloc _).alloc _
  have hk2 : Blk w0 (w.heap.size + 1 + 1) 38 [.int .u64 (b0 : Int), .int .u64 (b1 : Int), .int .u64 (b2 : Int)] := by rw [hw0]; exact (Blk.at_new _ _ _ _ _ (by simp) rfl).alloc _
  have hk3 : Blk w0 (w.heap.size + 1 + 1 + 1) 83 [.slice none 0 0, .slice none 0 0] := by rw [hw0]; exact Blk.at_new _ _ _ _ _ (by simp) rfl
  obtain ⟨g0, g1, g2, g3, g4⟩ := gcells hg0
  have q0 := hk1.cell 0
  have q1 := hk1.cell 1
  have q2 := hk1.cell 2
  have r1 := hk2.cell 1
  have r2 := hk2.cell 2
  simp only [List.getElem?_cons_zero, List.getElem?_cons_succ] at q0 q1 q2 r1 r2
  have Hbb := Lib.hid hbb
  have Hk3 := Lib.hid hk3
  have Hw0 := Lib.hid hw0
  have hl3 := hk3.lt
  clear h1 h2 h3 ho1 ho2 ho3 hbb hg0 hk1 hk2 hk3 hw0
  go_enter Tryz.func79, Tryz.ntmps79
  go_wp2_with fail
  rw [← Hw0.out]
  have l0 := Later.cell g0
  have l1 := Later.cell g1
  have l2 := Later.cell g2
  have l3 := Later.cell g3
  have l4 := Later.cell g4
  have l5 := Later.cell q0
  have l6 := Later.cell q1
  have l7 := Later.cell q2
  have l8 := Later.cell r1
  have l9 := Later.cell r2
  refine region_float_tail [(17, fun u _ => u = .int .u64 (o1 : Int)), (23, fun u _ => u = .int .u64 (o2 : Int)), (24, BNums w0.heap.size [x, o1, o2]), (27, BNums w0.heap.size [G, 1]), (30, BNums w0.heap.size [1, G]), (34, fun u _ => u = .int .u64 (o3 : Int)), (36, BNums w0.heap.size [o3, y]), (37, BGrid w0.heap.size [[G, 1], [1, G], [o3, y]])] 28
    (Know.stable_cons (fun _ _ _ h _ => h) (Know.stable_cons (fun _ _ _ h _ => h) (Know.stable_cons (fun _ _ _ h hl => h.later hl) (Know.stable_cons (fun _ _ _ h hl => h.later hl) (Know.stable_cons (fun _ _ _ h hl => h.later hl) (Know.stable_cons (fun _ _ _ h _ => h) (Know.stable_cons (fun _ _ _ h hl => h.later hl) (Know.stable_cons (fun _ _ _ h hl => h.later hl) Know.stable_nil)))))))) (by kernel_rfl) (by kernel_rfl) (by rfl) ?_
  simp only [List.take_succ_cons, List.take_zero, List.drop_succ_cons, List.drop_zero]
  (repeat (first | (refine loose_skip (by rfl) ?_; simp only [Act.put, List.setIfInBounds_toArray, List.set_cons_zero, List.set_cons_succ]) | (refine loose_plain (by rfl) (by rfl) (by rfl) (fun Kc hKc => ?_); go_big_quiet_op; refine hKc _ ?_; clear hKc Kc)))
  refine loose_fix 17 (.int .u64 (o1 : Int)) (f := 101) (args := #[.agg #[.int .u64 (P : Int), .int .u64 (Q : Int), .int .u64 (G : Int), .int .u64 (H : Int), R], .int .u64 (b1 : Int), .int .u64 (a1 : Int)]) (fun w => by go_simp; try rfl) (by rfl) (by rfl) (by rfl) (fun _ _ => Iff.rfl) (fun wk _ _ => Ho1.out wk) ?_
  simp only [Act.put, List.setIfInBounds_toArray, List.set_cons_zero, List.set_cons_succ]
  (repeat (first | (refine loose_skip (by rfl) ?_; simp only [Act.put, List.setIfInBounds_toArray, List.set_cons_zero, List.set_cons_succ]) | (refine loose_plain (by rfl) (by rfl) (by rfl) (fun Kc hKc => ?_); go_big_quiet_op; refine hKc _ ?_; clear hKc Kc)))
  refine loose_fix 23 (.int .u64 (o2 : Int)) (f := 101) (args := #[.agg #[.int .u64 (P : Int), .int .u64 (Q : Int), .int .u64 (G : Int), .int .u64 (H : Int), R], .int .u64 (b2 : Int), .int .u64 (a2 : Int)]) (fun w => by go_simp; try rfl) (by rfl) (by rfl) (by rfl) (fun _ _ => Iff.rfl) (fun wk _ _ => Ho2.out wk) ?_
  simp only [Act.put, List.setIfInBounds_toArray, List.set_cons_zero, List.set_cons_succ]
  (repeat (first | (refine loose_skip (by rfl) ?_; simp only [Act.put, List.setIfInBounds_toArray, List.set_cons_zero, List.set_cons_succ]) | (refine loose_plain (by rfl) (by rfl) (by rfl) (fun Kc hKc => ?_); go_big_quiet_op; refine hKc _ ?_; clear hKc Kc)))
  refine loose_make 24 (V := fun w => .slice (some ⟨w.heap.size, 0, none⟩) 3 3) (W := fun w => w.alloc (.cells #[.int .u64 (x : Int), .int .u64 (o1 : Int), .int .u64 (o2 : Int)] 22)) (fun w => by go_simp) (by rfl) (by rfl) (by rfl) (fun wk hl _ => ⟨(Below.refl _ _).alloc (Nat.le_refl _) _, BNums.new wk w0.heap.size [x, o1, o2] hl.size⟩) ?_
  rintro _ wk24 _ ⟨b24, rfl, _, _⟩
  simp only [List.length_cons, List.length_nil]
  simp only [Act.put, List.setIfInBounds_toArray, List.set_cons_zero, List.set_cons_succ]
  (repeat (first | (refine loose_skip (by rfl) ?_; simp only [Act.put, List.setIfInBounds_toArray, List.set_cons_zero, List.set_cons_succ]) | (refine loose_plain (by rfl) (by rfl) (by rfl) (fun Kc hKc => ?_); go_big_quiet_op; refine hKc _ ?_; clear hKc Kc)))
  refine loose_make 27 (V := fun w => .slice (some ⟨w.heap.size, 0, none⟩) 2 2) (W := fun w => w.alloc (.cells #[.int .u64 (G : Int), .int .u64 1] 22)) (fun w => by go_simp) (by rfl) (by rfl) (by rfl) (fun wk hl _ => ⟨(Below.refl _ _).alloc (Nat.le_refl _) _, BNums.new wk w0.heap.size [G, 1] hl.size⟩) ?_
  rintro _ wk27 _ ⟨b27, rfl, _, _⟩
  simp only [List.length_cons, List.length_nil]
  simp only [Act.put, List.setIfInBounds_toArray, List.set_cons_zero, List.set_cons_succ]
  (repeat (first | (refine loose_skip (by rfl) ?_; simp only [Act.put, List.setIfInBounds_toArray, List.set_cons_zero, List.set_cons_succ]) | (refine loose_plain (by rfl) (by rfl) (by rfl) (fun Kc hKc => ?_); go_big_quiet_op; refine hKc _ ?_; clear hKc Kc)))
  refine loose_make 30 (V := fun w => .slice (some ⟨w.heap.size, 0, none⟩) 2 2) (W := fun w => w.alloc (.cells #[.int .u64 1, .int .u64 (G : Int)] 22)) (fun w => by go_simp) (by rfl) (by rfl) (by rfl) (fun wk hl _ => ⟨(Below.refl _ _).alloc (Nat.le_refl _) _, BNums.new wk w0.heap.size [1, G] hl.size⟩) ?_
  rintro _ wk30 _ ⟨b30, rfl, _, _⟩
  simp only [List.length_cons, List.length_nil]
  simp only [Act.put, List.setIfInBounds_toArray, List.set_cons_zero, List.set_cons_succ]
  (repeat (first | (refine loose_skip (by rfl) ?_; simp only [Act.put, List.setIfInBounds_toArray, List.set_cons_zero, List.set_cons_succ]) | (refine loose_plain (by rfl) (by rfl) (by rfl) (fun Kc hKc => ?_); go_big_quiet_op; refine hKc _ ?_; clear hKc Kc)))
  refine loose_fix 34 (.int .u64 (o3 : Int)) (f := 101) (args := #[.agg #[.int .u64 (P : Int), .int .u64 (Q : Int), .int .u64 (G : Int), .int .u64 (H : Int), R], .int .u64 1, .int .u64 (a0 : Int)]) (fun w => by go_simp; try rfl) (by rfl) (by rfl) (by rfl) (fun _ _ => Iff.rfl) (fun wk _ _ => Ho3.out wk) ?_
  simp only [Act.put, List.setIfInBounds_toArray, List.set_cons_zero, List.set_cons_succ]
  (repeat (first | (refine loose_skip (by rfl) ?_; simp only [Act.put, List.setIfInBounds_toArray, List.set_cons_zero, List.set_cons_succ]) | (refine loose_plain (by rfl) (by rfl) (by rfl) (fun Kc hKc => ?_); go_big_quiet_op; refine hKc _ ?_; clear hKc Kc)))
  refine loose_make 36 (V := fun w => .slice (some ⟨w.heap.size, 0, none⟩) 2 2) (W := fun w => w.alloc (.cells #[.int .u64 (o3 : Int), .int .u64 (y : Int)] 22)) (fun w => by go_simp) (by rfl) (by rfl) (by rfl) (fun wk hl _ => ⟨(Below.refl _ _).alloc (Nat.le_refl _) _, BNums.new wk w0.heap.size [o3, y] hl.size⟩) ?_
  rintro _ wk36 _ ⟨b36, rfl, _, _⟩
  simp only [List.length_cons, List.length_nil]
  simp only [Act.put, List.setIfInBounds_toArray, List.set_cons_zero, List.set_cons_succ]
  (repeat (first | (refine loose_skip (by rfl) ?_; simp only [Act.put, List.setIfInBounds_toArray, List.set_cons_zero, List.set_cons_succ]) | (refine loose_plain (by rfl) (by rfl) (by rfl) (fun Kc hKc => ?_); go_big_quiet_op; refine hKc _ ?_; clear hKc Kc)))
  refine loose_make 37 (V := fun w => .slice (some ⟨w.heap.size, 0, none⟩) 3 3) (W := fun w => w.alloc (.cells #[.slice (some ⟨b27, 0, none⟩) (0 + 1 + 1) (0 + 1 + 1), .slice (some ⟨b30, 0, none⟩) (0 + 1 + 1) (0 + 1 + 1), .slice (some ⟨b36, 0, none⟩) (0 + 1 + 1) (0 + 1 + 1)] 40)) (fun w => by go_simp) (by rfl) (by rfl) (by rfl) (fun wk hl hd => ⟨(Below.refl _ _).alloc (Nat.le_refl _) _, BGrid.new3 hl.size (hd 27 (by decide) _ (.inr (.inr (.inr (.inl ⟨rfl, rfl⟩))))) (hd 30 (by decide) _ (.inr (.inr (.inl ⟨rfl, rfl⟩)))) (hd 36 (by decide) _ (.inl ⟨rfl, rfl⟩))⟩) ?_
  rintro _ wk37 _ ⟨b37, rs37, rfl, _, _, _⟩
  simp only [List.length_cons, List.length_nil]
  simp only [Act.put, List.setIfInBounds_toArray, List.set_cons_zero, List.set_cons_succ]
  (repeat (first | (refine loose_skip (by rfl) ?_; simp only [Act.put, List.setIfInBounds_toArray, List.set_cons_zero, List.set_cons_succ]) | (refine loose_plain (by rfl) (by rfl) (by rfl) (fun Kc hKc => ?_); go_big_quiet_op; refine hKc _ ?_; clear hKc Kc)))
  refine loose_nil ?_
  intro wq hbq hkn
  have hN := hkn 24 _ (.inr (.inr (.inr (.inr (.inr (.inl ⟨rfl, rfl⟩))))))
  have hGG := hkn 37 _ (.inl ⟨rfl, rfl⟩)
  have hN : BNums w0.heap.size [x, o1, o2] (.slice (some ⟨b24, 0, none⟩) (0 + 1 + 1 + 1) (0 + 1 + 1 + 1)) wq := hN
  have hGr : BGrid w0.heap.size [[G, 1], [1, G], [o3, y]] (.slice (some ⟨b37, 0, none⟩) (0 + 1 + 1 + 1) (0 + 1 + 1 + 1)) wq := hGG
  have hr2 := Hk3.out.below hbq hl3
  obtain ⟨p0, p1⟩ := two_cells hr2
  have z0 := hr2.frozen 0
  have z1 := hr2.frozen 1
  have hf := (hr2.set 0 (.slice (some ⟨b24, 0, none⟩) (0 + 1 + 1 + 1) (0 + 1 + 1 + 1))).set 1 (.slice (some ⟨b37, 0, none⟩) (0 + 1 + 1 + 1) (0 + 1 + 1 + 1))
  obtain ⟨A1, c1, e1, hN1⟩ := ((hN.set hl3 0 (.slice (some ⟨b24, 0, none⟩) (0 + 1 + 1 + 1) (0 + 1 + 1 + 1))).set hl3 1 (.slice (some ⟨b37, 0, none⟩) (0 + 1 + 1 + 1) (0 + 1 + 1 + 1))).nums (by simp [hx, hs1, hs2])
  obtain ⟨A2, c2, rs, e2, hG2, hm⟩ := ((hGr.set hl3 0 (.slice (some ⟨b24, 0, none⟩) (0 + 1 + 1 + 1) (0 + 1 + 1 + 1))).set hl3 1 (.slice (some ⟨b37, 0, none⟩) (0 + 1 + 1 + 1) (0 + 1 + 1 + 1))).grid (by simp [hy, hs3]; exact hG)
  have hb9 := below_set (below_set (below_trans Hbb.out hbq) (show w.heap.size ≤ w.heap.size + 1 + 1 + 1 by omega) 0 (.slice (some ⟨b24, 0, none⟩) (0 + 1 + 1 + 1) (0 + 1 + 1 + 1))) (show w.heap.size ≤ w.heap.size + 1 + 1 + 1 by omega) 1 (.slice (some ⟨b37, 0, none⟩) (0 + 1 + 1 + 1) (0 + 1 + 1 + 1))
  have Hf := Lib.hid hf
  have HN1 := Lib.hid hN1
  have HG2 := Lib.hid hG2
  have He1 := Lib.hid e1
  have He2 := Lib.hid e2
  have Hm := Lib.hid hm
  have Hb9 := Lib.hid hb9
  clear hkn hN hGG hGr hr2 hf hbq hN1 hG2 e1 e2 hm hb9 l0 l1 l2 l3 l4 l5 l6 l7 l8 l9
  go_wp2_with fail
  refine NoPanic.normal ?_
  go_wp2_with fail
  obtain ⟨k0, k1⟩ := two_cells (show Blk _ _ _ [.slice (some ⟨b24, 0, none⟩) (0 + 1 + 1 + 1) (0 + 1 + 1 + 1), .slice (some ⟨b37, 0, none⟩) (0 + 1 + 1 + 1) (0 + 1 + 1 + 1)] from Hf.out)
  exact bodyPost_ret (v := .agg #[.slice (some ⟨b24, 0, none⟩) (0 + 1 + 1 + 1) (0 + 1 + 1 + 1), .slice (some ⟨b37, 0, none⟩) (0 + 1 + 1 + 1) (0 + 1 + 1 + 1)]) (by simp [results, Tryz.results79, go_sem, k0, k1]) rfl ⟨⟨A1, c1, A2, c2, rs, by rw [cval, ← He1.out, ← He2.out], HN1.out, HG2.out, Hm.out⟩, Hb9.out⟩

set_option maxRecDepth 100000 in
set_option maxHeartbeats 4000000 in
theorem refCrosses_any (P Q G H x y a0 a1 a2 b0 b1 b2 : Nat) (R : Value) (w : World) (hP : P < 18446744073709551616) (hG : G < 18446744073709551616) (hx : x < 18446744073709551616) (hy : y < 18446744073709551616)
    (ha0 : a0 < 18446744073709551616) (ha1 : a1 < 18446744073709551616) (ha2 : a2 < 18446744073709551616) (hb1 : b1 < 18446744073709551616) (hb2 : b2 < 18446744073709551616) :
    Calls Tryz.prog 81 #[gval P Q G H R, .int .u64 (x : Int), .int .u64 (y : Int), .agg #[.int .u64 (a0 : Int), .int .u64 (a1 : Int), .int .u64 (a2 : Int)], .agg #[.int .u64 (b0 : Int), .int .u64 (b1 : Int), .int .u64 (b2 : Int)]] w fun e w' => OutClaim [x, overG P b1 a1, overG P b2 a2] [[G, 1], [1, G], [overG P 1 a0, y]] e w' ∧ Below w.heap.size w w' := by
  obtain ⟨o1, ho1⟩ : ∃ o, o = overG P b1 a1 := ⟨_, rfl⟩
  obtain ⟨o2, ho2⟩ : ∃ o, o = overG P b2 a2 := ⟨_, rfl⟩
  obtain ⟨o3, ho3⟩ : ∃ o, o = overG P 1 a0 := ⟨_, rfl⟩
  have h1 := fun W => refOver_any P Q G H b1 a1 R W hP hb1 ha1
  have h2 := fun W => refOver_any P Q G H b2 a2 R W hP hb2 ha2
  have h3 := fun W => refOver_any P Q G H 1 a0 R W hP (by omega) ha0
  unfold gval at h1 h2 h3 ⊢
  rw [← ho1] at h1
  rw [← ho2] at h2
  rw [← ho3] at h3
  rw [← ho1, ← ho2, ← ho3]
  have hs1 : o1 < 18446744073709551616 := by rw [ho1]; exact overG_lt _ _ _
  have hs2 : o2 < 18446744073709551616 := by rw [ho2]; exact overG_lt _ _ _
  have hs3 : o3 < 18446744073709551616 := by rw [ho3]; exact overG_lt _ _ _
  have Ho1 := Lib.hid h1
  have Ho2 := Lib.hid h2
  have Ho3 := Lib.hid h3
  obtain ⟨w0, hw0⟩ : ∃ w0, w0 = ((((w.alloc (.cells #[.int .u64 (P : Int), .int .u64 (Q : Int), .int .u64 (G : Int), .int .u64 (H : Int), R] 25)).alloc (.cells #[.int .u64 (a0 : Int), .int .u64 (a1 : Int), .int .u64 (a2 : Int)] 38)).alloc (.cells #[.int .u64 (b0 : Int), .int .u64 (b1 : Int), .int .u64 (b2 : Int)] 38)).alloc (.cells #[.slice none 0 0, .slice none 0 0] 83)) := ⟨_, rfl⟩
  have hbb : Below w.heap.size w w0 := by rw [hw0]; exact ((((Below.refl _ _).alloc (Nat.le_refl _) _).alloc (by simp) _).alloc (by simp; omega) _).alloc (by simp; omega) _
  have hg0 : Blk w0 w.heap.size 25 (glist P Q G H R) := by rw [hw0]; exact (((Blk.of w _ _ _ rfl).alloc _).alloc _).alloc _
  have hk1 : Blk w0 (w.heap.size + 1) 38 [.int .u64 (a0 : Int), .int .u64 (a1 : Int), .int .u64 (a2 : Int)] := by rw [hw0]; exact ((Blk.at_new _ _ _ _ _ (by simp) rfl).alloc _).alloc _
  have hk2 : Blk w0 (w.heap.size + 1 + 1) 38 [.int .u64 (b0 : Int), .int .u64 (b1 : Int), .int .u64 (b2 : Int)] := by rw [hw0]; exact (Blk.at_new _ _ _ _ _ (by simp) rfl).alloc _
  have hk3 : Blk w0 (w.heap.size + 1 + 1 + 1) 83 [.slice none 0 0, .slice none 0 0] := by rw [hw0]; exact Blk.at_new _ _ _ _ _ (by simp) rfl
  obtain ⟨g0, g1, g2, g3, g4⟩ := gcells hg0
  have q0 := hk1.cell 0
  have q1 := hk1.cell 1
  have q2 := hk1.cell 2
  have r1 := hk2.cell 1
  have r2 := hk2.cell 2
  simp only [List.getElem?_cons_zero, List.getElem?_cons_succ] at q0 q1 q2 r1 r2
  have Hbb := Lib.hid hbb
  have Hk3 := Lib.hid hk3
  have Hw0 := Lib.hid hw0
  have hl3 := hk3.lt
  clear h1 h2 h3 ho1 ho2 ho3 hbb hg0 hk1 hk2 hk3 hw0
  go_enter Tryz.func81, Tryz.ntmps81
  go_wp2_with fail
  rw [← Hw0.out]
  have l0 := Later.cell g0
  have l1 := Later.cell g1
  have l2 := Later.cell g2
  have l3 := Later.cell g3
  have l4 := Later.cell g4
  have l5 := Later.cell q0
  have l6 := Later.cell q1
  have l7 := Later.cell q2
  have l8 := Later.cell r1
  have l9 := Later.cell r2
  refine region_float_tail [(17, fun u _ => u = .int .u64 (o1 : Int)), (23, fun u _ => u = .int .u64 (o2 : Int)), (24, BNums w0.heap.size [x, o1, o2]), (27, BNums w0.heap.size [G, 1]), (30, BNums w0.heap.size [1, G]), (34, fun u _ => u = .int .u64 (o3 : Int)), (36, BNums w0.heap.size [o3, y]), (37, BGrid w0.heap.size [[G, 1], [1, G], [o3, y]])] 28
    (Know.stable_cons (fun _ _ _ h _ => h) (Know.stable_cons (fun _ _ _ h _ => h) (Know.stable_cons (fun _ _ _ h hl => h.later hl) (Know.stable_cons (fun _ _ _ h hl => h.later hl) (Know.stable_cons (fun _ _ _ h hl => h.later hl) (Know.stable_cons (fun _ _ _ h _ => h) (Know.stable_cons (fun _ _ _ h hl => h.later hl) (Know.stable_cons (fun _ _ _ h hl => h.later hl) Know.stable_nil)))))))) (by kernel_rfl) (by kernel_rfl) (by rfl) ?_
  simp only [List.take_succ_cons, List.take_zero, List.drop_succ_cons, List.drop_zero]
  (repeat (first | (refine loose_skip (by rfl) ?_; simp only [Act.put, List.setIfInBounds_toArray, List.set_cons_zero, List.set_cons_succ]) | (refine loose_plain (by rfl) (by rfl) (by rfl) (fun Kc hKc => ?_); go_big_quiet_op; refine hKc _ ?_; clear hKc Kc)))
  refine loose_fix 17 (.int .u64 (o1 : Int)) (f := 108) (args := #[.agg #[.int .u64 (P : Int), .int .u64 (Q : Int), .int .u64 (G : Int), .int .u64 (H : Int), R], .int .u64 (b1 : Int), .int .u64 (a1 : Int)]) (fun w => by go_simp; try rfl) (by rfl) (by rfl) (by rfl) (fun _ _ => Iff.rfl) (fun wk _ _ => Ho1.out wk) ?_
  simp only [Act.put, List.setIfInBounds_toArray, List.set_cons_zero, List.set_cons_succ]
  (repeat (first | (refine loose_skip (by rfl) ?_; simp only [Act.put, List.setIfInBounds_toArray, List.set_cons_zero, List.set_cons_succ]) | (refine loose_plain (by rfl) (by rfl) (by rfl) (fun Kc hKc => ?_); go_big_quiet_op; refine hKc _ ?_; clear hKc Kc)))
  refine loose_fix 23 (.int .u64 (o2 : Int)) (f := 108) (args := #[.agg #[.int .u64 (P : Int), .int .u64 (Q : Int), .int .u64 (G : Int), .int .u64 (H : Int), R], .int .u64 (b2 : Int), .int .u64 (a2 : Int)]) (fun w => by go_simp; try rfl) (by rfl) (by rfl) (by rfl) (fun _ _ => Iff.rfl) (fun wk _ _ => Ho2.out wk) ?_
  simp only [Act.put, List.setIfInBounds_toArray, List.set_cons_zero, List.set_cons_succ]
  (repeat (first | (refine loose_skip (by rfl) ?_; simp only [Act.put, List.setIfInBounds_toArray, List.set_cons_zero, List.set_cons_succ]) | (refine loose_plain (by rfl) (by rfl) (by rfl) (fun Kc hKc => ?_); go_big_quiet_op; refine hKc _ ?_; clear hKc Kc)))
  refine loose_make 24 (V := fun w => .slice (some ⟨w.heap.size, 0, none⟩) 3 3) (W := fun w => w.alloc (.cells #[.int .u64 (x : Int), .int .u64 (o1 : Int), .int .u64 (o2 : Int)] 22)) (fun w => by go_simp) (by rfl) (by rfl) (by rfl) (fun wk hl _ => ⟨(Below.refl _ _).alloc (Nat.le_refl _) _, BNums.new wk w0.heap.size [x, o1, o2] hl.size⟩) ?_
  rintro _ wk24 _ ⟨b24, rfl, _, _⟩
  simp only [List.length_cons, List.length_nil]
  simp only [Act.put, List.setIfInBounds_toArray, List.set_cons_zero, List.set_cons_succ]
  (repeat (first | (refine loose_skip (by rfl) ?_; simp only [Act.put, List.setIfInBounds_toArray, List.set_cons_zero, List.set_cons_succ]) | (refine loose_plain (by rfl) (by rfl) (by rfl) (fun Kc hKc => ?_); go_big_quiet_op; refine hKc _ ?_; clear hKc Kc)))
  refine loose_make 27 (V := fun w => .slice (some ⟨w.heap.size, 0, none⟩) 2 2) (W := fun w => w.alloc (.cells #[.int .u64 (G : Int), .int .u64 1] 22)) (fun w => by go_simp) (by rfl) (by rfl) (by rfl) (fun wk hl _ => ⟨(Below.refl _ _).alloc (Nat.le_refl _) _, BNums.new wk w0.heap.size [G, 1] hl.size⟩) ?_
  rintro _ wk27 _ ⟨b27, rfl, _, _⟩
  simp only [List.length_cons, List.length_nil]
  simp only [Act.put, List.setIfInBounds_toArray, List.set_cons_zero, List.set_cons_succ]
  (repeat (first | (refine loose_skip (by rfl) ?_; simp only [Act.put, List.setIfInBounds_toArray, List.set_cons_zero, List.set_cons_succ]) | (refine loose_plain (by rfl) (by rfl) (by rfl) (fun Kc hKc => ?_); go_big_quiet_op; refine hKc _ ?_; clear hKc Kc)))
  refine loose_make 30 (V := fun w => .slice (some ⟨w.heap.size, 0, none⟩) 2 2) (W := fun w => w.alloc (.cells #[.int .u64 1, .int .u64 (G : Int)] 22)) (fun w => by go_simp) (by rfl) (by rfl) (by rfl) (fun wk hl _ => ⟨(Below.refl _ _).alloc (Nat.le_refl _) _, BNums.new wk w0.heap.size [1, G] hl.size⟩) ?_
  rintro _ wk30 _ ⟨b30, rfl, _, _⟩
  simp only [List.length_cons, List.length_nil]
  simp only [Act.put, List.setIfInBounds_toArray, List.set_cons_zero, List.set_cons_succ]
  (repeat (first | (refine loose_skip (by rfl) ?_; simp only [Act.put, List.setIfInBounds_toArray, List.set_cons_zero, List.set_cons_succ]) | (refine loose_plain (by rfl) (by rfl) (by rfl) (fun Kc hKc => ?_); go_big_quiet_op; refine hKc _ ?_; clear hKc Kc)))
  refine loose_fix 34 (.int .u64 (o3 : Int)) (f := 108) (args := #[.agg #[.int .u64 (P : Int), .int .u64 (Q : Int), .int .u64 (G : Int), .int .u64 (H : Int), R], .int .u64 1, .int .u64 (a0 : Int)]) (fun w => by go_simp; try rfl) (by rfl) (by rfl) (by rfl) (fun _ _ => Iff.rfl) (fun wk _ _ => Ho3.out wk) ?_
  simp only [Act.put, List.setIfInBounds_toArray, List.set_cons_zero, List.set_cons_succ]
  (repeat (first | (refine loose_skip (by rfl) ?_; simp only [Act.put, List.setIfInBounds_toArray, List.set_cons_zero, List.set_cons_succ]) | (refine loose_plain (by rfl) (by rfl) (by rfl) (fun Kc hKc => ?_); go_big_quiet_op; refine hKc _ ?_; clear hKc Kc)))
  refine loose_make 36 (V := fun w => .slice (some ⟨w.heap.size, 0, none⟩) 2 2) (W := fun w => w.alloc (.cells #[.int .u64 (o3 : Int), .int .u64 (y : Int)] 22)) (fun w => by go_simp) (by rfl) (by rfl) (by rfl) (fun wk hl _ => ⟨(Below.refl _ _).alloc (Nat.le_refl _) _, BNums.new wk w0.heap.size [o3, y] hl.size⟩) ?_
  rintro _ wk36 _ ⟨b36, rfl, _, _⟩
  simp only [List.length_cons, List.length_nil]
  simp only [Act.put, List.setIfInBounds_toArray, List.set_cons_zero, List.set_cons_succ]
  (repeat (first | (refine loose_skip (by rfl) ?_; simp only [Act.put, List.setIfInBounds_toArray, List.set_cons_zero, List.set_cons_succ]) | (refine loose_plain (by rfl) (by rfl) (by rfl) (fun Kc hKc => ?_); go_big_quiet_op; refine hKc _ ?_; clear hKc Kc)))
  refine loose_make 37 (V := fun w => .slice (some ⟨w.heap.size, 0, none⟩) 3 3) (W := fun w => w.alloc (.cells #[.slice (some ⟨b27, 0, none⟩) (0 + 1 + 1) (0 + 1 + 1), .slice (some ⟨b30, 0, none⟩) (0 + 1 + 1) (0 + 1 + 1), .slice (some ⟨b36, 0, none⟩) (0 + 1 + 1) (0 + 1 + 1)] 40)) (fun w => by go_simp) (by rfl) (by rfl) (by rfl) (fun wk hl hd => ⟨(Below.refl _ _).alloc (Nat.le_refl _) _, BGrid.new3 hl.size (hd 27 (by decide) _ (.inr (.inr (.inr (.inl ⟨rfl, rfl⟩))))) (hd 30 (by decide) _ (.inr (.inr (.inl ⟨rfl, rfl⟩)))) (hd 36 (by decide) _ (.inl ⟨rfl, rfl⟩))⟩) ?_
  rintro _ wk37 _ ⟨b37, rs37, rfl, _, _, _⟩
  simp only [List.length_cons, List.length_nil]
  simp only [Act.put, List.setIfInBounds_toArray, List.set_cons_zero, List.set_cons_succ]
  (repeat (first | (refine loose_skip (by rfl) ?_; simp only [Act.put, List.setIfInBounds_toArray, List.set_cons_zero, List.set_cons_succ]) | (refine loose_plain (by rfl) (by rfl) (by rfl) (fun Kc hKc => ?_); go_big_quiet_op; refine hKc _ ?_; clear hKc Kc)))
  refine loose_nil ?_
  intro wq hbq hkn
  have hN := hkn 24 _ (.inr (.inr (.inr (.inr (.inr (.inl ⟨rfl, rfl⟩))))))
  have hGG := hkn 37 _ (.inl ⟨rfl, rfl⟩)
  have hN : BNums w0.heap.size [x, o1, o2] (.slice (some ⟨b24, 0, none⟩) (0 + 1 + 1 + 1) (0 + 1 + 1 + 1)) wq := hN
  have hGr : BGrid w0.heap.size [[G, 1], [1, G], [o3, y]] (.slice (some ⟨b37, 0, none⟩) (0 + 1 + 1 + 1) (0 + 1 + 1 + 1)) wq := hGG
  have hr2 := Hk3.out.below hbq hl3
  obtain ⟨p0, p1⟩ := two_cells hr2
  have z0 := hr2.frozen 0
  have z1 := hr2.frozen 1
  have hf := (hr2.set 0 (.slice (some ⟨b24, 0, none⟩) (0 + 1 + 1 + 1) (0 + 1 + 1 + 1))).set 1 (.slice (some ⟨b37, 0, none⟩) (0 + 1 + 1 + 1) (0 + 1 + 1 + 1))
  obtain ⟨A1, c1, e1, hN1⟩ := ((hN.set hl3 0 (.slice (some ⟨b24, 0, none⟩) (0 + 1 + 1 + 1) (0 + 1 + 1 + 1))).set hl3 1 (.slice (some ⟨b37, 0, none⟩) (0 + 1 + 1 + 1) (0 + 1 + 1 + 1))).nums (by simp [hx, hs1, hs2])
  obtain ⟨A2, c2, rs, e2, hG2, hm⟩ := ((hGr.set hl3 0 (.slice (some ⟨b24, 0, none⟩) (0 + 1 + 1 + 1) (0 + 1 + 1 + 1))).set hl3 1 (.slice (some ⟨b37, 0, none⟩) (0 + 1 + 1 + 1) (0 + 1 + 1 + 1))).grid (by simp [hy, hs3]; exact hG)
  have hb9 := below_set (below_set (below_trans Hbb.out hbq) (show w.heap.size ≤ w.heap.size + 1 + 1 + 1 by omega) 0 (.slice (some ⟨b24, 0, none⟩) (0 + 1 + 1 + 1) (0 + 1 + 1 + 1))) (show w.heap.size ≤ w.heap.size + 1 + 1 + 1 by omega) 1 (.slice (some ⟨b37, 0, none⟩) (0 + 1 + 1 + 1) (0 + 1 + 1 + 1))
  have Hf := Lib.hid hf
  have HN1 := Lib.hid hN1
  have HG2 := Lib.hid hG2
  have He1 := Lib.hid e1
  have He2 := Lib.hid e2
  have Hm := Lib.hid hm
  have Hb9 := Lib.hid hb9
  clear hkn hN hGG hGr hr2 hf hbq hN1 hG2 e1 e2 hm hb9 l0 l1 l2 l3 l4 l5 l6 l7 l8 l9
  go_wp2_with fail
  refine NoPanic.normal ?_
  go_wp2_with fail
  obtain ⟨k0, k1⟩ := two_cells (show Blk _ _ _ [.slice (some ⟨b24, 0, none⟩) (0 + 1 + 1 + 1) (0 + 1 + 1 + 1), .slice (some ⟨b37, 0, none⟩) (0 + 1 + 1 + 1) (0 + 1 + 1 + 1)] from Hf.out)
  exact bodyPost_ret (v := .agg #[.slice (some ⟨b24, 0, none⟩) (0 + 1 + 1 + 1) (0 + 1 + 1 + 1), .slice (some ⟨b37, 0, none⟩) (0 + 1 + 1 + 1) (0 + 1 + 1 + 1)]) (by simp [results, Tryz.results81, go_sem, k0, k1]) rfl ⟨⟨A1, c1, A2, c2, rs, by rw [cval, ← He1.out, ← He2.out], HN1.out, HG2.out, Hm.out⟩, Hb9.out⟩
end Go.Proofs.YtbpenkaficiodaaGreat

/- append of one element to a row, and where the row lies then. -/
namespace Go.Proofs.YtbpenkaficiodaaGreat
open Go.RowKit

theorem run_append_rowW {P : Program} (w : World) (B : Nat) (t t2 ty e : TypeId) (d2 : TypeDesc) (ht : P.underlying t = some (.slice e)) (ht2 : P.underlying t2 = some d2) (hd2 : (match d2 with | .slice _ => true | .string => true | _ => false) = true)
    (i : TypeInfo) (z : Value) (sz bytes : Nat) (hi : P.info? e = some i) (hz : i.zero = some z) (hsz : i.size = sz) (hby : i.bytes = bytes) (hzs : z.cells.size = sz) (hpos : 0 < sz)
    (v : Value) (n : Nat) (xs : List Value) (hown : Row w B e sz v n xs) (x : Value) (m : Nat) (news : List Value) (hnl : news.length = m * sz) (hlen : ∀ w : World, (Builtin.lenOf x).run P w = .ok m w)
    (hf : (Builtin.firstCells sz m x).run P w = .ok news.toArray w) (hf' : (Builtin.firstCells sz m x).run P w.drew = .ok news.toArray w.drew) (h1 : ∀ u ∈ news, u.oneCell' = true)
    (h63 : n + m ≤ maxLen) (hbytes : (n + m) * bytes ≤ 140737488355328) (hB : B ≤ w.heap.size) :
    ∃ v' w', (Builtin.append_ #[t, t2] ty #[v, x]).run P w = .ok v' w' ∧ Row w' B e sz v' (n + m) (xs ++ news) ∧ w.grownBy w' v.ownBlock ∧ (v'.ownBlock = v.ownBlock ∨ v'.ownBlock = some w.heap.size) := by
  subst hsz
  subst hby
  have hsmall : n + m ≤ 9223372036854775807 := by simp only [maxLen] at h63; omega
  have hxl := hown.1
  have hall : (xs ++ news).length = (n + m) * i.size := by rw [List.length_append, hxl, hnl, Nat.add_mul]
  have hgrown : ∀ (old : Nat), old < n + m → ∀ (row : Option Nat),
      Row (w.drew.alloc (.cells (xs.toArray ++ news.toArray ++ Builtin.zeroCells z.cells (grownCap w (n + m) old e - (n + m))) e)) B e i.size (.slice (some ⟨w.heap.size, 0, none⟩) (n + m) (grownCap w (n + m) old e)) (n + m) (xs ++ news) ∧
      w.grownBy (w.drew.alloc (.cells (xs.toArray ++ news.toArray ++ Builtin.zeroCells z.cells (grownCap w (n + m) old e - (n + m))) e)) row := by
    intro old ho row
    have hge := grownCap_ge w (n + m) old e
    have hcm : grownCap w (n + m) old e ≤ maxLen := grownCap_le_maxLen w (n + m) old e h63
    refine ⟨⟨hall, .inr ⟨w.heap.size, _, _, (0, 0), rfl, hB, heap_alloc_new w.drew _, fun o _ => by simp, hge, hcm, ?_, ?_⟩⟩, ⟨rfl, rfl, rfl, by simp, fun k hk _ => Below.heap_alloc w.drew _ k hk⟩⟩
    · simp only [Array.size_append, List.size_toArray, size_zeroCells, hzs, hxl, hnl, ← Nat.add_mul]
      congr 1
      omega
    · simp only [Array.toList_append, List.append_assoc]
      rw [← List.append_assoc, ← hall]
      exact List.take_left
  rcases hown.2 with ⟨rfl, rfl⟩ | ⟨g, cap, cur, fz, rfl, hbg, hg, hloose, hnc, hcm, hcs, htake⟩
  · obtain rfl : xs = [] := List.eq_nil_of_length_eq_zero (by simpa using hxl)
    by_cases hm : m = 0
    · subst hm
      obtain rfl : news = [] := List.eq_nil_of_length_eq_zero (by simpa using hnl)
      refine ⟨.slice none 0 0, w, ?_, Row.nil w B e i.size, grown_refl _ _, .inl rfl⟩
      cases d2 <;> simp at hd2
      all_goals simp [Builtin.append_, run_underlying ht, run_underlying ht2, sizeOf, typeInfo, hi, hlen, hf]
      all_goals simp [Builtin.lenOf]
    · have hn0 : ¬ (0 + m ≤ 0) := by omega
      have h63' : ¬ (9223372036854775807 < (m : Int)) := by omega
      have h48 := growslice_fits (need := 0 + m) (old := 0) (by omega) hbytes
      have h48' : ¬ (281474976710656 < Builtin.nextslicecap m 0 * i.bytes) := by simp only [Nat.zero_add] at h48; omega
      have hgr := hgrown 0 (by omega) (Value.ownBlock (.slice none 0 0))
      refine ⟨_, _, ?_, hgr.1, hgr.2, .inr rfl⟩
      cases d2 <;> simp at hd2
      all_goals simp [Builtin.append_, run_underlying ht, run_underlying ht2, sizeOf, typeInfo, zeroValue, hi, hz, hlen, hm, h63', h48', Question.forced, hf', newRow, grownCap, run_firstCells_none]
  · by_cases hroom : n + m ≤ cap
    · have hfit : n * i.size + news.length ≤ cur.size := by rw [hnl, hcs, ← Nat.add_mul]; exact Nat.mul_le_mul_right _ hroom
      obtain ⟨arr, ha, hb, hc⟩ := setCells_heap g e fz news (n * i.size) w cur hg hfit
      have hst := run_storeCells_cells (P := P) g (n * i.size) news 0 w (fun j hj => by
          have : (n * i.size + 0 + j) < cur.size := by omega
          simp [World.cell?, hg]; omega) (fun j hj => by
          have := hloose (n * i.size + 0 + j) (by omega)
          simpa [World.frozen?, hg] using this) h1
      simp only [Nat.add_zero] at hst
      refine ⟨.slice (some ⟨g, 0, none⟩) (n + m) cap, _, ?_, ⟨hall, .inr ⟨g, cap, arr, fz, rfl, hbg, ha, ?_, hroom, hcm, ?_, ?_⟩⟩, hc, .inl rfl⟩
      · cases d2 <;> simp at hd2
        all_goals simp [Builtin.append_, run_underlying ht, run_underlying ht2, sizeOf, typeInfo, hi, hlen, hroom, hf, Addr.add_lit, hst]
      · have hs : arr.size = cur.size := by
          have := congrArg List.length hb
          simp at this; omega
        rw [hs]; exact hloose
      · have := congrArg List.length hb
        simp at this; omega
      · rw [hb, htake, ← hall]
        exact List.take_left
    · have hholds : ∀ j u, xs[j]? = some u → w.drew.cell? ((⟨g, 0, none⟩ : Addr).add j) = some u := by
        intro j u hu
        have hadd : (⟨g, 0, none⟩ : Addr).add j = ⟨g, j, none⟩ := by unfold Addr.add; split <;> simp_all
        rw [hadd]
        rw [← htake, List.getElem?_take] at hu
        split at hu
        · have hj : cur[j]? = some u := by simpa using hu
          show w.cell? _ = _
          simp [World.cell?, hg, hj]
        · cases hu
      have hfo := run_firstCells_some (P := P) w.drew i.size n ⟨g, 0, none⟩ n cap xs hxl hholds
      have h63' : ¬ (9223372036854775807 < ((n : Int) + (m : Int))) := by omega
      have h48 := growslice_fits (need := n + m) (old := cap) (by omega) hbytes
      have h48' : ¬ (281474976710656 < Builtin.nextslicecap (n + m) cap * i.bytes) := by omega
      have hgr := hgrown cap (by omega) (Value.ownBlock (.slice (some ⟨g, 0, none⟩) n cap))
      refine ⟨_, _, ?_, hgr.1, hgr.2, .inr rfl⟩
      cases d2 <;> simp at hd2
      all_goals simp [Builtin.append_, run_underlying ht, run_underlying ht2, sizeOf, typeInfo, zeroValue, hi, hz, hlen, hroom, h63', h48', Question.forced, hf', hfo, newRow, grownCap]
      all_goals (congr 2; apply Array.ext'; simp [List.append_assoc])
section
variable {P : Program} {ops : Array Oper} {rest : List Oper} {o : Oper} {a : Act} {Q : Exit → Act → World → Prop}
theorem ap_oneW {W : World} {B : Nat} {t e : TypeId} {z : Value} {bytes : Nat} (ht : P.underlying t = some (.slice e)) (hinfo : (P.info? e).map (fun i => (i.zero, i.size, i.bytes)) = some (some z, 1, bytes)) (hz : z.cells.size = 1)
    {v y : Value} {xs : List Value} (HO : Row W B e 1 v xs.length xs) (h1 : y.oneCell' = true) (hb0 : 0 < bytes) (hl : (xs.length + 1) * bytes ≤ 140737488355328) (hB : B ≤ W.heap.size)
    (hgd : o.guard = none) (s x : Operand) (ho : o.op = .call { callee := .builtin .append, args := #[s, x], argTypes := #[t, t] }) (hs : a.eval s = v) (hx : a.eval x = .slice (some ⟨W.heap.size, 0, none⟩) 1 1)
    (h : ∀ v1 w1, Row w1 B e 1 v1 (xs ++ [y]).length (xs ++ [y]) → W.grownBy w1 v.ownBlock → (v1.ownBlock = v.ownBlock ∨ v1.ownBlock = some (W.heap.size + 1)) → wpList P ops Q rest (a.put o.dst v1) w1) :
    wpList P ops Q (o :: rest) a (W.alloc (.cells #[y] e)) := by
  obtain ⟨i, hi, hz3⟩ := Option.map_eq_some_iff.1 hinfo
  simp only [Prod.mk.injEq] at hz3
  obtain ⟨hz0, hz1, hz2⟩ := hz3
  have hlen : xs.length + 1 ≤ 140737488355328 := Nat.le_trans (Nat.le_mul_of_pos_right _ hb0) hl
  have hcell := cell_one_new W y e
  have HO' : Row (W.alloc (.cells #[y] e)) B e 1 v xs.length xs := HO.kept (row := none) (grown_alloc W _ _) (by cases v.ownBlock <;> simp)
  obtain ⟨v', w', hr, hrow, hg, hw⟩ := run_append_rowW (P := P) (W.alloc (.cells #[y] e)) B t t o.type e (.slice e) ht ht rfl i z 1 bytes hi hz0 hz1 hz2 hz (by omega) v xs.length xs HO' (.slice (some ⟨W.heap.size, 0, none⟩) 1 1) 1 [y]
    rfl (fun w => by simp [Builtin.lenOf]) (run_firstCells_some (P := P) _ 1 1 _ 1 1 [y] rfl hcell) (run_firstCells_some (P := P) _ 1 1 _ 1 1 [y] rfl (fun j u hj => hcell j u hj)) (by simpa using h1) (by simp only [maxLen]; omega) hl (by simp; omega)
  refine wpList_plain hgd fun K hK => ?_
  unfold Oper.wp execOp
  simp only [ho, resolve, invoke, builtin, Sem.run_bind, Sem.run_pure, Result.andThen_ok, List.map_toArray, List.map_cons, List.map_nil, hs, hx, hr]
  refine hK _ _ (h v' w' (by simpa using hrow) ?_ (by simpa using hw))
  exact ⟨hg.os, hg.tape, hg.output, by have := hg.size; simp at this; omega, fun k hk hne => by
    rw [hg.block k (by simp; omega) hne]; exact Below.heap_alloc W _ k hk⟩
end
end Go.Proofs.YtbpenkaficiodaaGreat

/- A region by one loose walk in which one append may stand: the row that it writes (block ρ) is the call's own; operation number α is the append. -/
namespace Go.Proofs.YtbpenkaficiodaaGreat
open Go.RowKit Go.BigFrame

/-- w's blocks stand in w', but for block ρ. -/
def LatR (ρ : Option Nat) (w w' : World) : Prop := w.grownBy w' ρ
theorem Lat.toR {w w' : World} (h : Lat w w') (ρ : Option Nat) : LatR ρ w w' := grownBy_of_below h ρ
theorem LatR.trans {ρ : Option Nat} {a b c : World} (h : LatR ρ a b) (k : LatR ρ b c) : LatR ρ a c := grown_trans h k
theorem LatR.cell {ρ : Option Nat} {w w' : World} (h : LatR ρ w w') {a : Addr} {v : Value} (hc : w.cell? a = some v) (hne : some a.block ≠ ρ) : w'.cell? a = some v := by
  have hlt := World.block_lt_of_cell? w a hc
  rw [← hc]
  simp only [World.cell?, h.block a.block hlt hne]
/-- A world in which w's blocks stand, but for ρ. -/
structure LaterR (ρ : Option Nat) (w : World) where
  val : World
  lat : LatR ρ w val
instance (ρ : Option Nat) (w : World) : Inhabited (LaterR ρ w) := ⟨⟨w, (Lat.refl w).toR ρ⟩⟩
theorem LaterR.cell {ρ : Option Nat} {w : World} {a : Addr} {v : Value} (h : w.cell? a = some v) (hne : some a.block ≠ ρ) (p : LaterR ρ w) : p.val.cell? a = some v := p.lat.cell h hne

section
variable {P : Program} {ops : Array Oper} {md : Region.Mode} {K : List (Nat × (Value → World → Prop))} {W0 : World} {α : Nat} {ρ : Option Nat}

def stepA (α : Nat) (ρ : Option Nat) (i : Nat) (w w' : World) : Prop := if i = α then LatR ρ w w' else Lat w w'
def inA (α : Nat) (ρ : Option Nat) (W0 : World) (i : Nat) (w : World) : Prop := if i = α then Lat W0 w else LatR ρ W0 w
def clsA (α : Nat) (ρ : Option Nat) (W0 : World) (listed : Array Bool) (w : World) : Prop := LatR ρ W0 w ∧ (listed.getD α true = false → Lat W0 w)
def tauA (ops : Array Oper) (α : Nat) : Nat := match ops[α]? with
  | some o => slotOf o
  | none => 0
def freshA (ops : Array Oper) (α : Nat) (listed : Array Bool) (g : Nat → Value → Prop) : Prop := listed.getD α true = false → ∀ v, ¬ g (tauA ops α) v
structure invA (K : List (Nat × (Value → World → Prop))) (ops : Array Oper) (α : Nat) (ρ : Option Nat) (W0 : World) (listed : Array Bool) (g : Nat → Value → Prop) (w : World) : Prop where
  cls : clsA α ρ W0 listed w
  known : Known K g w
  fresh : freshA ops α listed g
def looseUponA (P : Program) (S : World → World → Prop) (φ : Value → World → Prop) (w : World) : Result Next → Prop
  | .ok (.value u) w' => S w w' ∧ φ u w'
  | .ok (.enter f args) w' => w' = w ∧ Calls P f args w (fun e w'' => ∃ v, e = .returned v ∧ S w w'' ∧ φ v w'')
  | _ => False
def DoesA (P : Program) (ops : Array Oper) (K : List (Nat × (Value → World → Prop))) (α : Nat) (ρ : Option Nat) (W0 : World) (i : Nat) (o : Oper) (a : Act) (g : Nat → Value → Prop) : Kind → Prop
  | .skip => Region.wanted o (yielded ops a.tmps) = false ∧ i ≠ α
  | .plain u => Region.wanted o (yielded ops a.tmps) = true ∧ marked K o = false ∧ i ≠ α ∧ ∀ w, inA α ρ W0 i w → depsOf K ops o g w → plainUpon w u ((execOp a.eval o).run P w)
  | .loose => Region.wanted o (yielded ops a.tmps) = true ∧ marked K o = true ∧ ∀ w, inA α ρ W0 i w → depsOf K ops o g w → looseUponA P (stepA α ρ i) (fun v w => Know.at (slotOf o) v w K) w ((execOp a.eval o).run P w)
def ValidA (K : List (Nat × (Value → World → Prop))) (α : Nat) (ρ : Option Nat) (i : Nat) (o : Oper) (w : World) (v : Value) : Kind → Prop
  | .skip => v = undef
  | .plain u => v = u
  | .loose => ∃ w', stepA α ρ i w w' ∧ Know.at (slotOf o) v w' K

/-- What is known stays known: by later worlds all; by the append's write all but of its own slot. -/
structure keepsA (K : List (Nat × (Value → World → Prop))) (ops : Array Oper) (α : Nat) (ρ : Option Nat) : Prop where
  late : Know.stable K
  app : ∀ t v w w', t ≠ tauA ops α → Know.at t v w K → LatR ρ w w' → Know.at t v w' K
  only : ∀ i o, ops[i]? = some o → i ≠ α → marked K o = true → slotOf o ≠ tauA ops α

theorem clsA.inA {listed : Array Bool} {w : World} (h : clsA α ρ W0 listed w) {i : Nat} (hi : listed.getD i true = false) : inA α ρ W0 i w := by
  unfold Go.Proofs.YtbpenkaficiodaaGreat.inA
  split
  · rename_i he; subst he; exact h.2 hi
  · exact h.1
theorem stepA.toR {i : Nat} {w w' : World} (h : stepA α ρ i w w') : LatR ρ w w' := by
  unfold stepA at h
  split at h
  · exact h
  · exact h.toR ρ
theorem clsA.step {listed : Array Bool} {i : Nat} {w w' : World} (h : clsA α ρ W0 listed w) (hs : stepA α ρ i w w') : clsA α ρ W0 (listed.setIfInBounds i true) w' := by
  refine ⟨h.1.trans hs.toR, fun hf => ?_⟩
  by_cases hi : i = α
  · subst hi
    exfalso
    rcases Nat.lt_or_ge i listed.size with h' | h'
    · simp [h'] at hf
    · simp [Array.getElem?_eq_none h'] at hf
  · rw [getD_set_ne true hi] at hf
    unfold stepA at hs
    rw [if_neg hi] at hs
    exact (h.2 hf).trans hs
theorem clsA.later {listed : Array Bool} {w w' : World} (h : clsA α ρ W0 listed w) (hs : Lat w w') : clsA α ρ W0 listed w' := ⟨h.1.trans (hs.toR ρ), fun hf => (h.2 hf).trans hs⟩
/-- Behind operation i: its value v, known at w'. -/
theorem invA.step (hK : keepsA K ops α ρ) {listed : Array Bool} {g : Nat → Value → Prop} {i : Nat} {o : Oper} {κ : Kind} {w w' : World} {v : Value} (h : invA K ops α ρ W0 listed g w) (ho : ops[i]? = some o) (hun : listed.getD i true = false) (hm : κ = .loose → marked K o = true)
    (hs : stepA α ρ i w w') (hv : κ = .loose → Know.at (slotOf o) v w' K) : invA K ops α ρ W0 (listed.setIfInBounds i true) (behind o g v κ) w' := by
  have hkn : Known K g w' := by
    intro t x hx
    unfold stepA at hs
    split at hs
    · rename_i hi
      subst hi
      refine hK.app t x w w' ?_ (h.known t x hx) hs
      rintro rfl
      exact h.fresh hun x hx
    · exact hK.late _ _ _ _ (h.known t x hx) hs
  refine ⟨h.cls.step hs, ?_, ?_⟩
  · cases κ with
    | loose => exact hkn.add (hv rfl)
    | _ => exact hkn
  · intro hf x hx
    by_cases hi : i = α
    · subst hi
      rcases Nat.lt_or_ge i listed.size with h' | h'
      · simp [h'] at hf
      · simp [Array.getElem?_eq_none h'] at hf
    · rw [getD_set_ne true hi] at hf
      cases κ with
      | loose =>
        rcases hx with ⟨hx, _⟩ | hx
        · exact hK.only i o ho hi (hm rfl) hx.symm
        · exact h.fresh hf x hx
      | skip => exact h.fresh hf x hx
      | plain u => exact h.fresh hf x hx
theorem stepA.refl {i : Nat} (w : World) : stepA α ρ i w w := by
  unfold stepA
  split
  · exact (Lat.refl w).toR ρ
  · exact Lat.refl w
/-- What the walk may lean on: the append's row may have been written already. -/
structure premA (K : List (Nat × (Value → World → Prop))) (ops : Array Oper) (α : Nat) (ρ : Option Nat) (W0 : World) (listed : Array Bool) (g : Nat → Value → Prop) (w : World) : Prop where
  lat : LatR ρ W0 w
  known : Known K g w
  fresh : freshA ops α listed g
theorem invA.prem {listed : Array Bool} {g : Nat → Value → Prop} {w : World} (h : invA K ops α ρ W0 listed g w) : premA K ops α ρ W0 listed g w := ⟨h.cls.1, h.known, h.fresh⟩
theorem fresh_step (hK : keepsA K ops α ρ) {listed : Array Bool} {g : Nat → Value → Prop} {i : Nat} {o : Oper} {κ : Kind} {v : Value} (h : freshA ops α listed g) (ho : ops[i]? = some o) (hm : κ = .loose → marked K o = true) : freshA ops α (listed.setIfInBounds i true) (behind o g v κ) := by
  intro hf x hx
  by_cases hi : i = α
  · subst hi
    rcases Nat.lt_or_ge i listed.size with h' | h'
    · simp [h'] at hf
    · simp [Array.getElem?_eq_none h'] at hf
  · rw [getD_set_ne true hi] at hf
    cases κ with
    | loose =>
      rcases hx with ⟨hx, _⟩ | hx
      · exact hK.only i o ho hi (hm rfl) hx.symm
      · exact h hf x hx
    | skip => exact h hf x hx
    | plain u => exact h hf x hx
theorem known_step (hK : keepsA K ops α ρ) {listed : Array Bool} {g : Nat → Value → Prop} {i : Nat} {w w' : World} (hg : Known K g w) (hfr : freshA ops α listed g) (hun : listed.getD i true = false) (hs : stepA α ρ i w w') : Known K g w' := by
  intro t x hx
  unfold stepA at hs
  split at hs
  · rename_i hi
    subst hi
    refine hK.app t x w w' ?_ (hg t x hx) hs
    rintro rfl
    exact hfr hun x hx
  · exact hK.late _ _ _ _ (hg t x hx) hs
theorem ValidA.reach (hK : keepsA K ops α ρ) {listed : Array Bool} {i : Nat} {o : Oper} {κ : Kind} {g : Nat → Value → Prop} {w : World} {v : Value} (hg : premA K ops α ρ W0 listed g w) (ho : ops[i]? = some o) (hun : listed.getD i true = false) (hm : κ = .loose → marked K o = true) (h : ValidA K α ρ i o w v κ) :
    ∃ w', stepA α ρ i w w' ∧ premA K ops α ρ W0 (listed.setIfInBounds i true) (behind o g v κ) w' := by
  cases κ with
  | loose =>
    obtain ⟨w', hw, hv⟩ := h
    exact ⟨w', hw, hg.lat.trans hw.toR, (known_step hK hg.known hg.fresh hun hw).add hv, fresh_step hK hg.fresh ho hm⟩
  | skip => exact ⟨w, stepA.refl w, hg.lat, hg.known, fresh_step hK (κ := .skip) (v := v) hg.fresh ho (fun h => by cases h)⟩
  | plain u => exact ⟨w, stepA.refl w, hg.lat, hg.known, fresh_step hK (κ := .plain u) (v := v) hg.fresh ho (fun h => by cases h)⟩
theorem ValidA.here {i : Nat} {o : Oper} {κ : Kind} {g : Nat → Value → Prop} {w w1 : World} {v : Value} (h : ValidA K α ρ i o w v κ) (hg : Known K (behind o g v κ) w1) : ValidA K α ρ i o w1 v κ := by
  cases κ with
  | loose => exact ⟨w1, stepA.refl w1, hg _ _ (.inl ⟨rfl, rfl⟩)⟩
  | skip => exact h
  | plain u => exact h
theorem DoesA.marks {i : Nat} {o : Oper} {a : Act} {g : Nat → Value → Prop} {κ : Kind} (h : DoesA P ops K α ρ W0 i o a g κ) : κ = .loose → marked K o = true := by
  rintro rfl; exact h.2.1
theorem DoesA.unique {i : Nat} {o : Oper} {a : Act} {g : Nat → Value → Prop} {κ κ' : Kind} {w : World} (h : DoesA P ops K α ρ W0 i o a g κ) (h' : DoesA P ops K α ρ W0 i o a g κ') (hw : i ≠ α → LatR ρ W0 w) (hg : Known K g w) : κ = κ' := by
  cases κ with
  | skip => cases κ' with
    | skip => rfl
    | plain u => exact absurd (h.1.symm.trans h'.1) (by simp)
    | loose => exact absurd (h.1.symm.trans h'.1) (by simp)
  | plain u => cases κ' with
    | skip => exact absurd (h'.1.symm.trans h.1) (by simp)
    | plain u' =>
      have hin : inA α ρ W0 i w := by unfold inA; rw [if_neg h.2.2.1]; exact hw h.2.2.1
      have h1 := h.2.2.2 w hin (hg.deps o)
      have h2 := h'.2.2.2 w hin (hg.deps o)
      generalize (execOp a.eval o).run P w = r at h1 h2
      cases r with
      | ok n w' =>
        cases n <;> simp only [plainUpon] at h1 h2
        · rw [← h1.2, ← h2.2]
        · rw [h1.2, h2.2]
      | halt x w' => simp only [plainUpon] at h1
    | loose => exact absurd (h.2.1.symm.trans h'.2.1) (by simp)
  | loose => cases κ' with
    | skip => exact absurd (h'.1.symm.trans h.1) (by simp)
    | plain u => exact absurd (h'.2.1.symm.trans h.2.1) (by simp)
    | loose => rfl
theorem DoesA.of_same {i : Nat} {o : Oper} {a a' : Act} {g g' : Nat → Value → Prop} {κ : Kind} (h : DoesA P ops K α ρ W0 i o a g κ) (he : execOp a'.eval o = execOp a.eval o)
    (hw : Region.wanted o (yielded ops a'.tmps) = Region.wanted o (yielded ops a.tmps)) (hd : ∀ w, depsOf K ops o g' w → depsOf K ops o g w) : DoesA P ops K α ρ W0 i o a' g' κ := by
  cases κ with
  | skip => exact ⟨hw.trans h.1, h.2⟩
  | plain u => exact ⟨hw.trans h.1, h.2.1, h.2.2.1, fun w h1 h2 => by rw [he]; exact h.2.2.2 w h1 (hd w h2)⟩
  | loose => exact ⟨hw.trans h.1, h.2.1, fun w h1 h2 => by rw [he]; exact h.2.2 w h1 (hd w h2)⟩
theorem DoesA.some {i : Nat} {o : Oper} {a : Act} {g : Nat → Value → Prop} {κ : Kind} {w : World} (h : DoesA P ops K α ρ W0 i o a g κ) (hw : inA α ρ W0 i w) (hg : Known K g w) : ∃ v, ValidA K α ρ i o w v κ := by
  cases κ with
  | skip => exact ⟨_, rfl⟩
  | plain u => exact ⟨_, rfl⟩
  | loose =>
    have h1 := h.2.2 w hw (hg.deps o)
    generalize (execOp a.eval o).run P w = r at h1
    cases r with
    | ok n w' =>
      cases n <;> simp only [looseUponA] at h1
      · exact ⟨_, w', h1⟩
      · obtain ⟨e, w'', fr, ⟨v, _, hl, hv⟩, _⟩ := h1.2 []
        exact ⟨v, w'', hl, hv⟩
    | halt x w' => simp only [looseUponA] at h1

def sOpA (P : Program) (ops : Array Oper) (K : List (Nat × (Value → World → Prop))) (α : Nat) (ρ : Option Nat) (W0 : World) (i : Nat) (next : Act → (Nat → Value → Prop) → Prop) (a : Act) (g : Nat → Value → Prop) (w : World) : Prop :=
  match ops[i]? with
  | none => False
  | some o => ∃ κ, DoesA P ops K α ρ W0 i o a g κ ∧ ∀ v, ValidA K α ρ i o w v κ → next (a.put o.dst v) (behind o g v κ)
def anyA (P : Program) (md : Region.Mode) (ops : Array Oper) (K : List (Nat × (Value → World → Prop))) (α : Nat) (ρ : Option Nat) (W0 : World) (n gq : Nat) (Q' : Exit → Act → World → Prop) (L : Array Bool → Act → (Nat → Value → Prop) → Prop) : Nat → Array Bool → Act → (Nat → Value → Prop) → Prop
  | 0, listed, a, g => L listed a g
  | f + 1, listed, a, g => (∀ w, premA K ops α ρ W0 listed g w → Region.ready md ops listed ≠ [] ∧ ∀ i ∈ Region.ready md ops listed, i < n → sOpA P ops K α ρ W0 i (anyA P md ops K α ρ W0 n gq Q' L f (listed.setIfInBounds i true)) a g w) ∧
      (∀ w, invA K ops α ρ W0 listed g w → ∀ j ∈ Region.ready md ops listed, n ≤ j → wpAny P md ops Q' (f + 1 + gq) listed a w)

theorem wpOp_of_sOpA (hK : keepsA K ops α ρ) {i : Nat} {listed : Array Bool} {a : Act} {g : Nat → Value → Prop} {next : Act → (Nat → Value → Prop) → Prop} {K' : Act → World → Prop} {Q' : Exit → Act → World → Prop} {w : World} (hg : invA K ops α ρ W0 listed g w) (hun : listed.getD i true = false)
    (h : ∀ a g w', invA K ops α ρ W0 (listed.setIfInBounds i true) g w' → next a g → K' a w') (hh : sOpA P ops K α ρ W0 i next a g w) : wpOp P ops Q' i K' a w := by
  unfold sOpA at hh
  unfold wpOp
  split
  · rename_i ho; simp only [ho] at hh
  · rename_i o ho
    simp only [ho] at hh
    obtain ⟨κ, hd, hn⟩ := hh
    have hin := hg.cls.inA hun
    cases κ with
    | skip =>
      rw [hd.1]
      exact h _ _ _ (hg.step hK ho hun (fun h => by cases h) (stepA.refl w) (fun h => by cases h)) (hn _ rfl)
    | plain u =>
      rw [if_pos hd.1]
      refine .inl ?_
      have h1 := hd.2.2.2 w hin (hg.known.deps o)
      have h2 := h _ _ _ (hg.step hK ho hun (κ := .plain u) (v := u) (fun h => by cases h) (stepA.refl w) (fun h => by cases h)) (hn _ rfl)
      unfold Oper.wp
      generalize (execOp a.eval o).run P w = r at h1
      cases r with
      | ok n w' =>
        cases n <;> simp only [plainUpon] at h1 <;> simp only [Oper.upon]
        · obtain ⟨rfl, rfl⟩ := h1; exact h2
        · obtain ⟨rfl, rfl⟩ := h1; exact h2
      | halt x w' => simp only [plainUpon] at h1
    | loose =>
      rw [if_pos hd.1]
      refine .inl ?_
      have h1 := hd.2.2 w hin (hg.known.deps o)
      unfold Oper.wp
      generalize (execOp a.eval o).run P w = r at h1
      cases r with
      | ok n w' =>
        cases n <;> simp only [looseUponA] at h1 <;> simp only [Oper.upon]
        · exact h _ _ _ (hg.step hK ho hun (κ := .loose) hd.marks h1.1 (fun _ => h1.2)) (hn _ ⟨_, h1⟩)
        · obtain ⟨rfl, h1⟩ := h1
          refine Calls.mono h1 ?_
          rintro e w'' ⟨v, rfl, hl, hv⟩
          exact h _ _ _ (hg.step hK ho hun (κ := .loose) hd.marks hl (fun _ => hv)) (hn _ ⟨_, hl, hv⟩)
      | halt x w' => simp only [looseUponA] at h1

theorem wpAny_of_anyA (hK : keepsA K ops α ρ) {n gq : Nat} {L : Array Bool → Act → (Nat → Value → Prop) → Prop} {Q' : Exit → Act → World → Prop} (hL : ∀ listed a g w, invA K ops α ρ W0 listed g w → L listed a g → wpAny P md ops Q' gq listed a w) :
    ∀ (f : Nat) (listed : Array Bool) (a : Act) (g : Nat → Value → Prop) (w : World), invA K ops α ρ W0 listed g w → anyA P md ops K α ρ W0 n gq Q' L f listed a g → wpAny P md ops Q' (f + gq) listed a w
  | 0, listed, a, g, w, hg, h => by rw [Nat.zero_add]; exact hL _ _ _ _ hg h
  | f + 1, listed, a, g, w, hg, h => by
    obtain ⟨h1, h2⟩ := h.1 w hg.prem
    have h3 := h.2 w hg
    by_cases ht : ∃ j ∈ Region.ready md ops listed, n ≤ j
    · obtain ⟨j, hj, hjn⟩ := ht
      exact h3 j hj hjn
    · rw [show f + 1 + gq = (f + gq) + 1 by omega]
      exact ⟨fun h0 => absurd h0 h1, fun i hi => wpOp_of_sOpA hK hg (mem_ready.1 hi).1 (fun a' g' w' hg' h' => wpAny_of_anyA hK hL f _ a' g' w' hg' h') (h2 i hi (Nat.lt_of_not_le fun hle => ht ⟨i, hi, hle⟩))⟩

theorem DoesA.yields {i : Nat} {o : Oper} {a : Act} {g : Nat → Value → Prop} {κ : Kind} {w : World} (h : DoesA P ops K α ρ W0 i o a g κ) (hw : inA α ρ W0 i w) (hg : Known K g w) (hf : freeB o = true) (hm : marked K o = false) :
    ∃ v, ValidA K α ρ i o w v κ ∧ Yields P ops o v a ∧ behind o g v κ = g ∧ i ≠ α ∧ κ ≠ .loose := by
  cases κ with
  | skip => exact ⟨undef, rfl, .inr ⟨h.1, rfl⟩, rfl, h.2, by simp⟩
  | plain u => exact ⟨u, rfl, .inl ⟨h.1, free_run hf (h.2.2.2 w hw (hg.deps o))⟩, rfl, h.2.2.1, by simp⟩
  | loose => exact absurd (h.2.1.symm.trans hm) (by simp)

theorem anyA_first (hK : keepsA K ops α ρ) {n i gq : Nat} {oi : Oper} {κ : Kind} {L : Array Bool → Act → (Nat → Value → Prop) → Prop} {Q' : Exit → Act → World → Prop} (hL : ∀ listed a g w, invA K ops α ρ W0 listed g w → L listed a g → wpAny P md ops Q' gq listed a w)
    (hQ : ∀ c a d v w, Q' (.panic c) (Act.put a d v) w → Q' (.panic c) a w) (hi : ops[i]? = some oi) (hsel : ∀ (j : Nat) (o : Oper) cs b, ops[j]? = some o → o.op ≠ .select cs b) (hin : i < n)
    (hwait : (∀ listed : Array Bool, HeadInv md ops n listed → listed.getD i true = false → ∀ j ∈ Region.ready md ops listed, j < n) ∨ (freeB oi = true ∧ marked K oi = false))
    (hsome : ∀ listed a g w, premA K ops α ρ W0 listed g w → listed.getD i true = false → DoesA P ops K α ρ W0 i oi a g κ → ∃ v, ValidA K α ρ i oi w v κ)
    (hdone : ∀ listed a g, L listed a g → ∀ j ∈ Region.ready md ops listed, n ≤ j) (f : Nat) :
    ∀ (listed : Array Bool) (a : Act) (g : Nat → Value → Prop), HeadInv md ops n listed →
      (∀ j oj, ops[j]? = some oj → j ≠ i → listed.getD j true = false → (∀ e ∈ oj.after, Region.binds md e = true → e.on ≠ i) → oi.apart ops oj = true) →
      i ∈ Region.ready md ops listed → DoesA P ops K α ρ W0 i oi a g κ →
      (∀ w, premA K ops α ρ W0 listed g w → ∀ v, ValidA K α ρ i oi w v κ → anyA P md ops K α ρ W0 n gq Q' L f (listed.setIfInBounds i true) (a.put oi.dst v) (behind oi g v κ)) → anyA P md ops K α ρ W0 n gq Q' L (f + 1) listed a g := by
  have third : ∀ (f : Nat) (listed : Array Bool) (a : Act) (g : Nat → Value → Prop) (w : World), invA K ops α ρ W0 listed g w → HeadInv md ops n listed →
      (∀ j oj, ops[j]? = some oj → j ≠ i → listed.getD j true = false → (∀ e ∈ oj.after, Region.binds md e = true → e.on ≠ i) → oi.apart ops oj = true) →
      i ∈ Region.ready md ops listed → DoesA P ops K α ρ W0 i oi a g κ →
      (∀ w, premA K ops α ρ W0 listed g w → ∀ v, ValidA K α ρ i oi w v κ → anyA P md ops K α ρ W0 n gq Q' L f (listed.setIfInBounds i true) (a.put oi.dst v) (behind oi g v κ)) →
      ∀ j ∈ Region.ready md ops listed, n ≤ j → wpAny P md ops Q' (f + 1 + gq) listed a w := by
    intro f listed a g w hg inv hfree hr hy H j hj hjn
    have hun := (mem_ready.1 hr).1
    rcases hwait with hwait | ⟨hf, hm⟩
    · have := hwait listed inv hun j hj
      omega
    · obtain ⟨v, hv, hyv, hb, hia, hκ⟩ := hy.yields (hg.cls.inA hun) hg.known hf hm
      have h1 := H w hg.prem v hv
      have h2 := hg.step hK hi hun (κ := κ) (v := v) hy.marks (stepA.refl w) (fun h => absurd h hκ)
      rw [show f + 1 + gq = (f + gq) + 1 by omega]
      exact wpAny_first hi hsel (fun c a w h => hQ c a _ _ w h) (f + gq) listed a w hfree hr hyv (wpAny_of_anyA hK hL f _ _ _ _ h2 h1)
  induction f with
  | zero =>
    intro listed a g inv hfree hr hy H
    refine ⟨fun w hg => ?_, fun w hg => third 0 listed a g w hg inv hfree hr hy H⟩
    have hun := (mem_ready.1 hr).1
    refine ⟨fun h => (by rw [h] at hr; cases hr), fun j hj hjn => ?_⟩
    by_cases hji : j = i
    · subst hji
      unfold sOpA
      simp only [hi]
      exact ⟨κ, hy, fun v hv => H w hg v hv⟩
    · obtain ⟨v, hv⟩ := hsome listed a g w hg hun hy
      have := hdone _ _ _ (H w hg v hv) j (ready_mono hj hji)
      omega
  | succ f ih =>
    intro listed a g inv hfree hr hy H
    refine ⟨fun w hg => ?_, fun w hg => third (f + 1) listed a g w hg inv hfree hr hy H⟩
    have hun := (mem_ready.1 hr).1
    refine ⟨fun h => (by rw [h] at hr; cases hr), fun j hj hjn => ?_⟩
    by_cases hji : j = i
    · subst hji
      unfold sOpA
      simp only [hi]
      exact ⟨κ, hy, fun v hv => H w hg v hv⟩
    · obtain ⟨hjun, oj, hoj, hall⟩ := mem_ready.1 hj
      have hnot : ∀ e ∈ oj.after, Region.binds md e = true → e.on ≠ i := fun e he hb heq => by
        have h1 := hall e he hb
        rw [heq, getD_both hun] at h1
        cases h1
      obtain ⟨a1, a2, a3⟩ := Oper.apart_spec (hfree j oj hoj hji hjun hnot)
      have hfree' : ∀ k ok, ops[k]? = some ok → k ≠ i → (listed.setIfInBounds j true).getD k true = false →
          (∀ e ∈ ok.after, Region.binds md e = true → e.on ≠ i) → oi.apart ops ok = true := fun k ok hk hki hun' hno => by
        refine hfree k ok hk hki ?_ hno
        by_cases hjk : j = k
        · subst hjk; exact hjun
        · rw [getD_set_ne true hjk] at hun'; exact hun'
      have back : ∀ v κj, DoesA P ops K α ρ W0 j oj (a.put oi.dst v) (behind oi g v κ) κj → DoesA P ops K α ρ W0 j oj a g κj := fun v κj hd =>
        hd.of_same (execOp_put oj (fun cs b => hsel j oj cs b hoj) a oi.dst v a1).symm (wanted_put oj a oi.dst v a1).symm (fun w h => (deps_behind a1 hy.marks).2 h)
      have at1 : ∀ w1, premA K ops α ρ W0 listed g w1 → ∀ v, ValidA K α ρ i oi w1 v κ → ∃ w2, premA K ops α ρ W0 (listed.setIfInBounds i true) (behind oi g v κ) w2 ∧ stepA α ρ i w1 w2 ∧ ∃ κj, DoesA P ops K α ρ W0 j oj a g κj ∧ ∀ u, ValidA K α ρ j oj w2 u κj →
          anyA P md ops K α ρ W0 n gq Q' L f ((listed.setIfInBounds i true).setIfInBounds j true) ((a.put oi.dst v).put oj.dst u) (behind oj (behind oi g v κ) u κj) := fun w1 hg1 v hv => by
        obtain ⟨w2, hs2, hg2⟩ := hv.reach hK hg1 hi hun hy.marks
        have h2 := ((H w1 hg1 v hv).1 w2 hg2).2 j (ready_mono hj hji) hjn
        unfold sOpA at h2
        simp only [hoj] at h2
        obtain ⟨κj, hd, hn⟩ := h2
        exact ⟨w2, hg2, hs2, κj, back v κj hd, hn⟩
      obtain ⟨v0, hv0⟩ := hsome listed a g w hg hun hy
      obtain ⟨_, _, _, κj, hdj, _⟩ := at1 w hg v0 hv0
      unfold sOpA
      simp only [hoj]
      refine ⟨κj, hdj, fun u hu => ?_⟩
      refine ih (listed.setIfInBounds j true) (a.put oj.dst u) (behind oj g u κj) (inv.set hj hjn) hfree' (ready_mono hr (Ne.symm hji)) ?_ ?_
      · exact hy.of_same (execOp_put oi (fun cs b => hsel i oi cs b hi) a oj.dst u a3) (wanted_put oi a oj.dst u a3) (fun w h => (deps_behind a3 hdj.marks).1 h)
      · intro w1 hg1 v hv
        have hk1 : Known K g w1 := hg1.known.less
        have hfr : freshA ops α listed g := hg.fresh
        have hg1' : premA K ops α ρ W0 listed g w1 := ⟨hg1.lat, hk1, hfr⟩
        obtain ⟨w2, hg2, hs2, κj', hdj', hn⟩ := at1 w1 hg1' v hv
        have hκ : κj' = κj := hdj'.unique hdj (fun _ => hg1.lat) hk1
        subst hκ
        have hu2 : ValidA K α ρ j oj w2 u κj' := by
          cases hκ' : κj' with
          | loose =>
            subst hκ'
            have hat : Know.at (slotOf oj) u w1 K := hg1.known _ _ (.inl ⟨rfl, rfl⟩)
            refine ⟨w2, stepA.refl w2, ?_⟩
            unfold stepA at hs2
            split at hs2
            · rename_i hia
              refine hK.app _ _ _ _ ?_ hat hs2
              exact hK.only j oj hoj (fun h => hji (h.trans hia.symm)) (hdj.marks rfl)
            · exact hK.late _ _ _ _ hat hs2
          | skip => subst hκ'; exact hu
          | plain u' => subst hκ'; exact hu
        have := hn u hu2
        rw [Array.setIfInBounds_comm _ _ hji, ← Act.put_comm a v u a2, behind_comm]
        exact this

/-- The walk in the order of the text, from operation number k on. -/
def wpLooseA (P : Program) (ops : Array Oper) (K : List (Nat × (Value → World → Prop))) (α : Nat) (ρ : Option Nat) (W0 : World) (Q : Act → (Nat → Value → Prop) → Prop) : Nat → List Oper → Act → (Nat → Value → Prop) → Prop
  | _, [], a, g => Q a g
  | k, o :: rest, a, g => ∃ κ, DoesA P ops K α ρ W0 k o a g κ ∧ ∀ v w, LatR ρ W0 w → Known K g w → ValidA K α ρ k o w v κ → wpLooseA P ops K α ρ W0 Q (k + 1) rest (a.put o.dst v) (behind o g v κ)

theorem anyA_lex (hK : keepsA K ops α ρ) {n gq : Nat} {Lq : Act → (Nat → Value → Prop) → Prop} {Q' : Exit → Act → World → Prop} (hL : ∀ listed a g w, invA K ops α ρ W0 listed g w → (Region.seqB md ops gq n listed = true ∧ Lq a g) → wpAny P md ops Q' gq listed a w)
    (hQ : ∀ c a d v w, Q' (.panic c) (Act.put a d v) w → Q' (.panic c) a w) (hsel : Region.noSelect ops = true)
    (happ : ∀ w, LatR ρ W0 w → ∃ v w', LatR ρ w w' ∧ Know.at (tauA ops α) v w' K)
    (hwait : ∀ i o, i < n → ops[i]? = some o → (∀ listed : Array Bool, HeadInv md ops n listed → listed.getD i true = false → ∀ j ∈ Region.ready md ops listed, j < n) ∨ (freeB o = true ∧ marked K o = false)) :
    ∀ (l : List Oper) (k : Nat) (listed : Array Bool) (a : Act) (g : Nat → Value → Prop), (∀ j, j < l.length → l[j]? = ops[k + j]?) → k + l.length = n → HeadInv md ops n listed →
    Region.lexHead md ops gq l.length k listed = true → wpLooseA P ops K α ρ W0 Lq k l a g →
    anyA P md ops K α ρ W0 n gq Q' (fun listed' a' g' => Region.seqB md ops gq n listed' = true ∧ Lq a' g') l.length listed a g
  | [], k, listed, a, g, _, hk, _, hB, h => by
    have : k = n := by simpa using hk
    subst this
    exact ⟨by simpa [Region.lexHead] using hB, h⟩
  | o :: l, k, listed, a, g, hl, hk, inv, hB, h => by
    have h0 : ops[k]? = some o := by simpa using (hl 0 (by simp)).symm
    simp only [List.length_cons, Region.lexHead, Bool.and_eq_true] at hB
    obtain ⟨⟨hr, hf⟩, hB'⟩ := hB
    have hkn : k < n := by simp only [List.length_cons] at hk; omega
    have hr' : k ∈ Region.ready md ops listed := by simpa using hr
    obtain ⟨κ, hd, hn⟩ := h
    refine anyA_first hK hL hQ h0 (Region.noSelect_spec hsel) hkn (hwait k o hkn h0) (fun listed a g w hg hun hy => ?_) (fun listed' a' g' hL => seqB_ready hL.1) l.length listed a g inv (Region.free_spec h0 hf) hr' hd ?_
    · by_cases hka : k = α
      · subst hka
        cases κ with
        | skip => exact absurd rfl hy.2
        | plain u => exact absurd rfl hy.2.2.1
        | loose =>
          obtain ⟨v, w', h1, h2⟩ := happ w hg.lat
          refine ⟨v, w', by unfold stepA; rw [if_pos rfl]; exact h1, ?_⟩
          rw [tauA, h0] at h2
          exact h2
      · exact hy.some (by unfold inA; rw [if_neg hka]; exact hg.lat) hg.known
    · intro w hg v hv
      exact anyA_lex hK hL hQ hsel happ hwait l (k + 1) _ _ _ (fun j hj => by have := hl (j + 1) (by simp; omega); simpa [Nat.add_assoc, Nat.add_comm 1 j] using this) (by simp only [List.length_cons] at hk; omega) (inv.set hr' hkn) hB' (hn v w hg.lat hg.known hv)

/-- Marks stand at no slot of the append but its own. -/
def onlyB (K : List (Nat × (Value → World → Prop))) (l : List Oper) (α : Nat) (τ : Nat) : Bool := (List.range l.length).all fun i => i == α || match l[i]? with
  | some o => !marked K o || o.dst != some τ
  | none => true
theorem only_of {l : List Oper} {τ : Nat} (h : onlyB K l α τ = true) (hτ : tauA l.toArray α = τ) : ∀ i o, l.toArray[i]? = some o → i ≠ α → marked K o = true → slotOf o ≠ tauA l.toArray α := by
  intro i o ho hi hm
  have hlt : i < l.length := by
    have := (Array.getElem?_eq_some_iff.1 ho).1
    simpa using this
  have h1 := List.all_eq_true.1 h i (List.mem_range.2 hlt)
  have h2 : l[i]? = some o := by simpa using ho
  rw [h2] at h1
  simp only [Bool.or_eq_true, beq_iff_eq, hi, false_or, hm, Bool.not_true, Bool.false_eq_true] at h1
  rw [hτ, slotOf]
  intro he
  unfold marked at hm
  cases hd : o.dst with
  | none => rw [hd] at hm; cases hm
  | some t =>
    rw [hd] at h1 he
    simp at he
    subst he
    simp at h1

/-- A region with one append (operation α, slot τ) and a tail in one forced order. -/
theorem region_append {id : Nat} {Q : Exit → Act → World → Prop} {a : Act} {w : World} {l : List Oper} (K : List (Nat × (Value → World → Prop))) (α τ : Nat) (ρ : Option Nat) (n : Nat) (hK : Know.stable K)
    (hR : ∀ t v w w', t ≠ τ → Know.at t v w K → LatR ρ w w' → Know.at t v w' K) (hτ : tauA l.toArray α = τ) (hon : onlyB K l α τ = true) (happ : ∀ w', LatR ρ w w' → ∃ v w'', LatR ρ w' w'' ∧ Know.at τ v w'' K)
    (hm : P.follows .mixedOrders = true) (hB : floatB .any l.toArray n = true) (hu : unmarkedB K l.toArray = true)
    (h : wpLooseA P l.toArray K α ρ w (fun a' g => ∀ w', LatR ρ w w' → Known K g w' → wpList P l.toArray (NoPanic Q) (l.drop n) a' w') 0 (l.take n) a (fun _ _ => False)) : (Code.region id l.toArray true).wp P Q a w := by
  have hQ : ∀ c a d v w, NoPanic Q (.panic c) (Act.put a d v) w → NoPanic Q (.panic c) a w := fun _ _ _ _ _ h => h
  refine wp_region_noPanic ?_
  have hK2 : keepsA K l.toArray α ρ := ⟨hK, fun t v w w' ht => hR t v w w' (by rwa [hτ] at ht), only_of hon hτ⟩
  simp only [floatB, Bool.and_eq_true, decide_eq_true_eq] at hB
  obtain ⟨⟨⟨⟨hsel, hn⟩, hs⟩, hc⟩, hlex⟩ := hB
  have hn' : n < l.length := by simpa using hn
  have htl : (l.take n).length = n := by simp; omega
  have hdl : (l.drop n).length = l.toArray.size - n := by simp
  have inv0 : HeadInv .any l.toArray n (Array.replicate l.toArray.size false) :=
    ⟨by simp, fun j oj _ hl => (by rw [getD_replicate_false] at hl; cases hl), fun t _ ht => getD_in (by simpa using ht) (getD_replicate_false _ _)⟩
  have hL : ∀ (listed : Array Bool) (a' : Act) (g' : Nat → Value → Prop) (w' : World), invA K l.toArray α ρ w listed g' w' → (Region.seqB .any l.toArray (l.toArray.size - n) n listed = true ∧ ∀ w', LatR ρ w w' → Known K g' w' → wpList P l.toArray (NoPanic Q) (l.drop n) a' w') →
      wpAny P .any l.toArray (NoPanic Q) (l.toArray.size - n) listed a' w' := fun listed a' g' w' hg' hL => by
    have hl1 : Region.seqB .any l.toArray (l.drop n).length n listed = true := by rw [hdl]; exact hL.1
    have hl2 := wpAny_of_seq (md := .any) (Q' := NoPanic Q) (l.drop n) n listed a' w' (fun j => by simp) hl1 (hL.2 w' hg'.cls.1 hg'.known)
    rwa [hdl] at hl2
  have H := anyA_lex (md := .any) (gq := l.toArray.size - n) (Lq := fun a' g => ∀ w', LatR ρ w w' → Known K g w' → wpList P l.toArray (NoPanic Q) (l.drop n) a' w') hK2 hL hQ hsel (by rw [hτ]; exact happ) (fun i o hi ho => by
    cases hf : freeB o with
    | true =>
      refine .inr ⟨rfl, ?_⟩
      have := List.all_eq_true.1 hu o (by simpa using Array.mem_of_getElem? ho)
      simpa [hf] using this
    | false => exact .inl fun listed inv hun j hj => Nat.lt_of_not_le fun h => tail_waitsF hs hc hn inv _ i rfl hi (by rw [freeAt, ho]; exact hf) hun j h hj) (l.take n) 0 _ a _ (fun j hj => by
    have hj' : j < n := by rw [htl] at hj; exact hj
    simp [hj']) (by simpa using htl) inv0 (by rw [htl]; exact hlex) h
  refine wp_region_any hm ?_
  have hdr : Lat w { w with drawn := w.drawn + 1 } := (Below.refl _ _).drew
  have G := wpAny_of_anyA (Q' := NoPanic Q) (gq := l.toArray.size - n) hK2 hL _ _ _ _ _ (⟨⟨hdr.toR ρ, fun _ => hdr⟩, fun _ _ h => h.elim, fun _ _ h => h⟩ : invA K l.toArray α ρ w (Array.replicate l.toArray.size false) (fun _ _ => False) { w with drawn := w.drawn + 1 }) H
  rw [htl, show n + (l.toArray.size - n) = l.toArray.size by omega] at G
  exact G

/-! ### Steps -/
section
variable {a : Act} {g : Nat → Value → Prop} {o : Oper} {rest : List Oper} {Q : Act → (Nat → Value → Prop) → Prop} {k : Nat}
theorem appA_nil (h : Q a g) : wpLooseA P ops K α ρ W0 Q k [] a g := h
theorem appA_skip (hk : k ≠ α) (hw : Region.wanted o (yielded ops a.tmps) = false) (h : wpLooseA P ops K α ρ W0 Q (k + 1) rest (a.put o.dst undef) g) : wpLooseA P ops K α ρ W0 Q k (o :: rest) a g :=
  ⟨.skip, ⟨hw, hk⟩, fun v w _ _ hv => by cases (show v = undef from hv); exact h⟩
theorem appA_plain (hk : k ≠ α) (hw : Region.wanted o (yielded ops a.tmps) = true) (hm : marked K o = false) (hp : plainB o = true)
    (h : ∀ Kc : Act → Prop, (∀ a', wpLooseA P ops K α ρ W0 Q (k + 1) rest a' g → Kc a') → o.quiet P a (fun w' => ∃ p : LaterR ρ W0, w' = p.val) Kc) : wpLooseA P ops K α ρ W0 Q k (o :: rest) a g := by
  obtain ⟨v, hq, hn⟩ := h _ (fun _ h => h)
  refine ⟨.plain v, ⟨hw, hm, hk, fun w hl _ => ?_⟩, fun u w _ _ hu => by cases (show u = v from hu); exact hn⟩
  unfold inA at hl
  rw [if_neg hk] at hl
  have h1 := hq w ⟨⟨w, hl⟩, rfl⟩
  unfold Oper.quietAt at h1
  have h2 := fun f args w' => plain_run (P := P) (ρ := a.eval) (w := w) (f := f) (args := args) (w' := w') hp
  generalize (execOp a.eval o).run P w = r at h1 h2
  cases r with
  | ok n w' =>
    cases n <;> simp only [Oper.quietUpon] at h1
    · exact h1
    · exact h1
    · exact absurd rfl (h2 _ _ _)
  | halt x w' => exact h1
theorem appA_call (t : Nat) {f : FuncId} {args : Array Value} (hk : k ≠ α) (hr : ∀ w : World, (execOp a.eval o).run P w = .ok (.enter f args) w) (hw : Region.wanted o (yielded ops a.tmps) = true) (hd : o.dst = some t) (hm : Know.has t K = true)
    (hc : ∀ w, LatR ρ W0 w → depsOf K ops o g w → Calls P f args w fun e w' => ∃ v, e = .returned v ∧ Below w.heap.size w w' ∧ Know.at t v w' K)
    (h : ∀ v w, LatR ρ W0 w → Know.at t v w K → wpLooseA P ops K α ρ W0 Q (k + 1) rest (a.put (some t) v) (gadd g t v)) : wpLooseA P ops K α ρ W0 Q k (o :: rest) a g := by
  have hs : slotOf o = t := by rw [slotOf, hd]; rfl
  refine ⟨.loose, ⟨hw, marked_of hd hm, fun w hl hdp => ?_⟩, fun u w hl _ hu => ?_⟩
  · unfold inA at hl
    rw [if_neg hk] at hl
    rw [hr w]
    refine ⟨rfl, (hc w hl hdp).mono fun e w' ⟨v, he, hb, hv⟩ => ⟨v, he, ?_, by rw [hs]; exact hv⟩⟩
    unfold stepA; rw [if_neg hk]; exact hb
  · obtain ⟨w', hl', hu⟩ := hu
    rw [hs] at hu
    show wpLooseA P ops K α ρ W0 Q (k + 1) rest (a.put o.dst u) (gadd g (slotOf o) u)
    rw [hd, hs]
    exact h u w' (hl.trans hl'.toR) hu
theorem appA_fix (t : Nat) (v : Value) {f : FuncId} {args : Array Value} (hk : k ≠ α) (hr : ∀ w : World, (execOp a.eval o).run P w = .ok (.enter f args) w) (hw : Region.wanted o (yielded ops a.tmps) = true) (hd : o.dst = some t) (hm : Know.has t K = true)
    (hat : ∀ u w, Know.at t u w K ↔ u = v) (hc : ∀ w, LatR ρ W0 w → depsOf K ops o g w → Calls P f args w fun e w' => e = .returned v ∧ Below w.heap.size w w')
    (h : wpLooseA P ops K α ρ W0 Q (k + 1) rest (a.put (some t) v) (gadd g t v)) : wpLooseA P ops K α ρ W0 Q k (o :: rest) a g :=
  appA_call t hk hr hw hd hm (fun w hl hdp => (hc w hl hdp).mono fun e w' ⟨he, hb⟩ => ⟨v, he, hb, (hat _ _).2 rfl⟩) fun u w _ hu => by have := (hat _ _).1 hu; subst this; exact h
theorem appA_make (t : Nat) {V : World → Value} {W : World → World} (hk : k ≠ α) (hr : ∀ w : World, (execOp a.eval o).run P w = .ok (.value (V w)) (W w)) (hw : Region.wanted o (yielded ops a.tmps) = true) (hd : o.dst = some t) (hm : Know.has t K = true)
    (hv : ∀ w, LatR ρ W0 w → depsOf K ops o g w → Below w.heap.size w (W w) ∧ Know.at t (V w) (W w) K)
    (h : ∀ v w, LatR ρ W0 w → Know.at t v w K → wpLooseA P ops K α ρ W0 Q (k + 1) rest (a.put (some t) v) (gadd g t v)) : wpLooseA P ops K α ρ W0 Q k (o :: rest) a g := by
  have hs : slotOf o = t := by rw [slotOf, hd]; rfl
  refine ⟨.loose, ⟨hw, marked_of hd hm, fun w hl hdp => ?_⟩, fun u w hl _ hu => ?_⟩
  · unfold inA at hl
    rw [if_neg hk] at hl
    rw [hr w]
    obtain ⟨h1, h2⟩ := hv w hl hdp
    refine ⟨?_, by rw [hs]; exact h2⟩
    unfold stepA; rw [if_neg hk]; exact h1
  · obtain ⟨w', hl', hu⟩ := hu
    rw [hs] at hu
    show wpLooseA P ops K α ρ W0 Q (k + 1) rest (a.put o.dst u) (gadd g (slotOf o) u)
    rw [hd, hs]
    exact h u w' (hl.trans hl'.toR) hu
/-- The append itself: one element of one cell, out of a slice that was built in the region. -/
theorem appA_one (t : Nat) {B : Nat} {e ty : TypeId} {z : Value} {bytes : Nat} {v y : Value} {xs : List Value} {ad : Addr} (ht : P.underlying ty = some (.slice e)) (hinfo : (P.info? e).map (fun i => (i.zero, i.size, i.bytes)) = some (some z, 1, bytes)) (hz : z.cells.size = 1)
    (HO : Row W0 B e 1 v xs.length xs) (hρ : v.ownBlock = ρ) (h1 : y.oneCell' = true) (hb0 : 0 < bytes) (hl : (xs.length + 1) * bytes ≤ 140737488355328) (hB : B ≤ W0.heap.size)
    (hk : k = α) (hgd : o.guard = none) (s x : Operand) (ho : o.op = .call { callee := .builtin .append, args := #[s, x], argTypes := #[ty, ty] }) (hs : a.eval s = v) (hx : a.eval x = .slice (some ad) 1 1)
    (hy : ∀ w, Lat W0 w → depsOf K ops o g w → w.cell? ad = some y)
    (hw : Region.wanted o (yielded ops a.tmps) = true) (hd : o.dst = some t) (hm : Know.has t K = true) (hat : ∀ u w, Row w B e 1 u (xs.length + 1) (xs ++ [y]) → (∀ b, u.ownBlock = some b → v.ownBlock = some b ∨ W0.heap.size ≤ b) → Know.at t u w K)
    (h : ∀ v w, LatR ρ W0 w → Know.at t v w K → wpLooseA P ops K α ρ W0 Q (k + 1) rest (a.put (some t) v) (gadd g t v)) : wpLooseA P ops K α ρ W0 Q k (o :: rest) a g := by
  have hsl : slotOf o = t := by rw [slotOf, hd]; rfl
  obtain ⟨i, hi, hz3⟩ := Option.map_eq_some_iff.1 hinfo
  simp only [Prod.mk.injEq] at hz3
  obtain ⟨hz0, hz1, hz2⟩ := hz3
  refine ⟨.loose, ⟨hw, marked_of hd hm, fun w hlw hdp => ?_⟩, fun u w hl _ hu => ?_⟩
  · unfold inA at hlw
    rw [if_pos hk] at hlw
    have hcell : ∀ j u, [y][j]? = some u → w.cell? (ad.add j) = some u := by
      intro j u hj
      cases j with
      | zero =>
        simp only [List.getElem?_cons_zero, Option.some.injEq] at hj
        subst hj
        rw [show ad.add 0 = ad by unfold Addr.add; rfl]
        exact hy w hlw hdp
      | succ j => simp at hj
    have hl1 : xs.length + 1 ≤ 140737488355328 := Nat.le_trans (Nat.le_mul_of_pos_right _ hb0) hl
    obtain ⟨v', w', hr, hrow, hg, hwh⟩ := run_append_rowW (P := P) w B ty ty o.type e (.slice e) ht ht rfl i z 1 bytes hi hz0 hz1 hz2 hz (by omega) v xs.length xs (HO.below hlw) (.slice (some ad) 1 1) 1 [y]
      rfl (fun w => by simp [Builtin.lenOf]) (run_firstCells_some (P := P) w 1 1 ad 1 1 [y] rfl hcell) (run_firstCells_some (P := P) w.drew 1 1 ad 1 1 [y] rfl hcell) (by simpa using h1) (by simp only [maxLen]; omega) hl (Nat.le_trans hB hlw.size)
    unfold execOp
    simp only [ho, resolve, invoke, builtin, Sem.run_bind, Sem.run_pure, Result.andThen_ok, List.map_toArray, List.map_cons, List.map_nil, hs, hx, hr]
    refine ⟨?_, by
      rw [hsl]
      refine hat v' w' hrow fun b hb => ?_
      rcases hwh with hwh | hwh
      · exact .inl (hwh ▸ hb)
      · rw [hwh] at hb
        injection hb with hb
        have := hlw.size
        omega⟩
    unfold stepA; rw [if_pos hk, ← hρ]; exact hg
  · obtain ⟨w', hl', hu⟩ := hu
    rw [hsl] at hu
    show wpLooseA P ops K α ρ W0 Q (k + 1) rest (a.put o.dst u) (gadd g (slotOf o) u)
    rw [hd, hsl]
    exact h u w' (hl.trans hl'.toR) hu
/-- Some row of the form that the append leaves: there is one behind any world. -/
theorem some_row {B : Nat} {e : TypeId} {xs : List Value} (w : World) (hB : B ≤ w.heap.size) (hl : xs.length ≤ maxLen) : ∃ v w', LatR ρ w w' ∧ Row w' B e 1 v xs.length xs ∧ v.ownBlock = some w.heap.size :=
  ⟨_, _, (show Lat w (w.alloc (.cells xs.toArray e)) from (Below.refl _ _).alloc (Nat.le_refl _) _).toR ρ, row_low (Row.of_blk (Blk.new w e xs) xs.length rfl hl) hB, rfl⟩
end
end
end Go.Proofs.YtbpenkaficiodaaGreat

/- A drawn region that appends one element to an owned row. -/
namespace Go.Proofs.YtbpenkaficiodaaGreat
open Go.RowKit Go.BigFrame
section
variable {P : Program} {N B : Nat} {e : TypeId} {v y : Value} {xs : List Value} {σ τ : Nat}
/-- What is known in a region that appends y to the row v: the slice of one, and the new row. -/
def oneK (N B : Nat) (e : TypeId) (v y : Value) (xs : List Value) (σ τ : Nat) : List (Nat × (Value → World → Prop)) :=
  [(σ, fun u wx => ∃ b, u = .slice (some ⟨b, 0, none⟩) 1 1 ∧ N ≤ b ∧ Blk wx b e [y]), (τ, fun u wx => Row wx B e 1 u (xs.length + 1) (xs ++ [y]) ∧ ∀ b, u.ownBlock = some b → v.ownBlock = some b ∨ N ≤ b)]
theorem oneK_stable : Know.stable (oneK N B e v y xs σ τ) :=
  Know.stable_cons (fun _ _ _ h hl => let ⟨b, h0, h1, h2⟩ := h; ⟨b, h0, h1, h2.below hl h2.lt⟩) (Know.stable_cons (fun _ _ _ h hl => ⟨h.1.below hl, h.2⟩) Know.stable_nil)
theorem oneK_R (hN : ∀ b, v.ownBlock = some b → b < N) : ∀ t u w w', t ≠ τ → Know.at t u w (oneK N B e v y xs σ τ) → LatR v.ownBlock w w' → Know.at t u w' (oneK N B e v y xs σ τ) := by
  intro t u w w' ht ha hl
  unfold oneK Know.at at *
  split
  · rename_i h1
    simp only [h1, if_true] at ha
    obtain ⟨b, h0, hb, h2⟩ := ha
    refine ⟨b, h0, hb, h2.grown hl fun he => ?_⟩
    have := hN b he.symm
    omega
  · rename_i h1
    unfold Know.at
    rw [if_neg ht]
    unfold Know.at
    trivial
theorem region_one {id : Nat} {Q : Exit → Act → World → Prop} {a : Act} {w : World} {l : List Oper} (σ τ α n : Nat) (hστ : σ ≠ τ) (HO : Row w B e 1 v xs.length xs) (y : Value) (hB0 : B ≤ w.heap.size) (hl : xs.length + 1 ≤ 1000)
    (hτ : tauA l.toArray α = τ) (hon : onlyB (oneK w.heap.size B e v y xs σ τ) l α τ = true) (hm : P.follows .mixedOrders = true) (hB : floatB .any l.toArray n = true) (hu : unmarkedB (oneK w.heap.size B e v y xs σ τ) l.toArray = true)
    (h : wpLooseA P l.toArray (oneK w.heap.size B e v y xs σ τ) α v.ownBlock w (fun a' g => ∀ w', LatR v.ownBlock w w' → Known (oneK w.heap.size B e v y xs σ τ) g w' → wpList P l.toArray (NoPanic Q) (l.drop n) a' w') 0 (l.take n) a (fun _ _ => False)) :
    (Code.region id l.toArray true).wp P Q a w := by
  refine region_append (oneK w.heap.size B e v y xs σ τ) α τ v.ownBlock n oneK_stable (oneK_R fun b hb => (HO.block b hb).2) hτ hon ?_ hm hB hu h
  intro w1 hl1
  obtain ⟨u, w2, h1, h2, h3⟩ := some_row (B := B) (e := e) (xs := xs ++ [y]) (ρ := v.ownBlock) w1 (Nat.le_trans hB0 hl1.size) (by rw [List.length_append]; simp only [List.length_cons, List.length_nil, maxLen]; omega)
  refine ⟨u, w2, h1, ?_⟩
  unfold oneK Know.at
  rw [if_neg hστ.symm]
  unfold Know.at
  rw [if_pos rfl]
  refine ⟨by rw [List.length_append] at h2; exact h2, fun b hb => .inr ?_⟩
  rw [h3] at hb
  injection hb with hb
  have := hl1.size
  omega
end
end Go.Proofs.YtbpenkaficiodaaGreat

/- Is a talk accepted? The program's walk. -/
namespace Go.Proofs.YtbpenkaficiodaaGreat
open Go.RowKit

set_option maxRecDepth 100000 in
set_option maxHeartbeats 4000000 in
theorem accepts_any (P Q G H E : Nat) (R : Value) (A : Option Addr) (capT : Nat) (T : List Nat) (B : Option Addr) (capB : Nat) (rs : List NumV) (Y : Option Addr) (capY : Nat) (C : List Nat) (X : Option Addr) (capX : Nat) (V : List Nat) (w : World) (hP : P < 18446744073709551616) (hPr : rightB P = true) (hQ : Q < 18446744073709551616) (hQ2 : 2 ≤ Q) (hE : E < 18446744073709551616) (hT : Nums w A capT T) (hR : Grid w B capB rs) (hY : Nums w Y capY C) (hX : Nums w X capX V)
    (hTl : T.length < 9223372036854775807) (hRl : rs.length < 9223372036854775807) (hrl : ∀ r ∈ rs, r.l.length < 9223372036854775807) (hYl : C.length < 9223372036854775807) (hXl : V.length < 9223372036854775807) :
    Calls Tryz.prog 57 #[gval P Q G H R, cval A capT T.length B capB rs.length, .slice Y C.length capY, .int .u64 (E : Int), .slice X V.length capX] w fun e w' => e = .returned (.bool (match imgO P Q T (rs.map (·.l)) V with | none => false | some l => decide (C.length = T.length) && accUpto P Q E l T C T.length)) ∧ Below w.heap.size w w' := by
  have himg := fun W0 hb => image_any P Q G H R A capT T B capB rs X capX V W0 hP hPr hQ hQ2 (hT.below (w1 := W0) hb) (hR.below hb) (hX.below hb) hTl hRl hrl hXl
  unfold gval cval at himg ⊢
  obtain ⟨nT, hnT⟩ : ∃ n, n = T.length := ⟨_, rfl⟩
  obtain ⟨nB, hnB⟩ : ∃ n, n = rs.length := ⟨_, rfl⟩
  obtain ⟨nY, hnY⟩ : ∃ n, n = C.length := ⟨_, rfl⟩
  obtain ⟨nX, hnX⟩ : ∃ n, n = V.length := ⟨_, rfl⟩
  have hb0 : Below w.heap.size w ((w.alloc (.cells #[.int .u64 (P : Int), .int .u64 (Q : Int), .int .u64 (G : Int), .int .u64 (H : Int), R] 25)).alloc (.cells #[.slice A nT capT, .slice B nB capB] 83)) :=
    ((Below.refl _ _).alloc (Nat.le_refl _) _).alloc (by simp) _
  have hg0 : Blk ((w.alloc (.cells #[.int .u64 (P : Int), .int .u64 (Q : Int), .int .u64 (G : Int), .int .u64 (H : Int), R] 25)).alloc (.cells #[.slice A nT capT, .slice B nB capB] 83)) w.heap.size 25 (glist P Q G H R) :=
    (Blk.of w _ _ _ rfl).alloc _
  have hc0 : Blk ((w.alloc (.cells #[.int .u64 (P : Int), .int .u64 (Q : Int), .int .u64 (G : Int), .int .u64 (H : Int), R] 25)).alloc (.cells #[.slice A nT capT, .slice B nB capB] 83)) (w.heap.size + 1) 83 [.slice A nT capT, .slice B nB capB] := by
    have := Blk.of (w.alloc (.cells #[.int .u64 (P : Int), .int .u64 (Q : Int), .int .u64 (G : Int), .int .u64 (H : Int), R] 25)) 83 #[.slice A nT capT, .slice B nB capB] _ rfl
    rwa [show (w.alloc (.cells #[.int .u64 (P : Int), .int .u64 (Q : Int), .int .u64 (G : Int), .int .u64 (H : Int), R] 25)).heap.size = w.heap.size + 1 by simp] at this
  have himg0 := himg _ hb0
  have hT0 := hT.below hb0
  have hY0 := hY.below hb0
  obtain ⟨res, hres⟩ : ∃ s, s = imgO P Q T (rs.map (·.l)) V := ⟨_, rfl⟩
  rw [← hnT, ← hnB, ← hnX, ← hres] at himg0
  rw [← hnT, ← hnB, ← hnX, ← hnY, ← hres]
  have Himg := Lib.hid himg0
  have Hb0 := Lib.hid hb0
  have Hg0 := Lib.hid hg0
  have Hc0 := Lib.hid hc0
  have HT0 := Lib.hid hT0
  have HY0 := Lib.hid hY0
  have HnT := Lib.hid hnT
  have HnY := Lib.hid hnY
  have hYl' : nY < 9223372036854775807 := by omega
  have Hres := Lib.hid hres
  clear himg himg0 hb0 hg0 hc0 hT0 hY0 hT hR hY hX hTl hRl hrl hYl hXl hnT hnB hnY hnX hres
  cases res with
  | none =>
    go_enter Tryz.func57, Tryz.ntmps57
    go_wp2_with (go_at_call 52; refine Himg.out.mono ?_; rintro e w2 ⟨hout, hb2⟩; have he : e = .returned (.tuple #[.slice none 0 0, .bool false]) := hout; clear hout; subst he; have Hb2 := Lib.hid hb2; clear hb2)
    go_ret
    exact ⟨rfl, below_trans Hb0.out Hb2.out⟩
  | some l =>
    obtain ⟨hlb, hlT, hl64⟩ := img_bound Hres.out.symm
    have HlT := Lib.hid hlT
    have HPr := Lib.hid hPr
    have Hlb := Lib.hid hlb
    have hT64 : nT ≤ 64 := by rw [HnT.out, ← hlT]; exact hl64
    clear hlb hlT hl64
    by_cases h1 : nY = nT
    case neg =>
      have d1 : ((nY : Int) != (nT : Int)) = true := by rw [bne_iff_ne]; omega
      rw [show (match some l with | none => false | some l => decide (nY = nT) && accUpto P Q E l T C nT) = false from by simp [h1]]
      clear h1
      go_enter Tryz.func57, Tryz.ntmps57
      go_wp2_with (go_at_call 52; refine Himg.out.mono ?_; rintro e w2 ⟨⟨v, rfl, hrow⟩, hb2⟩; obtain ⟨f0, f1⟩ := two_cells (Hc0.out.below hb2 Hc0.out.lt); obtain ⟨Al, cl, rfl, hN⟩ := nums_of_row hrow Hlb.out; rw [HlT.out, ← HnT.out]; have Hb2 := Lib.hid hb2; clear hb2 hrow hN)
      go_ret
      exact ⟨rfl, below_trans Hb0.out Hb2.out⟩
    subst h1
    obtain ⟨rr, hrr⟩ : ∃ rr, rr = accUpto P Q E l T C nY := ⟨_, rfl⟩
    rw [show (match some l with | none => false | some l => decide (nY = nY) && accUpto P Q E l T C nY) = rr from by simp [hrr]]
    have Hrr := Lib.hid hrr
    clear hrr
    go_enter Tryz.func57, Tryz.ntmps57
    go_wp2_with (go_at_call 52; refine Himg.out.mono ?_; rintro e w2 ⟨⟨v, rfl, hrow⟩, hb2⟩; obtain ⟨f0, f1⟩ := two_cells (Hc0.out.below hb2 Hc0.out.lt); obtain ⟨Al, cl, rfl, hN⟩ := nums_of_row hrow Hlb.out; have HN := Lib.hid hN; rw [HlT.out, ← HnT.out] ; have Hb2 := Lib.hid hb2; clear hb2 hrow hN)
    have HG2 := Lib.hid (Hg0.out.below Hb2.out Hg0.out.lt)
    have HC2 := Lib.hid (Hc0.out.below Hb2.out Hc0.out.lt)
    have HT2 := Lib.hid (HT0.out.below Hb2.out)
    have HY2 := Lib.hid (HY0.out.below Hb2.out)
    have Hb02 := Lib.hid (below_trans Hb0.out Hb2.out)
    have hgl := HG2.out.lt
    have hcl := HC2.out.lt
    clear Hg0 Hc0 HT0 HY0 Hb0 Hb2 Himg f0 f1
    go_loopw [33] (fun iv wr => ∃ j : Nat, iv = .int .i64 (j : Int) ∧ j ≤ nY ∧ accUpto P Q E l T C j = true ∧ Below w2.heap.size w2 wr) (fun iv _ => nY - (intOf iv).toNat)
    case atStart => exact ⟨0, rfl, by omega, by simp [accUpto], Below.refl _ _⟩
    case round =>
      obtain ⟨j, rfl, hj, hacc, hbr⟩ := hrel
      have Hacc := Lib.hid hacc
      have Hbr := Lib.hid hbr
      clear hacc hbr
      by_cases hjl : j < nY
      · have d6 : decide ((j : Int) < (nY : Int)) = true := decide_eq_true (by omega)
        have hji : (j : Int) < (nY : Int) := by omega
        obtain ⟨g0, g1, g2, g3, g4⟩ := gcells (HG2.out.below Hbr.out hgl)
        obtain ⟨f0, f1⟩ := two_cells (HC2.out.below Hbr.out hcl)
        obtain ⟨t, ht⟩ : ∃ t, C[j]? = some t := ⟨_, List.getElem?_eq_getElem (by rw [← HnY.out]; exact hjl)⟩
        obtain ⟨ay, hAy, htc⟩ := HY2.out.cells j t ht
        subst hAy
        have htc := below_cell Hbr.out htc
        have hts := HY2.out.small t (List.mem_of_getElem? ht)
        obtain ⟨c, hc⟩ : ∃ c, T[j]? = some c := ⟨_, List.getElem?_eq_getElem (by rw [← HnT.out]; exact hjl)⟩
        obtain ⟨ac, hAc, hcc⟩ := HT2.out.cells j c hc
        subst hAc
        have hcc := below_cell Hbr.out hcc
        have hcs := HT2.out.small c (List.mem_of_getElem? hc)
        obtain ⟨x, hx⟩ : ∃ x, l[j]? = some x := ⟨_, List.getElem?_eq_getElem (by rw [HlT.out, ← HnT.out]; exact hjl)⟩
        obtain ⟨al, hAl, hxc⟩ := HN.out.cells j x hx
        subst hAl
        have hxc := below_cell Hbr.out hxc
        have hxs := Hlb.out x (List.mem_of_getElem? hx)
        have heb : expG P Q c E < 18446744073709551616 := by have := powM_le c (E % Q) P; show powM _ _ _ < _; omega
        have hcon := fun W => in_any P Q G H t R W hP hQ hts
        have hcon1 := fun W => exp_any P Q G H c E R W hP hQ hQ2 hcs hE
        have hyes := accUpto_next (P := P) (Q := Q) (E := E) hx hc ht Hacc.out
        have hno := accUpto_no (P := P) (Q := Q) (E := E) hjl hx hc ht
        have hat : accAt P Q E x c t = (inG P Q t && decide (x = mulM t (expG P Q c E) P)) := rfl
        obtain ⟨F, hF⟩ : ∃ F, F = expG P Q c E := ⟨_, rfl⟩
        rw [← hF] at hcon1 hat heb
        obtain ⟨M, hM⟩ : ∃ M, M = mulM t F P := ⟨_, rfl⟩
        have hcon2 := fun A c W h => prod_any P Q G H R A c [t, F] W hP (by simp) h
        rw [← hM] at hat
        have Hyes := Lib.hid hyes
        have Hno := Lib.hid hno
        have l0 := Later.cell g0
        have l1 := Later.cell g1
        have l2 := Later.cell g2
        have l3 := Later.cell g3
        have l4 := Later.cell g4
        have l5 := Later.cell f0
        have l6 := Later.cell htc
        have l7 := Later.cell hxc
        have l8 := Later.cell hcc
        have Hcon := Lib.hid hcon
        have Hcon1 := Lib.hid hcon1
        have Hcon2 := Lib.hid hcon2
        have Heb := Lib.hid heb
        have Hts := Lib.hid hts
        clear ht hc hx hF hyes hno heb hcon hcon1 hcon2
        cases hin : inG P Q t with
        | false =>
          have hres : rr = false := by rw [Hrr.out]; exact Hno.out (by rw [hat, hin]; rfl)
          subst hres
          have Hin := Lib.hid hin
          clear hat hin hM
          go_wp2_with fail
          refine region_loose [(40, fun u _ => u = .bool false)] (Know.stable_cons (fun _ _ _ h _ => h) Know.stable_nil) (by kernel_rfl) (by kernel_rfl) ?_
          (repeat (first | (refine loose_skip (by rfl) ?_; simp only [Act.put, List.setIfInBounds_toArray, List.set_cons_zero, List.set_cons_succ]) | (refine loose_plain (by rfl) (by rfl) (by rfl) (fun Kc hKc => ?_); go_big_quiet_op; refine hKc _ ?_; clear hKc Kc)))
          refine loose_fix 40 (.bool false) (f := 77) (args := #[gval P Q G H R, .int .u64 (t : Int)]) (fun w => by go_simp; rfl) (by rfl) (by rfl) (by rfl) (fun _ _ => Iff.rfl) (fun w _ _ => Hin.out ▸ Hcon.out w) ?_
          simp only [Act.put, List.setIfInBounds_toArray, List.set_cons_zero, List.set_cons_succ]
          (repeat (first | (refine loose_skip (by rfl) ?_; simp only [Act.put, List.setIfInBounds_toArray, List.set_cons_zero, List.set_cons_succ]) | (refine loose_plain (by rfl) (by rfl) (by rfl) (fun Kc hKc => ?_); go_big_quiet_op; refine hKc _ ?_; clear hKc Kc)))
          refine loose_nil ?_
          intro wq hbq _
          have Hbq := Lib.hid hbq
          clear hbq l0 l1 l2 l3 l4 l5 l6 l7 l8
          go_wp2_with fail
          go_ret
          exact ⟨rfl, below_trans Hb02.out (below_trans Hbr.out Hbq.out)⟩
        | true =>
          have Hin := Lib.hid hin
          have htP : t < P := by unfold inG at hin; simp at hin; exact hin.1.2
          have hpt : prodG P [t, F] = M := by rw [hM]; exact prod_two HPr.out htP
          have Hpt := Lib.hid hpt
          clear hpt hM
          by_cases hxm : x = M
          · have d7 : ((M : Int) != (x : Int)) = false := by rw [bne_eq_false_iff_eq]; omega
            have hnx := Hyes.out (by rw [hat, hin, hxm]; simp)
            have Hnx := Lib.hid hnx
            clear hat hin hnx hxm
            go_wp2_with fail
            refine region_loose [(40, fun u _ => u = .bool true), (52, fun u _ => u = .int .u64 (F : Int)), (53, fun u w => ∃ A c, u = .slice A 2 c ∧ Nums w A c [t, F]), (54, fun u _ => u = .int .u64 (M : Int))]
              (Know.stable_cons (fun _ _ _ h _ => h) (Know.stable_cons (fun _ _ _ h _ => h) (Know.stable_cons (fun _ _ _ h hl => let ⟨A, c, e, hn⟩ := h; ⟨A, c, e, hn.below hl⟩) (Know.stable_cons (fun _ _ _ h _ => h) Know.stable_nil)))) (by kernel_rfl) (by kernel_rfl) ?_
            (repeat (first | (refine loose_skip (by rfl) ?_; simp only [Act.put, List.setIfInBounds_toArray, List.set_cons_zero, List.set_cons_succ]) | (refine loose_plain (by rfl) (by rfl) (by rfl) (fun Kc hKc => ?_); go_big_quiet_op; refine hKc _ ?_; clear hKc Kc)))
            refine loose_fix 40 (.bool true) (f := 77) (args := #[gval P Q G H R, .int .u64 (t : Int)]) (fun w => by go_simp; rfl) (by rfl) (by rfl) (by rfl) (fun _ _ => Iff.rfl) (fun w _ _ => Hin.out ▸ Hcon.out w) ?_
            simp only [Act.put, List.setIfInBounds_toArray, List.set_cons_zero, List.set_cons_succ]
            (repeat (first | (refine loose_skip (by rfl) ?_; simp only [Act.put, List.setIfInBounds_toArray, List.set_cons_zero, List.set_cons_succ]) | (refine loose_plain (by rfl) (by rfl) (by rfl) (fun Kc hKc => ?_); go_big_quiet_op; refine hKc _ ?_; clear hKc Kc)))
            refine loose_fix 52 (.int .u64 (F : Int)) (f := 102) (args := #[gval P Q G H R, .int .u64 (c : Int), .int .u64 (E : Int)]) (fun w => by go_simp; rfl) (by rfl) (by rfl) (by rfl) (fun _ _ => Iff.rfl) (fun w _ _ => Hcon1.out w) ?_
            simp only [Act.put, List.setIfInBounds_toArray, List.set_cons_zero, List.set_cons_succ]
            refine loose_make 53 (V := fun w => .slice (some ⟨w.heap.size, 0, none⟩) 2 2) (W := fun w => w.alloc (.cells #[.int .u64 (t : Int), .int .u64 (F : Int)] 22)) (fun w => by go_simp) (by rfl) (by rfl) (by rfl) (fun w _ _ => ⟨(Below.refl _ _).alloc (Nat.le_refl _) _, _, _, rfl, nums_two w t F _ Hts.out Heb.out⟩) ?_
            rintro _ wk hlk ⟨As, cs, rfl, _⟩
            simp only [Act.put, List.setIfInBounds_toArray, List.set_cons_zero, List.set_cons_succ]
            (repeat (first | (refine loose_skip (by rfl) ?_; simp only [Act.put, List.setIfInBounds_toArray, List.set_cons_zero, List.set_cons_succ]) | (refine loose_plain (by rfl) (by rfl) (by rfl) (fun Kc hKc => ?_); go_big_quiet_op; refine hKc _ ?_; clear hKc Kc)))
            refine loose_fix 54 (.int .u64 (M : Int)) (f := 104) (args := #[gval P Q G H R, .slice As 2 cs]) (fun w => by go_simp; rfl) (by rfl) (by rfl) (by rfl) (fun _ _ => Iff.rfl) (fun w _ hd => by
              obtain ⟨A', c', he, hn⟩ := hd 53 (by decide) _ (.inl ⟨rfl, rfl⟩)
              injection he with h1 _ h2
              subst h1 h2
              have := Hcon2.out As cs w hn
              rw [Hpt.out] at this
              exact this) ?_
            simp only [Act.put, List.setIfInBounds_toArray, List.set_cons_zero, List.set_cons_succ]
            (repeat (first | (refine loose_skip (by rfl) ?_; simp only [Act.put, List.setIfInBounds_toArray, List.set_cons_zero, List.set_cons_succ]) | (refine loose_plain (by rfl) (by rfl) (by rfl) (fun Kc hKc => ?_); go_big_quiet_op; refine hKc _ ?_; clear hKc Kc)))
            refine loose_nil ?_
            intro wq hbq _
            have Hbq := Lib.hid (show Below wr.heap.size wr wq from hbq)
            clear hbq l0 l1 l2 l3 l4 l5 l6 l7 l8
            go_wp2_with fail
            go_roundw
            case rel => exact ⟨j + 1, by go_num, by omega, Hnx.out, below_trans Hbr.out Hbq.out⟩
            case measure => simp [intOf]; omega
          · have d7 : ((M : Int) != (x : Int)) = true := by rw [bne_iff_ne]; omega
            have hres : rr = false := by rw [Hrr.out]; exact Hno.out (by rw [hat, decide_eq_false hxm]; simp)
            subst hres
            clear hat hin hxm
            go_wp2_with fail
            refine region_loose [(40, fun u _ => u = .bool true), (52, fun u _ => u = .int .u64 (F : Int)), (53, fun u w => ∃ A c, u = .slice A 2 c ∧ Nums w A c [t, F]), (54, fun u _ => u = .int .u64 (M : Int))]
              (Know.stable_cons (fun _ _ _ h _ => h) (Know.stable_cons (fun _ _ _ h _ => h) (Know.stable_cons (fun _ _ _ h hl => let ⟨A, c, e, hn⟩ := h; ⟨A, c, e, hn.below hl⟩) (Know.stable_cons (fun _ _ _ h _ => h) Know.stable_nil)))) (by kernel_rfl) (by kernel_rfl) ?_
            (repeat (first | (refine loose_skip (by rfl) ?_; simp only [Act.put, List.setIfInBounds_toArray, List.set_cons_zero, List.set_cons_succ]) | (refine loose_plain (by rfl) (by rfl) (by rfl) (fun Kc hKc => ?_); go_big_quiet_op; refine hKc _ ?_; clear hKc Kc)))
            refine loose_fix 40 (.bool true) (f := 77) (args := #[gval P Q G H R, .int .u64 (t : Int)]) (fun w => by go_simp; rfl) (by rfl) (by rfl) (by rfl) (fun _ _ => Iff.rfl) (fun w _ _ => Hin.out ▸ Hcon.out w) ?_
            simp only [Act.put, List.setIfInBounds_toArray, List.set_cons_zero, List.set_cons_succ]
            (repeat (first | (refine loose_skip (by rfl) ?_; simp only [Act.put, List.setIfInBounds_toArray, List.set_cons_zero, List.set_cons_succ]) | (refine loose_plain (by rfl) (by rfl) (by rfl) (fun Kc hKc => ?_); go_big_quiet_op; refine hKc _ ?_; clear hKc Kc)))
            refine loose_fix 52 (.int .u64 (F : Int)) (f := 102) (args := #[gval P Q G H R, .int .u64 (c : Int), .int .u64 (E : Int)]) (fun w => by go_simp; rfl) (by rfl) (by rfl) (by rfl) (fun _ _ => Iff.rfl) (fun w _ _ => Hcon1.out w) ?_
            simp only [Act.put, List.setIfInBounds_toArray, List.set_cons_zero, List.set_cons_succ]
            refine loose_make 53 (V := fun w => .slice (some ⟨w.heap.size, 0, none⟩) 2 2) (W := fun w => w.alloc (.cells #[.int .u64 (t : Int), .int .u64 (F : Int)] 22)) (fun w => by go_simp) (by rfl) (by rfl) (by rfl) (fun w _ _ => ⟨(Below.refl _ _).alloc (Nat.le_refl _) _, _, _, rfl, nums_two w t F _ Hts.out Heb.out⟩) ?_
            rintro _ wk hlk ⟨As, cs, rfl, _⟩
            simp only [Act.put, List.setIfInBounds_toArray, List.set_cons_zero, List.set_cons_succ]
            (repeat (first | (refine loose_skip (by rfl) ?_; simp only [Act.put, List.setIfInBounds_toArray, List.set_cons_zero, List.set_cons_succ]) | (refine loose_plain (by rfl) (by rfl) (by rfl) (fun Kc hKc => ?_); go_big_quiet_op; refine hKc _ ?_; clear hKc Kc)))
            refine loose_fix 54 (.int .u64 (M : Int)) (f := 104) (args := #[gval P Q G H R, .slice As 2 cs]) (fun w => by go_simp; rfl) (by rfl) (by rfl) (by rfl) (fun _ _ => Iff.rfl) (fun w _ hd => by
              obtain ⟨A', c', he, hn⟩ := hd 53 (by decide) _ (.inl ⟨rfl, rfl⟩)
              injection he with h1 _ h2
              subst h1 h2
              have := Hcon2.out As cs w hn
              rw [Hpt.out] at this
              exact this) ?_
            simp only [Act.put, List.setIfInBounds_toArray, List.set_cons_zero, List.set_cons_succ]
            (repeat (first | (refine loose_skip (by rfl) ?_; simp only [Act.put, List.setIfInBounds_toArray, List.set_cons_zero, List.set_cons_succ]) | (refine loose_plain (by rfl) (by rfl) (by rfl) (fun Kc hKc => ?_); go_big_quiet_op; refine hKc _ ?_; clear hKc Kc)))
            refine loose_nil ?_
            intro wq hbq _
            have Hbq := Lib.hid (show Below wr.heap.size wr wq from hbq)
            clear hbq l0 l1 l2 l3 l4 l5 l6 l7 l8
            go_wp2_with fail
            go_ret
            exact ⟨rfl, below_trans Hb02.out (below_trans Hbr.out Hbq.out)⟩
      · have d6 : decide ((j : Int) < (nY : Int)) = false := decide_eq_false (by omega)
        have hres : rr = true := by rw [Hrr.out, ← Hacc.out, show j = nY by omega]
        subst hres
        go_wp2_with fail
        go_ret
        exact ⟨rfl, below_trans Hb02.out Hbr.out⟩
end Go.Proofs.YtbpenkaficiodaaGreat

/- Is a proof accepted? The program's walk. -/
namespace Go.Proofs.YtbpenkaficiodaaGreat
open Go.RowKit Go.BigFrame

def acceptB (label : List UInt8) (P Q G H : Nat) (T : List Nat) (L : List (List Nat)) (C Z : List Nat) : Bool := match imgO P Q T L Z with
  | none => false
  | some l => decide (C.length = T.length) && accUpto P Q (chal label P Q G H T L C) l T C T.length

set_option maxRecDepth 100000 in
set_option maxHeartbeats 4000000 in
theorem accept_any (P Q G H : Nat) (R : Value) (label : List UInt8) (A : Option Addr) (capT : Nat) (T : List Nat) (B : Option Addr) (capB : Nat) (rs : List NumV) (Y : Option Addr) (capY : Nat) (C : List Nat) (X : Option Addr) (capX : Nat) (V : List Nat) (w : World) (hP : P < 18446744073709551616) (hPr : rightB P = true) (hQ : Q < 18446744073709551616) (hQ2 : 2 ≤ Q) (hG : G < 18446744073709551616) (hH : H < 18446744073709551616) (hT : Nums w A capT T) (hR : Grid w B capB rs) (hY : Nums w Y capY C) (hX : Nums w X capX V)
    (hl : label.length ≤ 1000000) (hTl : T.length ≤ 10000) (hRl : rs.length ≤ 10000) (hrl : ∀ r ∈ rs, r.l.length ≤ 10000) (hYl : C.length ≤ 10000) (hXl : V.length ≤ 10000) :
    Calls Tryz.prog 78 #[gval P Q G H R, .string (str label), cval A capT T.length B capB rs.length, .agg #[.slice Y C.length capY, .slice X V.length capX]] w fun e w' => e = .returned (.bool (acceptB label P Q G H T (rs.map (·.l)) C V)) ∧ Below w.heap.size w w' := by
  obtain ⟨E, hE⟩ : ∃ E, E = chal label P Q G H T (rs.map (·.l)) C := ⟨_, rfl⟩
  have hEl : E < 18446744073709551616 := by rw [hE]; exact chal_lt _ _ _ _ _ _ _ _
  obtain ⟨out, hout⟩ : ∃ s, s = acceptB label P Q G H T (rs.map (·.l)) C V := ⟨_, rfl⟩
  have hac := fun W0 hb => (accepts_any P Q G H E R A capT T B capB rs Y capY C X capX V W0 hP hPr hQ hQ2 hEl (hT.below (w1 := W0) hb) (hR.below hb) (hY.below hb) (hX.below hb) (by omega) (by omega) (fun r hr => by have := hrl r hr; omega) (by omega) (by omega)).mono (fun e w' h => (⟨by rw [h.1, hout]; unfold acceptB; rw [← hE]; try rfl, h.2⟩ : e = .returned (.bool out) ∧ Below W0.heap.size W0 w'))
  have hch := fun W0 hb => challenge_any P Q G H R label A capT T B capB rs Y capY C W0 hP hQ hG hH (hT.below (w1 := W0) hb) (hR.below hb) (hY.below hb) hl hTl hRl hrl hYl
  unfold gval cval at hac hch ⊢
  rw [← hE] at hch
  rw [← hout]
  obtain ⟨nT, hnT⟩ : ∃ n, n = T.length := ⟨_, rfl⟩
  obtain ⟨nB, hnB⟩ : ∃ n, n = rs.length := ⟨_, rfl⟩
  obtain ⟨nX, hnX⟩ : ∃ n, n = V.length := ⟨_, rfl⟩
  obtain ⟨nY, hnY⟩ : ∃ n, n = C.length := ⟨_, rfl⟩
  rw [← hnT, ← hnB, ← hnY] at hch
  rw [← hnT, ← hnB, ← hnX, ← hnY] at hac
  rw [← hnT, ← hnB, ← hnX, ← hnY]
  obtain ⟨w0, hw0⟩ : ∃ w0, w0 = (((w.alloc (.cells #[.int .u64 (P : Int), .int .u64 (Q : Int), .int .u64 (G : Int), .int .u64 (H : Int), R] 25)).alloc (.cells #[.slice A nT capT, .slice B nB capB] 83)).alloc (.cells #[.slice Y nY capY, .slice X nX capX] 42)) := ⟨_, rfl⟩
  have hb0 : Below w.heap.size w w0 := by rw [hw0]; exact (((Below.refl _ _).alloc (Nat.le_refl _) _).alloc (by simp) _).alloc (by simp; omega) _
  have hg0 : Blk w0 w.heap.size 25 (glist P Q G H R) := by rw [hw0]; exact ((Blk.of w _ _ _ rfl).alloc _).alloc _
  have hc0 : Blk w0 (w.heap.size + 1) 83 [.slice A nT capT, .slice B nB capB] := by
    have := Blk.of (w.alloc (.cells #[.int .u64 (P : Int), .int .u64 (Q : Int), .int .u64 (G : Int), .int .u64 (H : Int), R] 25)) 83 #[.slice A nT capT, .slice B nB capB] _ rfl
    rw [show (w.alloc (.cells #[.int .u64 (P : Int), .int .u64 (Q : Int), .int .u64 (G : Int), .int .u64 (H : Int), R] 25)).heap.size = w.heap.size + 1 by simp] at this
    rw [hw0]; exact this.alloc _
  have hr0 : Blk w0 (w.heap.size + 1 + 1) 42 [.slice Y nY capY, .slice X nX capX] := by
    have := Blk.of ((w.alloc (.cells #[.int .u64 (P : Int), .int .u64 (Q : Int), .int .u64 (G : Int), .int .u64 (H : Int), R] 25)).alloc (.cells #[.slice A nT capT, .slice B nB capB] 83)) 42 #[.slice Y nY capY, .slice X nX capX] _ rfl
    rw [show ((w.alloc (.cells #[.int .u64 (P : Int), .int .u64 (Q : Int), .int .u64 (G : Int), .int .u64 (H : Int), R] 25)).alloc (.cells #[.slice A nT capT, .slice B nB capB] 83)).heap.size = w.heap.size + 1 + 1 by simp] at this
    rw [hw0]; exact this
  obtain ⟨g0, g1, g2, g3, g4⟩ := gcells hg0
  obtain ⟨f0, f1⟩ := two_cells hc0
  obtain ⟨p0, p1⟩ := two_cells hr0
  have Hac := Lib.hid hac
  have Hch := Lib.hid hch
  have Hb0 := Lib.hid hb0
  have Hw0 := Lib.hid hw0
  clear hac hch hb0 hg0 hc0 hr0 hT hR hX hY hTl hRl hrl hXl hYl hnT hnB hnX hnY hE hout hw0
  go_enter Tryz.func78, Tryz.ntmps78
  go_wp2_with fail
  rw [← Hw0.out]
  have l0 := Later.cell g0
  have l1 := Later.cell g1
  have l2 := Later.cell g2
  have l3 := Later.cell g3
  have l4 := Later.cell g4
  have l5 := Later.cell f0
  have l6 := Later.cell f1
  have l7 := Later.cell p0
  have l8 := Later.cell p1
  refine region_loose [(18, fun u _ => u = .int .u64 (E : Int)), (21, fun u _ => u = .bool out)] (Know.stable_cons (fun _ _ _ h _ => h) (Know.stable_cons (fun _ _ _ h _ => h) Know.stable_nil)) (by kernel_rfl) (by kernel_rfl) ?_
  (repeat (first | (refine loose_skip (by rfl) ?_; simp only [Act.put, List.setIfInBounds_toArray, List.set_cons_zero, List.set_cons_succ]) | (refine loose_plain (by rfl) (by rfl) (by rfl) (fun Kc hKc => ?_); go_big_quiet_op; refine hKc _ ?_; clear hKc Kc)))
  refine loose_fix 18 (.int .u64 (E : Int)) (f := 147) (args := #[.agg #[.int .u64 (P : Int), .int .u64 (Q : Int), .int .u64 (G : Int), .int .u64 (H : Int), R], .string (str label), .agg #[.slice A nT capT, .slice B nB capB], .slice Y nY capY]) (fun w => by go_simp; try rfl) (by rfl) (by rfl) (by rfl) (fun _ _ => Iff.rfl) (fun wk hl _ => Hch.out wk (below_trans Hb0.out hl)) ?_
  simp only [Act.put, List.setIfInBounds_toArray, List.set_cons_zero, List.set_cons_succ]
  (repeat (first | (refine loose_skip (by rfl) ?_; simp only [Act.put, List.setIfInBounds_toArray, List.set_cons_zero, List.set_cons_succ]) | (refine loose_plain (by rfl) (by rfl) (by rfl) (fun Kc hKc => ?_); go_big_quiet_op; refine hKc _ ?_; clear hKc Kc)))
  refine loose_fix 21 (.bool out) (f := 57) (args := #[.agg #[.int .u64 (P : Int), .int .u64 (Q : Int), .int .u64 (G : Int), .int .u64 (H : Int), R], .agg #[.slice A nT capT, .slice B nB capB], .slice Y nY capY, .int .u64 (E : Int), .slice X nX capX]) (fun w => by go_simp; try rfl) (by rfl) (by rfl) (by rfl) (fun _ _ => Iff.rfl) (fun wk hl _ => Hac.out wk (below_trans Hb0.out hl)) ?_
  simp only [Act.put, List.setIfInBounds_toArray, List.set_cons_zero, List.set_cons_succ]
  (repeat (first | (refine loose_skip (by rfl) ?_; simp only [Act.put, List.setIfInBounds_toArray, List.set_cons_zero, List.set_cons_succ]) | (refine loose_plain (by rfl) (by rfl) (by rfl) (fun Kc hKc => ?_); go_big_quiet_op; refine hKc _ ?_; clear hKc Kc)))
  refine loose_nil ?_
  intro wq hbq _
  have Hbq := Lib.hid (show Below w0.heap.size w0 wq from hbq)
  clear hbq l0 l1 l2 l3 l4 l5 l6 l7 l8
  go_wp2_with fail
  go_ret
  exact ⟨rfl, below_trans Hb0.out Hbq.out⟩
end Go.Proofs.YtbpenkaficiodaaGreat

/- The small claim: plain. -/
namespace Go.Proofs.YtbpenkaficiodaaGreat
open Go.RowKit
def awakeB : Bool := match proveO [97] 2027 1013 4 9 [64] [[4]] [3] [700] with
  | none => false
  | some p => acceptB [97] 2027 1013 4 9 [64] [[4]] p.1 p.2 && !acceptB [97] 2027 1013 4 9 [9] [[4]] p.1 p.2 && decide (p.1.length = 1) && decide (p.2.length = 1) && (p.1.all fun x => decide (x < 18446744073709551616)) && (p.2.all fun x => decide (x < 18446744073709551616))
set_option maxRecDepth 100000 in
theorem awakeB_true : awakeB = true := by decide +kernel
theorem awake_proof : ∃ t z, proveO [97] 2027 1013 4 9 [64] [[4]] [3] [700] = some (t, z) ∧ acceptB [97] 2027 1013 4 9 [64] [[4]] t z = true ∧ acceptB [97] 2027 1013 4 9 [9] [[4]] t z = false ∧ t.length = 1 ∧ z.length = 1 ∧ (∀ x ∈ t, x < 18446744073709551616) ∧ (∀ x ∈ z, x < 18446744073709551616) := by
  have h := awakeB_true
  unfold awakeB at h
  cases hp : proveO [97] 2027 1013 4 9 [64] [[4]] [3] [700] with
  | none => rw [hp] at h; simp at h
  | some p =>
    rw [hp] at h
    simp only [Bool.and_eq_true, Bool.not_eq_true', decide_eq_true_eq, List.all_eq_true] at h
    obtain ⟨⟨⟨⟨⟨h1, h2⟩, h3⟩, h4⟩, h5⟩, h6⟩ := h
    exact ⟨p.1, p.2, rfl, h1, h2, h3, h4, h5, h6⟩
end Go.Proofs.YtbpenkaficiodaaGreat

/- The small group: law04.Small. -/
namespace Go.Proofs.YtbpenkaficiodaaGreat
open Go.RowKit

def SmallOut (e : Ending) : Prop := ∃ (A : Option Addr) (n c : Nat), e = .returned (gval 2027 1013 4 9 (.slice A n c))

set_option maxRecDepth 100000 in
set_option maxHeartbeats 1000000 in
theorem small_any (w : World) : Calls Tryz.prog 72 #[] w fun e w' => SmallOut e ∧ Below w.heap.size w w' := by
  go_enter Tryz.func72, Tryz.ntmps72
  go_wp2_with fail
  have hk : Blk _ w.heap.size 25 (glist 2027 1013 4 9 (.slice (some ⟨w.heap.size + 1 + 1 + 1 + 1 + 1 + 1, 0, none⟩) 5 5)) :=
    ((((((Blk.at_new w _ 25 #[.int .u64 2027, .int .u64 1013, .int .u64 4, .int .u64 9, .slice (some ⟨w.heap.size + 1 + 1 + 1 + 1 + 1 + 1, 0, none⟩) 5 5] _ rfl rfl).alloc (.cells #[.int .u64 2] 22)).alloc (.cells #[.int .u64 2, .int .u64 5] 22)).alloc (.cells #[.int .u64 2, .int .u64 11] 22)).alloc (.cells #[.int .u64 2, .int .u64 11, .int .u64 23] 22)).alloc (.cells #[.int .u64 2, .int .u64 1013] 22)).alloc
      (.cells #[.int .u64 5, .int .u64 2, .slice (some ⟨w.heap.size + 1, 0, none⟩) 1 1, .int .u64 11, .int .u64 2, .slice (some ⟨w.heap.size + 1 + 1, 0, none⟩) 2 2, .int .u64 23, .int .u64 5, .slice (some ⟨w.heap.size + 1 + 1 + 1, 0, none⟩) 2 2, .int .u64 1013, .int .u64 3, .slice (some ⟨w.heap.size + 1 + 1 + 1 + 1, 0, none⟩) 3 3, .int .u64 2027, .int .u64 2, .slice (some ⟨w.heap.size + 1 + 1 + 1 + 1 + 1, 0, none⟩) 2 2] 138)
  have hb : ∀ o1 o2 o3 o4 o5 o6 o7, Below w.heap.size w (((((((w.alloc o1).alloc o2).alloc o3).alloc o4).alloc o5).alloc o6).alloc o7) := fun o1 o2 o3 o4 o5 o6 o7 =>
    (((((((Below.refl _ _).alloc (Nat.le_refl _) o1).alloc (by simp) o2).alloc (by simp; omega) o3).alloc (by simp; omega) o4).alloc (by simp; omega) o5).alloc (by simp; omega) o6).alloc (by simp; omega) o7
  obtain ⟨g0, g1, g2, g3, g4⟩ := gcells hk
  have Hb := Lib.hid hb
  clear hk hb
  exact bodyPost_ret (v := gval 2027 1013 4 9 (.slice (some ⟨w.heap.size + 1 + 1 + 1 + 1 + 1 + 1, 0, none⟩) 5 5)) (by simp [results, Tryz.results72, go_sem, g0, g1, g2, g3, g4, gval]) rfl ⟨⟨_, _, _, rfl⟩, Hb.out _ _ _ _ _ _ _⟩
end Go.Proofs.YtbpenkaficiodaaGreat
