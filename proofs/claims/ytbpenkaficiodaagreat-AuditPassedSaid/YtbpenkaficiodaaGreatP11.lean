/- Joined texts, part 11: contracts of the functions that the laws reach, and what is needed for them. -/
import Derived.Test.YtbpenkaficiodaaGreatP10
/- Sealing, as the reference does it: walks. -/
namespace Go.Proofs.YtbpenkaficiodaaGreat
open Go.RowKit Go.BigFrame

theorem prodG_lt {P : Nat} (l : List Nat) : prodG P l < 18446744073709551616 := prodG_bound P l 1 (by omega)
theorem expG_lt {P Q b e : Nat} (hP : P < 18446744073709551616) : expG P Q b e < 18446744073709551616 := by have := powM_le b (e % Q) P; show powM _ _ _ < _; omega
def w2 (P Q G H : Nat) (R : Value) (w : World) : World := w.alloc (.cells #[.int .u64 (P : Int), .int .u64 (Q : Int), .int .u64 (G : Int), .int .u64 (H : Int), R] 25)

set_option maxRecDepth 100000 in
set_option maxHeartbeats 1000000 in
theorem refKey_any (P Q G H x : Nat) (R : Value) (w : World) (hP : P < 18446744073709551616) (hQ : Q < 18446744073709551616) (hQ2 : 2 ≤ Q) (hG : G < 18446744073709551616) (hx : x < 18446744073709551616) :
    Calls Tryz.prog 21 #[gval P Q G H R, .int .u64 (x : Int)] w fun e w' => e = .returned (.int .u64 (expG P Q G x : Int)) ∧ Below w.heap.size w w' := by
  have hc := fun W => refExp_any P Q G H G x R W hP hQ hQ2 hG hx
  obtain ⟨E, hE⟩ : ∃ E, E = expG P Q G x := ⟨_, rfl⟩
  rw [← hE] at hc ⊢
  unfold gval at hc ⊢
  have Hc := Lib.hid hc
  have Hb := Lib.hid (lat_alloc (Below.refl w.heap.size w) (.cells #[.int .u64 (P : Int), .int .u64 (Q : Int), .int .u64 (G : Int), .int .u64 (H : Int), R] 25))
  clear hc hE
  go_enter Tryz.func21, Tryz.ntmps21
  go_wp2_with (go_at_call 74; refine (Hc.out _).mono ?_; rintro e w3 ⟨rfl, hb3⟩; have Hb3 := Lib.hid hb3; clear hb3)
  go_ret
  exact ⟨rfl, below_trans Hb.out Hb3.out⟩

set_option maxRecDepth 100000 in
set_option maxHeartbeats 1000000 in
theorem refShare_any (P Q G H x U V : Nat) (R : Value) (w : World) (hP : P < 18446744073709551616) (hQ : Q < 18446744073709551616) (hQ2 : 2 ≤ Q) (hU : U < 18446744073709551616) (hx : x < 18446744073709551616) :
    Calls Tryz.prog 144 #[gval P Q G H R, .int .u64 (x : Int), .agg #[.int .u64 (U : Int), .int .u64 (V : Int)]] w fun e w' => e = .returned (.int .u64 (expG P Q U x : Int)) ∧ Below w.heap.size w w' := by
  have hc := fun W => refExp_any P Q G H U x R W hP hQ hQ2 hU hx
  obtain ⟨E, hE⟩ : ∃ E, E = expG P Q U x := ⟨_, rfl⟩
  rw [← hE] at hc ⊢
  unfold gval at hc ⊢
  have Hc := Lib.hid hc
  have Hb := Lib.hid (lat_alloc (lat_alloc (Below.refl w.heap.size w) (.cells #[.int .u64 (P : Int), .int .u64 (Q : Int), .int .u64 (G : Int), .int .u64 (H : Int), R] 25)) (.cells #[.int .u64 (U : Int), .int .u64 (V : Int)] 61))
  clear hc hE
  go_enter Tryz.func144, Tryz.ntmps144
  go_wp2_with (go_at_call 74; refine (Hc.out _).mono ?_; rintro e w3 ⟨rfl, hb3⟩; have Hb3 := Lib.hid hb3; clear hb3)
  go_ret
  exact ⟨rfl, below_trans Hb.out Hb3.out⟩

/-- What sealing again gives. -/
def againU (P Q G U r : Nat) : Nat := prodG P [U, expG P Q G r]
def againV (P Q key V r : Nat) : Nat := prodG P [V, expG P Q key r]

set_option maxRecDepth 100000 in
set_option maxHeartbeats 2000000 in
theorem refAgain_any (P Q G H key U V r : Nat) (R : Value) (w : World) (hP : P < 18446744073709551616) (hQ : Q < 18446744073709551616) (hQ2 : 2 ≤ Q) (hG : G < 18446744073709551616) (hk : key < 18446744073709551616) (hU : U < 18446744073709551616) (hV : V < 18446744073709551616) (hr : r < 18446744073709551616) :
    Calls Tryz.prog 95 #[gval P Q G H R, .int .u64 (key : Int), .agg #[.int .u64 (U : Int), .int .u64 (V : Int)], .int .u64 (r : Int)] w fun e w' => e = .returned (.agg #[.int .u64 (againU P Q G U r : Int), .int .u64 (againV P Q key V r : Int)]) ∧ Below w.heap.size w w' := by
  obtain ⟨E1, hE1⟩ : ∃ E, E = expG P Q G r := ⟨_, rfl⟩
  obtain ⟨E2, hE2⟩ : ∃ E, E = expG P Q key r := ⟨_, rfl⟩
  have hb1 : E1 < 18446744073709551616 := by rw [hE1]; exact expG_lt hP
  have hb2 : E2 < 18446744073709551616 := by rw [hE2]; exact expG_lt hP
  have hc1 := fun W => refExp_any P Q G H G r R W hP hQ hQ2 hG hr
  have hc2 := fun W => refExp_any P Q G H key r R W hP hQ hQ2 hk hr
  have hd1 := fun A c W h => refProd_any P Q G H R A c [U, E1] W hP (by simp) h
  have hd2 := fun A c W h => refProd_any P Q G H R A c [V, E2] W hP (by simp) h
  obtain ⟨M1, hM1⟩ : ∃ M, M = againU P Q G U r := ⟨_, rfl⟩
  obtain ⟨M2, hM2⟩ : ∃ M, M = againV P Q key V r := ⟨_, rfl⟩
  rw [← hE1] at hc1
  rw [← hE2] at hc2
  rw [show prodG P [U, E1] = M1 by rw [hM1, hE1]; rfl] at hd1
  rw [show prodG P [V, E2] = M2 by rw [hM2, hE2]; rfl] at hd2
  rw [← hM1, ← hM2]
  unfold gval at hc1 hc2 hd1 hd2 ⊢
  obtain ⟨w0, hw0⟩ : ∃ w0, w0 = ((w.alloc (.cells #[.int .u64 (P : Int), .int .u64 (Q : Int), .int .u64 (G : Int), .int .u64 (H : Int), R] 25)).alloc (.cells #[.int .u64 (U : Int), .int .u64 (V : Int)] 61)).alloc (.cells #[.int .u64 0, .int .u64 0] 61) := ⟨_, rfl⟩
  have hg0 : Blk w0 w.heap.size 25 (glist P Q G H R) := by rw [hw0]; exact ((Blk.of w _ _ _ rfl).alloc _).alloc _
  have hu0 : Blk w0 (w.heap.size + 1) 61 [.int .u64 (U : Int), .int .u64 (V : Int)] := by rw [hw0]; exact (Blk.at_new _ _ _ _ _ (by simp) rfl).alloc _
  have ho0 : Blk w0 (w.heap.size + 1 + 1) 61 [.int .u64 0, .int .u64 0] := by rw [hw0]; exact Blk.at_new _ _ _ _ _ (by simp) rfl
  have hb0 : Lat w w0 := by rw [hw0]; exact lat_alloc (lat_alloc (lat_alloc (Below.refl _ _) _) _) _
  have Hc1 := Lib.hid hc1
  have Hc2 := Lib.hid hc2
  have Hd1 := Lib.hid hd1
  have Hd2 := Lib.hid hd2
  have Hw0 := Lib.hid hw0
  have Hg0 := Lib.hid hg0
  have Hu0 := Lib.hid hu0
  have Ho0 := Lib.hid ho0
  have Hb0 := Lib.hid hb0
  obtain ⟨g0, g1, g2, g3, g4⟩ := gcells hg0
  obtain ⟨u0, u1⟩ := two_cells hu0
  clear hc1 hc2 hd1 hd2 hE1 hE2 hM1 hM2 hw0 hg0 hu0 ho0 hb0
  go_enter Tryz.func95, Tryz.ntmps95
  go_wp2_with fail
  rw [← Hw0.out]
  have l0 := Later.cell g0
  have l1 := Later.cell g1
  have l2 := Later.cell g2
  have l3 := Later.cell g3
  have l4 := Later.cell g4
  have l5 := Later.cell u0
  have l6 := Later.cell u1
  refine region_loose [(18, fun u _ => u = .int .u64 (E1 : Int)), (19, fun u w => ∃ A c, u = .slice A 2 c ∧ Nums w A c [U, E1]), (20, fun u _ => u = .int .u64 (M1 : Int))]
    (Know.stable_cons (fun _ _ _ h _ => h) (Know.stable_cons (fun _ _ _ h hl => let ⟨A, c, e, hn⟩ := h; ⟨A, c, e, hn.below hl⟩) (Know.stable_cons (fun _ _ _ h _ => h) Know.stable_nil))) (by kernel_rfl) (by kernel_rfl) ?_
  (repeat (first | (refine loose_skip (by rfl) ?_; simp only [Act.put, List.setIfInBounds_toArray, List.set_cons_zero, List.set_cons_succ]) | (refine loose_plain (by rfl) (by rfl) (by rfl) (fun Kc hKc => ?_); go_big_quiet_op; refine hKc _ ?_; clear hKc Kc)))
  refine loose_fix 18 (.int .u64 (E1 : Int)) (f := 74) (args := #[.agg #[.int .u64 (P : Int), .int .u64 (Q : Int), .int .u64 (G : Int), .int .u64 (H : Int), R], .int .u64 (G : Int), .int .u64 (r : Int)]) (fun w => by go_simp; try rfl) (by rfl) (by rfl) (by rfl) (fun _ _ => Iff.rfl) (fun wk _ _ => Hc1.out wk) ?_
  simp only [Act.put, List.setIfInBounds_toArray, List.set_cons_zero, List.set_cons_succ]
  refine loose_make 19 (V := fun w => .slice (some ⟨w.heap.size, 0, none⟩) 2 2) (W := fun w => w.alloc (.cells #[.int .u64 (U : Int), .int .u64 (E1 : Int)] 22)) (fun w => by go_simp) (by rfl) (by rfl) (by rfl) (fun w _ _ => ⟨(Below.refl _ _).alloc (Nat.le_refl _) _, _, _, rfl, nums_two w U E1 _ hU hb1⟩) ?_
  rintro _ wk hlk ⟨As, cs, rfl, _⟩
  simp only [Act.put, List.setIfInBounds_toArray, List.set_cons_zero, List.set_cons_succ]
  (repeat (first | (refine loose_skip (by rfl) ?_; simp only [Act.put, List.setIfInBounds_toArray, List.set_cons_zero, List.set_cons_succ]) | (refine loose_plain (by rfl) (by rfl) (by rfl) (fun Kc hKc => ?_); go_big_quiet_op; refine hKc _ ?_; clear hKc Kc)))
  refine loose_fix 20 (.int .u64 (M1 : Int)) (f := 153) (args := #[.agg #[.int .u64 (P : Int), .int .u64 (Q : Int), .int .u64 (G : Int), .int .u64 (H : Int), R], .slice As 2 cs]) (fun w => by go_simp; try rfl) (by rfl) (by rfl) (by rfl) (fun _ _ => Iff.rfl) (fun wk _ hd => by
    obtain ⟨A', c', he, hn⟩ := hd 19 (by decide) _ (.inl ⟨rfl, rfl⟩)
    injection he with h1 _ h2
    subst h1 h2
    exact Hd1.out As cs wk hn) ?_
  simp only [Act.put, List.setIfInBounds_toArray, List.set_cons_zero, List.set_cons_succ]
  (repeat (first | (refine loose_skip (by rfl) ?_; simp only [Act.put, List.setIfInBounds_toArray, List.set_cons_zero, List.set_cons_succ]) | (refine loose_plain (by rfl) (by rfl) (by rfl) (fun Kc hKc => ?_); go_big_quiet_op; refine hKc _ ?_; clear hKc Kc)))
  refine loose_nil ?_
  intro wq hbq _
  have Hbq := Lib.hid hbq
  obtain ⟨g0, g1, g2, g3, g4⟩ := gcells (Hg0.out.below hbq Hg0.out.lt)
  obtain ⟨u0, u1⟩ := two_cells (Hu0.out.below hbq Hu0.out.lt)
  clear l0 l1 l2 l3 l4 l5 l6 hbq hlk
  go_wp2_with fail
  have l0 := Later.cell g0
  have l1 := Later.cell g1
  have l2 := Later.cell g2
  have l3 := Later.cell g3
  have l4 := Later.cell g4
  have l5 := Later.cell u0
  have l6 := Later.cell u1
  refine region_loose [(27, fun u _ => u = .int .u64 (E2 : Int)), (28, fun u w => ∃ A c, u = .slice A 2 c ∧ Nums w A c [V, E2]), (29, fun u _ => u = .int .u64 (M2 : Int))]
    (Know.stable_cons (fun _ _ _ h _ => h) (Know.stable_cons (fun _ _ _ h hl => let ⟨A, c, e, hn⟩ := h; ⟨A, c, e, hn.below hl⟩) (Know.stable_cons (fun _ _ _ h _ => h) Know.stable_nil))) (by kernel_rfl) (by kernel_rfl) ?_
  (repeat (first | (refine loose_skip (by rfl) ?_; simp only [Act.put, List.setIfInBounds_toArray, List.set_cons_zero, List.set_cons_succ]) | (refine loose_plain (by rfl) (by rfl) (by rfl) (fun Kc hKc => ?_); go_big_quiet_op; refine hKc _ ?_; clear hKc Kc)))
  refine loose_fix 27 (.int .u64 (E2 : Int)) (f := 74) (args := #[.agg #[.int .u64 (P : Int), .int .u64 (Q : Int), .int .u64 (G : Int), .int .u64 (H : Int), R], .int .u64 (key : Int), .int .u64 (r : Int)]) (fun w => by go_simp; try rfl) (by rfl) (by rfl) (by rfl) (fun _ _ => Iff.rfl) (fun wk _ _ => Hc2.out wk) ?_
  simp only [Act.put, List.setIfInBounds_toArray, List.set_cons_zero, List.set_cons_succ]
  refine loose_make 28 (V := fun w => .slice (some ⟨w.heap.size, 0, none⟩) 2 2) (W := fun w => w.alloc (.cells #[.int .u64 (V : Int), .int .u64 (E2 : Int)] 22)) (fun w => by go_simp) (by rfl) (by rfl) (by rfl) (fun w _ _ => ⟨(Below.refl _ _).alloc (Nat.le_refl _) _, _, _, rfl, nums_two w V E2 _ hV hb2⟩) ?_
  rintro _ wk hlk ⟨As2, cs2, rfl, _⟩
  simp only [Act.put, List.setIfInBounds_toArray, List.set_cons_zero, List.set_cons_succ]
  (repeat (first | (refine loose_skip (by rfl) ?_; simp only [Act.put, List.setIfInBounds_toArray, List.set_cons_zero, List.set_cons_succ]) | (refine loose_plain (by rfl) (by rfl) (by rfl) (fun Kc hKc => ?_); go_big_quiet_op; refine hKc _ ?_; clear hKc Kc)))
  refine loose_fix 29 (.int .u64 (M2 : Int)) (f := 153) (args := #[.agg #[.int .u64 (P : Int), .int .u64 (Q : Int), .int .u64 (G : Int), .int .u64 (H : Int), R], .slice As2 2 cs2]) (fun w => by go_simp; try rfl) (by rfl) (by rfl) (by rfl) (fun _ _ => Iff.rfl) (fun wk _ hd => by
    obtain ⟨A', c', he, hn⟩ := hd 28 (by decide) _ (.inl ⟨rfl, rfl⟩)
    injection he with h1 _ h2
    subst h1 h2
    exact Hd2.out As2 cs2 wk hn) ?_
  simp only [Act.put, List.setIfInBounds_toArray, List.set_cons_zero, List.set_cons_succ]
  (repeat (first | (refine loose_skip (by rfl) ?_; simp only [Act.put, List.setIfInBounds_toArray, List.set_cons_zero, List.set_cons_succ]) | (refine loose_plain (by rfl) (by rfl) (by rfl) (fun Kc hKc => ?_); go_big_quiet_op; refine hKc _ ?_; clear hKc Kc)))
  refine loose_nil ?_
  intro wz hbz _
  have hbt := below_trans Hbq.out hbz
  obtain ⟨o0, o1⟩ := two_cells (Ho0.out.below hbt Ho0.out.lt)
  have f0 := (Ho0.out.below hbt Ho0.out.lt).frozen 0
  have f1 := (Ho0.out.below hbt Ho0.out.lt).frozen 1
  obtain ⟨wy, hwy⟩ : ∃ wy, wy = (wz.setCell ⟨w.heap.size + 1 + 1, 0, none⟩ (.int .u64 (M1 : Int))).setCell ⟨w.heap.size + 1 + 1, 1, none⟩ (.int .u64 (M2 : Int)) := ⟨_, rfl⟩
  have hy := ((Ho0.out.below hbt Ho0.out.lt).set 0 (.int .u64 (M1 : Int))).set 1 (.int .u64 (M2 : Int))
  have hby : Lat w wy := by rw [hwy]; exact below_set (below_set (below_trans Hb0.out hbt) (by omega) _ _) (by omega) _ _
  rw [show List.set (List.set [Value.int .u64 0, .int .u64 0] 0 (.int .u64 (M1 : Int))) 1 (.int .u64 (M2 : Int)) = [.int .u64 (M1 : Int), .int .u64 (M2 : Int)] from rfl, ← hwy] at hy
  obtain ⟨y0, y1⟩ := two_cells hy
  have Hby := Lib.hid hby
  have Hwy := Lib.hid hwy
  clear l0 l1 l2 l3 l4 l5 l6 hbz hlk hbt hy hby hwy g0 g1 g2 g3 g4 u0 u1
  go_wp2_with fail
  rw [← Hwy.out]
  exact bodyPost_ret (v := .agg #[.int .u64 (M1 : Int), .int .u64 (M2 : Int)]) (by simp [results, Tryz.results95, go_sem, y0, y1]) rfl ⟨rfl, Hby.out⟩
/-- Sealed: the key's pair of one and the number, sealed again. -/
theorem refSeal_any (P Q G H key n r : Nat) (R : Value) (w : World) (hP : P < 18446744073709551616) (hQ : Q < 18446744073709551616) (hQ2 : 2 ≤ Q) (hG : G < 18446744073709551616) (hk : key < 18446744073709551616) (hn : n < 18446744073709551616) (hr : r < 18446744073709551616) :
    Calls Tryz.prog 191 #[gval P Q G H R, .int .u64 (key : Int), .int .u64 (n : Int), .int .u64 (r : Int)] w fun e w' => e = .returned (.agg #[.int .u64 (againU P Q G 1 r : Int), .int .u64 (againV P Q key n r : Int)]) ∧ Below w.heap.size w w' := by
  have hc := fun W => refAgain_any P Q G H key 1 n r R W hP hQ hQ2 hG hk (by omega) hn hr
  obtain ⟨M1, hM1⟩ : ∃ M, M = againU P Q G 1 r := ⟨_, rfl⟩
  obtain ⟨M2, hM2⟩ : ∃ M, M = againV P Q key n r := ⟨_, rfl⟩
  rw [← hM1, ← hM2] at hc ⊢
  unfold gval at hc ⊢
  obtain ⟨w0, hw0⟩ : ∃ w0, w0 = (w.alloc (.cells #[.int .u64 (P : Int), .int .u64 (Q : Int), .int .u64 (G : Int), .int .u64 (H : Int), R] 25)).alloc (.cells #[.int .u64 0, .int .u64 0] 61) := ⟨_, rfl⟩
  have ho0 : Blk w0 (w.heap.size + 1) 61 [.int .u64 0, .int .u64 0] := by rw [hw0]; exact Blk.at_new _ _ _ _ _ (by simp) rfl
  have hb0 : Lat w w0 := by rw [hw0]; exact lat_alloc (lat_alloc (Below.refl _ _) _) _
  have Hc := Lib.hid hc
  have Hw0 := Lib.hid hw0
  have Ho0 := Lib.hid ho0
  have Hb0 := Lib.hid hb0
  clear hc hM1 hM2 hw0 ho0 hb0
  go_enter Tryz.func191, Tryz.ntmps191
  go_wp2_with fail
  rw [← Hw0.out]
  refine (Hc.out w0).mono ?_
  rintro e wz ⟨rfl, hbt⟩
  obtain ⟨o0, o1⟩ := two_cells (Ho0.out.below hbt Ho0.out.lt)
  have f0 := (Ho0.out.below hbt Ho0.out.lt).frozen 0
  have f1 := (Ho0.out.below hbt Ho0.out.lt).frozen 1
  obtain ⟨wy, hwy⟩ : ∃ wy, wy = (wz.setCell ⟨w.heap.size + 1, 0, none⟩ (.int .u64 (M1 : Int))).setCell ⟨w.heap.size + 1, 1, none⟩ (.int .u64 (M2 : Int)) := ⟨_, rfl⟩
  have hy := ((Ho0.out.below hbt Ho0.out.lt).set 0 (.int .u64 (M1 : Int))).set 1 (.int .u64 (M2 : Int))
  have hby : Lat w wy := by rw [hwy]; exact below_set (below_set (below_trans Hb0.out hbt) (by omega) _ _) (by omega) _ _
  rw [show List.set (List.set [Value.int .u64 0, .int .u64 0] 0 (.int .u64 (M1 : Int))) 1 (.int .u64 (M2 : Int)) = [.int .u64 (M1 : Int), .int .u64 (M2 : Int)] from rfl, ← hwy] at hy
  obtain ⟨y0, y1⟩ := two_cells hy
  have Hby := Lib.hid hby
  have Hwy := Lib.hid hwy
  clear hbt hy hby hwy
  go_wp2_with fail
  rw [← Hwy.out]
  exact bodyPost_ret (v := .agg #[.int .u64 (M1 : Int), .int .u64 (M2 : Int)]) (by simp [results, Tryz.results191, go_sem, y0, y1]) rfl ⟨rfl, Hby.out⟩

theorem three_cells {w : World} {b : Nat} {t : TypeId} {x y z : Value} (h : Blk w b t [x, y, z]) : w.cell? ⟨b, 0, none⟩ = some x ∧ w.cell? ⟨b, 1, none⟩ = some y ∧ w.cell? ⟨b, 2, none⟩ = some z := ⟨h.cell 0, h.cell 1, h.cell 2⟩
/-- What crossing gives. -/
def crossV (P Q U V x z0 r : Nat) : Nat := prodG P [overG P V (expG P Q U x), expG P Q z0 r]

set_option maxRecDepth 100000 in
set_option maxHeartbeats 2000000 in
theorem refCross_any (P Q G H x z0 U W0 V r : Nat) (R : Value) (w : World) (hP : P < 18446744073709551616) (hQ : Q < 18446744073709551616) (hQ2 : 2 ≤ Q) (hG : G < 18446744073709551616) (hx : x < 18446744073709551616) (ht : z0 < 18446744073709551616) (hU : U < 18446744073709551616) (hW : W0 < 18446744073709551616) (hV : V < 18446744073709551616) (hr : r < 18446744073709551616) :
    Calls Tryz.prog 143 #[gval P Q G H R, .int .u64 (x : Int), .int .u64 (z0 : Int), .agg #[.int .u64 (U : Int), .int .u64 (W0 : Int), .int .u64 (V : Int)], .int .u64 (r : Int)] w fun e w' => e = .returned (.agg #[.int .u64 (U : Int), .int .u64 (againU P Q G W0 r : Int), .int .u64 (crossV P Q U V x z0 r : Int)]) ∧ Below w.heap.size w w' := by
  obtain ⟨E1, hE1⟩ : ∃ E, E = expG P Q G r := ⟨_, rfl⟩
  obtain ⟨E2, hE2⟩ : ∃ E, E = expG P Q U x := ⟨_, rfl⟩
  obtain ⟨E3, hE3⟩ : ∃ E, E = expG P Q z0 r := ⟨_, rfl⟩
  obtain ⟨O, hO⟩ : ∃ O, O = overG P V E2 := ⟨_, rfl⟩
  have hb1 : E1 < 18446744073709551616 := by rw [hE1]; exact expG_lt hP
  have hb2 : E2 < 18446744073709551616 := by rw [hE2]; exact expG_lt hP
  have hb3 : E3 < 18446744073709551616 := by rw [hE3]; exact expG_lt hP
  have hbO : O < 18446744073709551616 := by rw [hO]; exact overG_lt _ _ _
  have hc1 := fun W => refExp_any P Q G H G r R W hP hQ hQ2 hG hr
  have hc2 := fun W => refExp_any P Q G H U x R W hP hQ hQ2 hU hx
  have hc3 := fun W => refExp_any P Q G H z0 r R W hP hQ hQ2 ht hr
  have ho := fun W => refOver_any P Q G H V E2 R W hP hV hb2
  have hd1 := fun A c W h => refProd_any P Q G H R A c [W0, E1] W hP (by simp) h
  have hd2 := fun A c W h => refProd_any P Q G H R A c [O, E3] W hP (by simp) h
  obtain ⟨M1, hM1⟩ : ∃ M, M = againU P Q G W0 r := ⟨_, rfl⟩
  obtain ⟨M2, hM2⟩ : ∃ M, M = crossV P Q U V x z0 r := ⟨_, rfl⟩
  rw [← hE1] at hc1
  rw [← hE2] at hc2
  rw [← hE3] at hc3
  rw [← hO] at ho
  rw [show prodG P [W0, E1] = M1 by rw [hM1, hE1]; rfl] at hd1
  rw [show prodG P [O, E3] = M2 by rw [hM2, hE3, hO, hE2]; rfl] at hd2
  rw [← hM1, ← hM2]
  unfold gval at hc1 hc2 hc3 ho hd1 hd2 ⊢
  obtain ⟨w0, hw0⟩ : ∃ w0, w0 = ((w.alloc (.cells #[.int .u64 (P : Int), .int .u64 (Q : Int), .int .u64 (G : Int), .int .u64 (H : Int), R] 25)).alloc (.cells #[.int .u64 (U : Int), .int .u64 (W0 : Int), .int .u64 (V : Int)] 38)).alloc (.cells #[.int .u64 0, .int .u64 0, .int .u64 0] 38) := ⟨_, rfl⟩
  have hg0 : Blk w0 w.heap.size 25 (glist P Q G H R) := by rw [hw0]; exact ((Blk.of w _ _ _ rfl).alloc _).alloc _
  have hu0 : Blk w0 (w.heap.size + 1) 38 [.int .u64 (U : Int), .int .u64 (W0 : Int), .int .u64 (V : Int)] := by rw [hw0]; exact (Blk.at_new _ _ _ _ _ (by simp) rfl).alloc _
  have ho0 : Blk w0 (w.heap.size + 1 + 1) 38 [.int .u64 0, .int .u64 0, .int .u64 0] := by rw [hw0]; exact Blk.at_new _ _ _ _ _ (by simp) rfl
  have hb0 : Lat w w0 := by rw [hw0]; exact lat_alloc (lat_alloc (lat_alloc (Below.refl _ _) _) _) _
  have Hc1 := Lib.hid hc1
  have Hc2 := Lib.hid hc2
  have Hc3 := Lib.hid hc3
  have Ho := Lib.hid ho
  have Hd1 := Lib.hid hd1
  have Hd2 := Lib.hid hd2
  have Hw0 := Lib.hid hw0
  have Hg0 := Lib.hid hg0
  have Hu0 := Lib.hid hu0
  have Ho0 := Lib.hid ho0
  have Hb0 := Lib.hid hb0
  obtain ⟨g0, g1, g2, g3, g4⟩ := gcells hg0
  obtain ⟨q0, q1, q2⟩ := three_cells hu0
  clear hc1 hc2 hc3 ho hd1 hd2 hE1 hE2 hE3 hO hM1 hM2 hw0 hg0 hu0 ho0 hb0
  go_enter Tryz.func143, Tryz.ntmps143
  go_wp2_with fail
  rw [← Hw0.out]
  have l0 := Later.cell g0
  have l1 := Later.cell g1
  have l2 := Later.cell g2
  have l3 := Later.cell g3
  have l4 := Later.cell g4
  have l5 := Later.cell q0
  have l6 := Later.cell q1
  have l7 := Later.cell q2
  refine region_loose [(20, fun u _ => u = .int .u64 (E1 : Int)), (21, fun u w => ∃ A c, u = .slice A 2 c ∧ Nums w A c [W0, E1]), (22, fun u _ => u = .int .u64 (M1 : Int))]
    (Know.stable_cons (fun _ _ _ h _ => h) (Know.stable_cons (fun _ _ _ h hl => let ⟨A, c, e, hn⟩ := h; ⟨A, c, e, hn.below hl⟩) (Know.stable_cons (fun _ _ _ h _ => h) Know.stable_nil))) (by kernel_rfl) (by kernel_rfl) ?_
  (repeat (first | (refine loose_skip (by rfl) ?_; simp only [Act.put, List.setIfInBounds_toArray, List.set_cons_zero, List.set_cons_succ]) | (refine loose_plain (by rfl) (by rfl) (by rfl) (fun Kc hKc => ?_); go_big_quiet_op; refine hKc _ ?_; clear hKc Kc)))
  refine loose_fix 20 (.int .u64 (E1 : Int)) (f := 74) (args := #[.agg #[.int .u64 (P : Int), .int .u64 (Q : Int), .int .u64 (G : Int), .int .u64 (H : Int), R], .int .u64 (G : Int), .int .u64 (r : Int)]) (fun w => by go_simp; try rfl) (by rfl) (by rfl) (by rfl) (fun _ _ => Iff.rfl) (fun wk _ _ => Hc1.out wk) ?_
  simp only [Act.put, List.setIfInBounds_toArray, List.set_cons_zero, List.set_cons_succ]
  refine loose_make 21 (V := fun w => .slice (some ⟨w.heap.size, 0, none⟩) 2 2) (W := fun w => w.alloc (.cells #[.int .u64 (W0 : Int), .int .u64 (E1 : Int)] 22)) (fun w => by go_simp) (by rfl) (by rfl) (by rfl) (fun w _ _ => ⟨(Below.refl _ _).alloc (Nat.le_refl _) _, _, _, rfl, nums_two w W0 E1 _ hW hb1⟩) ?_
  rintro _ wk hlk ⟨As, cs, rfl, _⟩
  simp only [Act.put, List.setIfInBounds_toArray, List.set_cons_zero, List.set_cons_succ]
  (repeat (first | (refine loose_skip (by rfl) ?_; simp only [Act.put, List.setIfInBounds_toArray, List.set_cons_zero, List.set_cons_succ]) | (refine loose_plain (by rfl) (by rfl) (by rfl) (fun Kc hKc => ?_); go_big_quiet_op; refine hKc _ ?_; clear hKc Kc)))
  refine loose_fix 22 (.int .u64 (M1 : Int)) (f := 153) (args := #[.agg #[.int .u64 (P : Int), .int .u64 (Q : Int), .int .u64 (G : Int), .int .u64 (H : Int), R], .slice As 2 cs]) (fun w => by go_simp; try rfl) (by rfl) (by rfl) (by rfl) (fun _ _ => Iff.rfl) (fun wk _ hd => by
    obtain ⟨A', c', he, hn⟩ := hd 21 (by decide) _ (.inl ⟨rfl, rfl⟩)
    injection he with h1 _ h2
    subst h1 h2
    exact Hd1.out As cs wk hn) ?_
  simp only [Act.put, List.setIfInBounds_toArray, List.set_cons_zero, List.set_cons_succ]
  (repeat (first | (refine loose_skip (by rfl) ?_; simp only [Act.put, List.setIfInBounds_toArray, List.set_cons_zero, List.set_cons_succ]) | (refine loose_plain (by rfl) (by rfl) (by rfl) (fun Kc hKc => ?_); go_big_quiet_op; refine hKc _ ?_; clear hKc Kc)))
  refine loose_nil ?_
  intro wq hbq _
  have Hbq := Lib.hid hbq
  obtain ⟨g0, g1, g2, g3, g4⟩ := gcells (Hg0.out.below hbq Hg0.out.lt)
  obtain ⟨q0, q1, q2⟩ := three_cells (Hu0.out.below hbq Hu0.out.lt)
  clear l0 l1 l2 l3 l4 l5 l6 l7 hbq hlk
  go_wp2_with fail
  have l0 := Later.cell g0
  have l1 := Later.cell g1
  have l2 := Later.cell g2
  have l3 := Later.cell g3
  have l4 := Later.cell g4
  have l5 := Later.cell q0
  have l6 := Later.cell q1
  have l7 := Later.cell q2
  refine region_loose [(30, fun u _ => u = .int .u64 (E2 : Int)), (31, fun u _ => u = .int .u64 (O : Int))]
    (Know.stable_cons (fun _ _ _ h _ => h) (Know.stable_cons (fun _ _ _ h _ => h) Know.stable_nil)) (by kernel_rfl) (by kernel_rfl) ?_
  (repeat (first | (refine loose_skip (by rfl) ?_; simp only [Act.put, List.setIfInBounds_toArray, List.set_cons_zero, List.set_cons_succ]) | (refine loose_plain (by rfl) (by rfl) (by rfl) (fun Kc hKc => ?_); go_big_quiet_op; refine hKc _ ?_; clear hKc Kc)))
  refine loose_fix 30 (.int .u64 (E2 : Int)) (f := 74) (args := #[.agg #[.int .u64 (P : Int), .int .u64 (Q : Int), .int .u64 (G : Int), .int .u64 (H : Int), R], .int .u64 (U : Int), .int .u64 (x : Int)]) (fun w => by go_simp; try rfl) (by rfl) (by rfl) (by rfl) (fun _ _ => Iff.rfl) (fun wk _ _ => Hc2.out wk) ?_
  simp only [Act.put, List.setIfInBounds_toArray, List.set_cons_zero, List.set_cons_succ]
  (repeat (first | (refine loose_skip (by rfl) ?_; simp only [Act.put, List.setIfInBounds_toArray, List.set_cons_zero, List.set_cons_succ]) | (refine loose_plain (by rfl) (by rfl) (by rfl) (fun Kc hKc => ?_); go_big_quiet_op; refine hKc _ ?_; clear hKc Kc)))
  refine loose_fix 31 (.int .u64 (O : Int)) (f := 108) (args := #[.agg #[.int .u64 (P : Int), .int .u64 (Q : Int), .int .u64 (G : Int), .int .u64 (H : Int), R], .int .u64 (V : Int), .int .u64 (E2 : Int)]) (fun w => by go_simp; try rfl) (by rfl) (by rfl) (by rfl) (fun _ _ => Iff.rfl) (fun wk _ _ => Ho.out wk) ?_
  simp only [Act.put, List.setIfInBounds_toArray, List.set_cons_zero, List.set_cons_succ]
  (repeat (first | (refine loose_skip (by rfl) ?_; simp only [Act.put, List.setIfInBounds_toArray, List.set_cons_zero, List.set_cons_succ]) | (refine loose_plain (by rfl) (by rfl) (by rfl) (fun Kc hKc => ?_); go_big_quiet_op; refine hKc _ ?_; clear hKc Kc)))
  refine loose_nil ?_
  intro wp hbp _
  have hbp2 := below_trans Hbq.out hbp
  have Hbp := Lib.hid hbp2
  obtain ⟨g0, g1, g2, g3, g4⟩ := gcells (Hg0.out.below hbp2 Hg0.out.lt)
  obtain ⟨q0, q1, q2⟩ := three_cells (Hu0.out.below hbp2 Hu0.out.lt)
  clear l0 l1 l2 l3 l4 l5 l6 l7 hbp hbp2
  go_wp2_with fail
  have l0 := Later.cell g0
  have l1 := Later.cell g1
  have l2 := Later.cell g2
  have l3 := Later.cell g3
  have l4 := Later.cell g4
  have l5 := Later.cell q0
  have l6 := Later.cell q1
  have l7 := Later.cell q2
  refine region_loose [(37, fun u _ => u = .int .u64 (E3 : Int)), (38, fun u w => ∃ A c, u = .slice A 2 c ∧ Nums w A c [O, E3]), (39, fun u _ => u = .int .u64 (M2 : Int))]
    (Know.stable_cons (fun _ _ _ h _ => h) (Know.stable_cons (fun _ _ _ h hl => let ⟨A, c, e, hn⟩ := h; ⟨A, c, e, hn.below hl⟩) (Know.stable_cons (fun _ _ _ h _ => h) Know.stable_nil))) (by kernel_rfl) (by kernel_rfl) ?_
  (repeat (first | (refine loose_skip (by rfl) ?_; simp only [Act.put, List.setIfInBounds_toArray, List.set_cons_zero, List.set_cons_succ]) | (refine loose_plain (by rfl) (by rfl) (by rfl) (fun Kc hKc => ?_); go_big_quiet_op; refine hKc _ ?_; clear hKc Kc)))
  refine loose_fix 37 (.int .u64 (E3 : Int)) (f := 74) (args := #[.agg #[.int .u64 (P : Int), .int .u64 (Q : Int), .int .u64 (G : Int), .int .u64 (H : Int), R], .int .u64 (z0 : Int), .int .u64 (r : Int)]) (fun w => by go_simp; try rfl) (by rfl) (by rfl) (by rfl) (fun _ _ => Iff.rfl) (fun wk _ _ => Hc3.out wk) ?_
  simp only [Act.put, List.setIfInBounds_toArray, List.set_cons_zero, List.set_cons_succ]
  refine loose_make 38 (V := fun w => .slice (some ⟨w.heap.size, 0, none⟩) 2 2) (W := fun w => w.alloc (.cells #[.int .u64 (O : Int), .int .u64 (E3 : Int)] 22)) (fun w => by go_simp) (by rfl) (by rfl) (by rfl) (fun w _ _ => ⟨(Below.refl _ _).alloc (Nat.le_refl _) _, _, _, rfl, nums_two w O E3 _ hbO hb3⟩) ?_
  rintro _ wk hlk ⟨As2, cs2, rfl, _⟩
  simp only [Act.put, List.setIfInBounds_toArray, List.set_cons_zero, List.set_cons_succ]
  (repeat (first | (refine loose_skip (by rfl) ?_; simp only [Act.put, List.setIfInBounds_toArray, List.set_cons_zero, List.set_cons_succ]) | (refine loose_plain (by rfl) (by rfl) (by rfl) (fun Kc hKc => ?_); go_big_quiet_op; refine hKc _ ?_; clear hKc Kc)))
  refine loose_fix 39 (.int .u64 (M2 : Int)) (f := 153) (args := #[.agg #[.int .u64 (P : Int), .int .u64 (Q : Int), .int .u64 (G : Int), .int .u64 (H : Int), R], .slice As2 2 cs2]) (fun w => by go_simp; try rfl) (by rfl) (by rfl) (by rfl) (fun _ _ => Iff.rfl) (fun wk _ hd => by
    obtain ⟨A', c', he, hn⟩ := hd 38 (by decide) _ (.inl ⟨rfl, rfl⟩)
    injection he with h1 _ h2
    subst h1 h2
    exact Hd2.out As2 cs2 wk hn) ?_
  simp only [Act.put, List.setIfInBounds_toArray, List.set_cons_zero, List.set_cons_succ]
  (repeat (first | (refine loose_skip (by rfl) ?_; simp only [Act.put, List.setIfInBounds_toArray, List.set_cons_zero, List.set_cons_succ]) | (refine loose_plain (by rfl) (by rfl) (by rfl) (fun Kc hKc => ?_); go_big_quiet_op; refine hKc _ ?_; clear hKc Kc)))
  refine loose_nil ?_
  intro wz hbz _
  have hbt := below_trans Hbp.out hbz
  obtain ⟨q0, q1, q2⟩ := three_cells (Hu0.out.below hbt Hu0.out.lt)
  obtain ⟨o0, o1, o2⟩ := three_cells (Ho0.out.below hbt Ho0.out.lt)
  have f0 := (Ho0.out.below hbt Ho0.out.lt).frozen 0
  have f1 := (Ho0.out.below hbt Ho0.out.lt).frozen 1
  have f2 := (Ho0.out.below hbt Ho0.out.lt).frozen 2
  obtain ⟨wy, hwy⟩ : ∃ wy, wy = ((wz.setCell ⟨w.heap.size + 1 + 1, 0, none⟩ (.int .u64 (U : Int))).setCell ⟨w.heap.size + 1 + 1, 1, none⟩ (.int .u64 (M1 : Int))).setCell ⟨w.heap.size + 1 + 1, 2, none⟩ (.int .u64 (M2 : Int)) := ⟨_, rfl⟩
  have hy := (((Ho0.out.below hbt Ho0.out.lt).set 0 (.int .u64 (U : Int))).set 1 (.int .u64 (M1 : Int))).set 2 (.int .u64 (M2 : Int))
  have hby : Lat w wy := by rw [hwy]; exact below_set (below_set (below_set (below_trans Hb0.out hbt) (by omega) _ _) (by omega) _ _) (by omega) _ _
  rw [show List.set (List.set (List.set [Value.int .u64 0, .int .u64 0, .int .u64 0] 0 (.int .u64 (U : Int))) 1 (.int .u64 (M1 : Int))) 2 (.int .u64 (M2 : Int)) = [.int .u64 (U : Int), .int .u64 (M1 : Int), .int .u64 (M2 : Int)] from rfl, ← hwy] at hy
  obtain ⟨y0, y1, y2⟩ := three_cells hy
  have Hby := Lib.hid hby
  have Hwy := Lib.hid hwy
  clear l0 l1 l2 l3 l4 l5 l6 l7 hbz hlk hbt hy hby hwy g0 g1 g2 g3 g4 
  go_wp2_with fail
  rw [← Hwy.out]
  exact bodyPost_ret (v := .agg #[.int .u64 (U : Int), .int .u64 (M1 : Int), .int .u64 (M2 : Int)]) (by simp [results, Tryz.results143, go_sem, y0, y1, y2]) rfl ⟨rfl, Hby.out⟩
end Go.Proofs.YtbpenkaficiodaaGreat

/- Sealed elements: the program's walks. -/
namespace Go.Proofs.YtbpenkaficiodaaGreat
open Go.RowKit Go.BigFrame

theorem mulM_lt64 (a b P : Nat) (hP : P < 18446744073709551616) : mulM a b P < 18446744073709551616 := by have := mulM_lt a b P; omega
theorem mulM_com (a b P : Nat) : mulM a b P = mulM b a P := by unfold mulM; rw [Nat.mul_comm a b]
/-- Two factors in either order. -/
theorem prod_swap {P : Nat} (hr : rightB P = true) (a b : Nat) : prodG P [a, b] = prodG P [b, a] := by
  show mulM (mulM 1 a P) b P = mulM (mulM 1 b P) a P
  rw [mulM_yes hr, mulM_yes hr, mulM_yes hr, mulM_yes hr]
  rw [Nat.one_mul, Nat.one_mul, Nat.mod_mul_mod, Nat.mod_mul_mod, Nat.mul_comm]

set_option maxRecDepth 100000 in
set_option maxHeartbeats 1000000 in
theorem gkey_any (P Q G H x : Nat) (R : Value) (w : World) (hP : P < 18446744073709551616) (hQ : Q < 18446744073709551616) (hG : G < 18446744073709551616) (hx : x < 18446744073709551616) (hQ2 : 2 ≤ Q) :
    Calls Tryz.prog 45 #[.agg #[.int .u64 (P : Int), .int .u64 (Q : Int), .int .u64 (G : Int), .int .u64 (H : Int), R], .int .u64 (x : Int)] w fun e w' => e = .returned (.int .u64 (expG P Q G x : Int)) ∧ Below w.heap.size w w' := by
  have hc := fun W => exp_any P Q G H G x R W hP hQ hQ2 hG hx
  obtain ⟨E, hE⟩ : ∃ s, s = (expG P Q G x) := ⟨_, rfl⟩
  rw [← hE] at hc ⊢
  unfold gval at hc
  have hb := lat_alloc (Below.refl w.heap.size w) (.cells #[.int .u64 (P : Int), .int .u64 (Q : Int), .int .u64 (G : Int), .int .u64 (H : Int), R] 25)
  have Hc := Lib.hid hc; have Hb := Lib.hid hb; clear hc hb
  clear hE
  go_enter Tryz.func45, Tryz.ntmps45
  go_wp2_with (go_at_call 102; refine (Hc.out _).mono ?_; rintro e w3 ⟨rfl, hb3⟩; have Hb3 := Lib.hid hb3; clear hb3)
  go_ret
  exact ⟨rfl, below_trans Hb.out Hb3.out⟩

set_option maxRecDepth 100000 in
set_option maxHeartbeats 1000000 in
theorem gshare_any (P Q G H x u v : Nat) (R : Value) (w : World) (hP : P < 18446744073709551616) (hQ : Q < 18446744073709551616) (hx : x < 18446744073709551616) (hu : u < 18446744073709551616) (hQ2 : 2 ≤ Q) :
    Calls Tryz.prog 48 #[.agg #[.int .u64 (P : Int), .int .u64 (Q : Int), .int .u64 (G : Int), .int .u64 (H : Int), R], .int .u64 (x : Int), .agg #[.int .u64 (u : Int), .int .u64 (v : Int)]] w fun e w' => e = .returned (.int .u64 (expG P Q u x : Int)) ∧ Below w.heap.size w w' := by
  have hc := fun W => exp_any P Q G H u x R W hP hQ hQ2 hu hx
  obtain ⟨E, hE⟩ : ∃ s, s = (expG P Q u x) := ⟨_, rfl⟩
  rw [← hE] at hc ⊢
  unfold gval at hc
  have hb := lat_alloc (lat_alloc (Below.refl w.heap.size w) (.cells #[.int .u64 (P : Int), .int .u64 (Q : Int), .int .u64 (G : Int), .int .u64 (H : Int), R] 25)) (.cells #[.int .u64 (u : Int), .int .u64 (v : Int)] 61)
  have Hc := Lib.hid hc; have Hb := Lib.hid hb; clear hc hb
  clear hE
  go_enter Tryz.func48, Tryz.ntmps48
  go_wp2_with (go_at_call 102; refine (Hc.out _).mono ?_; rintro e w3 ⟨rfl, hb3⟩; have Hb3 := Lib.hid hb3; clear hb3)
  go_ret
  exact ⟨rfl, below_trans Hb.out Hb3.out⟩

set_option maxRecDepth 100000 in
set_option maxHeartbeats 2000000 in
theorem gseal_any (P Q G H y m r : Nat) (R : Value) (w : World) (hP : P < 18446744073709551616) (hQ : Q < 18446744073709551616) (hG : G < 18446744073709551616) (hy : y < 18446744073709551616) (hm : m < 18446744073709551616) (hr : r < 18446744073709551616) (hQ2 : 2 ≤ Q) :
    Calls Tryz.prog 152 #[.agg #[.int .u64 (P : Int), .int .u64 (Q : Int), .int .u64 (G : Int), .int .u64 (H : Int), R], .int .u64 (y : Int), .int .u64 (m : Int), .int .u64 (r : Int)] w fun e w' => e = .returned (.agg #[.int .u64 (expG P Q G r : Int), .int .u64 (againV P Q y m r : Int)]) ∧ Below w.heap.size w w' := by
  have hk := fun W => gkey_any P Q G H r R W hP hQ hG hr hQ2
  have hc := fun W => exp_any P Q G H y r R W hP hQ hQ2 hy hr
  have hE2b : expG P Q y r < 18446744073709551616 := expG_lt hP
  obtain ⟨E1, hE1⟩ : ∃ s, s = (expG P Q G r) := ⟨_, rfl⟩; obtain ⟨E2, hE2⟩ : ∃ s, s = (expG P Q y r) := ⟨_, rfl⟩
  have hd := fun A c W h => prod_any P Q G H R A c [m, E2] W hP (by simp) h
  obtain ⟨M, hM⟩ : ∃ s, s = (againV P Q y m r) := ⟨_, rfl⟩
  rw [← hE1] at hk
  rw [← hE2] at hc hE2b
  rw [show prodG P [m, E2] = M by rw [hM, hE2]; rfl] at hd
  rw [← hM, ← hE1]
  unfold gval at hc hd
  obtain ⟨w0, hw0⟩ : ∃ z, z = ((w.alloc (.cells #[.int .u64 (P : Int), .int .u64 (Q : Int), .int .u64 (G : Int), .int .u64 (H : Int), R] 25)).alloc (.cells #[.int .u64 0, .int .u64 0] 61)) := ⟨_, rfl⟩
  have hw0b : Below w.heap.size w w0 := by rw [hw0]; exact lat_alloc (lat_alloc (Below.refl _ _) _) _
  have hg : Blk w0 (w.heap.size) 25 [.int .u64 (P : Int), .int .u64 (Q : Int), .int .u64 (G : Int), .int .u64 (H : Int), R] := by rw [hw0]; exact ((Blk.of w _ _ _ rfl).alloc _)
  have ho : Blk w0 (w.heap.size + 1) 61 [.int .u64 0, .int .u64 0] := by rw [hw0]; exact (Blk.at_new _ _ _ _ _ (by simp) rfl)
  obtain ⟨g0, g1, g2, g3, g4⟩ := gcells hg
  have Hk := Lib.hid hk; have Hc := Lib.hid hc; have Hd := Lib.hid hd; have Hw0 := Lib.hid hw0; have Hw0b := Lib.hid hw0b; have Ho := Lib.hid ho; clear hk hc hd hw0 hw0b ho
  clear hM hE1 hE2 hg
  go_enter Tryz.func152, Tryz.ntmps152
  go_wp2_with fail
  rw [← Hw0.out]
  have l0 := Later.cell g0
  have l1 := Later.cell g1
  have l2 := Later.cell g2
  have l3 := Later.cell g3
  have l4 := Later.cell g4
  clear g0 g1 g2 g3 g4
  refine region_float_tail [(11, fun u _ => u = .int .u64 (E1 : Int)), (17, fun u _ => u = .int .u64 (E2 : Int)), (18, fun u w => ∃ A c, u = .slice A 2 c ∧ Nums w A c [m, E2]), (19, fun u _ => u = .int .u64 (M : Int))] 12
    (Know.stable_cons (fun _ _ _ h _ => h) (Know.stable_cons (fun _ _ _ h _ => h) (Know.stable_cons (fun _ _ _ h hl => let ⟨A, c, e, hn⟩ := h; ⟨A, c, e, hn.below hl⟩) (Know.stable_cons (fun _ _ _ h _ => h) Know.stable_nil)))) (by kernel_rfl) (by kernel_rfl) (by kernel_rfl) ?_
  simp only [List.take_succ_cons, List.take_zero, List.drop_succ_cons, List.drop_zero]
  (repeat (first | (refine loose_skip (by rfl) ?_; simp only [Act.put, List.setIfInBounds_toArray, List.set_cons_zero, List.set_cons_succ]) | (refine loose_plain (by rfl) (by rfl) (by rfl) (fun Kc hKc => ?_); go_big_quiet_op; refine hKc _ ?_; clear hKc Kc)))
  refine loose_fix 11 (.int .u64 (E1 : Int)) (f := 45) (args := #[.agg #[.int .u64 (P : Int), .int .u64 (Q : Int), .int .u64 (G : Int), .int .u64 (H : Int), R], .int .u64 (r : Int)]) (fun w => by go_simp; try rfl) (by rfl) (by rfl) (by rfl) (fun _ _ => Iff.rfl) (fun wk hl hd => Hk.out wk) ?_
  simp only [Act.put, List.setIfInBounds_toArray, List.set_cons_zero, List.set_cons_succ]
  (repeat (first | (refine loose_skip (by rfl) ?_; simp only [Act.put, List.setIfInBounds_toArray, List.set_cons_zero, List.set_cons_succ]) | (refine loose_plain (by rfl) (by rfl) (by rfl) (fun Kc hKc => ?_); go_big_quiet_op; refine hKc _ ?_; clear hKc Kc)))
  refine loose_fix 17 (.int .u64 (E2 : Int)) (f := 102) (args := #[.agg #[.int .u64 (P : Int), .int .u64 (Q : Int), .int .u64 (G : Int), .int .u64 (H : Int), R], .int .u64 (y : Int), .int .u64 (r : Int)]) (fun w => by go_simp; try rfl) (by rfl) (by rfl) (by rfl) (fun _ _ => Iff.rfl) (fun wk hl hd => Hc.out wk) ?_
  simp only [Act.put, List.setIfInBounds_toArray, List.set_cons_zero, List.set_cons_succ]
  (repeat (first | (refine loose_skip (by rfl) ?_; simp only [Act.put, List.setIfInBounds_toArray, List.set_cons_zero, List.set_cons_succ]) | (refine loose_plain (by rfl) (by rfl) (by rfl) (fun Kc hKc => ?_); go_big_quiet_op; refine hKc _ ?_; clear hKc Kc)))
  refine loose_make 18 (V := fun w => .slice (some ⟨w.heap.size, 0, none⟩) 2 2) (W := fun w => w.alloc (.cells #[.int .u64 (m : Int), .int .u64 (E2 : Int)] 22)) (fun w => by go_simp) (by rfl) (by rfl) (by rfl) (fun w _ _ => ⟨(Below.refl _ _).alloc (Nat.le_refl _) _, _, _, rfl, nums_two w m E2 _ hm hE2b⟩) ?_; rintro _ wk hlk ⟨As, cs, rfl, _⟩
  simp only [Act.put, List.setIfInBounds_toArray, List.set_cons_zero, List.set_cons_succ]
  (repeat (first | (refine loose_skip (by rfl) ?_; simp only [Act.put, List.setIfInBounds_toArray, List.set_cons_zero, List.set_cons_succ]) | (refine loose_plain (by rfl) (by rfl) (by rfl) (fun Kc hKc => ?_); go_big_quiet_op; refine hKc _ ?_; clear hKc Kc)))
  refine loose_fix 19 (.int .u64 (M : Int)) (f := 104) (args := #[.agg #[.int .u64 (P : Int), .int .u64 (Q : Int), .int .u64 (G : Int), .int .u64 (H : Int), R], .slice As 2 cs]) (fun w => by go_simp; try rfl) (by rfl) (by rfl) (by rfl) (fun _ _ => Iff.rfl) (fun wk hl hd => let ⟨A1, c1, he, hn⟩ := hd 18 (by decide) _ (.inl ⟨rfl, rfl⟩); by (injection he with h1 _ h2; subst h1 h2; exact Hd.out _ _ _ hn)) ?_
  simp only [Act.put, List.setIfInBounds_toArray, List.set_cons_zero, List.set_cons_succ]
  (repeat (first | (refine loose_skip (by rfl) ?_; simp only [Act.put, List.setIfInBounds_toArray, List.set_cons_zero, List.set_cons_succ]) | (refine loose_plain (by rfl) (by rfl) (by rfl) (fun Kc hKc => ?_); go_big_quiet_op; refine hKc _ ?_; clear hKc Kc)))
  refine loose_nil ?_
  intro wz hbz _
  obtain ⟨o0, o1⟩ := cells_2 (Ho.out.below hbz Ho.out.lt)
  have f0 := (Ho.out.below hbz Ho.out.lt).frozen 0
  have f1 := (Ho.out.below hbz Ho.out.lt).frozen 1
  obtain ⟨wy, hwy⟩ : ∃ z, z = (wz.setCell ⟨w.heap.size + 1, 0, none⟩ (.int .u64 (E1 : Int))).setCell ⟨w.heap.size + 1, 1, none⟩ (.int .u64 (M : Int)) := ⟨_, rfl⟩
  have hy : Blk wy (w.heap.size + 1) 61 [.int .u64 (E1 : Int), .int .u64 (M : Int)] := by rw [hwy]; exact ((Ho.out.below hbz Ho.out.lt).set 0 (.int .u64 (E1 : Int))).set 1 (.int .u64 (M : Int))
  have hby : Below w.heap.size w wy := by rw [hwy]; exact below_set (below_set (below_trans Hw0b.out hbz) (by omega) _ _) (by omega) _ _
  obtain ⟨y0, y1⟩ := cells_2 hy
  have Hby := Lib.hid hby
  have Hwy := Lib.hid hwy
  clear hbz hy hby hwy l0 l1 l2 l3 l4 hlk
  go_wp2_with fail
  refine NoPanic.normal ?_
  go_wp2_with fail
  rw [← Hwy.out]
  exact bodyPost_ret (v := .agg #[.int .u64 (E1 : Int), .int .u64 (M : Int)]) (by simp [results, Tryz.results152, go_sem, y0, y1]) rfl ⟨rfl, Hby.out⟩

set_option maxRecDepth 100000 in
set_option maxHeartbeats 2000000 in
theorem gagain_any (P Q G H y u v r : Nat) (R : Value) (w : World) (hP : P < 18446744073709551616) (hQ : Q < 18446744073709551616) (hG : G < 18446744073709551616) (hy : y < 18446744073709551616) (hu : u < 18446744073709551616) (hv : v < 18446744073709551616) (hr : r < 18446744073709551616) (hQ2 : 2 ≤ Q) (hPr : rightB P = true) :
    Calls Tryz.prog 93 #[.agg #[.int .u64 (P : Int), .int .u64 (Q : Int), .int .u64 (G : Int), .int .u64 (H : Int), R], .int .u64 (y : Int), .agg #[.int .u64 (u : Int), .int .u64 (v : Int)], .int .u64 (r : Int)] w fun e w' => e = .returned (.agg #[.int .u64 (againU P Q G u r : Int), .int .u64 (againV P Q y v r : Int)]) ∧ Below w.heap.size w w' := by
  have hk := fun W => gseal_any P Q G H y v r R W hP hQ hG hy hv hr hQ2
  have hE1b : expG P Q G r < 18446744073709551616 := expG_lt hP
  obtain ⟨E1, hE1⟩ : ∃ s, s = (expG P Q G r) := ⟨_, rfl⟩; obtain ⟨M2, hM2⟩ : ∃ s, s = (againV P Q y v r) := ⟨_, rfl⟩; obtain ⟨M1, hM1⟩ : ∃ s, s = (againU P Q G u r) := ⟨_, rfl⟩
  have hd := fun A c W h => prod_any P Q G H R A c [E1, u] W hP (by simp) h
  rw [← hE1, ← hM2] at hk
  rw [← hE1] at hE1b
  rw [show prodG P [E1, u] = M1 by rw [prod_swap hPr, hM1, hE1]; rfl] at hd
  rw [← hM1, ← hM2]
  unfold gval at hd
  obtain ⟨w0, hw0⟩ : ∃ z, z = (((w.alloc (.cells #[.int .u64 (P : Int), .int .u64 (Q : Int), .int .u64 (G : Int), .int .u64 (H : Int), R] 25)).alloc (.cells #[.int .u64 (u : Int), .int .u64 (v : Int)] 61)).alloc (.cells #[.int .u64 0, .int .u64 0] 61)) := ⟨_, rfl⟩
  have hw0b : Below w.heap.size w w0 := by rw [hw0]; exact lat_alloc (lat_alloc (lat_alloc (Below.refl _ _) _) _) _
  have hg : Blk w0 (w.heap.size) 25 [.int .u64 (P : Int), .int .u64 (Q : Int), .int .u64 (G : Int), .int .u64 (H : Int), R] := by rw [hw0]; exact (((Blk.of w _ _ _ rfl).alloc _).alloc _)
  have hc : Blk w0 (w.heap.size + 1) 61 [.int .u64 (u : Int), .int .u64 (v : Int)] := by rw [hw0]; exact ((Blk.at_new _ _ _ _ _ (by simp) rfl).alloc _)
  have ho : Blk w0 (w.heap.size + 1 + 1) 61 [.int .u64 0, .int .u64 0] := by rw [hw0]; exact (Blk.at_new _ _ _ _ _ (by simp) rfl)
  obtain ⟨g0, g1, g2, g3, g4⟩ := gcells hg
  obtain ⟨c0, c1⟩ := cells_2 hc
  have Hk := Lib.hid hk; have Hd := Lib.hid hd; have Hw0 := Lib.hid hw0; have Hw0b := Lib.hid hw0b; have Hg := Lib.hid hg; have Hc := Lib.hid hc; have Ho := Lib.hid ho; clear hk hd hw0 hw0b hg hc ho
  clear hM1 hM2 hE1
  go_enter Tryz.func93, Tryz.ntmps93
  go_wp2_with (first | (go_at_call 152; rw [← Hw0.out]; refine (Hk.out _).mono ?_; rintro e w3 ⟨rfl, hb3⟩; have g0 := fun o => (gcells ((Hg.out.below hb3 Hg.out.lt).alloc o)).1; have g1 := fun o => (gcells ((Hg.out.below hb3 Hg.out.lt).alloc o)).2.1; have g2 := fun o => (gcells ((Hg.out.below hb3 Hg.out.lt).alloc o)).2.2.1; have g3 := fun o => (gcells ((Hg.out.below hb3 Hg.out.lt).alloc o)).2.2.2.1; have g4 := fun o => (gcells ((Hg.out.below hb3 Hg.out.lt).alloc o)).2.2.2.2; have c0 := fun o => (cells_2 ((Hc.out.below hb3 Hc.out.lt).alloc o)).1; have c1 := fun o => (cells_2 ((Hc.out.below hb3 Hc.out.lt).alloc o)).2; have Hb3 := Lib.hid hb3; clear hb3) | fail)
  have hp0 : Blk ((w3.alloc (.cells #[.int .u64 (E1 : Int), .int .u64 (M2 : Int)] 61)).alloc (.cells #[.int .u64 (E1 : Int), .int .u64 (u : Int)] 22)) w3.heap.size 61 [.int .u64 (E1 : Int), .int .u64 (M2 : Int)] := (Blk.of w3 _ _ _ rfl).alloc _
  have hnn := nums_two (w3.alloc (.cells #[.int .u64 (E1 : Int), .int .u64 (M2 : Int)] 61)) E1 u 22 hE1b hu
  rw [show (w3.alloc (.cells #[.int .u64 (E1 : Int), .int .u64 (M2 : Int)] 61)).heap.size = w3.heap.size + 1 by simp] at hnn
  have hbx : Below w0.heap.size w0 ((w3.alloc (.cells #[.int .u64 (E1 : Int), .int .u64 (M2 : Int)] 61)).alloc (.cells #[.int .u64 (E1 : Int), .int .u64 (u : Int)] 22)) := lat_alloc (lat_alloc Hb3.out _) _
  refine (Hd.out _ _ _ hnn).mono ?_
  rintro e w4 ⟨rfl, hb4⟩
  have hp4 := hp0.below hb4 hp0.lt
  have ho4 := Ho.out.below (below_trans hbx hb4) Ho.out.lt
  obtain ⟨p0, p1⟩ := cells_2 hp4
  have p2 := hp4.frozen 0
  have h34 : w3.heap.size ≠ w.heap.size + 1 + 1 := by have := Hb3.out.size; have := Ho.out.lt; omega
  have hp5 := hp4.set 0 (.int .u64 (M1 : Int))
  have ho5 := ho4.other (a := ⟨w3.heap.size, 0, none⟩) (fun h => h34 h.symm) (.int .u64 (M1 : Int))
  obtain ⟨q0, q1⟩ := cells_2 (show Blk _ _ _ [.int .u64 (M1 : Int), .int .u64 (M2 : Int)] from hp5)
  obtain ⟨o0, o1⟩ := cells_2 ho5
  have f0 := ho5.frozen 0
  have f1 := ho5.frozen 1
  have hle : w.heap.size + 1 + 1 < w3.heap.size := by have := Hb3.out.size; have := Ho.out.lt; omega
  have hy : Blk (((w4.setCell ⟨w3.heap.size, 0, none⟩ (.int .u64 (M1 : Int))).setCell ⟨w.heap.size + 1 + 1, 0, none⟩ (.int .u64 (M1 : Int))).setCell ⟨w.heap.size + 1 + 1, 1, none⟩ (.int .u64 (M2 : Int))) (w.heap.size + 1 + 1) 61 [.int .u64 (M1 : Int), .int .u64 (M2 : Int)] := (ho5.set 0 (.int .u64 (M1 : Int))).set 1 (.int .u64 (M2 : Int))
  have hby : Below w.heap.size w (((w4.setCell ⟨w3.heap.size, 0, none⟩ (.int .u64 (M1 : Int))).setCell ⟨w.heap.size + 1 + 1, 0, none⟩ (.int .u64 (M1 : Int))).setCell ⟨w.heap.size + 1 + 1, 1, none⟩ (.int .u64 (M2 : Int))) := below_set (below_set (below_set (below_trans Hw0b.out (below_trans hbx hb4)) (by omega) _ _) (by omega) _ _) (by omega) _ _
  obtain ⟨y0, y1⟩ := cells_2 hy
  have Hby := Lib.hid hby
  clear hp0 hnn hbx hb4 hp4 ho4 hp5 ho5 hy hby g0 g1 g2 g3 g4 c0 c1 hE1b
  go_wp2_with fail
  exact bodyPost_ret (v := .agg #[.int .u64 (M1 : Int), .int .u64 (M2 : Int)]) (by simp [results, Tryz.results93, go_sem, y0, y1]) rfl ⟨rfl, Hby.out⟩
end Go.Proofs.YtbpenkaficiodaaGreat

/- A draw of a seed: the program's walk. -/
namespace Go.Proofs.YtbpenkaficiodaaGreat
open Go.RowKit Go.BigFrame

def tDraw : List UInt8 := [100, 114, 97, 119]
/-- The kth draw of a seed. -/
def drawN (seed : List UInt8) (Q k : Nat) : Nat := numberOf tDraw [seed, be 8 k] Q
theorem drawN_lt (seed : List UInt8) (Q k : Nat) : drawN seed Q k < 18446744073709551616 := by
  have := fold_le Q ((sha (numText (tDraw :: [seed, be 8 k]))).take 16) 0 (by omega)
  unfold drawN numberOf
  omega
def drawCells (k i : Nat) : List Value := vbytes (List.replicate (8 - i) 0 ++ (be 8 k).drop (8 - i))
theorem drawCells_set (k i : Nat) (h : i < 8) : (drawCells k i).set (7 - i) (.int .u8 ((k : Int) / 2 ^ (8 * i) % 256)) = drawCells k (i + 1) := by
  rw [be_val]
  have hi : i = 0 ∨ i = 1 ∨ i = 2 ∨ i = 3 ∨ i = 4 ∨ i = 5 ∨ i = 6 ∨ i = 7 := by omega
  rcases hi with rfl | rfl | rfl | rfl | rfl | rfl | rfl | rfl <;> simp [drawCells, be, vbytes, List.replicate]
theorem strs_two (w : World) (x y : List UInt8) (t : TypeId) : Strs (w.alloc (.cells #[.string (str x), .string (str y)] t)) (some ⟨w.heap.size, 0, none⟩) 2 [x, y] := by
  have hb := Blk.of w t #[.string (str x), .string (str y)] _ rfl
  refine ⟨by simp, fun i z hz => ⟨_, rfl, ?_⟩⟩
  rw [blk_add, hb.cell]
  match i, hz with
  | 0, hz => injection hz with hz; subst hz; rfl
  | 1, hz => injection hz with hz; subst hz; rfl

/-- string(v), where v's block is an array's. -/
theorem Row.stringT {P : Program} {w : World} {B : Nat} {src dst e e' : TypeId} {v : Value} {l : List UInt8} (hs : P.underlying src = some (.slice e)) (he : P.underlying e = some (.int .u8)) (hd : P.underlying dst = some .string)
    (h : Row w B e' 1 v l.length (vbytes l)) : (convert src dst v).run P w = .ok (.string (str l)) w := by
  rcases Nat.eq_zero_or_pos l.length with h0 | h0
  · obtain rfl : l = [] := List.eq_nil_of_length_eq_zero h0
    obtain ⟨A, c, rfl⟩ := h.slice
    cases A with
    | none => exact run_convert_bytes_nil w src e hs he 0 c dst hd
    | some ad =>
      rcases h.2 with ⟨hn, _⟩ | ⟨g, cap, cur, fz, hv, _⟩
      · cases hn
      · injection hv with hv _ _
        injection hv with hv
        subst hv
        have hx := run_convert_bytes_arg (P := P) w src e hs he g 0 0 c [] rfl (fun i hi => by omega) dst hd
        exact hx
  · obtain ⟨g, cap, rfl, _, _, _, hc⟩ := h.form h0
    have hx := run_convert_bytes_arg (P := P) w src e hs he g 0 l.length cap (l.map fun c => (c.toNat : Int)) (by simp) (fun i hi => ?_) dst hd
    · rw [hx]
      congr 2
      simp only [strOfNums, str, List.map_map]
      congr 2
      conv => rhs; rw [← List.map_id l]
      apply List.map_congr_left
      intro c _
      simp
    · have := (hc i (.int .u8 ((l.map fun c => (c.toNat : Int)).getD i 0)) (by simp [vbytes, hi])).1
      simpa using this

set_option maxRecDepth 100000 in
set_option maxHeartbeats 4000000 in
theorem draw_any (P Q G H k : Nat) (R : Value) (seed : List UInt8) (w : World) (hP : P < 18446744073709551616) (hQ : Q < 18446744073709551616) (hG : G < 18446744073709551616) (hH : H < 18446744073709551616) (hk : k < 4611686018427387904) (hs : seed.length ≤ 1000000) :
    Calls Tryz.prog 140 #[.agg #[.int .u64 (P : Int), .int .u64 (Q : Int), .int .u64 (G : Int), .int .u64 (H : Int), R], .string (str seed), .int .i64 (k : Int)] w fun e w' => e = .returned (.int .u64 (drawN seed Q k : Int)) ∧ Below w.heap.size w w' := by
  obtain ⟨w0, hw0⟩ : ∃ z, z = ((w.alloc (.cells #[.int .u64 (P : Int), .int .u64 (Q : Int), .int .u64 (G : Int), .int .u64 (H : Int), R] 25)).alloc (.cells #[.int .u8 0, .int .u8 0, .int .u8 0, .int .u8 0, .int .u8 0, .int .u8 0, .int .u8 0, .int .u8 0] 200)) := ⟨_, rfl⟩
  have hw0b : Below w.heap.size w w0 := by rw [hw0]; exact lat_alloc (lat_alloc (Below.refl _ _) _) _
  have hg : Blk w0 (w.heap.size) 25 [.int .u64 (P : Int), .int .u64 (Q : Int), .int .u64 (G : Int), .int .u64 (H : Int), R] := by rw [hw0]; exact ((Blk.of w _ _ _ rfl).alloc _)
  have hb : Blk w0 (w.heap.size + 1) 200 [.int .u8 0, .int .u8 0, .int .u8 0, .int .u8 0, .int .u8 0, .int .u8 0, .int .u8 0, .int .u8 0] := by rw [hw0]; exact (Blk.at_new _ _ _ _ _ (by simp) rfl)
  have hnum := fun W A c (hp : Strs W A c [seed, be 8 k]) => number_text tDraw A c [seed, be 8 k] Q W hp hQ (by simp [numText, lenText, be_length, tDraw]; omega) (by simp)
  obtain ⟨out, hout⟩ : ∃ s, s = (drawN seed Q k) := ⟨_, rfl⟩
  rw [← hout]
  rw [show numberOf tDraw [seed, be 8 k] Q = out from hout.symm] at hnum
  have Hw0b := Lib.hid hw0b; have Hw0 := Lib.hid hw0; have Hg := Lib.hid hg; have Hnum := Lib.hid hnum; clear hw0b hw0 hg hnum
  clear hout
  have Hb := Lib.hid (show Blk w0 (w.heap.size + 1) 200 (drawCells k 0) from hb)
  clear hb
  go_enter Tryz.func140, Tryz.ntmps140
  go_wp2_with fail
  rw [← Hw0.out]
  go_loopw [9] (fun iv wr => ∃ i : Nat, iv = .int .i64 (i : Int) ∧ i ≤ 8 ∧ Blk wr (w.heap.size + 1) 200 (drawCells k i) ∧ Blk wr w.heap.size 25 (glist P Q G H R) ∧ Below w.heap.size w wr) (fun iv _ => 8 - (intOf iv).toNat)
  case atStart => exact ⟨0, rfl, by omega, Hb.out, Hg.out, Hw0b.out⟩
  case round =>
    obtain ⟨i, rfl, hi, hbi, hgi, hbr⟩ := hrel
    have Hbi := Lib.hid hbi; have Hgi := Lib.hid hgi; have Hbr := Lib.hid hbr; clear hbi hgi hbr
    by_cases hi8 : i < 8
    · have d9 : decide ((i : Int) < 8) = true := decide_eq_true (by omega)
      obtain ⟨v, hv⟩ : ∃ v, (drawCells k i)[7 - i]? = some v := ⟨_, List.getElem?_eq_getElem (by simp [drawCells, vbytes, be_length]; omega)⟩
      have hc : wr.cell? ⟨w.heap.size + 1, 7 - i, none⟩ = some v := by rw [Hbi.out.cell, hv]
      have hz := Hbi.out.frozen (7 - i)
      have hset := Hbi.out.set (7 - i) (.int .u8 ((k : Int) / 2 ^ (8 * i) % 256))
      rw [drawCells_set k i hi8] at hset
      have Hset := Lib.hid hset; clear hset
      clear hv
      go_wp2_with fail
      go_roundw
      case rel => exact ⟨i + 1, by go_num, by omega, Hset.out, Hgi.out.other (by simp) _, below_set Hbr.out (by omega) _ _⟩
      case measure => simp [intOf]; omega
    · obtain rfl : i = 8 := by omega
      have d9 : decide (((8 : Nat) : Int) < 8) = false := by decide
      have hbe : drawCells k 8 = vbytes (be 8 k) := by simp [drawCells]
      have hrow : Row wr (w.heap.size + 1) 200 1 (.slice (some ⟨w.heap.size + 1, 0, none⟩) 8 8) 8 (vbytes (be 8 k)) := by rw [← hbe]; exact Row.of_blk Hbi.out 8 (by simp [drawCells, vbytes, be_length]) (by simp [maxLen])
      have hcv : ∀ p : Later wr, (convert 201 9 (.slice (some ⟨w.heap.size + 1, 0, none⟩) 8 8)).run Tryz.prog p.val = .ok (.string (str (be 8 k))) p.val := fun p => Row.stringT Tryz.underlying_bytes Tryz.underlying_u8 Tryz.underlying_str (l := be 8 k) (by rw [be_length]; exact hrow.below p.below)
      obtain ⟨g0, g1, g2, g3, g4⟩ := gcells Hgi.out
      have l1 := Later.cell g1
      clear hbe hrow
      go_wp2_with fail
      refine region_loose [(25, fun u w' => ∃ A c, u = .slice A 2 c ∧ Strs w' A c [seed, be 8 k]), (28, fun u _ => u = .int .u64 (out : Int))] (Know.stable_cons (fun _ _ _ h hl => let ⟨A, c, e, hr⟩ := h; ⟨A, c, e, hr.below hl⟩) (Know.stable_cons (fun _ _ _ h _ => h) Know.stable_nil)) (by kernel_rfl) (by kernel_rfl) ?_
      (repeat (first | (refine loose_skip (by rfl) ?_; simp only [Act.put, List.setIfInBounds_toArray, List.set_cons_zero, List.set_cons_succ]) | (refine loose_plain (by rfl) (by rfl) (by rfl) (fun Kc hKc => ?_); go_big_quiet_op; refine hKc _ ?_; clear hKc Kc)))
      refine loose_make 25 (V := fun w => .slice (some ⟨w.heap.size, 0, none⟩) 2 2) (W := fun w => w.alloc (.cells #[.string (str seed), .string (str (be 8 k))] 9)) (fun w => by go_simp; try rfl) (by rfl) (by rfl) (by rfl) (fun wk hlk _ => ⟨(Below.refl _ _).alloc (Nat.le_refl _) _, _, _, rfl, strs_two _ _ _ _⟩) ?_
      rintro _ wk hlk ⟨As, cs, rfl, hst⟩
      simp only [Act.put, List.setIfInBounds_toArray, List.set_cons_zero, List.set_cons_succ]
      (repeat (first | (refine loose_skip (by rfl) ?_; simp only [Act.put, List.setIfInBounds_toArray, List.set_cons_zero, List.set_cons_succ]) | (refine loose_plain (by rfl) (by rfl) (by rfl) (fun Kc hKc => ?_); go_big_quiet_op; refine hKc _ ?_; clear hKc Kc)))
      refine loose_fix 28 (.int .u64 (out : Int)) (f := 163) (args := #[.string (str tDraw), .slice As 2 cs, .int .u64 (Q : Int)]) (fun w => by go_simp; try rfl) (by rfl) (by rfl) (by rfl) (fun _ _ => Iff.rfl) (fun wk2 hl2 hd => by
        obtain ⟨A2, c2, he, hs2⟩ := hd 25 (by decide) _ (.inl ⟨rfl, rfl⟩)
        injection he with he _ hc
        subst he hc
        exact Hnum.out wk2 _ _ hs2) ?_
      simp only [Act.put, List.setIfInBounds_toArray, List.set_cons_zero, List.set_cons_succ]
      (repeat (first | (refine loose_skip (by rfl) ?_; simp only [Act.put, List.setIfInBounds_toArray, List.set_cons_zero, List.set_cons_succ]) | (refine loose_plain (by rfl) (by rfl) (by rfl) (fun Kc hKc => ?_); go_big_quiet_op; refine hKc _ ?_; clear hKc Kc)))
      refine loose_nil ?_
      intro wq hbq _
      have Hbq := Lib.hid (show Below wr.heap.size wr wq from hbq)
      clear hbq hst hlk
      go_wp2_with fail
      go_ret
      exact ⟨rfl, below_trans Hbr.out Hbq.out⟩
end Go.Proofs.YtbpenkaficiodaaGreat

/- A number as an element of its own; draws of a seed, so many: the program's walks. -/
namespace Go.Proofs.YtbpenkaficiodaaGreat
open Go.RowKit Go.BigFrame

theorem Row.cellAt {w : World} {B g n c : Nat} {e : TypeId} {xs : List Value} (h : Row w B e 1 (.slice (some ⟨g, 0, none⟩) n c) n xs) (hn : 0 < n) {j : Nat} {u : Value} (hu : xs[j]? = some u) : w.cell? ⟨g, j, none⟩ = some u ∧ w.frozen? ⟨g, j, none⟩ = false := by
  obtain ⟨g', cap, he, _, _, _, hc⟩ := h.form hn
  injection he with he
  injection he with he
  injection he with he
  subst he
  exact hc j u hu
def layN (P Q k : Nat) : Nat := if inG P Q (k + 1) then k + 1 else P - (k + 1)

set_option maxRecDepth 100000 in
set_option maxHeartbeats 1000000 in
theorem lay_no (P Q G H k : Nat) (R : Value) (w : World) (hP : P < 18446744073709551616) (hQ : Q < 18446744073709551616) (hk : k < 18446744073709551616) (h : Q ≤ k) :
    Calls Tryz.prog 176 #[.agg #[.int .u64 (P : Int), .int .u64 (Q : Int), .int .u64 (G : Int), .int .u64 (H : Int), R], .int .u64 (k : Int)] w fun e w' => e = .returned (.tuple #[.int .u64 0, .bool false]) ∧ Below w.heap.size w w' := by
  have hb := lat_alloc (Below.refl w.heap.size w) (.cells #[.int .u64 (P : Int), .int .u64 (Q : Int), .int .u64 (G : Int), .int .u64 (H : Int), R] 25)
  have d1 : decide ((Q : Int) ≤ (k : Int)) = true := decide_eq_true (by omega)
  have Hb := Lib.hid hb; clear hb
  go_enter Tryz.func176, Tryz.ntmps176
  go_wp2_with fail
  go_ret2
  exact ⟨rfl, Hb.out⟩

set_option maxRecDepth 100000 in
set_option maxHeartbeats 1000000 in
theorem lay_yes (P Q G H k : Nat) (R : Value) (w : World) (hP : P < 18446744073709551616) (hQ : Q < 18446744073709551616) (hk : k < 18446744073709551616) (h : k < Q) (hPQ : P = 2 * Q + 1) (hQm : Q < 2305843009213693952) :
    Calls Tryz.prog 176 #[.agg #[.int .u64 (P : Int), .int .u64 (Q : Int), .int .u64 (G : Int), .int .u64 (H : Int), R], .int .u64 (k : Int)] w fun e w' => e = .returned (.tuple #[.int .u64 (layN P Q k : Int), .bool true]) ∧ Below w.heap.size w w' := by
  have hb := lat_alloc (Below.refl w.heap.size w) (.cells #[.int .u64 (P : Int), .int .u64 (Q : Int), .int .u64 (G : Int), .int .u64 (H : Int), R] 25)
  have hg : Blk (w.alloc (.cells #[.int .u64 (P : Int), .int .u64 (Q : Int), .int .u64 (G : Int), .int .u64 (H : Int), R] 25)) w.heap.size 25 (glist P Q G H R) := Blk.of w _ _ _ rfl
  have d1 : decide ((Q : Int) ≤ (k : Int)) = false := decide_eq_false (by omega)
  have hc := fun W => in_any P Q G H (k + 1) R W hP hQ (by omega)
  unfold gval at hc
  push_cast at hc
  obtain ⟨r, hr⟩ : ∃ s, s = (inG P Q (k + 1)) := ⟨_, rfl⟩; obtain ⟨out, hout⟩ : ∃ s, s = (layN P Q k) := ⟨_, rfl⟩
  rw [← hr] at hc
  rw [← hout]
  have ho : out = if r then k + 1 else P - (k + 1) := by rw [hout, layN, hr]
  have hw1 : ((k : Int) + 1) % 18446744073709551616 = (k : Int) + 1 := Int.emod_eq_of_lt (by omega) (by omega)
  have hk2 : (k : Int) + 1 < 18446744073709551616 := by omega
  have hk3 : (0 : Int) ≤ (k : Int) + 1 := by omega
  have Hb := Lib.hid hb; have Hg := Lib.hid hg; have Hc := Lib.hid hc; have Ho := Lib.hid ho; clear hb hg hc ho
  have hPk : k + 1 ≤ P := by omega
  clear hout hr hPQ hQm hk2 hk3 hw1
  have d2 : decide (Q ≤ k) = false := decide_eq_false (by omega)
  have HPk := Lib.hid hPk; clear hPk
  go_enter Tryz.func176, Tryz.ntmps176
  cases r with
  | true =>
    have ho : out = k + 1 := by rw [Ho.out]; rfl
    subst ho
    go_wp2_with (first | (go_at_call 77; refine (Hc.out _).mono ?_; rintro e w3 ⟨rfl, hb3⟩; have Hb3 := Lib.hid hb3; clear hb3) | fail)
    go_ret2
    exact ⟨rfl, below_trans Hb.out Hb3.out⟩
  | false =>
    have ho : out = P - (k + 1) := by rw [Ho.out]; rfl
    have hw2 : IntKind.u64.wrap ((P : Int) - ((k : Int) + 1)) = (out : Int) := by
      have := HPk.out
      have e : (P : Int) - ((k : Int) + 1) = (out : Int) := by omega
      rw [e]
      unfold IntKind.wrap
      simp [IntKind.bits, IntKind.signed]
      omega
    clear ho
    go_wp2_with (first | (go_at_call 77; refine (Hc.out _).mono ?_; rintro e w3 ⟨rfl, hb3⟩; obtain ⟨g0, g1, g2, g3, g4⟩ := gcells (Hg.out.below hb3 Hg.out.lt); have Hb3 := Lib.hid hb3; clear hb3) | fail)
    go_ret2
    exact ⟨rfl, below_trans Hb.out Hb3.out⟩

/-- So many draws, from one on. -/
def drawsL (seed : List UInt8) (Q b n : Nat) : List Nat := (List.range n).map fun i => drawN seed Q (b + i)
theorem drawsL_len (seed : List UInt8) (Q b n : Nat) : (drawsL seed Q b n).length = n := by simp [drawsL]
theorem drawsL_take (seed : List UInt8) (Q b n i : Nat) (h : i ≤ n) : (drawsL seed Q b n).take i = drawsL seed Q b i := by
  simp [drawsL, ← List.map_take, List.take_range, Nat.min_eq_left h]
theorem drawsL_succ (seed : List UInt8) (Q b i : Nat) : drawsL seed Q b (i + 1) = drawsL seed Q b i ++ [drawN seed Q (b + i)] := by
  simp [drawsL, List.range_succ]
theorem drawsL_lt {seed : List UInt8} {Q b n : Nat} : ∀ x ∈ drawsL seed Q b n, x < 18446744073709551616 := by
  intro x hx
  obtain ⟨i, _, rfl⟩ := List.mem_map.1 hx
  exact drawN_lt _ _ _
theorem u64s_set (l : List Nat) (n x : Nat) : (u64s (l ++ List.replicate (n + 1) 0)).set l.length (.int .u64 (x : Int)) = u64s ((l ++ [x]) ++ List.replicate n 0) := by
  simp [u64s, List.replicate_succ]

set_option maxRecDepth 100000 in
set_option maxHeartbeats 2000000 in
theorem some_any (P Q G H b n : Nat) (R : Value) (seed : List UInt8) (w : World) (hP : P < 18446744073709551616) (hQ : Q < 18446744073709551616) (hG : G < 18446744073709551616) (hH : H < 18446744073709551616) (hb : b ≤ 1152921504606846976) (hn : n ≤ 1000) (hs : seed.length ≤ 1000000) :
    Calls Tryz.prog 134 #[.agg #[.int .u64 (P : Int), .int .u64 (Q : Int), .int .u64 (G : Int), .int .u64 (H : Int), R, .string (str seed)], .int .i64 (b : Int), .int .i64 (n : Int)] w fun e w' => (∃ v, e = .returned v ∧ Row w' w.heap.size 22 1 v n (u64s (drawsL seed Q b n))) ∧ Below w.heap.size w w' := by
  have hdr := fun k W hk => draw_any P Q G H k R seed W hP hQ hG hH hk hs
  have hmk : ∀ W : World, (Instr.makeSlice 40 (.int .i64 (n : Int)) (.int .i64 (n : Int))).run Tryz.prog W = .ok (.slice (some ⟨W.heap.size, 0, none⟩) n n) (W.alloc (.cells (madeCells #[.int .u64 0] n) 22)) :=
    fun W => run_make_row' 40 22 (.int .u64 0) 8 Tryz.un_nums Tryz.inf_u64 rfl .i64 .i64 n (by omega) (by omega) W
  obtain ⟨w0, hw0⟩ : ∃ z, z = (w.alloc (.cells #[.int .u64 (P : Int), .int .u64 (Q : Int), .int .u64 (G : Int), .int .u64 (H : Int), R, .string (str seed)] 173)) := ⟨_, rfl⟩
  have hw0b : Below w.heap.size w w0 := by rw [hw0]; exact lat_alloc (Below.refl _ _) _
  have hsb : Blk w0 (w.heap.size) 173 [.int .u64 (P : Int), .int .u64 (Q : Int), .int .u64 (G : Int), .int .u64 (H : Int), R, .string (str seed)] := by rw [hw0]; exact (Blk.of w _ _ _ rfl)
  have Hsb := Lib.hid hsb
  have Hdr := Lib.hid hdr; have Hw0 := Lib.hid hw0; have Hw0b := Lib.hid hw0b; clear hdr hw0 hw0b
  have hgl : w.heap.size < w0.heap.size := hsb.lt
  have Hsz0 : Hid (w0.heap.size = w.heap.size + 1) := Lib.hid (by rw [Hw0.out]; simp)
  go_enter Tryz.func134, Tryz.ntmps134
  go_wp2_with fail
  rw [← Hw0.out]
  clear hmk
  go_loopw [13] (fun kv wr => ∃ k : Nat, kv = .int .i64 (k : Int) ∧ k ≤ n ∧ Row wr w0.heap.size 22 1 (.slice (some ⟨w.heap.size + 1, 0, none⟩) n n) n (u64s (drawsL seed Q b k ++ List.replicate (n - k) 0)) ∧ Below w0.heap.size w0 wr) (fun kv _ => n - (intOf kv).toNat)
  case atStart =>
    refine ⟨0, rfl, by omega, ?_, (Below.refl _ _).alloc (Nat.le_refl _) _⟩
    have h := Row.of_blk (Blk.of w0 22 (madeCells #[.int .u64 0] n) _ (madeNums _ _)) n (by simp) (by simp only [maxLen]; omega)
    rw [show w0.heap.size = w.heap.size + 1 by rw [Hw0.out]; simp] at h ⊢
    simpa [u64s, drawsL] using h
  case round =>
    obtain ⟨k, rfl, hk, hrow, hbr⟩ := hrel
    have Hrow := Lib.hid hrow; have Hbr := Lib.hid hbr; clear hrow hbr
    by_cases hkl : k < n
    · have d8 : decide ((k : Int) < (n : Int)) = true := decide_eq_true (by omega)
      have hki : (k : Int) < (n : Int) := by omega
      obtain ⟨s0, s1, s2, s3, s4, s5⟩ := cells_6 (Hsb.out.below Hbr.out Hsb.out.lt)
      have hc := Hdr.out (b + k)
      push_cast at hc
      have Hc := Lib.hid hc; clear hc
      go_wp2_with (first | (go_at_call 140; refine (Hc.out _ (by omega)).mono ?_; rintro e w3 ⟨rfl, hb3⟩; have hr3 := Hrow.out.below hb3; have hst := hr3.store k (.int .u64 (drawN seed Q (b + k) : Int)); obtain ⟨x0, x1⟩ := Row.cellAt hr3 (j := k) (u := .int .u64 0) (by omega) (by rw [u64s, List.getElem?_map, List.getElem?_append_right (by rw [drawsL_len]; omega), drawsL_len, List.getElem?_replicate, if_pos (by omega)]; rfl); have Hst := Lib.hid hst; have Hb3 := Lib.hid hb3; clear hb3 hr3 hst) | fail)
      go_roundw
      case rel =>
        refine ⟨k + 1, by go_num, by omega, ?_, below_set (below_trans Hbr.out Hb3.out) (by have := Hsz0.out; omega) _ _⟩
        have h := Hst.out
        have he : (u64s (drawsL seed Q b k ++ List.replicate (n - k) 0)).set k (.int .u64 (drawN seed Q (b + k) : Int)) = u64s (drawsL seed Q b (k + 1) ++ List.replicate (n - (k + 1)) 0) := by
          have := u64s_set (drawsL seed Q b k) (n - (k + 1)) (drawN seed Q (b + k))
          rw [drawsL_len, show n - (k + 1) + 1 = n - k by omega] at this
          rw [this, drawsL_succ]
        rw [he] at h
        exact h
      case measure => simp [intOf]; omega
    · obtain rfl : k = n := by omega
      have d8 : decide ((k : Int) < (k : Int)) = false := decide_eq_false (by omega)
      go_wp2_with fail
      go_ret
      refine ⟨⟨_, rfl, ?_⟩, below_trans Hw0b.out Hbr.out⟩
      have h := Hrow.out
      rw [Nat.sub_self, List.replicate_zero, List.append_nil] at h
      exact row_low h (Nat.le_of_lt hgl)
end Go.Proofs.YtbpenkaficiodaaGreat

/- A note, sealed: the program's walk. -/
namespace Go.Proofs.YtbpenkaficiodaaGreat
open Go.RowKit Go.BigFrame

/-- The box of a note. -/
def noteBox (P Q G y : Nat) (n : Nat → Nat) (seed : List UInt8) (b : Nat) : BoxV := ⟨fun j => expG P Q G (drawN seed Q (b + j)), fun j => againV P Q y (layN P Q (n j)) (drawN seed Q (b + j))⟩
def boxCells (x : BoxV) (j : Nat) : List Value := (x.list.take (2 * j)) ++ List.replicate (6 - 2 * j) (.int .u64 0)
theorem boxCells_set (x : BoxV) : ∀ j : Nat, j < 3 → ((boxCells x j).set (j * 2) (.int .u64 (x.u j : Int))).set (j * 2 + 1) (.int .u64 (x.v j : Int)) = boxCells x (j + 1) :=
  three_cases rfl rfl rfl
theorem boxCells_len (x : BoxV) : ∀ j : Nat, j < 3 → ∃ a b, (boxCells x j)[j * 2]? = some a ∧ (boxCells x j)[j * 2 + 1]? = some b :=
  three_cases ⟨_, _, rfl, rfl⟩ ⟨_, _, rfl, rfl⟩ ⟨_, _, rfl, rfl⟩
set_option maxRecDepth 100000 in
theorem ix_n3 (n : Nat → Nat) (w : World) : ∀ j : Nat, j < 3 → (Instr.index 93 (.agg #[.int .u64 (n 0 : Int), .int .u64 (n 1 : Int), .int .u64 (n 2 : Int)]) (.int .i64 (j : Int))).run Tryz.prog w = .ok (.int .u64 (n j : Int)) w :=
  three_cases (by kernel_rfl) (by kernel_rfl) (by kernel_rfl)
def noteOut (P Q G y : Nat) (n : Nat → Nat) (seed : List UInt8) (b : Nat) : Value := if n 0 < Q ∧ n 1 < Q ∧ n 2 < Q then .tuple #[.agg (noteBox P Q G y n seed b).list.toArray, .bool true] else .tuple #[.agg #[.int .u64 0, .int .u64 0, .int .u64 0, .int .u64 0, .int .u64 0, .int .u64 0], .bool false]
theorem Blk.other2 {w : World} {b c : Nat} {T : TypeId} {cs : List Value} (h : Blk w b T cs) (hb : b ≠ c) (o p : Nat) (x y : Value) : Blk ((w.setCell ⟨c, o, none⟩ x).setCell ⟨c, p, none⟩ y) b T cs :=
  (h.other (a := ⟨c, o, none⟩) hb x).other (a := ⟨c, p, none⟩) hb y

set_option maxRecDepth 100000 in
set_option maxHeartbeats 4000000 in
theorem note_any (P Q G H y b : Nat) (R : Value) (n : Nat → Nat) (seed : List UInt8) (w : World) (hP : P < 18446744073709551616) (hQ : Q < 18446744073709551616) (hG : G < 18446744073709551616) (hH : H < 18446744073709551616) (hy : y < 18446744073709551616) (hn64 : ∀ j, j < 3 → n j < 18446744073709551616) (hPQ : P = 2 * Q + 1) (hQm : Q < 2305843009213693952) (hQ2 : 2 ≤ Q) (hb : b ≤ 1152921504606846976) (hs : seed.length ≤ 1000000) :
    Calls Tryz.prog 145 #[.agg #[.int .u64 (P : Int), .int .u64 (Q : Int), .int .u64 (G : Int), .int .u64 (H : Int), R], .int .u64 (y : Int), .agg #[.int .u64 (n 0 : Int), .int .u64 (n 1 : Int), .int .u64 (n 2 : Int)], .string (str seed), .int .i64 (b : Int)] w fun e w' => e = .returned (noteOut P Q G y n seed b) ∧ Below w.heap.size w w' := by
  have hly := fun j (hj : j < 3) (hn : n j < Q) W => lay_yes P Q G H (n j) R W hP hQ (hn64 j hj) hn hPQ hQm
  have hln := fun j (hj : j < 3) (hn : Q ≤ n j) W => lay_no P Q G H (n j) R W hP hQ (hn64 j hj) hn
  have hdr := fun j (hj : j < 3) W => draw_any P Q G H (b + j) R seed W hP hQ hG hH (by omega) hs
  have hlb : ∀ k, k < Q → layN P Q k < 18446744073709551616 := fun k hk => by unfold layN; split <;> omega
  have hse := fun j (hj : j < 3) (hn : n j < Q) W => gseal_any P Q G H y (layN P Q (n j)) (drawN seed Q (b + j)) R W hP hQ hG hy (hlb _ hn) (drawN_lt _ _ _) hQ2
  have hyes : (∀ j, j < 3 → n j < Q) → noteOut P Q G y n seed b = .tuple #[.agg (noteBox P Q G y n seed b).list.toArray, .bool true] := fun h => if_pos ⟨h 0 (by omega), h 1 (by omega), h 2 (by omega)⟩
  have hno : ∀ j, j < 3 → Q ≤ n j → noteOut P Q G y n seed b = .tuple #[.agg #[.int .u64 0, .int .u64 0, .int .u64 0, .int .u64 0, .int .u64 0, .int .u64 0], .bool false] := fun j hj h => if_neg (fun hc => by have := three_cases (p := fun j => n j < Q) hc.1 hc.2.1 hc.2.2 j hj; omega)
  obtain ⟨x, hx⟩ : ∃ s, s = (noteBox P Q G y n seed b) := ⟨_, rfl⟩; obtain ⟨out, hout⟩ : ∃ s, s = (noteOut P Q G y n seed b) := ⟨_, rfl⟩
  rw [← hout, ← hx] at hyes
  rw [← hout] at hno ⊢
  have hxu : ∀ j, x.u j = expG P Q G (drawN seed Q (b + j)) := fun j => by rw [hx]; rfl
  have hxv : ∀ j, x.v j = againV P Q y (layN P Q (n j)) (drawN seed Q (b + j)) := fun j => by rw [hx]; rfl
  have hse' := fun j (hj : j < 3) (hn : n j < Q) W => (hse j hj hn W).mono (fun e w' h => (show e = Ending.returned (.agg #[.int .u64 (x.u j : Int), .int .u64 (x.v j : Int)]) ∧ Below W.heap.size W w' by rw [hxu, hxv]; exact h))
  obtain ⟨w0, hw0⟩ : ∃ z, z = ((((w.alloc (.cells #[.int .u64 (P : Int), .int .u64 (Q : Int), .int .u64 (G : Int), .int .u64 (H : Int), R] 25)).alloc (.cells #[.int .u64 (n 0 : Int), .int .u64 (n 1 : Int), .int .u64 (n 2 : Int)] 93)).alloc (.cells #[.int .u64 0, .int .u64 0, .int .u64 0, .int .u64 0, .int .u64 0, .int .u64 0] 63)).alloc (.cells #[.int .u64 0, .int .u64 0, .int .u64 0, .int .u64 0, .int .u64 0, .int .u64 0] 63)) := ⟨_, rfl⟩
  have hw0b : Below w.heap.size w w0 := by rw [hw0]; exact lat_alloc (lat_alloc (lat_alloc (lat_alloc (Below.refl _ _) _) _) _) _
  have hg : Blk w0 (w.heap.size) 25 [.int .u64 (P : Int), .int .u64 (Q : Int), .int .u64 (G : Int), .int .u64 (H : Int), R] := by rw [hw0]; exact ((((Blk.of w _ _ _ rfl).alloc _).alloc _).alloc _)
  have hnt : Blk w0 (w.heap.size + 1) 93 [.int .u64 (n 0 : Int), .int .u64 (n 1 : Int), .int .u64 (n 2 : Int)] := by rw [hw0]; exact (((Blk.at_new _ _ _ _ _ (by simp) rfl).alloc _).alloc _)
  have ho : Blk w0 (w.heap.size + 1 + 1) 63 [.int .u64 0, .int .u64 0, .int .u64 0, .int .u64 0, .int .u64 0, .int .u64 0] := by rw [hw0]; exact ((Blk.at_new _ _ _ _ _ (by simp) rfl).alloc _)
  have hbb : Blk w0 (w.heap.size + 1 + 1 + 1) 63 [.int .u64 0, .int .u64 0, .int .u64 0, .int .u64 0, .int .u64 0, .int .u64 0] := by rw [hw0]; exact (Blk.at_new _ _ _ _ _ (by simp) rfl)
  have Hbb := Lib.hid (show Blk w0 (w.heap.size + 1 + 1 + 1) 63 (boxCells x 0) from hbb)
  have Hsz0 : Hid (w0.heap.size = w.heap.size + 1 + 1 + 1 + 1) := Lib.hid (by rw [hw0]; simp)
  have Hly := Lib.hid hly; have Hln := Lib.hid hln; have Hdr := Lib.hid hdr; have Hse' := Lib.hid hse'; have Hw0 := Lib.hid hw0; have Hw0b := Lib.hid hw0b; have Hg := Lib.hid hg; have Ho := Lib.hid ho; have Hyes := Lib.hid hyes; have Hno := Lib.hid hno; clear hly hln hdr hse' hw0 hw0b hg ho hyes hno
  clear hse hx hxu hxv hbb hnt hPQ hQm hlb hn64 hout
  go_enter Tryz.func145, Tryz.ntmps145
  go_wp2_with fail
  rw [← Hw0.out]
  go_loopw [18] (fun kv wr => ∃ k : Nat, kv = .int .i64 (k : Int) ∧ k ≤ 3 ∧ (∀ i, i < k → n i < Q) ∧ Blk wr (w.heap.size + 1 + 1 + 1) 63 (boxCells x k) ∧ Blk wr w.heap.size 25 (glist P Q G H R) ∧ Blk wr (w.heap.size + 1 + 1) 63 [.int .u64 0, .int .u64 0, .int .u64 0, .int .u64 0, .int .u64 0, .int .u64 0] ∧ Below w.heap.size w wr) (fun kv _ => 3 - (intOf kv).toNat)
  case atStart => exact ⟨0, rfl, by omega, by omega, Hbb.out, Hg.out, Ho.out, Hw0b.out⟩
  case round =>
    obtain ⟨k, rfl, hk, hal, hbk, hgk, hok, hbr⟩ := hrel
    clear Hbb Hg Ho
    have Hal := Lib.hid hal; have Hbk := Lib.hid hbk; have Hgk := Lib.hid hgk; have Hok := Lib.hid hok; have Hbr := Lib.hid hbr; clear hal hbk hgk hok hbr
    by_cases hk3 : k < 3
    · have d9 : decide ((k : Int) < 3) = true := decide_eq_true (by omega)
      have hki : (k : Int) < 3 := by omega
      have hix := fun W => ix_n3 n W k hk3
      obtain ⟨g0, g1, g2, g3, g4⟩ := gcells Hgk.out
      by_cases hnk : n k < Q
      case neg =>
        have hl := Hln.out k hk3 (by omega)
        have ho := Hno.out k hk3 (by omega)
        subst ho
        have Hl := Lib.hid hl; clear hl
        go_wp2_with (first | (go_at_call 176; refine (Hl.out _).mono ?_; rintro e w3 ⟨rfl, hb3⟩; obtain ⟨o0, o1, o2, o3, o4, o5⟩ := cells_6 (Hok.out.below hb3 Hok.out.lt); have f0 := (Hok.out.below hb3 Hok.out.lt).frozen 0; have f1 := (Hok.out.below hb3 Hok.out.lt).frozen 1; have f2 := (Hok.out.below hb3 Hok.out.lt).frozen 2; have f3 := (Hok.out.below hb3 Hok.out.lt).frozen 3; have f4 := (Hok.out.below hb3 Hok.out.lt).frozen 4; have f5 := (Hok.out.below hb3 Hok.out.lt).frozen 5; have Hb3 := Lib.hid hb3; clear hb3) | fail)
        have hy : Blk ((((((w3.setCell ⟨w.heap.size + 1 + 1, 0, none⟩ (.int .u64 0)).setCell ⟨w.heap.size + 1 + 1, 1, none⟩ (.int .u64 0)).setCell ⟨w.heap.size + 1 + 1, 2, none⟩ (.int .u64 0)).setCell ⟨w.heap.size + 1 + 1, 3, none⟩ (.int .u64 0)).setCell ⟨w.heap.size + 1 + 1, 4, none⟩ (.int .u64 0)).setCell ⟨w.heap.size + 1 + 1, 5, none⟩ (.int .u64 0)) (w.heap.size + 1 + 1) 63 [.int .u64 0, .int .u64 0, .int .u64 0, .int .u64 0, .int .u64 0, .int .u64 0] := (((((((Hok.out.below Hb3.out Hok.out.lt).set 0 (.int .u64 0)).set 1 (.int .u64 0)).set 2 (.int .u64 0)).set 3 (.int .u64 0)).set 4 (.int .u64 0)).set 5 (.int .u64 0))
        have hby : Below w.heap.size w ((((((w3.setCell ⟨w.heap.size + 1 + 1, 0, none⟩ (.int .u64 0)).setCell ⟨w.heap.size + 1 + 1, 1, none⟩ (.int .u64 0)).setCell ⟨w.heap.size + 1 + 1, 2, none⟩ (.int .u64 0)).setCell ⟨w.heap.size + 1 + 1, 3, none⟩ (.int .u64 0)).setCell ⟨w.heap.size + 1 + 1, 4, none⟩ (.int .u64 0)).setCell ⟨w.heap.size + 1 + 1, 5, none⟩ (.int .u64 0)) := below_set (below_set (below_set (below_set (below_set (below_set (below_trans Hbr.out Hb3.out) (by omega) _ _) (by omega) _ _) (by omega) _ _) (by omega) _ _) (by omega) _ _) (by omega) _ _
        obtain ⟨y0, y1, y2, y3, y4, y5⟩ := cells_6 hy
        exact bodyPost_ret (v := .tuple #[.agg #[.int .u64 0, .int .u64 0, .int .u64 0, .int .u64 0, .int .u64 0, .int .u64 0], .bool false]) (by simp [results, Tryz.results145, go_sem, y0, y1, y2, y3, y4, y5]) rfl ⟨rfl, hby⟩
      have hl := Hly.out k hk3 hnk
      have Hl := Lib.hid hl; clear hl
      go_wp2_with (first | (go_at_call 176; refine (Hl.out _).mono ?_; rintro e w3 ⟨rfl, hb3⟩; obtain ⟨g0, g1, g2, g3, g4⟩ := gcells (Hgk.out.below hb3 Hgk.out.lt); have Hb3 := Lib.hid hb3; clear hb3) | fail)
      have hd := Hdr.out k hk3
      have hs2 := Hse'.out k hk3 hnk
      push_cast at hd
      obtain ⟨r, hr⟩ : ∃ s, s = (drawN seed Q (b + k)) := ⟨_, rfl⟩; obtain ⟨m, hm⟩ : ∃ s, s = (layN P Q (n k)) := ⟨_, rfl⟩
      rw [← hr] at hd hs2
      rw [← hm] at hs2
      have Hd := Lib.hid hd; have Hs2 := Lib.hid hs2; clear hd hs2
      clear hr hix
      have hgw := gcells (Hgk.out.below Hb3.out Hgk.out.lt)
      refine region_float_tail [(40, fun u _ => u = .int .u64 (r : Int)), (41, fun u _ => u = .agg #[.int .u64 (x.u k : Int), .int .u64 (x.v k : Int)])] 12 (Know.stable_cons (fun _ _ _ h _ => h) (Know.stable_cons (fun _ _ _ h _ => h) Know.stable_nil)) (by kernel_rfl) (by kernel_rfl) (by kernel_rfl) ?_
      simp only [List.take_succ_cons, List.take_zero, List.drop_succ_cons, List.drop_zero]
      obtain ⟨g0, g1, g2, g3, g4⟩ := hgw
      have l0 := Later.cell g0
      have l1 := Later.cell g1
      have l2 := Later.cell g2
      have l3 := Later.cell g3
      have l4 := Later.cell g4
      clear g0 g1 g2 g3 g4
      rw [← hm]
      (repeat (first | (refine loose_skip (by rfl) ?_; simp only [Act.put, List.setIfInBounds_toArray, List.set_cons_zero, List.set_cons_succ]) | (refine loose_plain (by rfl) (by rfl) (by rfl) (fun Kc hKc => ?_); go_big_quiet_op; refine hKc _ ?_; clear hKc Kc)))
      refine loose_fix 40 (.int .u64 (r : Int)) (f := 140) (args := #[.agg #[.int .u64 (P : Int), .int .u64 (Q : Int), .int .u64 (G : Int), .int .u64 (H : Int), R], .string (str seed), .int .i64 ((b : Int) + (k : Int))]) (fun w => by go_simp; try rfl) (by rfl) (by rfl) (by rfl) (fun _ _ => Iff.rfl) (fun wk hl hd => Hd.out wk) ?_
      simp only [Act.put, List.setIfInBounds_toArray, List.set_cons_zero, List.set_cons_succ]
      (repeat (first | (refine loose_skip (by rfl) ?_; simp only [Act.put, List.setIfInBounds_toArray, List.set_cons_zero, List.set_cons_succ]) | (refine loose_plain (by rfl) (by rfl) (by rfl) (fun Kc hKc => ?_); go_big_quiet_op; refine hKc _ ?_; clear hKc Kc)))
      refine loose_fix 41 (.agg #[.int .u64 (x.u k : Int), .int .u64 (x.v k : Int)]) (f := 152) (args := #[.agg #[.int .u64 (P : Int), .int .u64 (Q : Int), .int .u64 (G : Int), .int .u64 (H : Int), R], .int .u64 (y : Int), .int .u64 (m : Int), .int .u64 (r : Int)]) (fun w => by go_simp; try rfl) (by rfl) (by rfl) (by rfl) (fun _ _ => Iff.rfl) (fun wk hl hd => Hs2.out wk) ?_
      simp only [Act.put, List.setIfInBounds_toArray, List.set_cons_zero, List.set_cons_succ]
      (repeat (first | (refine loose_skip (by rfl) ?_; simp only [Act.put, List.setIfInBounds_toArray, List.set_cons_zero, List.set_cons_succ]) | (refine loose_plain (by rfl) (by rfl) (by rfl) (fun Kc hKc => ?_); go_big_quiet_op; refine hKc _ ?_; clear hKc Kc)))
      refine loose_nil ?_
      intro wz hbz _
      have hw3 := below_trans Hb3.out hbz
      have hbz2 := Hbk.out.below hw3 Hbk.out.lt
      obtain ⟨a0, a1, e0, e1⟩ := boxCells_len x k hk3
      have q0 : wz.cell? ⟨w.heap.size + 1 + 1 + 1, k * 2, none⟩ = some a0 := by rw [hbz2.cell, e0]
      have q1 : wz.cell? ⟨w.heap.size + 1 + 1 + 1, k * 2 + 1, none⟩ = some a1 := by rw [hbz2.cell, e1]
      have f0 := hbz2.frozen (k * 2)
      have f1 := hbz2.frozen (k * 2 + 1)
      have hy := (hbz2.set (k * 2) (.int .u64 (x.u k : Int))).set (k * 2 + 1) (.int .u64 (x.v k : Int))
      rw [boxCells_set x k hk3] at hy
      have hgy := (Hgk.out.below hw3 Hgk.out.lt).other2 (c := w.heap.size + 1 + 1 + 1) (by omega) (k * 2) (k * 2 + 1) (.int .u64 (x.u k : Int)) (.int .u64 (x.v k : Int))
      have hoy := (Hok.out.below hw3 Hok.out.lt).other2 (c := w.heap.size + 1 + 1 + 1) (by omega) (k * 2) (k * 2 + 1) (.int .u64 (x.u k : Int)) (.int .u64 (x.v k : Int))
      have hby : Below w.heap.size w ((wz.setCell ⟨w.heap.size + 1 + 1 + 1, k * 2, none⟩ (.int .u64 (x.u k : Int))).setCell ⟨w.heap.size + 1 + 1 + 1, k * 2 + 1, none⟩ (.int .u64 (x.v k : Int))) := below_set (below_set (below_trans Hbr.out hw3) (by omega) _ _) (by omega) _ _
      have Hy := Lib.hid hy; have Hgy := Lib.hid hgy; have Hoy := Lib.hid hoy; have Hby := Lib.hid hby; clear hy hgy hoy hby
      clear hbz hw3 hbz2 e0 e1 l0 l1 l2 l3 l4 hm
      go_wp2_with fail
      refine NoPanic.normal ?_
      go_wp2_with fail
      go_roundw
      case rel => exact ⟨k + 1, by go_num, by omega, upto_next Hal.out hnk, Hy.out, Hgy.out, Hoy.out, Hby.out⟩
      case measure => simp [intOf]; omega
    · obtain rfl : k = 3 := by omega
      have d9 : decide (((3 : Nat) : Int) < 3) = false := by decide
      obtain ⟨b0, b1, b2, b3, b4, b5⟩ := cells_6 (show Blk wr (w.heap.size + 1 + 1 + 1) 63 [.int .u64 (x.u 0 : Int), .int .u64 (x.v 0 : Int), .int .u64 (x.u 1 : Int), .int .u64 (x.v 1 : Int), .int .u64 (x.u 2 : Int), .int .u64 (x.v 2 : Int)] from Hbk.out)
      obtain ⟨o0, o1, o2, o3, o4, o5⟩ := cells_6 Hok.out
      have f0 := Hok.out.frozen 0
      have f1 := Hok.out.frozen 1
      have f2 := Hok.out.frozen 2
      have f3 := Hok.out.frozen 3
      have f4 := Hok.out.frozen 4
      have f5 := Hok.out.frozen 5
      have ho := Hyes.out Hal.out
      subst ho
      have hy : Blk ((((((wr.setCell ⟨w.heap.size + 1 + 1, 0, none⟩ (.int .u64 (x.u 0 : Int))).setCell ⟨w.heap.size + 1 + 1, 1, none⟩ (.int .u64 (x.v 0 : Int))).setCell ⟨w.heap.size + 1 + 1, 2, none⟩ (.int .u64 (x.u 1 : Int))).setCell ⟨w.heap.size + 1 + 1, 3, none⟩ (.int .u64 (x.v 1 : Int))).setCell ⟨w.heap.size + 1 + 1, 4, none⟩ (.int .u64 (x.u 2 : Int))).setCell ⟨w.heap.size + 1 + 1, 5, none⟩ (.int .u64 (x.v 2 : Int))) (w.heap.size + 1 + 1) 63 [.int .u64 (x.u 0 : Int), .int .u64 (x.v 0 : Int), .int .u64 (x.u 1 : Int), .int .u64 (x.v 1 : Int), .int .u64 (x.u 2 : Int), .int .u64 (x.v 2 : Int)] := ((((((Hok.out.set 0 (.int .u64 (x.u 0 : Int))).set 1 (.int .u64 (x.v 0 : Int))).set 2 (.int .u64 (x.u 1 : Int))).set 3 (.int .u64 (x.v 1 : Int))).set 4 (.int .u64 (x.u 2 : Int))).set 5 (.int .u64 (x.v 2 : Int)))
      have hby : Below w.heap.size w ((((((wr.setCell ⟨w.heap.size + 1 + 1, 0, none⟩ (.int .u64 (x.u 0 : Int))).setCell ⟨w.heap.size + 1 + 1, 1, none⟩ (.int .u64 (x.v 0 : Int))).setCell ⟨w.heap.size + 1 + 1, 2, none⟩ (.int .u64 (x.u 1 : Int))).setCell ⟨w.heap.size + 1 + 1, 3, none⟩ (.int .u64 (x.v 1 : Int))).setCell ⟨w.heap.size + 1 + 1, 4, none⟩ (.int .u64 (x.u 2 : Int))).setCell ⟨w.heap.size + 1 + 1, 5, none⟩ (.int .u64 (x.v 2 : Int))) := below_set (below_set (below_set (below_set (below_set (below_set (Hbr.out) (by omega) _ _) (by omega) _ _) (by omega) _ _) (by omega) _ _) (by omega) _ _) (by omega) _ _
      obtain ⟨y0, y1, y2, y3, y4, y5⟩ := cells_6 hy
      have Hby := Lib.hid hby
      clear hy hby
      go_wp2_with fail
      exact bodyPost_ret (v := .tuple #[.agg #[.int .u64 (x.u 0 : Int), .int .u64 (x.v 0 : Int), .int .u64 (x.u 1 : Int), .int .u64 (x.v 1 : Int), .int .u64 (x.u 2 : Int), .int .u64 (x.v 2 : Int)], .bool true]) (by simp [results, Tryz.results145, go_sem, y0, y1, y2, y3, y4, y5]) rfl ⟨rfl, Hby.out⟩
end Go.Proofs.YtbpenkaficiodaaGreat

/- A note, sealed and proved: the program's walk. -/
namespace Go.Proofs.YtbpenkaficiodaaGreat
open Go.RowKit Go.BigFrame

def tLetter : List UInt8 := [47, 108, 101, 116, 116, 101, 114]
theorem prove_claim (P Q G H : Nat) (R : Value) (label : List UInt8) (T : List Nat) (L : List (List Nat)) (V D : List Nat) (u v d : Value) (w : World) (hP : P < 18446744073709551616) (hQ : Q < 18446744073709551616) (hG : G < 18446744073709551616) (hH : H < 18446744073709551616) (hPr : rightB P = true) (hQ2 : 2 ≤ Q) (hu : ClaimV T L u w) (hv : NumsV V v w) (hd : NumsV D d w)
    (hl : label.length ≤ 1000000) (hT : T.length ≤ 10000) (hL : L.length ≤ 10000) (hLl : ∀ l ∈ L, l.length ≤ 10000) (hVl : V.length ≤ 10000) (hDl : D.length ≤ 10000) :
    Calls Tryz.prog 115 #[.agg #[.int .u64 (P : Int), .int .u64 (Q : Int), .int .u64 (G : Int), .int .u64 (H : Int), R], .string (str label), u, v, d] w fun e w' => OutProof w.heap.size (proveO label P Q G H T L V D) e w' ∧ Below w.heap.size w w' := by
  obtain ⟨A, cT, B, cB, rs, rfl, ⟨hN, hG'⟩, hm⟩ := hu
  obtain ⟨A1, c1, rfl, h1⟩ := hv
  obtain ⟨A2, c2, rfl, h2⟩ := hd
  have h := prove_any P Q G H R label A cT T B cB rs A1 c1 V A2 c2 D w hP hPr hQ hQ2 hG hH hN hG' h1 h2 hl hT (by rw [← hm, List.length_map] at hL; exact hL) (fun r hr => hLl _ (by rw [← hm]; exact List.mem_map_of_mem hr)) hVl hDl
  rw [hm] at h
  exact h
theorem some_nums (P Q G H b n : Nat) (R : Value) (seed : List UInt8) (w : World) (hP : P < 18446744073709551616) (hQ : Q < 18446744073709551616) (hG : G < 18446744073709551616) (hH : H < 18446744073709551616) (hb : b ≤ 1152921504606846976) (hn : n ≤ 1000) (hs : seed.length ≤ 1000000) :
    Calls Tryz.prog 134 #[.agg #[.int .u64 (P : Int), .int .u64 (Q : Int), .int .u64 (G : Int), .int .u64 (H : Int), R, .string (str seed)], .int .i64 (b : Int), .int .i64 (n : Int)] w fun e w' => ∃ u, e = Ending.returned u ∧ Below w.heap.size w w' ∧ NumsV (drawsL seed Q b n) u w' :=
  (some_any P Q G H b n R seed w hP hQ hG hH hb hn hs).mono fun e w' ⟨⟨v, he, hr⟩, hb⟩ => by
    obtain ⟨A, c, hv, hN⟩ := nums_of_row (l := drawsL seed Q b n) (by rw [drawsL_len]; exact hr) drawsL_lt
    exact ⟨v, he, hb, A, c, hv, hN⟩
theorem knows_claim (P Q G H : Nat) (x : BoxV) (R : Value) (w : World) (hG : G < 18446744073709551616) (hx : x.ok) :
    Calls Tryz.prog 85 #[.agg #[.int .u64 (P : Int), .int .u64 (Q : Int), .int .u64 (G : Int), .int .u64 (H : Int), R], .agg #[.int .u64 (x.u 0 : Int), .int .u64 (x.v 0 : Int), .int .u64 (x.u 1 : Int), .int .u64 (x.v 1 : Int), .int .u64 (x.u 2 : Int), .int .u64 (x.v 2 : Int)]] w fun e w' => ∃ u, e = Ending.returned u ∧ Below w.heap.size w w' ∧ ClaimV [x.u 0, x.u 1, x.u 2] [[G, 1, 1], [1, G, 1], [1, 1, G]] u w' :=
  (knows_any P Q G H (x.u 0) (x.v 0) (x.u 1) (x.v 1) (x.u 2) (x.v 2) R w hG (hx 0 (by omega)).1 (hx 1 (by omega)).1 (hx 2 (by omega)).1).mono (fun e w' ⟨h, hb⟩ => let ⟨u, he, hu⟩ := ClaimV.of h; ⟨u, he, hb, hu⟩)
/-- What proves a letter. -/
def letterO (label : List UInt8) (P Q G H : Nat) (x : BoxV) (seed : List UInt8) (b : Nat) : Option (List Nat × List Nat) :=
  proveO (label ++ tLetter) P Q G H [x.u 0, x.u 1, x.u 2] [[G, 1, 1], [1, G, 1], [1, 1, G]] (drawsL seed Q b 3) (drawsL seed Q (b + 3) 3)
theorem noteBox_ok {P Q G y : Nat} {n : Nat → Nat} {seed : List UInt8} {b : Nat} (hP : P < 18446744073709551616) : (noteBox P Q G y n seed b).ok := fun j _ => ⟨expG_lt hP, prodG_lt _⟩

set_option maxRecDepth 100000 in
set_option maxHeartbeats 4000000 in
theorem write_yes (P Q G H y b : Nat) (RA : Option Addr) (rn rc : Nat) (label : List UInt8) (n : Nat → Nat) (seed : List UInt8) (tc tz : List Nat) (w : World) (hP : P < 18446744073709551616) (hQ : Q < 18446744073709551616) (hG : G < 18446744073709551616) (hH : H < 18446744073709551616) (hy : y < 18446744073709551616) (hPr : rightB P = true) (hn : n 0 < Q ∧ n 1 < Q ∧ n 2 < Q) (hPQ : P = 2 * Q + 1) (hQm : Q < 2305843009213693952) (hQ2 : 2 ≤ Q) (hb : b ≤ 1000000000000) (hs : seed.length ≤ 1000000) (hl : label.length ≤ 100000)
    (hpr : letterO label P Q G H (noteBox P Q G y n seed b) seed b = some (tc, tz)) :
    Calls Tryz.prog 70 #[.agg #[.int .u64 (P : Int), .int .u64 (Q : Int), .int .u64 (G : Int), .int .u64 (H : Int), .slice RA rn rc], .string (str label), .int .u64 (y : Int), .agg #[.int .u64 (n 0 : Int), .int .u64 (n 1 : Int), .int .u64 (n 2 : Int)], .string (str seed), .int .i64 (b : Int)] w fun e w' =>
      (∃ v1 v2, e = .returned (.tuple #[.agg ((noteBox P Q G y n seed b).list ++ [v1, v2]).toArray, .bool true]) ∧ Row w' w.heap.size 22 1 v1 tc.length (u64s tc) ∧ Row w' w.heap.size 22 1 v2 tz.length (u64s tz)) ∧ Below w.heap.size w w' := by
  have hn64 : ∀ j, j < 3 → n j < 18446744073709551616 := three_cases (p := fun j => n j < 18446744073709551616) (by omega) (by omega) (by omega)
  have hno := fun W => note_any P Q G H y b (.slice RA rn rc) n seed W hP hQ hG hH hy hn64 hPQ hQm hQ2 (by omega) hs
  have hou : noteOut P Q G y n seed b = .tuple #[.agg (noteBox P Q G y n seed b).list.toArray, .bool true] := if_pos hn
  have hxo := noteBox_ok (P := P) (Q := Q) (G := G) (y := y) (n := n) (seed := seed) (b := b) hP
  rw [hou] at hno
  obtain ⟨x, hx⟩ : ∃ s, s = (noteBox P Q G y n seed b) := ⟨_, rfl⟩
  rw [← hx] at hno hpr hxo ⊢
  have hkn := fun W => knows_claim P Q G H x (.slice RA rn rc) W hG hxo
  have hs1 := fun W => some_nums P Q G H b 3 (.slice RA rn rc) seed W hP hQ hG hH (by omega) (by omega) hs
  have hs2 := fun W => some_nums P Q G H (b + 3) 3 (.slice RA rn rc) seed W hP hQ hG hH (by omega) (by omega) hs
  rw [show ((b + 3 : Nat) : Int) = (b : Int) + 3 by omega] at hs2
  have hpv := fun u v d W h1 h2 h3 => prove_claim P Q G H (.slice RA rn rc) (label ++ tLetter) [x.u 0, x.u 1, x.u 2] [[G, 1, 1], [1, G, 1], [1, 1, G]] (drawsL seed Q b 3) (drawsL seed Q (b + 3) 3) u v d W hP hQ hG hH hPr hQ2 h1 h2 h3 (by simp [tLetter]; omega) (by simp) (by simp) (by simp) (by rw [drawsL_len]; omega) (by rw [drawsL_len]; omega)
  unfold letterO at hpr
  rw [hpr] at hpv
  have hst : ∀ W, (Op.stringOp .add (str label) { data := #[47, 108, 101, 116, 116, 101, 114] }).run Tryz.prog W = .ok (.string (str (label ++ tLetter))) W := fun W => str_add Tryz.prog label tLetter (by simp [tLetter]; omega) W
  obtain ⟨w0, hw0⟩ : ∃ z, z = (((w.alloc (.cells #[.int .u64 (P : Int), .int .u64 (Q : Int), .int .u64 (G : Int), .int .u64 (H : Int), .slice RA rn rc] 25)).alloc (.cells #[.int .u64 (n 0 : Int), .int .u64 (n 1 : Int), .int .u64 (n 2 : Int)] 93)).alloc (.cells #[.int .u64 0, .int .u64 0, .int .u64 0, .int .u64 0, .int .u64 0, .int .u64 0, .slice none 0 0, .slice none 0 0] 65)) := ⟨_, rfl⟩
  have hw0b : Below w.heap.size w w0 := by rw [hw0]; exact lat_alloc (lat_alloc (lat_alloc (Below.refl _ _) _) _) _
  have hg : Blk w0 (w.heap.size) 25 [.int .u64 (P : Int), .int .u64 (Q : Int), .int .u64 (G : Int), .int .u64 (H : Int), .slice RA rn rc] := by rw [hw0]; exact (((Blk.of w _ _ _ rfl).alloc _).alloc _)
  have hnt : Blk w0 (w.heap.size + 1) 93 [.int .u64 (n 0 : Int), .int .u64 (n 1 : Int), .int .u64 (n 2 : Int)] := by rw [hw0]; exact ((Blk.at_new _ _ _ _ _ (by simp) rfl).alloc _)
  have ho : Blk w0 (w.heap.size + 1 + 1) 65 [.int .u64 0, .int .u64 0, .int .u64 0, .int .u64 0, .int .u64 0, .int .u64 0, .slice none 0 0, .slice none 0 0] := by rw [hw0]; exact (Blk.at_new _ _ _ _ _ (by simp) rfl)
  obtain ⟨g0, g1, g2, g3, g4⟩ := gcells hg
  obtain ⟨n0, n1, n2⟩ := cells_3 hnt
  simp only [BoxV.list, List.cons_append, List.nil_append] at hno ⊢
  have Hno := Lib.hid hno; have Hkn := Lib.hid hkn; have Hs1 := Lib.hid hs1; have Hs2 := Lib.hid hs2; have Hpv := Lib.hid hpv; have Hw0 := Lib.hid hw0; have Hw0b := Lib.hid hw0b; have Hg := Lib.hid hg; have Ho := Lib.hid ho; clear hno hkn hs1 hs2 hpv hw0 hw0b hg ho
  clear hou hxo hx hpr hPQ hQm hn hn64 hnt
  go_enter Tryz.func70, Tryz.ntmps70
  go_wp2_with (first | (go_at_call 145; rw [← Hw0.out]; refine (Hno.out _).mono ?_; rintro e w3 ⟨rfl, hb3⟩; have g0 := fun o => (gcells ((Hg.out.below hb3 Hg.out.lt).alloc o)).1; have g1 := fun o => (gcells ((Hg.out.below hb3 Hg.out.lt).alloc o)).2.1; have g2 := fun o => (gcells ((Hg.out.below hb3 Hg.out.lt).alloc o)).2.2.1; have g3 := fun o => (gcells ((Hg.out.below hb3 Hg.out.lt).alloc o)).2.2.2.1; have g4 := fun o => (gcells ((Hg.out.below hb3 Hg.out.lt).alloc o)).2.2.2.2; have Hb3 := Lib.hid hb3; clear hb3) | fail)
  obtain ⟨W, hW⟩ : ∃ z, z = (w3.alloc (.cells #[.int .u64 (x.u 0 : Int), .int .u64 (x.v 0 : Int), .int .u64 (x.u 1 : Int), .int .u64 (x.v 1 : Int), .int .u64 (x.u 2 : Int), .int .u64 (x.v 2 : Int)] 63)).alloc (.cells #[.int .u64 (P : Int), .int .u64 (Q : Int), .int .u64 (G : Int), .int .u64 (H : Int), .slice RA rn rc, .string (str seed)] 173) := ⟨_, rfl⟩
  have hbW : Below w0.heap.size w0 W := by rw [hW]; exact lat_alloc (lat_alloc Hb3.out _) _
  have hxW : Blk W w3.heap.size 63 [.int .u64 (x.u 0 : Int), .int .u64 (x.v 0 : Int), .int .u64 (x.u 1 : Int), .int .u64 (x.v 1 : Int), .int .u64 (x.u 2 : Int), .int .u64 (x.v 2 : Int)] := by rw [hW]; exact (Blk.of w3 _ _ _ rfl).alloc _
  have hsW : Blk W (w3.heap.size + 1) 173 [.int .u64 (P : Int), .int .u64 (Q : Int), .int .u64 (G : Int), .int .u64 (H : Int), .slice RA rn rc, .string (str seed)] := by rw [hW]; exact Blk.at_new _ _ _ _ _ (by simp) rfl
  rw [← hW]
  clear g0 g1 g2 g3 g4 n0 n1 n2
  obtain ⟨g0, g1, g2, g3, g4⟩ := gcells (Hg.out.below hbW Hg.out.lt)
  obtain ⟨x0, x1, x2, x3, x4, x5⟩ := cells_6 hxW
  obtain ⟨s0, s1, s2, s3, s4, s5⟩ := cells_6 hsW
  have HbW := Lib.hid hbW; have HxW := Lib.hid hxW; have HW := Lib.hid hW; clear hbW hxW hW
  clear hsW
  have l0 := Later.cell g0
  have l1 := Later.cell g1
  have l2 := Later.cell g2
  have l3 := Later.cell g3
  have l4 := Later.cell g4
  have l5 := Later.cell x0
  have l6 := Later.cell x1
  have l7 := Later.cell x2
  have l8 := Later.cell x3
  have l9 := Later.cell x4
  have l10 := Later.cell x5
  have l11 := Later.cell s0
  have l12 := Later.cell s1
  have l13 := Later.cell s2
  have l14 := Later.cell s3
  have l15 := Later.cell s4
  have l16 := Later.cell s5
  clear g0 g1 g2 g3 g4 x0 x1 x2 x3 x4 x5 s0 s1 s2 s3 s4 s5
  refine region_float_tail [(40, ClaimV [x.u 0, x.u 1, x.u 2] [[G, 1, 1], [1, G, 1], [1, 1, G]]), (43, NumsV (drawsL seed Q b 3)), (47, NumsV (drawsL seed Q (b + 3) 3)), (48, fun u w' => ∃ v1 v2, u = .tuple #[.agg #[v1, v2], .bool true] ∧ Row w' W.heap.size 22 1 v1 tc.length (u64s tc) ∧ Row w' W.heap.size 22 1 v2 tz.length (u64s tz)), (17, fun u w' => ∃ pb, u = .pointer (some ⟨pb, 0, none⟩) ∧ W.heap.size ≤ pb ∧ Blk w' pb 42 [.slice none 0 0, .slice none 0 0])] 18
    (Know.stable_cons (fun _ _ _ h hl => h.later hl) (Know.stable_cons (fun _ _ _ h hl => h.later hl) (Know.stable_cons (fun _ _ _ h hl => h.later hl) (Know.stable_cons (fun _ _ _ h hl => let ⟨a, c, e, p, q⟩ := h; ⟨a, c, e, p.below hl, q.below hl⟩) (Know.stable_cons (fun _ _ _ h hl => let ⟨a, e, p, q⟩ := h; ⟨a, e, p, q.below hl q.lt⟩) Know.stable_nil))))) (by kernel_rfl) (by kernel_rfl) (by kernel_rfl) ?_
  simp only [List.take_succ_cons, List.take_zero, List.drop_succ_cons, List.drop_zero]
  (repeat (first | (refine loose_skip (by rfl) ?_; simp only [Act.put, List.setIfInBounds_toArray, List.set_cons_zero, List.set_cons_succ]) | (refine loose_plain (by rfl) (by rfl) (by rfl) (fun Kc hKc => ?_); go_big_quiet_op; refine hKc _ ?_; clear hKc Kc)))
  refine loose_call 40 (f := 85) (args := #[.agg #[.int .u64 (P : Int), .int .u64 (Q : Int), .int .u64 (G : Int), .int .u64 (H : Int), .slice RA rn rc], .agg #[.int .u64 (x.u 0 : Int), .int .u64 (x.v 0 : Int), .int .u64 (x.u 1 : Int), .int .u64 (x.v 1 : Int), .int .u64 (x.u 2 : Int), .int .u64 (x.v 2 : Int)]]) (fun w => by go_simp; try rfl) (by rfl) (by rfl) (by rfl) (fun wk hl hd => Hkn.out wk) ?_
  intro u40 wk40 _ _
  simp only [Act.put, List.setIfInBounds_toArray, List.set_cons_zero, List.set_cons_succ]
  (repeat (first | (refine loose_skip (by rfl) ?_; simp only [Act.put, List.setIfInBounds_toArray, List.set_cons_zero, List.set_cons_succ]) | (refine loose_plain (by rfl) (by rfl) (by rfl) (fun Kc hKc => ?_); go_big_quiet_op; refine hKc _ ?_; clear hKc Kc)))
  refine loose_call 43 (f := 134) (args := #[.agg #[.int .u64 (P : Int), .int .u64 (Q : Int), .int .u64 (G : Int), .int .u64 (H : Int), .slice RA rn rc, .string (str seed)], .int .i64 (b : Int), .int .i64 3]) (fun w => by go_simp; try rfl) (by rfl) (by rfl) (by rfl) (fun wk hl hd => Hs1.out wk) ?_
  intro u43 wk43 _ _
  simp only [Act.put, List.setIfInBounds_toArray, List.set_cons_zero, List.set_cons_succ]
  (repeat (first | (refine loose_skip (by rfl) ?_; simp only [Act.put, List.setIfInBounds_toArray, List.set_cons_zero, List.set_cons_succ]) | (refine loose_plain (by rfl) (by rfl) (by rfl) (fun Kc hKc => ?_); go_big_quiet_op; refine hKc _ ?_; clear hKc Kc)))
  refine loose_call 47 (f := 134) (args := #[.agg #[.int .u64 (P : Int), .int .u64 (Q : Int), .int .u64 (G : Int), .int .u64 (H : Int), .slice RA rn rc, .string (str seed)], .int .i64 ((b : Int) + 3), .int .i64 3]) (fun w => by go_simp; try rfl) (by rfl) (by rfl) (by rfl) (fun wk hl hd => Hs2.out wk) ?_
  intro u47 wk47 _ _
  simp only [Act.put, List.setIfInBounds_toArray, List.set_cons_zero, List.set_cons_succ]
  (repeat (first | (refine loose_skip (by rfl) ?_; simp only [Act.put, List.setIfInBounds_toArray, List.set_cons_zero, List.set_cons_succ]) | (refine loose_plain (by rfl) (by rfl) (by rfl) (fun Kc hKc => ?_); go_big_quiet_op; refine hKc _ ?_; clear hKc Kc)))
  refine loose_call 48 (f := 115) (args := #[.agg #[.int .u64 (P : Int), .int .u64 (Q : Int), .int .u64 (G : Int), .int .u64 (H : Int), .slice RA rn rc], .string (str (label ++ tLetter)), u40, u43, u47]) (fun w => by go_simp; try rfl) (by rfl) (by rfl) (by rfl) (fun wk hl hd => (Hpv.out u40 u43 u47 wk (hd 40 (by decide) _ (.inr (.inr (.inl ⟨rfl, rfl⟩)))) (hd 43 (by decide) _ (.inr (.inl ⟨rfl, rfl⟩))) (hd 47 (by decide) _ (.inl ⟨rfl, rfl⟩))).mono fun e w' ⟨⟨v1, v2, he, hr1, hr2⟩, hb⟩ => ⟨_, he, hb, v1, v2, rfl, row_low hr1 hl.size, row_low hr2 hl.size⟩) ?_
  rintro _ wk48 _ ⟨v1, v2, rfl, hr1, hr2⟩
  obtain ⟨V1, d1, rfl⟩ := hr1.slice
  obtain ⟨V2, d2, rfl⟩ := hr2.slice
  clear hr1 hr2
  simp only [Act.put, List.setIfInBounds_toArray, List.set_cons_zero, List.set_cons_succ]
  (repeat (first | (refine loose_skip (by rfl) ?_; simp only [Act.put, List.setIfInBounds_toArray, List.set_cons_zero, List.set_cons_succ]) | (refine loose_plain (by rfl) (by rfl) (by rfl) (fun Kc hKc => ?_); go_big_quiet_op; refine hKc _ ?_; clear hKc Kc)))
  refine loose_make 17 (V := fun w => .pointer (some ⟨w.heap.size, 0, none⟩)) (W := fun w => w.alloc (.cells #[.slice none 0 0, .slice none 0 0] 42)) (fun w => by go_simp) (by rfl) (by rfl) (by rfl) (fun w hl _ => ⟨(Below.refl _ _).alloc (Nat.le_refl _) _, _, rfl, hl.size, Blk.of w _ _ _ rfl⟩) ?_
  rintro _ wk17 _ ⟨pb, rfl, hpb, _⟩
  simp only [Act.put, List.setIfInBounds_toArray, List.set_cons_zero, List.set_cons_succ]
  refine loose_nil ?_
  intro wq hbq hkn
  obtain ⟨pb', hpe, _, hpk⟩ := hkn 17 _ (.inl ⟨rfl, rfl⟩)
  injection hpe with hpe; injection hpe with hpe; injection hpe with hpe
  subst hpe
  obtain ⟨v1', v2', hve, hr1, hr2⟩ := hkn 48 _ (.inr (.inl ⟨rfl, rfl⟩))
  injection hve with hve; injection hve with hve; injection hve with hve _; injection hve with hve; injection hve with hve; injection hve with hv1 hv2; injection hv2 with hv2 _
  subst hv1 hv2
  obtain ⟨p0, p1⟩ := cells_2 hpk
  have q0 := hpk.frozen 0
  have q1 := hpk.frozen 1
  have hne : (22 : TypeId) ≠ 42 := by decide
  have hpk1 := hpk.set 0 (.slice V1 tc.length d1)
  have hpk2 := hpk1.set 1 (.slice V2 tz.length d2)
  have hr1b := (hr1.otherT hpk hne 0 (.slice V1 tc.length d1)).otherT hpk1 hne 1 (.slice V2 tz.length d2)
  have hr2b := (hr2.otherT hpk hne 0 (.slice V1 tc.length d1)).otherT hpk1 hne 1 (.slice V2 tz.length d2)
  have hWl := HbW.out.size
  have h03 := HxW.out.lt
  have hox := (Ho.out.below (below_trans HbW.out hbq) Ho.out.lt).other2 (c := pb) (by have := Ho.out.lt; omega) 0 1 (.slice V1 tc.length d1) (.slice V2 tz.length d2)
  have hxx := (HxW.out.below hbq HxW.out.lt).other2 (c := pb) (by omega) 0 1 (.slice V1 tc.length d1) (.slice V2 tz.length d2)
  have hbb : Below w.heap.size w ((wq.setCell ⟨pb, 0, none⟩ (.slice V1 tc.length d1)).setCell ⟨pb, 1, none⟩ (.slice V2 tz.length d2)) := below_set (below_set (below_trans Hw0b.out (below_trans HbW.out hbq)) (by have := Hw0b.out.size; omega) _ _) (by have := Hw0b.out.size; omega) _ _
  have Hr1b := Lib.hid hr1b; have Hr2b := Lib.hid hr2b; have Hox := Lib.hid hox; have Hxx := Lib.hid hxx; have Hbb := Lib.hid hbb; clear hr1b hr2b hox hxx hbb
  have Hpk := Lib.hid (show Blk _ pb _ [.slice V1 tc.length d1, .slice V2 tz.length d2] from hpk2)
  clear hr1 hr2 hpk hpk1 hpk2 hkn hbq hne l0 l1 l2 l3 l4 l5 l6 l7 l8 l9 l10 l11 l12 l13 l14 l15 l16
  go_wp2_with fail
  refine NoPanic.normal ?_
  obtain ⟨W4, hW4⟩ : ∃ z, z = (wq.setCell ⟨pb, 0, none⟩ (.slice V1 tc.length d1)).setCell ⟨pb, 1, none⟩ (.slice V2 tz.length d2) := ⟨_, rfl⟩
  rw [← hW4] at Hr1b Hr2b Hox Hxx Hbb Hpk ⊢
  clear hW4 p0 p1 q0 q1
  obtain ⟨p0, p1⟩ := cells_2 Hpk.out
  obtain ⟨x0, x1, x2, x3, x4, x5⟩ := cells_6 Hxx.out
  obtain ⟨o0, o1, o2, o3, o4, o5, o6, o7⟩ := cells_8 Hox.out
  have f0 := Hox.out.frozen 0
  have f1 := Hox.out.frozen 1
  have f2 := Hox.out.frozen 2
  have f3 := Hox.out.frozen 3
  have f4 := Hox.out.frozen 4
  have f5 := Hox.out.frozen 5
  have f6 := Hox.out.frozen 6
  have f7 := Hox.out.frozen 7
  go_wp2_with fail
  have hy : Blk ((((((((W4.setCell ⟨w.heap.size + 1 + 1, 0, none⟩ (.int .u64 (x.u 0 : Int))).setCell ⟨w.heap.size + 1 + 1, 1, none⟩ (.int .u64 (x.v 0 : Int))).setCell ⟨w.heap.size + 1 + 1, 2, none⟩ (.int .u64 (x.u 1 : Int))).setCell ⟨w.heap.size + 1 + 1, 3, none⟩ (.int .u64 (x.v 1 : Int))).setCell ⟨w.heap.size + 1 + 1, 4, none⟩ (.int .u64 (x.u 2 : Int))).setCell ⟨w.heap.size + 1 + 1, 5, none⟩ (.int .u64 (x.v 2 : Int))).setCell ⟨w.heap.size + 1 + 1, 6, none⟩ (.slice V1 tc.length d1)).setCell ⟨w.heap.size + 1 + 1, 7, none⟩ (.slice V2 tz.length d2)) (w.heap.size + 1 + 1) 65 [.int .u64 (x.u 0 : Int), .int .u64 (x.v 0 : Int), .int .u64 (x.u 1 : Int), .int .u64 (x.v 1 : Int), .int .u64 (x.u 2 : Int), .int .u64 (x.v 2 : Int), .slice V1 tc.length d1, .slice V2 tz.length d2] := ((((((((Hox.out.set 0 (.int .u64 (x.u 0 : Int))).set 1 (.int .u64 (x.v 0 : Int))).set 2 (.int .u64 (x.u 1 : Int))).set 3 (.int .u64 (x.v 1 : Int))).set 4 (.int .u64 (x.u 2 : Int))).set 5 (.int .u64 (x.v 2 : Int))).set 6 (.slice V1 tc.length d1)).set 7 (.slice V2 tz.length d2))
  have hby : Below w.heap.size w ((((((((W4.setCell ⟨w.heap.size + 1 + 1, 0, none⟩ (.int .u64 (x.u 0 : Int))).setCell ⟨w.heap.size + 1 + 1, 1, none⟩ (.int .u64 (x.v 0 : Int))).setCell ⟨w.heap.size + 1 + 1, 2, none⟩ (.int .u64 (x.u 1 : Int))).setCell ⟨w.heap.size + 1 + 1, 3, none⟩ (.int .u64 (x.v 1 : Int))).setCell ⟨w.heap.size + 1 + 1, 4, none⟩ (.int .u64 (x.u 2 : Int))).setCell ⟨w.heap.size + 1 + 1, 5, none⟩ (.int .u64 (x.v 2 : Int))).setCell ⟨w.heap.size + 1 + 1, 6, none⟩ (.slice V1 tc.length d1)).setCell ⟨w.heap.size + 1 + 1, 7, none⟩ (.slice V2 tz.length d2)) := below_set (below_set (below_set (below_set (below_set (below_set (below_set (below_set (Hbb.out) (by omega) _ _) (by omega) _ _) (by omega) _ _) (by omega) _ _) (by omega) _ _) (by omega) _ _) (by omega) _ _) (by omega) _ _
  have hob := Ho.out.lt
  obtain ⟨y0, y1, y2, y3, y4, y5, y6, y7⟩ := cells_8 hy
  have hz1 := ((((((((Hr1b.out.other (b := w.heap.size + 1 + 1) (by omega) 0 (.int .u64 (x.u 0 : Int))).other (b := w.heap.size + 1 + 1) (by omega) 1 (.int .u64 (x.v 0 : Int))).other (b := w.heap.size + 1 + 1) (by omega) 2 (.int .u64 (x.u 1 : Int))).other (b := w.heap.size + 1 + 1) (by omega) 3 (.int .u64 (x.v 1 : Int))).other (b := w.heap.size + 1 + 1) (by omega) 4 (.int .u64 (x.u 2 : Int))).other (b := w.heap.size + 1 + 1) (by omega) 5 (.int .u64 (x.v 2 : Int))).other (b := w.heap.size + 1 + 1) (by omega) 6 (.slice V1 tc.length d1)).other (b := w.heap.size + 1 + 1) (by omega) 7 (.slice V2 tz.length d2))
  have hz2 := ((((((((Hr2b.out.other (b := w.heap.size + 1 + 1) (by omega) 0 (.int .u64 (x.u 0 : Int))).other (b := w.heap.size + 1 + 1) (by omega) 1 (.int .u64 (x.v 0 : Int))).other (b := w.heap.size + 1 + 1) (by omega) 2 (.int .u64 (x.u 1 : Int))).other (b := w.heap.size + 1 + 1) (by omega) 3 (.int .u64 (x.v 1 : Int))).other (b := w.heap.size + 1 + 1) (by omega) 4 (.int .u64 (x.u 2 : Int))).other (b := w.heap.size + 1 + 1) (by omega) 5 (.int .u64 (x.v 2 : Int))).other (b := w.heap.size + 1 + 1) (by omega) 6 (.slice V1 tc.length d1)).other (b := w.heap.size + 1 + 1) (by omega) 7 (.slice V2 tz.length d2))
  have HZ := Lib.hid (And.intro (And.intro (row_low hz1 (show w.heap.size ≤ W.heap.size by have := HbW.out.size; have := Hw0b.out.size; omega)) (row_low hz2 (show w.heap.size ≤ W.heap.size by have := HbW.out.size; have := Hw0b.out.size; omega))) hby)
  clear hz1 hz2 hby hy
  exact bodyPost_ret (v := .tuple #[.agg #[.int .u64 (x.u 0 : Int), .int .u64 (x.v 0 : Int), .int .u64 (x.u 1 : Int), .int .u64 (x.v 1 : Int), .int .u64 (x.u 2 : Int), .int .u64 (x.v 2 : Int), .slice V1 tc.length d1, .slice V2 tz.length d2], .bool true]) (by simp [results, Tryz.results70, go_sem, y0, y1, y2, y3, y4, y5, y6, y7]) rfl ⟨⟨_, _, rfl, HZ.out.1.1, HZ.out.1.2⟩, HZ.out.2⟩
end Go.Proofs.YtbpenkaficiodaaGreat
