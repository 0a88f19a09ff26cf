/- Joined texts, part 9: contracts of the functions that the laws reach, and what is needed for them. -/
import Derived.Test.YtinlciofhegciaaGreatM8
/- Like claims: the reference's walk (where they are alike). -/
namespace Go.Proofs.YtinlciofhegciaaGreat
open Go.RowKit Go.BigFrame

set_option maxRecDepth 100000 in
set_option maxHeartbeats 2000000 in
theorem alike_any (T : List Nat) (L : List (List Nat)) (u v : Value) (w : World) (h1 : ClaimV T L u w) (h2 : ClaimV T L v w) (hT : T.length < 1000000) (hL : L.length ≤ 10000) (hr : ∀ l ∈ L, l.length < 1000000) :
    Calls Tryz.prog 17 #[u, v] w fun e w' => e = .returned (.bool true) ∧ Below w.heap.size w w' := by
  obtain ⟨A1, c1, B1, d1, rs1, rfl, ⟨hn1, hg1⟩, hm1⟩ := h1
  obtain ⟨A2, c2, B2, d2, rs2, rfl, ⟨hn2, hg2⟩, hm2⟩ := h2
  have hl1 : rs1.length = L.length := by rw [← hm1, List.length_map]
  have hl2 : rs2.length = L.length := by rw [← hm2, List.length_map]
  rw [hl1, hl2]
  obtain ⟨n, hn⟩ : ∃ n, n = L.length := ⟨_, rfl⟩
  obtain ⟨t, ht⟩ : ∃ t, t = T.length := ⟨_, rfl⟩
  have hS : ∀ W, Lat w W → Calls Tryz.prog 39 #[.slice A1 t c1, .slice A2 t c2] W fun e w' => e = .returned (.bool true) ∧ Below W.heap.size W w' := fun W hb => by
    have h := refSame_any A1 c1 T A2 c2 T W (hn1.below hb) (hn2.below hb) hT hT
    rw [← ht] at h
    exact h.mono fun e w' h => ⟨by rw [h.1]; simp, let ⟨m, hm⟩ := h.2; hm ▸ below_drewN (Below.refl _ _) m⟩
  rw [← hn, ← ht]
  unfold cval
  obtain ⟨W0, hW0⟩ : ∃ W0, W0 = (w.alloc (.cells #[.slice A1 t c1, .slice B1 n d1] 29)).alloc (.cells #[.slice A2 t c2, .slice B2 n d2] 29) := ⟨_, rfl⟩
  have hk1 : Blk W0 w.heap.size 29 [.slice A1 t c1, .slice B1 n d1] := by rw [hW0]; exact (Blk.of w _ _ _ rfl).alloc _
  have hk2 : Blk W0 (w.heap.size + 1) 29 [.slice A2 t c2, .slice B2 n d2] := by rw [hW0]; exact Blk.at_new _ _ _ _ _ (by simp) rfl
  have hb0 : Lat w W0 := by rw [hW0]; exact lat_alloc (lat_alloc (Below.refl _ _) _) _
  have HS := Lib.hid hS
  have HW0 := Lib.hid hW0
  have Hk1 := Lib.hid hk1
  have Hk2 := Lib.hid hk2
  have Hb0 := Lib.hid hb0
  have Hg1 := Lib.hid hg1
  have Hg2 := Lib.hid hg2
  have Hm1 := Lib.hid hm1
  have Hm2 := Lib.hid hm2
  have Hn := Lib.hid hn
  have Hr := Lib.hid hr
  have Hl1 := Lib.hid (hl1.trans hn.symm)
  have Hl2 := Lib.hid (hl2.trans hn.symm)
  have hnn : n ≤ 10000 := by omega
  clear hS hW0 hk1 hk2 hb0 hn1 hn2 hg1 hg2 hm1 hm2 hl1 hl2 hn hr hT hL ht
  go_enter Tryz.func17, Tryz.ntmps17
  go_wp2_with (go_at_call 39; rw [← HW0.out]; refine (HS.out _ Hb0.out).mono ?_; rintro e w2 ⟨rfl, hb2⟩; obtain ⟨k1, k2⟩ := two_cells (Hk1.out.below hb2 Hk1.out.lt); obtain ⟨k3, k4⟩ := two_cells (Hk2.out.below hb2 Hk2.out.lt); have Hb2 := Lib.hid hb2; clear hb2)
  go_loopw [5] (fun iv wr => ∃ i : Nat, iv = .int .i64 (i : Int) ∧ i ≤ n ∧ Lat W0 wr) (fun iv _ => n - (intOf iv).toNat)
  case atStart => exact ⟨0, rfl, by omega, Hb2.out⟩
  case round =>
    obtain ⟨i, rfl, hi, hbr⟩ := hrel
    clear k1 k2 k3 k4 Hb2
    obtain ⟨k1, k2⟩ := two_cells (Hk1.out.below hbr Hk1.out.lt)
    obtain ⟨k3, k4⟩ := two_cells (Hk2.out.below hbr Hk2.out.lt)
    have Hbr := Lib.hid hbr
    clear hbr
    by_cases hin : i < n
    · have d6 : decide ((i : Int) < (n : Int)) = true := decide_eq_true (by omega)
      have hii : (i : Int) < (n : Int) := by omega
      obtain ⟨l, hl⟩ : ∃ l, L[i]? = some l := ⟨_, List.getElem?_eq_getElem (by rw [← Hn.out]; exact hin)⟩
      obtain ⟨r1, hr1⟩ : ∃ r, rs1[i]? = some r := ⟨_, List.getElem?_eq_getElem (by rw [Hl1.out]; exact hin)⟩
      obtain ⟨r2, hr2⟩ : ∃ r, rs2[i]? = some r := ⟨_, List.getElem?_eq_getElem (by rw [Hl2.out]; exact hin)⟩
      have e1 : r1.l = l := by have h := hl; rw [← Hm1.out, List.getElem?_map, hr1] at h; simpa using h
      have e2 : r2.l = l := by have h := hl; rw [← Hm2.out, List.getElem?_map, hr2] at h; simpa using h
      have hwr : Lat w wr := below_trans Hb0.out Hbr.out
      obtain ⟨b1, hB1, q1⟩ := (Hg1.out.below hwr).cells i r1 hr1
      obtain ⟨b2, hB2, q2⟩ := (Hg2.out.below hwr).cells i r2 hr2
      have hN1 := (Hg1.out.below hwr).nums r1 (List.mem_of_getElem? hr1)
      have hN2 := (Hg2.out.below hwr).nums r2 (List.mem_of_getElem? hr2)
      rw [e1] at hN1
      rw [e2] at hN2
      rw [show r1.val = .slice r1.A l.length r1.cap by rw [← e1]; rfl] at q1
      rw [show r2.val = .slice r2.A l.length r2.cap by rw [← e2]; rfl] at q2
      have hll : l.length < 1000000 := Hr.out l (List.mem_of_getElem? hl)
      have hS2 : ∀ W, Lat wr W → Calls Tryz.prog 39 #[.slice r1.A l.length r1.cap, .slice r2.A l.length r2.cap] W fun e w' => e = .returned (.bool true) ∧ Below W.heap.size W w' := fun W hb =>
        (refSame_any r1.A r1.cap l r2.A r2.cap l W (hN1.below hb) (hN2.below hb) hll hll).mono fun e w' h => ⟨by rw [h.1]; simp, let ⟨m, hm⟩ := h.2; hm ▸ below_drewN (Below.refl _ _) m⟩
      have HS2 := Lib.hid hS2
      subst hB1 hB2
      clear hl hr1 hr2 e1 e2 hwr hN1 hN2 hll hS2
      have l1 := Later.cell k1
      have l2 := Later.cell k2
      have l3 := Later.cell k3
      have l4 := Later.cell k4
      have l5 := Later.cell q1
      have l6 := Later.cell q2
      go_wp2_with fail
      refine region_loose [(38, fun u _ => u = .bool true)] (Know.stable_cons (fun _ _ _ h _ => h) Know.stable_nil) (by kernel_rfl) (by kernel_rfl) ?_
      (repeat (first | (refine loose_skip (by rfl) ?_; simp only [Act.put, List.setIfInBounds_toArray, List.set_cons_zero, List.set_cons_succ]) | (refine loose_plain (by rfl) (by rfl) (by rfl) (fun Kc hKc => ?_); go_big_quiet_op; refine hKc _ ?_; clear hKc Kc)))
      refine loose_fix 38 (.bool true) (f := 39) (args := #[.slice r1.A l.length r1.cap, .slice r2.A l.length r2.cap]) (fun w => by go_simp; try rfl) (by rfl) (by rfl) (by rfl) (fun _ _ => Iff.rfl) (fun wk hl _ => HS2.out wk hl) ?_
      simp only [Act.put, List.setIfInBounds_toArray, List.set_cons_zero, List.set_cons_succ]
      (repeat (first | (refine loose_skip (by rfl) ?_; simp only [Act.put, List.setIfInBounds_toArray, List.set_cons_zero, List.set_cons_succ]) | (refine loose_plain (by rfl) (by rfl) (by rfl) (fun Kc hKc => ?_); go_big_quiet_op; refine hKc _ ?_; clear hKc Kc)))
      refine loose_nil ?_
      intro wq hbq _
      have Hbq := Lib.hid (below_trans Hbr.out hbq)
      clear l1 l2 l3 l4 l5 l6 k1 k2 k3 k4 q1 q2 hbq
      go_wp2_with fail
      go_roundw
      case rel => exact ⟨i + 1, by go_num, by omega, Hbq.out⟩
      case measure => simp [intOf]; omega
    · have d6 : decide ((i : Int) < (n : Int)) = false := decide_eq_false (by omega)
      go_wp2_with fail
      go_ret
      exact ⟨rfl, below_trans Hb0.out Hbr.out⟩
end Go.Proofs.YtinlciofhegciaaGreat

/- What is claimed is the document's: the law's walk. -/
namespace Go.Proofs.YtinlciofhegciaaGreat
open Go.RowKit Go.BigFrame

def tlist (a0 a1 a2 b0 b1 b2 : Nat) : List Value := [.int .u64 (a0 : Int), .int .u64 (a1 : Int), .int .u64 (a2 : Int), .int .u64 (b0 : Int), .int .u64 (b1 : Int), .int .u64 (b2 : Int)]
theorem six_cells {w : World} {b : Nat} {t : TypeId} {x0 x1 x2 x3 x4 x5 : Value} (h : Blk w b t [x0, x1, x2, x3, x4, x5]) :
    w.cell? ⟨b, 0, none⟩ = some x0 ∧ w.cell? ⟨b, 1, none⟩ = some x1 ∧ w.cell? ⟨b, 2, none⟩ = some x2 ∧ w.cell? ⟨b, 3, none⟩ = some x3 ∧ w.cell? ⟨b, 4, none⟩ = some x4 ∧ w.cell? ⟨b, 5, none⟩ = some x5 :=
  ⟨h.cell 0, h.cell 1, h.cell 2, h.cell 3, h.cell 4, h.cell 5⟩
theorem claim_args {w w0 : World} {g0 c0 l0 P Q G H : Nat} {R x0 x1 x2 x3 x4 x5 y0 y1 y2 y3 y4 y5 : Value} {tg tc tl : TypeId} (hg : Blk w0 g0 tg (glist P Q G H R)) (hc : Blk w0 c0 tc [x0, x1, x2, x3, x4, x5]) (hl : Blk w0 l0 tl [y0, y1, y2, y3, y4, y5]) (hb : Below w0.heap.size w0 w) :
    (w.cell? ⟨g0, 0, none⟩ = some (.int .u64 (P : Int)) ∧ w.cell? ⟨g0, 1, none⟩ = some (.int .u64 (Q : Int)) ∧ w.cell? ⟨g0, 2, none⟩ = some (.int .u64 (G : Int)) ∧ w.cell? ⟨g0, 3, none⟩ = some (.int .u64 (H : Int)) ∧ w.cell? ⟨g0, 4, none⟩ = some R) ∧
    (w.cell? ⟨c0, 0, none⟩ = some x0 ∧ w.cell? ⟨c0, 1, none⟩ = some x1 ∧ w.cell? ⟨c0, 2, none⟩ = some x2 ∧ w.cell? ⟨c0, 3, none⟩ = some x3 ∧ w.cell? ⟨c0, 4, none⟩ = some x4 ∧ w.cell? ⟨c0, 5, none⟩ = some x5) ∧
    (w.cell? ⟨l0, 0, none⟩ = some y0 ∧ w.cell? ⟨l0, 1, none⟩ = some y1 ∧ w.cell? ⟨l0, 2, none⟩ = some y2 ∧ w.cell? ⟨l0, 3, none⟩ = some y3 ∧ w.cell? ⟨l0, 4, none⟩ = some y4 ∧ w.cell? ⟨l0, 5, none⟩ = some y5) :=
  ⟨gcells (hg.below hb hg.lt), six_cells (hc.below hb hc.lt), six_cells (hl.below hb hl.lt)⟩

set_option maxRecDepth 100000 in
set_option maxHeartbeats 8000000 in
theorem claims_walk (P Q G H : Nat) (RB : Option Addr) (capR : Nat) (rs : List RowV) (p0 q0 p1 q1 p2 q2 a0 a1 a2 b0 b1 b2 : Nat) (w : World)
    (hP : P < 18446744073709551616) (hQ : Q < 18446744073709551616) (hG : G < 18446744073709551616) (hH : H < 18446744073709551616) (hR : Rows3 w RB capR rs) (hRl : rs.length < 9223372036854775807) (hFl : ∀ r ∈ rs, r.F.l.length < 9223372036854775807)
    (x0 : p0 < 18446744073709551616) (x1 : p1 < 18446744073709551616) (x2 : p2 < 18446744073709551616) (x3 : q2 < 18446744073709551616) (y0 : a0 < 18446744073709551616) (y1 : a1 < 18446744073709551616) (y2 : a2 < 18446744073709551616) (y3 : b1 < 18446744073709551616) (y4 : b2 < 18446744073709551616) :
    Calls Tryz.prog 5 #[gval P Q G H (.slice RB rs.length capR), sval p0 q0 p1 q1 p2 q2, .agg #[.int .u64 (a0 : Int), .int .u64 (a1 : Int), .int .u64 (a2 : Int), .int .u64 (b0 : Int), .int .u64 (b1 : Int), .int .u64 (b2 : Int)]] w fun e w' => e = .returned (.bool true) ∧ Below w.heap.size w w' := by
  have hgr := fun W hb => group_any P Q G H RB capR rs W hP hQ hG hH (hR.below (w1 := W) hb) hRl hFl
  obtain ⟨R, hRv⟩ : ∃ R, R = Value.slice RB rs.length capR := ⟨_, rfl⟩
  have hone : R.oneCell' = true := by rw [hRv]; rfl
  rw [← hRv] at hgr
  rw [← hRv]
  clear hRv
  have hin := fun x W (hx : x < 18446744073709551616) => refIn_any P Q G H x R W hP hQ hx
  unfold gval at hgr hin
  unfold gval sval
  obtain ⟨w0, hw0⟩ : ∃ w0, w0 = (((w.alloc (.cells #[.int .u64 (P : Int), .int .u64 (Q : Int), .int .u64 (G : Int), .int .u64 (H : Int), R] 25)).alloc (.cells #[.int .u64 (p0 : Int), .int .u64 (q0 : Int), .int .u64 (p1 : Int), .int .u64 (q1 : Int), .int .u64 (p2 : Int), .int .u64 (q2 : Int)] 46)).alloc (.cells #[.int .u64 (a0 : Int), .int .u64 (a1 : Int), .int .u64 (a2 : Int), .int .u64 (b0 : Int), .int .u64 (b1 : Int), .int .u64 (b2 : Int)] 49)) := ⟨_, rfl⟩
  have hb0 : Below w.heap.size w w0 := by rw [hw0]; exact lat_alloc (lat_alloc (lat_alloc (Below.refl _ _) _) _) _
  have hg0 : Blk w0 w.heap.size 25 (glist P Q G H R) := by rw [hw0]; exact ((Blk.of w _ _ _ rfl).alloc _).alloc _
  have hc0 : Blk w0 (w.heap.size + 1) 46 (slist p0 q0 p1 q1 p2 q2) := by rw [hw0]; exact (Blk.at_new _ _ _ _ _ (by simp) rfl).alloc _
  have hl0 : Blk w0 (w.heap.size + 1 + 1) 49 (tlist a0 a1 a2 b0 b1 b2) := by rw [hw0]; exact Blk.at_new _ _ _ _ _ (by simp) rfl
  have HA := Lib.hid (fun W hb => claim_args (w := W) hg0 hc0 hl0 hb)
  have Hgr := Lib.hid hgr
  have Hin := Lib.hid hin
  have Hb0 := Lib.hid hb0
  have Hw0 := Lib.hid hw0
  have hgl := hg0.lt
  have hcl0 := hc0.lt
  have hll0 := hl0.lt
  clear hgr hin hb0 hg0 hc0 hl0 hw0 hR hRl hFl
  go_enter Tryz.func5, Tryz.ntmps5
  go_wp2_with fail
  rw [← Hw0.out]
  refine (awake7_any _).mono ?_
  rintro e w1 ⟨rfl, hb1⟩
  obtain ⟨⟨g0, g1, g2, g3, g4⟩, ⟨f0, f1, f2, f3, f4, f5⟩, ⟨c0, c1, c2, c3, c4, c5⟩⟩ := HA.out w1 hb1
  have Hb1 := Lib.hid hb1
  clear hb1
  go_wp2_with fail
  refine (Hgr.out w1 (below_trans Hb0.out Hb1.out)).mono ?_
  rintro e w2 ⟨rfl, hb2⟩
  have Hb2 := Lib.hid (below_trans Hb1.out hb2)
  obtain ⟨⟨g0, g1, g2, g3, g4⟩, ⟨f0, f1, f2, f3, f4, f5⟩, ⟨c0, c1, c2, c3, c4, c5⟩⟩ := HA.out w2 Hb2.out
  clear hb2
  cases hgb : groupB P Q G H rs with
  | false =>
    clear hgb
    go_wp2_with fail
    go_ret
    exact ⟨rfl, below_trans Hb0.out Hb2.out⟩
  | true =>
    clear hgb
    go_wp2_with fail
    have l0 := Later.cell f0
    have l2 := Later.cell f2
    have l4 := Later.cell f4
    have l5 := Later.cell f5
    refine region_float_tail [(9, fun u w' => ∃ b, u = .pointer (some ⟨b, 0, none⟩) ∧ w2.heap.size ≤ b ∧ Blk w' b 44 [.int .u64 0, .int .u64 0])] 11
      (Know.stable_cons (fun _ _ _ h hl => let ⟨b, e, h1, h2⟩ := h; ⟨b, e, h1, h2.below hl h2.lt⟩) Know.stable_nil) (by kernel_rfl) (by kernel_rfl) (by rfl) ?_
    simp only [List.take_succ_cons, List.take_zero, List.drop_succ_cons, List.drop_zero]
    (repeat (first | (refine loose_skip (by rfl) ?_; simp only [Act.put, List.setIfInBounds_toArray, List.set_cons_zero, List.set_cons_succ]) | (refine loose_plain (by rfl) (by rfl) (by rfl) (fun Kc hKc => ?_); go_big_quiet_op; refine hKc _ ?_; clear hKc Kc)))
    refine loose_make 9 (V := fun w => .pointer (some ⟨w.heap.size, 0, none⟩)) (W := fun w => w.alloc (.cells #[.int .u64 0, .int .u64 0] 44)) (fun w => by go_simp) (by rfl) (by rfl) (by rfl) (fun w hl _ => ⟨(Below.refl _ _).alloc (Nat.le_refl _) _, _, rfl, hl.size, Blk.of w _ _ _ rfl⟩) ?_
    rintro _ wk2 _ ⟨pb, rfl, hpb, _⟩
    simp only [Act.put, List.setIfInBounds_toArray, List.set_cons_zero, List.set_cons_succ]
    (repeat (first | (refine loose_skip (by rfl) ?_; simp only [Act.put, List.setIfInBounds_toArray, List.set_cons_zero, List.set_cons_succ]) | (refine loose_plain (by rfl) (by rfl) (by rfl) (fun Kc hKc => ?_); go_big_quiet_op; refine hKc _ ?_; clear hKc Kc)))
    refine loose_nil ?_
    intro wq hbq hkn
    obtain ⟨pb', hpe, _, hpk⟩ := hkn 9 _ (.inl ⟨rfl, rfl⟩)
    injection hpe with hpe; injection hpe with hpe; injection hpe with hpe
    subst hpe
    obtain ⟨k0, k1⟩ := two_cells hpk
    have z0 := hpk.frozen 0
    have z1 := hpk.frozen 1
    have hpk2 := (hpk.set 0 (.int .u64 (p2 : Int))).set 1 (.int .u64 (q2 : Int))
    have hbx : Below w0.heap.size w0 ((wq.setCell ⟨pb, 0, none⟩ (.int .u64 (p2 : Int))).setCell ⟨pb, 1, none⟩ (.int .u64 (q2 : Int))) := below_set (below_set (below_trans Hb2.out hbq) (by have := Hb2.out.size; omega) _ _) (by have := Hb2.out.size; omega) _ _
    have Hpk := Lib.hid (show Blk _ pb 44 [.int .u64 (p2 : Int), .int .u64 (q2 : Int)] from hpk2)
    have Hbx := Lib.hid hbx
    clear hpk hpk2 hbx hkn hbq l0 l2 l4 l5 g0 g1 g2 g3 g4 f0 f1 f2 f3 f4 f5 c0 c1 c2 c3 c4 c5
    go_wp2_with fail
    refine NoPanic.normal ?_
    obtain ⟨wx, hwx⟩ : ∃ W, W = (wq.setCell ⟨pb, 0, none⟩ (.int .u64 (p2 : Int))).setCell ⟨pb, 1, none⟩ (.int .u64 (q2 : Int)) := ⟨_, rfl⟩
    rw [← hwx] at Hpk Hbx
    rw [← hwx]
    have hpx := Hpk.out.lt
    clear hwx k0 k1 z0 z1
    obtain ⟨⟨g0, g1, g2, g3, g4⟩, ⟨f0, f1, f2, f3, f4, f5⟩, ⟨c0, c1, c2, c3, c4, c5⟩⟩ := HA.out wx Hbx.out
    obtain ⟨k0, k1⟩ := two_cells Hpk.out
    go_wp2_with fail
    obtain ⟨xs, hxs⟩ : ∃ xs, xs = [p0, p1, p2, q2, a0, a1, a2, b1, b2] := ⟨_, rfl⟩
    obtain ⟨W6, hW6⟩ : ∃ W, W = wx.alloc (.cells #[.int .u64 (p0 : Int), .int .u64 (p1 : Int), .int .u64 (p2 : Int), .int .u64 (q2 : Int), .int .u64 (a0 : Int), .int .u64 (a1 : Int), .int .u64 (a2 : Int), .int .u64 (b1 : Int), .int .u64 (b2 : Int)] 22) := ⟨_, rfl⟩
    rw [← hW6]
    have Hxk := Lib.hid (show Blk W6 wx.heap.size 22 (u64s xs) by rw [hW6]; exact Blk.at_new _ _ _ _ _ rfl (by rw [hxs]; rfl))
    have hxs2 : ∀ x ∈ xs, x < 18446744073709551616 := by rw [hxs]; simp [x0, x1, x2, x3, y0, y1, y2, y3, y4]
    have Hx6 := Lib.hid (show Lat wx W6 by rw [hW6]; exact lat_alloc (Below.refl _ _) _)
    have hxl : xs.length = 9 := by rw [hxs]; rfl
    have Hxs2 := Lib.hid hxs2
    have Hxl := Lib.hid hxl
    clear hW6 hxs hxs2 hxl g0 g1 g2 g3 g4 f0 f1 f2 f3 f4 f5 c0 c1 c2 c3 c4 c5 k0 k1
    go_loopw [48] (fun iv wr => ∃ k : Nat, iv = .int .i64 (k : Int) ∧ k ≤ 9 ∧ Lat W6 wr) (fun iv _ => 9 - (intOf iv).toNat)
    case atStart => exact ⟨0, rfl, by omega, Below.refl _ _⟩
    case round =>
      obtain ⟨k, rfl, hk, hbr⟩ := hrel
      have Hbr := Lib.hid hbr
      have Hbw := Lib.hid (below_trans Hbx.out (below_trans Hx6.out hbr))
      obtain ⟨⟨g0, g1, g2, g3, g4⟩, ⟨f0, f1, f2, f3, f4, f5⟩, ⟨c0, c1, c2, c3, c4, c5⟩⟩ := HA.out wr Hbw.out
      clear hbr
      by_cases hk9 : k < 9
      · have d6 : decide ((k : Int) < 9) = true := decide_eq_true (by omega)
        have hki : (k : Int) < 9 := by omega
        obtain ⟨x, hx⟩ : ∃ x, xs[k]? = some x := ⟨_, List.getElem?_eq_getElem (by rw [Hxl.out]; exact hk9)⟩
        have hxc : wr.cell? ⟨wx.heap.size, k, none⟩ = some (.int .u64 (x : Int)) := by rw [(Hxk.out.below Hbr.out Hxk.out.lt).cell k, u64s, List.getElem?_map, hx]; rfl
        have hxx := Hxs2.out x (List.mem_of_getElem? hx)
        clear hx
        go_wp2_with fail
        refine (Hin.out x _ hxx).mono ?_
        rintro e w3 ⟨rfl, hb3⟩
        have Hb3 := Lib.hid hb3
        clear hb3
        cases hinx : inG P Q x with
        | false =>
          clear hinx
          go_wp2_with fail
          go_ret
          exact ⟨rfl, below_trans Hb0.out (below_trans Hbw.out Hb3.out)⟩
        | true =>
          clear hinx
          go_wp2_with fail
          go_roundw
          case rel => exact ⟨k + 1, by go_num, by omega, below_trans Hbr.out Hb3.out⟩
          case measure => simp [intOf]; omega
      · have d6 : decide ((k : Int) < 9) = false := decide_eq_false (by omega)
        go_wp2_with fail
        obtain ⟨k0, k1⟩ := two_cells (Hpk.out.below (below_trans Hx6.out Hbr.out) hpx)
        have l0 := Later.cell g0
        have l1 := Later.cell g1
        have l2 := Later.cell g2
        have l3 := Later.cell g3
        have l4 := Later.cell g4
        have l5 := Later.cell f0
        have l6 := Later.cell f1
        have l7 := Later.cell f2
        have l8 := Later.cell f3
        have l9 := Later.cell f4
        have l10 := Later.cell f5
        have l11 := Later.cell c0
        have l12 := Later.cell c1
        have l13 := Later.cell c2
        have l14 := Later.cell c3
        have l15 := Later.cell c4
        have l16 := Later.cell c5
        have l17 := Later.cell k0
        have l18 := Later.cell k1
        clear Hin Hgr Hxs2 Hxk HA
        refine region_loose [(59, ClaimV [p0] [[G]]), (62, ClaimV [p0] [[G]]), (63, fun u _ => u = .bool true), (67, ClaimV [p0, p1, p2] [[G, 1, 1], [1, G, 1], [1, 1, G]]), (70, ClaimV [p0, p1, p2] [[G, 1, 1], [1, G, 1], [1, 1, G]]), (71, fun u _ => u = .bool true), (78, ClaimV [p0, p1] [[G], [p2]]), (83, ClaimV [p0, p1] [[G], [p2]]), (84, fun u _ => u = .bool true), (94, ClaimV [p0, overG P b1 a1, overG P b2 a2] [[G, 1], [1, G], [overG P 1 a0, p1]]), (102, ClaimV [p0, overG P b1 a1, overG P b2 a2] [[G, 1], [1, G], [overG P 1 a0, p1]]), (103, fun u _ => u = .bool true)] (Know.stable_cons (fun _ _ _ h hl => h.later hl) (Know.stable_cons (fun _ _ _ h hl => h.later hl) (Know.stable_cons (fun _ _ _ h _ => h) (Know.stable_cons (fun _ _ _ h hl => h.later hl) (Know.stable_cons (fun _ _ _ h hl => h.later hl) (Know.stable_cons (fun _ _ _ h _ => h) (Know.stable_cons (fun _ _ _ h hl => h.later hl) (Know.stable_cons (fun _ _ _ h hl => h.later hl) (Know.stable_cons (fun _ _ _ h _ => h) (Know.stable_cons (fun _ _ _ h hl => h.later hl) (Know.stable_cons (fun _ _ _ h hl => h.later hl) (Know.stable_cons (fun _ _ _ h _ => h) Know.stable_nil)))))))))))) (by kernel_rfl) (by kernel_rfl) ?_
        (repeat (first | (refine loose_skip (by rfl) ?_; simp only [Act.put, List.setIfInBounds_toArray, List.set_cons_zero, List.set_cons_succ]) | (refine loose_plain (by rfl) (by rfl) (by rfl) (fun Kc hKc => ?_); go_big_quiet_op; refine hKc _ ?_; clear hKc Kc)))
        refine loose_call 59 (f := 18) (args := #[.agg #[.int .u64 (P : Int), .int .u64 (Q : Int), .int .u64 (G : Int), .int .u64 (H : Int), R], .int .u64 (p0 : Int)]) (fun w => by go_simp; try rfl) (by rfl) (by rfl) (by rfl) (fun wk hl _ => (keeps_any P Q G H p0 R wk hG x0).mono fun e w' ⟨h, hb⟩ => let ⟨u, he, hu⟩ := ClaimV.of h; ⟨u, he, hb, hu⟩) ?_
        rintro u59 wk59 hl59 hu59
        simp only [Act.put, List.setIfInBounds_toArray, List.set_cons_zero, List.set_cons_succ]
        (repeat (first | (refine loose_skip (by rfl) ?_; simp only [Act.put, List.setIfInBounds_toArray, List.set_cons_zero, List.set_cons_succ]) | (refine loose_plain (by rfl) (by rfl) (by rfl) (fun Kc hKc => ?_); go_big_quiet_op; refine hKc _ ?_; clear hKc Kc)))
        refine loose_call 62 (f := 19) (args := #[.agg #[.int .u64 (P : Int), .int .u64 (Q : Int), .int .u64 (G : Int), .int .u64 (H : Int), R], .int .u64 (p0 : Int)]) (fun w => by go_simp; try rfl) (by rfl) (by rfl) (by rfl) (fun wk hl _ => (refKeeps_any P Q G H p0 R wk hG x0).mono fun e w' ⟨h, hb⟩ => let ⟨u, he, hu⟩ := ClaimV.of h; ⟨u, he, hb, hu⟩) ?_
        rintro u62 wk62 hl62 hu62
        simp only [Act.put, List.setIfInBounds_toArray, List.set_cons_zero, List.set_cons_succ]
        (repeat (first | (refine loose_skip (by rfl) ?_; simp only [Act.put, List.setIfInBounds_toArray, List.set_cons_zero, List.set_cons_succ]) | (refine loose_plain (by rfl) (by rfl) (by rfl) (fun Kc hKc => ?_); go_big_quiet_op; refine hKc _ ?_; clear hKc Kc)))
        refine loose_fix 63 (.bool true) (f := 17) (args := #[u59, u62]) (fun w => by go_simp; try rfl) (by rfl) (by rfl) (by rfl) (fun _ _ => Iff.rfl) (fun wk hl hd => alike_any _ _ _ _ wk (hd 59 (by decide) u59 (by simp [behind, gadd])) (hd 62 (by decide) u62 (by simp [behind, gadd])) (by simp) (by simp) (by simp)) ?_
        simp only [Act.put, List.setIfInBounds_toArray, List.set_cons_zero, List.set_cons_succ]
        (repeat (first | (refine loose_skip (by rfl) ?_; simp only [Act.put, List.setIfInBounds_toArray, List.set_cons_zero, List.set_cons_succ]) | (refine loose_plain (by rfl) (by rfl) (by rfl) (fun Kc hKc => ?_); go_big_quiet_op; refine hKc _ ?_; clear hKc Kc)))
        refine loose_call 67 (f := 20) (args := #[.agg #[.int .u64 (P : Int), .int .u64 (Q : Int), .int .u64 (G : Int), .int .u64 (H : Int), R], .agg #[.int .u64 (p0 : Int), .int .u64 (q0 : Int), .int .u64 (p1 : Int), .int .u64 (q1 : Int), .int .u64 (p2 : Int), .int .u64 (q2 : Int)]]) (fun w => by go_simp; try rfl) (by rfl) (by rfl) (by rfl) (fun wk hl _ => (knows_any P Q G H p0 q0 p1 q1 p2 q2 R wk hG x0 x1 x2).mono fun e w' ⟨h, hb⟩ => let ⟨u, he, hu⟩ := ClaimV.of h; ⟨u, he, hb, hu⟩) ?_
        rintro u67 wk67 hl67 hu67
        simp only [Act.put, List.setIfInBounds_toArray, List.set_cons_zero, List.set_cons_succ]
        (repeat (first | (refine loose_skip (by rfl) ?_; simp only [Act.put, List.setIfInBounds_toArray, List.set_cons_zero, List.set_cons_succ]) | (refine loose_plain (by rfl) (by rfl) (by rfl) (fun Kc hKc => ?_); go_big_quiet_op; refine hKc _ ?_; clear hKc Kc)))
        refine loose_call 70 (f := 21) (args := #[.agg #[.int .u64 (P : Int), .int .u64 (Q : Int), .int .u64 (G : Int), .int .u64 (H : Int), R], .agg #[.int .u64 (p0 : Int), .int .u64 (q0 : Int), .int .u64 (p1 : Int), .int .u64 (q1 : Int), .int .u64 (p2 : Int), .int .u64 (q2 : Int)]]) (fun w => by go_simp; try rfl) (by rfl) (by rfl) (by rfl) (fun wk hl _ => (refKnows_any P Q G H p0 q0 p1 q1 p2 q2 R wk hG x0 x1 x2).mono fun e w' ⟨h, hb⟩ => let ⟨u, he, hu⟩ := ClaimV.of h; ⟨u, he, hb, hu⟩) ?_
        rintro u70 wk70 hl70 hu70
        simp only [Act.put, List.setIfInBounds_toArray, List.set_cons_zero, List.set_cons_succ]
        (repeat (first | (refine loose_skip (by rfl) ?_; simp only [Act.put, List.setIfInBounds_toArray, List.set_cons_zero, List.set_cons_succ]) | (refine loose_plain (by rfl) (by rfl) (by rfl) (fun Kc hKc => ?_); go_big_quiet_op; refine hKc _ ?_; clear hKc Kc)))
        refine loose_fix 71 (.bool true) (f := 17) (args := #[u67, u70]) (fun w => by go_simp; try rfl) (by rfl) (by rfl) (by rfl) (fun _ _ => Iff.rfl) (fun wk hl hd => alike_any _ _ _ _ wk (hd 67 (by decide) u67 (by simp [behind, gadd])) (hd 70 (by decide) u70 (by simp [behind, gadd])) (by simp) (by simp) (by simp)) ?_
        simp only [Act.put, List.setIfInBounds_toArray, List.set_cons_zero, List.set_cons_succ]
        (repeat (first | (refine loose_skip (by rfl) ?_; simp only [Act.put, List.setIfInBounds_toArray, List.set_cons_zero, List.set_cons_succ]) | (refine loose_plain (by rfl) (by rfl) (by rfl) (fun Kc hKc => ?_); go_big_quiet_op; refine hKc _ ?_; clear hKc Kc)))
        refine loose_call 78 (f := 22) (args := #[.agg #[.int .u64 (P : Int), .int .u64 (Q : Int), .int .u64 (G : Int), .int .u64 (H : Int), R], .int .u64 (p0 : Int), .agg #[.int .u64 (p2 : Int), .int .u64 (q2 : Int)], .int .u64 (p1 : Int)]) (fun w => by go_simp; try rfl) (by rfl) (by rfl) (by rfl) (fun wk hl _ => (shares_any P Q G H p0 p2 q2 p1 R wk hG x0 x2 x1).mono fun e w' ⟨h, hb⟩ => let ⟨u, he, hu⟩ := ClaimV.of h; ⟨u, he, hb, hu⟩) ?_
        rintro u78 wk78 hl78 hu78
        simp only [Act.put, List.setIfInBounds_toArray, List.set_cons_zero, List.set_cons_succ]
        (repeat (first | (refine loose_skip (by rfl) ?_; simp only [Act.put, List.setIfInBounds_toArray, List.set_cons_zero, List.set_cons_succ]) | (refine loose_plain (by rfl) (by rfl) (by rfl) (fun Kc hKc => ?_); go_big_quiet_op; refine hKc _ ?_; clear hKc Kc)))
        refine loose_call 83 (f := 23) (args := #[.agg #[.int .u64 (P : Int), .int .u64 (Q : Int), .int .u64 (G : Int), .int .u64 (H : Int), R], .int .u64 (p0 : Int), .agg #[.int .u64 (p2 : Int), .int .u64 (q2 : Int)], .int .u64 (p1 : Int)]) (fun w => by go_simp; try rfl) (by rfl) (by rfl) (by rfl) (fun wk hl _ => (refShares_any P Q G H p0 p2 q2 p1 R wk hG x0 x2 x1).mono fun e w' ⟨h, hb⟩ => let ⟨u, he, hu⟩ := ClaimV.of h; ⟨u, he, hb, hu⟩) ?_
        rintro u83 wk83 hl83 hu83
        simp only [Act.put, List.setIfInBounds_toArray, List.set_cons_zero, List.set_cons_succ]
        (repeat (first | (refine loose_skip (by rfl) ?_; simp only [Act.put, List.setIfInBounds_toArray, List.set_cons_zero, List.set_cons_succ]) | (refine loose_plain (by rfl) (by rfl) (by rfl) (fun Kc hKc => ?_); go_big_quiet_op; refine hKc _ ?_; clear hKc Kc)))
        refine loose_fix 84 (.bool true) (f := 17) (args := #[u78, u83]) (fun w => by go_simp; try rfl) (by rfl) (by rfl) (by rfl) (fun _ _ => Iff.rfl) (fun wk hl hd => alike_any _ _ _ _ wk (hd 78 (by decide) u78 (by simp [behind, gadd])) (hd 83 (by decide) u83 (by simp [behind, gadd])) (by simp) (by simp) (by simp)) ?_
        simp only [Act.put, List.setIfInBounds_toArray, List.set_cons_zero, List.set_cons_succ]
        (repeat (first | (refine loose_skip (by rfl) ?_; simp only [Act.put, List.setIfInBounds_toArray, List.set_cons_zero, List.set_cons_succ]) | (refine loose_plain (by rfl) (by rfl) (by rfl) (fun Kc hKc => ?_); go_big_quiet_op; refine hKc _ ?_; clear hKc Kc)))
        refine loose_call 94 (f := 24) (args := #[.agg #[.int .u64 (P : Int), .int .u64 (Q : Int), .int .u64 (G : Int), .int .u64 (H : Int), R], .int .u64 (p0 : Int), .int .u64 (p1 : Int), .agg #[.int .u64 (a0 : Int), .int .u64 (a1 : Int), .int .u64 (a2 : Int)], .agg #[.int .u64 (b0 : Int), .int .u64 (b1 : Int), .int .u64 (b2 : Int)]]) (fun w => by go_simp; try rfl) (by rfl) (by rfl) (by rfl) (fun wk hl _ => (crosses_any P Q G H p0 p1 a0 a1 a2 b0 b1 b2 R wk hP hG x0 x1 y0 y1 y2 y3 y4).mono fun e w' ⟨h, hb⟩ => let ⟨u, he, hu⟩ := ClaimV.of h; ⟨u, he, hb, hu⟩) ?_
        rintro u94 wk94 hl94 hu94
        simp only [Act.put, List.setIfInBounds_toArray, List.set_cons_zero, List.set_cons_succ]
        (repeat (first | (refine loose_skip (by rfl) ?_; simp only [Act.put, List.setIfInBounds_toArray, List.set_cons_zero, List.set_cons_succ]) | (refine loose_plain (by rfl) (by rfl) (by rfl) (fun Kc hKc => ?_); go_big_quiet_op; refine hKc _ ?_; clear hKc Kc)))
        refine loose_call 102 (f := 25) (args := #[.agg #[.int .u64 (P : Int), .int .u64 (Q : Int), .int .u64 (G : Int), .int .u64 (H : Int), R], .int .u64 (p0 : Int), .int .u64 (p1 : Int), .agg #[.int .u64 (a0 : Int), .int .u64 (a1 : Int), .int .u64 (a2 : Int)], .agg #[.int .u64 (b0 : Int), .int .u64 (b1 : Int), .int .u64 (b2 : Int)]]) (fun w => by go_simp; try rfl) (by rfl) (by rfl) (by rfl) (fun wk hl _ => (refCrosses_any P Q G H p0 p1 a0 a1 a2 b0 b1 b2 R wk hP hG x0 x1 y0 y1 y2 y3 y4).mono fun e w' ⟨h, hb⟩ => let ⟨u, he, hu⟩ := ClaimV.of h; ⟨u, he, hb, hu⟩) ?_
        rintro u102 wk102 hl102 hu102
        simp only [Act.put, List.setIfInBounds_toArray, List.set_cons_zero, List.set_cons_succ]
        (repeat (first | (refine loose_skip (by rfl) ?_; simp only [Act.put, List.setIfInBounds_toArray, List.set_cons_zero, List.set_cons_succ]) | (refine loose_plain (by rfl) (by rfl) (by rfl) (fun Kc hKc => ?_); go_big_quiet_op; refine hKc _ ?_; clear hKc Kc)))
        refine loose_fix 103 (.bool true) (f := 17) (args := #[u94, u102]) (fun w => by go_simp; try rfl) (by rfl) (by rfl) (by rfl) (fun _ _ => Iff.rfl) (fun wk hl hd => alike_any _ _ _ _ wk (hd 94 (by decide) u94 (by simp [behind, gadd])) (hd 102 (by decide) u102 (by simp [behind, gadd])) (by simp) (by simp) (by simp)) ?_
        simp only [Act.put, List.setIfInBounds_toArray, List.set_cons_zero, List.set_cons_succ]
        (repeat (first | (refine loose_skip (by rfl) ?_; simp only [Act.put, List.setIfInBounds_toArray, List.set_cons_zero, List.set_cons_succ]) | (refine loose_plain (by rfl) (by rfl) (by rfl) (fun Kc hKc => ?_); go_big_quiet_op; refine hKc _ ?_; clear hKc Kc)))
        refine loose_nil ?_
        intro wz hbz _
        clear l0 l1 l2 l3 l4 l5 l6 l7 l8 l9 l10 l11 l12 l13 l14 l15 l16 l17 l18
        go_wp2_with fail
        go_ret
        exact ⟨rfl, below_trans Hb0.out (below_trans Hbw.out hbz)⟩
end Go.Proofs.YtinlciofhegciaaGreat

/- What ProofTrue goes through: claims and their secrets, one behind the other. -/
namespace Go.Proofs.YtinlciofhegciaaGreat
open Go.RowKit Go.BigFrame
/-- A claim as two slices. -/
def CV2 (T : List Nat) (L : List (List Nat)) (u : Value) (w : World) : Prop := ∃ c0 c1, u = .agg #[c0, c1] ∧ ClaimV T L u w
theorem CV2.of {T : List Nat} {L : List (List Nat)} {e : Ending} {w : World} (h : OutClaim T L e w) : ∃ u, e = .returned u ∧ CV2 T L u w := by
  obtain ⟨u, he, hu⟩ := ClaimV.of h
  obtain ⟨A, cT, B, cB, rs, rfl, h2⟩ := hu
  exact ⟨_, he, _, _, rfl, A, cT, B, cB, rs, rfl, h2⟩
theorem CV2.later {T : List Nat} {L : List (List Nat)} {u : Value} {w w' : World} (h : CV2 T L u w) (hl : Lat w w') : CV2 T L u w' := let ⟨c0, c1, e, h1⟩ := h; ⟨c0, c1, e, h1.later hl⟩
def N1 (n : Nat) (l : List Nat) (u : Value) (w : World) : Prop := ∃ A c, u = .slice A n c ∧ n = l.length ∧ Nums w A c l
theorem N1.later {n : Nat} {l : List Nat} {u : Value} {w w' : World} (h : N1 n l u w) (hl : Lat w w') : N1 n l u w' := let ⟨A, c, e, he, hn⟩ := h; ⟨A, c, e, he, hn.below hl⟩
theorem N1.one (w : World) (x : Nat) (hx : x < 18446744073709551616) : N1 1 [x] (.slice (some ⟨w.heap.size, 0, none⟩) 1 1) (w.alloc (.cells #[.int .u64 (x : Int)] 22)) :=
  ⟨_, _, rfl, rfl, Nums.of_blk (l := [x]) (Blk.of w _ _ _ rfl) (by simp [hx])⟩
theorem N1.two (w : World) (x y : Nat) (hx : x < 18446744073709551616) (hy : y < 18446744073709551616) : N1 2 [x, y] (.slice (some ⟨w.heap.size, 0, none⟩) 2 2) (w.alloc (.cells #[.int .u64 (x : Int), .int .u64 (y : Int)] 22)) :=
  ⟨_, _, rfl, rfl, Nums.of_blk (l := [x, y]) (Blk.of w _ _ _ rfl) (by simp [hx, hy])⟩
/-- A claim and its secret, as three slices. -/
structure EV (T : List Nat) (L : List (List Nat)) (n : Nat) (V : List Nat) (c0 c1 c2 : Value) (w : World) : Prop where
  c : ClaimV T L (.agg #[c0, c1]) w
  n : N1 n V c2 w
theorem EV.later {T : List Nat} {L : List (List Nat)} {n : Nat} {V : List Nat} {c0 c1 c2 : Value} {w w' : World} (h : EV T L n V c0 c1 c2 w) (hl : Lat w w') : EV T L n V c0 c1 c2 w' := ⟨h.c.later hl, h.n.later hl⟩
def BV (T : List Nat) (L : List (List Nat)) (n : Nat) (V : List Nat) (u : Value) (w : World) : Prop := ∃ c0 c1 c2, u = .agg #[c0, c1, c2] ∧ EV T L n V c0 c1 c2 w
theorem BV.later {T : List Nat} {L : List (List Nat)} {n : Nat} {V : List Nat} {u : Value} {w w' : World} (h : BV T L n V u w) (hl : Lat w w') : BV T L n V u w' := let ⟨c0, c1, c2, e, h1⟩ := h; ⟨c0, c1, c2, e, h1.later hl⟩
theorem EV.of_deps {T : List Nat} {L : List (List Nat)} {n : Nat} {V : List Nat} {c0 c1 c2 : Value} {w : World} (h : CV2 T L (.agg #[c0, c1]) w) (h2 : N1 n V c2 w) : EV T L n V c0 c1 c2 w := let ⟨_, _, _, h1⟩ := h; ⟨h1, h2⟩
theorem EV.of_bv {T : List Nat} {L : List (List Nat)} {n : Nat} {V : List Nat} {c0 c1 c2 : Value} {w : World} (h : BV T L n V (.agg #[c0, c1, c2]) w) : EV T L n V c0 c1 c2 w := by
  obtain ⟨d0, d1, d2, he, h1⟩ := h
  injection he with he
  simp at he
  obtain ⟨rfl, rfl, rfl⟩ := he
  exact h1
/-- Four of them in a slice. -/
def ES (N : Nat) (T0 : List Nat) (L0 : List (List Nat)) (n0 : Nat) (V0 : List Nat) (T1 : List Nat) (L1 : List (List Nat)) (n1 : Nat) (V1 : List Nat) (T2 : List Nat) (L2 : List (List Nat)) (n2 : Nat) (V2 : List Nat) (T3 : List Nat) (L3 : List (List Nat)) (n3 : Nat) (V3 : List Nat) (u : Value) (w : World) : Prop :=
  ∃ (b : Nat) (c0 c1 c2 c3 c4 c5 c6 c7 c8 c9 c10 c11 : Value), u = .slice (some ⟨b, 0, none⟩) 4 4 ∧ N ≤ b ∧ Blk w b 64 [c0, c1, c2, c3, c4, c5, c6, c7, c8, c9, c10, c11] ∧ EV T0 L0 n0 V0 c0 c1 c2 w ∧ EV T1 L1 n1 V1 c3 c4 c5 w ∧ EV T2 L2 n2 V2 c6 c7 c8 w ∧ EV T3 L3 n3 V3 c9 c10 c11 w
theorem ES.later {N : Nat} {T0 : List Nat} {L0 : List (List Nat)} {n0 : Nat} {V0 : List Nat} {T1 : List Nat} {L1 : List (List Nat)} {n1 : Nat} {V1 : List Nat} {T2 : List Nat} {L2 : List (List Nat)} {n2 : Nat} {V2 : List Nat} {T3 : List Nat} {L3 : List (List Nat)} {n3 : Nat} {V3 : List Nat} {u : Value} {w w' : World}
    (h : ES N T0 L0 n0 V0 T1 L1 n1 V1 T2 L2 n2 V2 T3 L3 n3 V3 u w) (hl : Lat w w') : ES N T0 L0 n0 V0 T1 L1 n1 V1 T2 L2 n2 V2 T3 L3 n3 V3 u w' :=
  let ⟨b, c0, c1, c2, c3, c4, c5, c6, c7, c8, c9, c10, c11, e, hb, hk, h0, h1, h2, h3⟩ := h
  ⟨b, c0, c1, c2, c3, c4, c5, c6, c7, c8, c9, c10, c11, e, hb, hk.below hl hk.lt, h0.later hl, h1.later hl, h2.later hl, h3.later hl⟩
theorem nums_at {w : World} {b o x y z : Nat} (h0 : w.cell? ⟨b, o, none⟩ = some (.int .u64 (x : Int))) (h1 : w.cell? ⟨b, o + 1, none⟩ = some (.int .u64 (y : Int))) (h2 : w.cell? ⟨b, o + 2, none⟩ = some (.int .u64 (z : Int))) (hx : x < 18446744073709551616) (hy : y < 18446744073709551616) (hz : z < 18446744073709551616) :
    Nums w (some ⟨b, o, none⟩) 3 [x, y, z] := by
  refine ⟨by simp, fun i v hv => ⟨_, rfl, ?_⟩, by simp [hx, hy, hz]⟩
  match i with
  | 0 =>
    simp at hv
    subst hv
    have : (⟨b, o, none⟩ : Addr).add 0 = ⟨b, o, none⟩ := by unfold Addr.add; rfl
    rw [this]; exact h0
  | 1 => simp at hv; subst hv; exact h1
  | 2 => simp at hv; subst hv; exact h2
  | i + 3 => simp at hv
/-- A claim that holds for its secret and is proved by the draws. -/
structure Good (label : List UInt8) (P Q G H : Nat) (d : List Nat) (T : List Nat) (L : List (List Nat)) (n : Nat) (V : List Nat) : Prop where
  v : V.length = n
  n1 : 1 ≤ n
  n2 : n ≤ 3
  t : T.length ≤ 10
  l : L.length ≤ 10
  r : ∀ l ∈ L, l.length ≤ 10
  h : holdsO T (imgO P Q T L V) = true
  p : ∃ t z, proveO label P Q G H T L V (d.take n) = some (t, z)
theorem Good.of {label : List UInt8} {P Q G H : Nat} {d : List Nat} {T : List Nat} {L : List (List Nat)} {n : Nat} {V : List Nat} (hr : rightB P = true) (hq : rightB Q = true) (hL : 1 ≤ L.length) (hL2 : L.length ≤ 10) (hrow : ∀ l ∈ L, l.length = n ∧ ∀ b ∈ l, inG P Q b = true) (hn : 1 ≤ n) (hn2 : n ≤ 3) (hd : d.length = 3)
    (hV : V.length = n) (hT : T = L.map (imgRow P Q V)) : Good label P Q G H d T L n V := by
  obtain ⟨h1, h2⟩ := good_claim (label := label) (G := G) (H := H) (D := d.take n) hr hq hL (by omega) hrow hn (by omega) hV (by rw [List.length_take]; omega) hT
  exact ⟨hV, hn, hn2, by rw [hT, List.length_map]; omega, hL2, fun l hl => by have := (hrow l hl).1; omega, h1, h2⟩
theorem ES.elems {label : List UInt8} {P Q G H : Nat} {d : List Nat} {N b : Nat} {T0 : List Nat} {L0 : List (List Nat)} {n0 : Nat} {V0 : List Nat} {T1 : List Nat} {L1 : List (List Nat)} {n1 : Nat} {V1 : List Nat} {T2 : List Nat} {L2 : List (List Nat)} {n2 : Nat} {V2 : List Nat} {T3 : List Nat} {L3 : List (List Nat)} {n3 : Nat} {V3 : List Nat} {w : World}
    (h : ES N T0 L0 n0 V0 T1 L1 n1 V1 T2 L2 n2 V2 T3 L3 n3 V3 (.slice (some ⟨b, 0, none⟩) 4 4) w) (g0 : Good label P Q G H d T0 L0 n0 V0) (g1 : Good label P Q G H d T1 L1 n1 V1) (g2 : Good label P Q G H d T2 L2 n2 V2) (g3 : Good label P Q G H d T3 L3 n3 V3) (ad : Addr) (had : ad = ⟨b, 0, none⟩) :
    ∀ k, k < 4 → ∃ T L n V c0 c1 c2, w.cell? (ad.add (k * 3)) = some c0 ∧ w.cell? ⟨(ad.add (k * 3)).block, (ad.add (k * 3)).off + 1, none⟩ = some c1 ∧ w.cell? ⟨(ad.add (k * 3)).block, (ad.add (k * 3)).off + 2, none⟩ = some c2 ∧ EV T L n V c0 c1 c2 w ∧ Good label P Q G H d T L n V := by
  obtain ⟨b', c0, c1, c2, c3, c4, c5, c6, c7, c8, c9, c10, c11, e, hb, hk, h0, h1, h2, h3⟩ := h
  injection e with e
  injection e with e
  injection e with e
  subst e had
  intro k hk4
  rw [blk_add]
  match k, hk4 with
  | 0, _ => exact ⟨_, _, _, _, c0, c1, c2, hk.cell 0, hk.cell 1, hk.cell 2, h0, g0⟩
  | 1, _ => exact ⟨_, _, _, _, c3, c4, c5, hk.cell 3, hk.cell 4, hk.cell 5, h1, g1⟩
  | 2, _ => exact ⟨_, _, _, _, c6, c7, c8, hk.cell 6, hk.cell 7, hk.cell 8, h2, g2⟩
  | 3, _ => exact ⟨_, _, _, _, c9, c10, c11, hk.cell 9, hk.cell 10, hk.cell 11, h3, g3⟩
theorem Nums.take {w : World} {A : Option Addr} {c : Nat} {l : List Nat} (h : Nums w A c l) (n : Nat) : Nums w A c (l.take n) :=
  ⟨Nat.le_trans (by rw [List.length_take]; exact Nat.min_le_right _ _) h.len, fun i x hx => h.cells i x (by rw [List.getElem?_take] at hx; split at hx; exact hx; cases hx), fun x hx => h.small x (List.mem_of_mem_take hx)⟩
/-- A proof that was handed back. -/
def PV (lt lz : Nat) (t z : List Nat) (u : Value) (w : World) : Prop := ∃ A1 k1 A2 k2, u = .tuple #[.agg #[.slice A1 lt k1, .slice A2 lz k2], .bool true] ∧ Nums w A1 k1 t ∧ Nums w A2 k2 z
theorem PV.later {lt lz : Nat} {t z : List Nat} {u : Value} {w w' : World} (h : PV lt lz t z u w) (hl : Lat w w') : PV lt lz t z u w' := let ⟨A1, k1, A2, k2, e, h1, h2⟩ := h; ⟨A1, k1, A2, k2, e, h1.below hl, h2.below hl⟩
theorem PV.of {B : Nat} {t z : List Nat} {e : Ending} {w : World} (h : OutProof B (some (t, z)) e w) (ht : ∀ x ∈ t, x < 18446744073709551616) (hz : ∀ x ∈ z, x < 18446744073709551616) : ∃ u, e = .returned u ∧ PV t.length z.length t z u w := by
  obtain ⟨v1, v2, he, h1, h2⟩ := h
  obtain ⟨A1, k1, rfl, hN1⟩ := nums_of_row h1 ht
  obtain ⟨A2, k2, rfl, hN2⟩ := nums_of_row h2 hz
  exact ⟨_, he, A1, k1, A2, k2, rfl, hN1, hN2⟩
theorem PV.nums {lt lz : Nat} {t z : List Nat} {A1 A2 : Option Addr} {k1 k2 : Nat} {w : World} (h : PV lt lz t z (.tuple #[.agg #[.slice A1 lt k1, .slice A2 lz k2], .bool true]) w) : Nums w A1 k1 t ∧ Nums w A2 k2 z := by
  obtain ⟨B1, j1, B2, j2, he, h1, h2⟩ := h
  injection he with he
  simp at he
  obtain ⟨⟨rfl, rfl⟩, rfl, rfl⟩ := he
  exact ⟨h1, h2⟩
/-- A block that holds no number is written: the numbers stand. -/
theorem Nums.otherB {w : World} {A : Option Addr} {c b : Nat} {T : TypeId} {l : List Nat} {x y : Value} (h : Nums w A c l) (hb : Blk w b T [x, y]) (hx : ∀ n : Nat, x ≠ .int .u64 (n : Int)) (hy : ∀ n : Nat, y ≠ .int .u64 (n : Int)) (o : Nat) (v : Value) : Nums (w.setCell ⟨b, o, none⟩ v) A c l := by
  refine ⟨h.len, fun i n hn => ?_, h.small⟩
  obtain ⟨a, ha, hc⟩ := h.cells i n hn
  refine ⟨a, ha, ?_⟩
  have hne : (a.add i).block ≠ b := by
    intro he
    unfold Blk at hb
    rw [← he] at hb
    have h2 : (a.add i).off < 2 ∨ 2 ≤ (a.add i).off := by omega
    simp only [World.cell?, hb] at hc
    match ho : (a.add i).off with
    | 0 => rw [ho] at hc; simp at hc; exact hx n hc.2
    | 1 => rw [ho] at hc; simp at hc; exact hy n hc.2
    | k + 2 => rw [ho] at hc; simp at hc
  rw [← hc]
  have := Below.heap_setCell w ⟨b, o, none⟩ v (a.add i).block hne
  simp only [World.cell?, this]
end Go.Proofs.YtinlciofhegciaaGreat

/- What is claimed of what was made holds, and is proved: the law's walk, to the box. -/
namespace Go.Proofs.YtinlciofhegciaaGreat
open Go.RowKit Go.BigFrame

theorem Blk.at_eq {w : World} {b : Nat} {T : TypeId} {cs cs' : List Value} (h : Blk w b T cs) (he : cs = cs') : Blk w b T cs' := he ▸ h
theorem ix_three0 (x y z : Nat) (w : World) : (Instr.index 57 (.agg #[.int .u64 (x : Int), .int .u64 (y : Int), .int .u64 (z : Int)]) (.int .i64 0)).run Tryz.prog w = .ok (.int .u64 (x : Int)) w := by kernel_rfl
theorem ix_three1 (x y z : Nat) (w : World) : (Instr.index 57 (.agg #[.int .u64 (x : Int), .int .u64 (y : Int), .int .u64 (z : Int)]) (.int .i64 1)).run Tryz.prog w = .ok (.int .u64 (y : Int)) w := by kernel_rfl
theorem ix_three2 (x y z : Nat) (w : World) : (Instr.index 57 (.agg #[.int .u64 (x : Int), .int .u64 (y : Int), .int .u64 (z : Int)]) (.int .i64 2)).run Tryz.prog w = .ok (.int .u64 (z : Int)) w := by kernel_rfl
theorem true_args {w w0 : World} {g0 c0 l0 P Q G H : Nat} {R m0 m1 m2 s0 s1 s2 s3 s4 s5 s6 s7 s8 : Value} {tg tc tl : TypeId} (hg : Blk w0 g0 tg (glist P Q G H R)) (hc : Blk w0 c0 tc [m0, m1, m2]) (hl : Blk w0 l0 tl [s0, s1, s2, s3, s4, s5, s6, s7, s8]) (hb : Below w0.heap.size w0 w) :
    (w.cell? ⟨g0, 0, none⟩ = some (.int .u64 (P : Int)) ∧ w.cell? ⟨g0, 1, none⟩ = some (.int .u64 (Q : Int)) ∧ w.cell? ⟨g0, 2, none⟩ = some (.int .u64 (G : Int)) ∧ w.cell? ⟨g0, 3, none⟩ = some (.int .u64 (H : Int)) ∧ w.cell? ⟨g0, 4, none⟩ = some R) ∧
    (w.cell? ⟨c0, 0, none⟩ = some m0 ∧ w.cell? ⟨c0, 1, none⟩ = some m1 ∧ w.cell? ⟨c0, 2, none⟩ = some m2) ∧
    (w.cell? ⟨l0, 0, none⟩ = some s0 ∧ w.cell? ⟨l0, 1, none⟩ = some s1 ∧ w.cell? ⟨l0, 2, none⟩ = some s2 ∧ w.cell? ⟨l0, 3, none⟩ = some s3 ∧ w.cell? ⟨l0, 4, none⟩ = some s4 ∧ w.cell? ⟨l0, 5, none⟩ = some s5 ∧ w.cell? ⟨l0, 6, none⟩ = some s6 ∧ w.cell? ⟨l0, 7, none⟩ = some s7 ∧ w.cell? ⟨l0, 8, none⟩ = some s8) :=
  ⟨gcells (hg.below hb hg.lt), three_cells (hc.below hb hc.lt), by
    have h := hl.below hb hl.lt
    exact ⟨h.cell 0, h.cell 1, h.cell 2, h.cell 3, h.cell 4, h.cell 5, h.cell 6, h.cell 7, h.cell 8⟩⟩
/-- The box while it is being filled: six numbers, those of k pairs. -/
def boxAt (l : List (Nat × Nat)) : List Value := match l with
  | [] => [.int .u64 0, .int .u64 0, .int .u64 0, .int .u64 0, .int .u64 0, .int .u64 0]
  | [(a, b)] => [.int .u64 (a : Int), .int .u64 (b : Int), .int .u64 0, .int .u64 0, .int .u64 0, .int .u64 0]
  | [(a, b), (c, d)] => [.int .u64 (a : Int), .int .u64 (b : Int), .int .u64 (c : Int), .int .u64 (d : Int), .int .u64 0, .int .u64 0]
  | (a, b) :: (c, d) :: (e, f) :: _ => [.int .u64 (a : Int), .int .u64 (b : Int), .int .u64 (c : Int), .int .u64 (d : Int), .int .u64 (e : Int), .int .u64 (f : Int)]

set_option maxRecDepth 100000 in
set_option maxHeartbeats 8000000 in
theorem true_walk (P Q G H : Nat) (RB : Option Addr) (capR : Nat) (rs : List RowV) (m0 m1 m2 : Nat) (label : List UInt8) (x y r0 r1 r2 d0 d1 d2 : Nat) (w : World)
    (hP : P < 18446744073709551616) (hQ : Q < 18446744073709551616) (hG : G < 18446744073709551616) (hH : H < 18446744073709551616) (hR : Rows3 w RB capR rs) (hRl : rs.length < 9223372036854775807) (hFl : ∀ r ∈ rs, r.F.l.length < 9223372036854775807) (hll : label.length < 9223372036854775807)
    (bm0 : m0 < 18446744073709551616) (bm1 : m1 < 18446744073709551616) (bm2 : m2 < 18446744073709551616) (bx : x < 18446744073709551616) (bY : y < 18446744073709551616) (br0 : r0 < 18446744073709551616) (br1 : r1 < 18446744073709551616) (br2 : r2 < 18446744073709551616) (bd0 : d0 < 18446744073709551616) (bd1 : d1 < 18446744073709551616) (bd2 : d2 < 18446744073709551616) :
    Calls Tryz.prog 6 #[gval P Q G H (.slice RB rs.length capR), .agg #[.int .u64 (m0 : Int), .int .u64 (m1 : Int), .int .u64 (m2 : Int)], .agg #[.string (str label), .int .u64 (x : Int), .int .u64 (y : Int), .int .u64 (r0 : Int), .int .u64 (r1 : Int), .int .u64 (r2 : Int), .int .u64 (d0 : Int), .int .u64 (d1 : Int), .int .u64 (d2 : Int)]] w fun e w' => e = .returned (.bool true) ∧ Below w.heap.size w w' := by
  have hgr := fun W hb => group_any P Q G H RB capR rs W hP hQ hG hH (hR.below (w1 := W) hb) hRl hFl
  obtain ⟨R, hRv⟩ : ∃ R, R = Value.slice RB rs.length capR := ⟨_, rfl⟩
  have hone : R.oneCell' = true := by rw [hRv]; rfl
  rw [← hRv] at hgr
  rw [← hRv]
  clear hRv
  have hin := fun x W (hx : x < 18446744073709551616) => refIn_any P Q G H x R W hP hQ hx
  unfold gval at hgr hin
  unfold gval
  obtain ⟨nl, hnl⟩ : ∃ n, n = label.length := ⟨_, rfl⟩
  have hsz : (str label).size = nl := by rw [str_size, hnl]
  obtain ⟨w0, hw0⟩ : ∃ w0, w0 = (((w.alloc (.cells #[.int .u64 (P : Int), .int .u64 (Q : Int), .int .u64 (G : Int), .int .u64 (H : Int), R] 25)).alloc (.cells #[.int .u64 (m0 : Int), .int .u64 (m1 : Int), .int .u64 (m2 : Int)] 57)).alloc (.cells #[.string (str label), .int .u64 (x : Int), .int .u64 (y : Int), .int .u64 (r0 : Int), .int .u64 (r1 : Int), .int .u64 (r2 : Int), .int .u64 (d0 : Int), .int .u64 (d1 : Int), .int .u64 (d2 : Int)] 59)) := ⟨_, rfl⟩
  have hb0 : Below w.heap.size w w0 := by rw [hw0]; exact lat_alloc (lat_alloc (lat_alloc (Below.refl _ _) _) _) _
  have hg0 : Blk w0 w.heap.size 25 (glist P Q G H R) := by rw [hw0]; exact ((Blk.of w _ _ _ rfl).alloc _).alloc _
  have hc0 : Blk w0 (w.heap.size + 1) 57 [.int .u64 (m0 : Int), .int .u64 (m1 : Int), .int .u64 (m2 : Int)] := by rw [hw0]; exact (Blk.at_new _ _ _ _ _ (by simp) rfl).alloc _
  have hl0 : Blk w0 (w.heap.size + 1 + 1) 59 [.string (str label), .int .u64 (x : Int), .int .u64 (y : Int), .int .u64 (r0 : Int), .int .u64 (r1 : Int), .int .u64 (r2 : Int), .int .u64 (d0 : Int), .int .u64 (d1 : Int), .int .u64 (d2 : Int)] := by rw [hw0]; exact Blk.at_new _ _ _ _ _ (by simp) rfl
  have HA := Lib.hid (fun W hb => true_args (w := W) hg0 hc0 hl0 hb)
  have Hgr := Lib.hid hgr
  have Hin := Lib.hid hin
  have Hb0 := Lib.hid hb0
  have Hw0 := Lib.hid hw0
  have Hnl := Lib.hid hnl
  have Hsz := Lib.hid hsz
  have hnl' : nl < 9223372036854775807 := by omega
  have hgl := hg0.lt
  have hcl0 := hc0.lt
  have hll0 := hl0.lt
  clear hgr hin hb0 hg0 hc0 hl0 hw0 hR hRl hFl hll hnl hsz
  go_enter Tryz.func6, Tryz.ntmps6
  go_wp2_with fail
  rw [← Hw0.out]
  refine (awake7_any _).mono ?_
  rintro e w1 ⟨rfl, hb1⟩
  obtain ⟨⟨g0, g1, g2, g3, g4⟩, ⟨f0, f1, f2⟩, ⟨s0, s1, s2, s3, s4, s5, s6, s7, s8⟩⟩ := HA.out w1 hb1
  have Hb1 := Lib.hid hb1
  clear hb1
  go_wp2_with fail
  refine (Hgr.out w1 (below_trans Hb0.out Hb1.out)).mono ?_
  rintro e w2 ⟨rfl, hb2⟩
  have Hb2 := Lib.hid (below_trans Hb1.out hb2)
  obtain ⟨⟨g0, g1, g2, g3, g4⟩, ⟨f0, f1, f2⟩, ⟨s0, s1, s2, s3, s4, s5, s6, s7, s8⟩⟩ := HA.out w2 Hb2.out
  clear hb2
  cases hgb : groupB P Q G H rs with
  | false =>
    clear hgb
    go_wp2_with fail
    go_ret
    exact ⟨rfl, below_trans Hb0.out Hb2.out⟩
  | true =>
    obtain ⟨hQ5, hQm, hPQ, hrP, hrQ⟩ := group_yes hgb
    have hGG : inG P Q G = true := by
      unfold groupB rightG at hgb
      simp only [Bool.and_eq_true] at hgb
      exact hgb.2.2.1.1.1.1.2
    have HrP := Lib.hid hrP
    have HrQ := Lib.hid hrQ
    have HGG := Lib.hid hGG
    have hQ2 : 2 ≤ Q := by omega
    clear hgb hPQ hrP hrQ hGG
    by_cases h100 : 100 < nl
    · have d1 : decide ((100 : Int) < (nl : Int)) = true := decide_eq_true (by omega)
      have hsz := Hsz.out
      go_wp2_with fail
      go_ret
      exact ⟨rfl, below_trans Hb0.out Hb2.out⟩
    have d1 : decide ((100 : Int) < (nl : Int)) = false := decide_eq_false (by omega)
    have hsz := Hsz.out
    go_wp2_with fail
    clear d1 hsz
    obtain ⟨key, hkey⟩ : ∃ k, k = expG P Q G x := ⟨_, rfl⟩
    obtain ⟨z, hz⟩ : ∃ k, k = expG P Q G y := ⟨_, rfl⟩
    have hk1 := fun W => refKey_any P Q G H x R W hP hQ hQ2 hG bx
    have hk2 := fun W => refKey_any P Q G H y R W hP hQ hQ2 hG bY
    have bk : key < 18446744073709551616 := by rw [hkey]; exact expG_lt hP
    have bz : z < 18446744073709551616 := by rw [hz]; exact expG_lt hP
    rw [← hkey] at hk1
    rw [← hz] at hk2
    have Hk1 := Lib.hid hk1
    have Hk2 := Lib.hid hk2
    have Hkey := Lib.hid hkey
    have Hz := Lib.hid hz
    clear hk1 hk2 hkey hz
    have l0 := Later.cell g0
    have l1 := Later.cell g1
    have l2 := Later.cell g2
    have l3 := Later.cell g3
    have l4 := Later.cell g4
    have l5 := Later.cell s1
    have l6 := Later.cell s2
    refine region_loose [(34, fun u _ => u = .int .u64 (key : Int)), (38, fun u _ => u = .int .u64 (z : Int))]
      (Know.stable_cons (fun _ _ _ h _ => h) (Know.stable_cons (fun _ _ _ h _ => h) Know.stable_nil)) (by kernel_rfl) (by kernel_rfl) ?_
    (repeat (first | (refine loose_skip (by rfl) ?_; simp only [Act.put, List.setIfInBounds_toArray, List.set_cons_zero, List.set_cons_succ]) | (refine loose_plain (by rfl) (by rfl) (by rfl) (fun Kc hKc => ?_); go_big_quiet_op; refine hKc _ ?_; clear hKc Kc)))
    refine loose_fix 34 (.int .u64 (key : Int)) (f := 26) (args := #[.agg #[.int .u64 (P : Int), .int .u64 (Q : Int), .int .u64 (G : Int), .int .u64 (H : Int), R], .int .u64 (x : Int)]) (fun w => by go_simp; try rfl) (by rfl) (by rfl) (by rfl) (fun _ _ => Iff.rfl) (fun wk _ _ => Hk1.out wk) ?_
    simp only [Act.put, List.setIfInBounds_toArray, List.set_cons_zero, List.set_cons_succ]
    (repeat (first | (refine loose_skip (by rfl) ?_; simp only [Act.put, List.setIfInBounds_toArray, List.set_cons_zero, List.set_cons_succ]) | (refine loose_plain (by rfl) (by rfl) (by rfl) (fun Kc hKc => ?_); go_big_quiet_op; refine hKc _ ?_; clear hKc Kc)))
    refine loose_fix 38 (.int .u64 (z : Int)) (f := 26) (args := #[.agg #[.int .u64 (P : Int), .int .u64 (Q : Int), .int .u64 (G : Int), .int .u64 (H : Int), R], .int .u64 (y : Int)]) (fun w => by go_simp; try rfl) (by rfl) (by rfl) (by rfl) (fun _ _ => Iff.rfl) (fun wk _ _ => Hk2.out wk) ?_
    simp only [Act.put, List.setIfInBounds_toArray, List.set_cons_zero, List.set_cons_succ]
    (repeat (first | (refine loose_skip (by rfl) ?_; simp only [Act.put, List.setIfInBounds_toArray, List.set_cons_zero, List.set_cons_succ]) | (refine loose_plain (by rfl) (by rfl) (by rfl) (fun Kc hKc => ?_); go_big_quiet_op; refine hKc _ ?_; clear hKc Kc)))
    refine loose_nil ?_
    intro wq hbq _
    have Hb3 := Lib.hid (below_trans Hb2.out hbq)
    have HaQ := Lib.hid (fun o => HA.out (wq.alloc o) (below_trans Hb3.out (lat_alloc (Below.refl _ _) _)))
    have f9 := fun o => (HaQ.out o).2.1
    have f0 := fun o => (f9 o).1
    have f1 := fun o => (f9 o).2.1
    have f2 := fun o => (f9 o).2.2
    clear l0 l1 l2 l3 l4 l5 l6 hbq g0 g1 g2 g3 g4 s0 s1 s2 s3 s4 s5 s6 s7 s8 f9
    go_wp2_with fail
    -- THE BOX
    obtain ⟨bb, hbb⟩ : ∃ b, b = wq.heap.size := ⟨_, rfl⟩
    obtain ⟨wl, hwl⟩ : ∃ W, W = wq.alloc (.cells #[.int .u64 0, .int .u64 0, .int .u64 0, .int .u64 0, .int .u64 0, .int .u64 0] 46) := ⟨_, rfl⟩
    rw [← hwl, ← hbb]
    have Hlb := Lib.hid (show Below w0.heap.size w0 wl by rw [hwl]; exact below_trans Hb3.out (lat_alloc (Below.refl _ _) _))
    have Hlk := Lib.hid (show Blk wl bb 46 (boxAt []) by rw [hwl, hbb]; exact Blk.of _ _ _ _ rfl)
    have hbw : w0.heap.size ≤ bb := by rw [hbb]; exact Hb3.out.size
    clear hbb hwl f0 f1 f2
    obtain ⟨U0, hU0⟩ : ∃ U, U = againU P Q G 1 r0 := ⟨_, rfl⟩
    obtain ⟨V0, hV0⟩ : ∃ V, V = againV P Q key m0 r0 := ⟨_, rfl⟩
    have bU0 : U0 < 18446744073709551616 := by rw [hU0]; exact prodG_lt _
    have bV0 : V0 < 18446744073709551616 := by rw [hV0]; exact prodG_lt _
    have hs0 := fun W => refSeal_any P Q G H key m0 r0 R W hP hQ hQ2 hG bk bm0 br0
    rw [← hU0, ← hV0] at hs0
    have Hs0 := Lib.hid hs0
    have HU0 := Lib.hid hU0
    have HV0 := Lib.hid hV0
    clear hs0 hU0 hV0
    obtain ⟨U1, hU1⟩ : ∃ U, U = againU P Q G 1 r1 := ⟨_, rfl⟩
    obtain ⟨V1, hV1⟩ : ∃ V, V = againV P Q key m1 r1 := ⟨_, rfl⟩
    have bU1 : U1 < 18446744073709551616 := by rw [hU1]; exact prodG_lt _
    have bV1 : V1 < 18446744073709551616 := by rw [hV1]; exact prodG_lt _
    have hs1 := fun W => refSeal_any P Q G H key m1 r1 R W hP hQ hQ2 hG bk bm1 br1
    rw [← hU1, ← hV1] at hs1
    have Hs1 := Lib.hid hs1
    have HU1 := Lib.hid hU1
    have HV1 := Lib.hid hV1
    clear hs1 hU1 hV1
    obtain ⟨U2, hU2⟩ : ∃ U, U = againU P Q G 1 r2 := ⟨_, rfl⟩
    obtain ⟨V2, hV2⟩ : ∃ V, V = againV P Q key m2 r2 := ⟨_, rfl⟩
    have bU2 : U2 < 18446744073709551616 := by rw [hU2]; exact prodG_lt _
    have bV2 : V2 < 18446744073709551616 := by rw [hV2]; exact prodG_lt _
    have hs2 := fun W => refSeal_any P Q G H key m2 r2 R W hP hQ hQ2 hG bk bm2 br2
    rw [← hU2, ← hV2] at hs2
    have Hs2 := Lib.hid hs2
    have HU2 := Lib.hid hU2
    have HV2 := Lib.hid hV2
    clear hs2 hU2 hV2
    go_loopw [40] (fun iv wr => ∃ k : Nat, iv = .int .i64 (k : Int) ∧ k ≤ 3 ∧ Below w0.heap.size w0 wr ∧ Blk wr bb 46 (boxAt ([(U0, V0), (U1, V1), (U2, V2)].take k)) ∧ ∀ m ∈ [m0, m1, m2].take k, inG P Q m = true) (fun iv _ => 3 - (intOf iv).toNat)
    case atStart => exact ⟨0, rfl, by omega, Hlb.out, Hlk.out, by simp⟩
    case round =>
      obtain ⟨k, rfl, hk, hbr, hbk, hmm⟩ := hrel
      clear Hlb Hlk Hb3 HaQ
      obtain ⟨⟨g0, g1, g2, g3, g4⟩, ⟨f0, f1, f2⟩, ⟨s0, s1, s2, s3, s4, s5, s6, s7, s8⟩⟩ := HA.out wr hbr
      have hk4 : k = 0 ∨ k = 1 ∨ k = 2 ∨ k = 3 := by omega
      rcases hk4 with rfl | rfl | rfl | rfl
      · -- round 0
        have hix := ix_three0 m0 m1 m2
        have Hbr := Lib.hid hbr
        have Hbk := Lib.hid hbk
        have Hmm := Lib.hid hmm
        clear hbr hbk hmm
        go_wp2_with fail
        refine (Hin.out m0 _ bm0).mono ?_
        rintro e w3 ⟨rfl, hb3⟩
        have Hb4 := Lib.hid (below_trans Hbr.out hb3)
        have Hbk4 := Lib.hid (Hbk.out.below hb3 Hbk.out.lt)
        obtain ⟨⟨g0, g1, g2, g3, g4⟩, ⟨f0, f1, f2⟩, ⟨s0, s1, s2, s3, s4, s5, s6, s7, s8⟩⟩ := HA.out w3 Hb4.out
        clear hb3 Hbr Hbk hix
        cases hmk : inG P Q m0 with
        | false =>
          clear hmk
          go_wp2_with fail
          go_ret
          exact ⟨rfl, below_trans Hb0.out Hb4.out⟩
        | true =>
          have Hmk := Lib.hid hmk
          clear hmk
          go_wp2_with fail
          have l0 := Later.cell g0
          have l1 := Later.cell g1
          have l2 := Later.cell g2
          have l3 := Later.cell g3
          have l4 := Later.cell g4
          have l5 := Later.cell s3
          refine region_float_tail [(56, fun u _ => u = .agg #[.int .u64 (U0 : Int), .int .u64 (V0 : Int)])] 10 (Know.stable_cons (fun _ _ _ h _ => h) Know.stable_nil) (by kernel_rfl) (by kernel_rfl) (by rfl) ?_
          simp only [List.take_succ_cons, List.take_zero, List.drop_succ_cons, List.drop_zero]
          (repeat (first | (refine loose_skip (by rfl) ?_; simp only [Act.put, List.setIfInBounds_toArray, List.set_cons_zero, List.set_cons_succ]) | (refine loose_plain (by rfl) (by rfl) (by rfl) (fun Kc hKc => ?_); go_big_quiet_op; refine hKc _ ?_; clear hKc Kc)))
          refine loose_fix 56 (.agg #[.int .u64 (U0 : Int), .int .u64 (V0 : Int)]) (f := 27) (args := #[.agg #[.int .u64 (P : Int), .int .u64 (Q : Int), .int .u64 (G : Int), .int .u64 (H : Int), R], .int .u64 (key : Int), .int .u64 (m0 : Int), .int .u64 (r0 : Int)]) (fun w => by go_simp; try rfl) (by rfl) (by rfl) (by rfl) (fun _ _ => Iff.rfl) (fun wk _ _ => Hs0.out wk) ?_
          simp only [Act.put, List.setIfInBounds_toArray, List.set_cons_zero, List.set_cons_succ]
          (repeat (first | (refine loose_skip (by rfl) ?_; simp only [Act.put, List.setIfInBounds_toArray, List.set_cons_zero, List.set_cons_succ]) | (refine loose_plain (by rfl) (by rfl) (by rfl) (fun Kc hKc => ?_); go_big_quiet_op; refine hKc _ ?_; clear hKc Kc)))
          refine loose_nil ?_
          intro wz hbz _
          have hkz := Hbk4.out.below hbz Hbk4.out.lt
          have c0 : wz.cell? ⟨bb, 0, none⟩ = some (.int .u64 0) := hkz.cell 0
          have c1 : wz.cell? ⟨bb, 1, none⟩ = some (.int .u64 0) := hkz.cell 1
          have z0 : wz.frozen? ⟨bb, 0, none⟩ = false := hkz.frozen 0
          have z1 : wz.frozen? ⟨bb, 1, none⟩ = false := hkz.frozen 1
          have HKz := Lib.hid ((hkz.set 0 (.int .u64 (U0 : Int))).set 1 (.int .u64 (V0 : Int)))
          have Hbz := Lib.hid (below_set (below_set (below_trans Hb4.out hbz) hbw 0 (.int .u64 (U0 : Int))) hbw 1 (.int .u64 (V0 : Int)))
          clear l0 l1 l2 l3 l4 l5 hbz hkz g0 g1 g2 g3 g4 f0 f1 f2 s0 s1 s2 s3 s4 s5 s6 s7 s8
          go_wp2_with fail
          refine NoPanic.normal ?_
          go_wp2_with fail
          go_roundw
          case rel => exact ⟨1, rfl, by omega, Hbz.out, HKz.out, fun m hm => by
            have h := Hmm.out m
            have h2 := Hmk.out
            simp at hm h ⊢
            rcases hm with rfl <;> simp_all⟩
          case measure => simp [intOf]
      · -- round 1
        have hix := ix_three1 m0 m1 m2
        have Hbr := Lib.hid hbr
        have Hbk := Lib.hid hbk
        have Hmm := Lib.hid hmm
        clear hbr hbk hmm
        go_wp2_with fail
        refine (Hin.out m1 _ bm1).mono ?_
        rintro e w3 ⟨rfl, hb3⟩
        have Hb4 := Lib.hid (below_trans Hbr.out hb3)
        have Hbk4 := Lib.hid (Hbk.out.below hb3 Hbk.out.lt)
        obtain ⟨⟨g0, g1, g2, g3, g4⟩, ⟨f0, f1, f2⟩, ⟨s0, s1, s2, s3, s4, s5, s6, s7, s8⟩⟩ := HA.out w3 Hb4.out
        clear hb3 Hbr Hbk hix
        cases hmk : inG P Q m1 with
        | false =>
          clear hmk
          go_wp2_with fail
          go_ret
          exact ⟨rfl, below_trans Hb0.out Hb4.out⟩
        | true =>
          have Hmk := Lib.hid hmk
          clear hmk
          go_wp2_with fail
          have l0 := Later.cell g0
          have l1 := Later.cell g1
          have l2 := Later.cell g2
          have l3 := Later.cell g3
          have l4 := Later.cell g4
          have l5 := Later.cell s4
          refine region_float_tail [(56, fun u _ => u = .agg #[.int .u64 (U1 : Int), .int .u64 (V1 : Int)])] 10 (Know.stable_cons (fun _ _ _ h _ => h) Know.stable_nil) (by kernel_rfl) (by kernel_rfl) (by rfl) ?_
          simp only [List.take_succ_cons, List.take_zero, List.drop_succ_cons, List.drop_zero]
          (repeat (first | (refine loose_skip (by rfl) ?_; simp only [Act.put, List.setIfInBounds_toArray, List.set_cons_zero, List.set_cons_succ]) | (refine loose_plain (by rfl) (by rfl) (by rfl) (fun Kc hKc => ?_); go_big_quiet_op; refine hKc _ ?_; clear hKc Kc)))
          refine loose_fix 56 (.agg #[.int .u64 (U1 : Int), .int .u64 (V1 : Int)]) (f := 27) (args := #[.agg #[.int .u64 (P : Int), .int .u64 (Q : Int), .int .u64 (G : Int), .int .u64 (H : Int), R], .int .u64 (key : Int), .int .u64 (m1 : Int), .int .u64 (r1 : Int)]) (fun w => by go_simp; try rfl) (by rfl) (by rfl) (by rfl) (fun _ _ => Iff.rfl) (fun wk _ _ => Hs1.out wk) ?_
          simp only [Act.put, List.setIfInBounds_toArray, List.set_cons_zero, List.set_cons_succ]
          (repeat (first | (refine loose_skip (by rfl) ?_; simp only [Act.put, List.setIfInBounds_toArray, List.set_cons_zero, List.set_cons_succ]) | (refine loose_plain (by rfl) (by rfl) (by rfl) (fun Kc hKc => ?_); go_big_quiet_op; refine hKc _ ?_; clear hKc Kc)))
          refine loose_nil ?_
          intro wz hbz _
          have hkz := Hbk4.out.below hbz Hbk4.out.lt
          have c0 : wz.cell? ⟨bb, 2, none⟩ = some (.int .u64 0) := hkz.cell 2
          have c1 : wz.cell? ⟨bb, 3, none⟩ = some (.int .u64 0) := hkz.cell 3
          have z0 : wz.frozen? ⟨bb, 2, none⟩ = false := hkz.frozen 2
          have z1 : wz.frozen? ⟨bb, 3, none⟩ = false := hkz.frozen 3
          have HKz := Lib.hid ((hkz.set 2 (.int .u64 (U1 : Int))).set 3 (.int .u64 (V1 : Int)))
          have Hbz := Lib.hid (below_set (below_set (below_trans Hb4.out hbz) hbw 2 (.int .u64 (U1 : Int))) hbw 3 (.int .u64 (V1 : Int)))
          clear l0 l1 l2 l3 l4 l5 hbz hkz g0 g1 g2 g3 g4 f0 f1 f2 s0 s1 s2 s3 s4 s5 s6 s7 s8
          go_wp2_with fail
          refine NoPanic.normal ?_
          go_wp2_with fail
          go_roundw
          case rel => exact ⟨2, rfl, by omega, Hbz.out, HKz.out, fun m hm => by
            have h := Hmm.out m
            have h2 := Hmk.out
            simp at hm h ⊢
            rcases hm with rfl | rfl <;> simp_all⟩
          case measure => simp [intOf]
      · -- round 2
        have hix := ix_three2 m0 m1 m2
        have Hbr := Lib.hid hbr
        have Hbk := Lib.hid hbk
        have Hmm := Lib.hid hmm
        clear hbr hbk hmm
        go_wp2_with fail
        refine (Hin.out m2 _ bm2).mono ?_
        rintro e w3 ⟨rfl, hb3⟩
        have Hb4 := Lib.hid (below_trans Hbr.out hb3)
        have Hbk4 := Lib.hid (Hbk.out.below hb3 Hbk.out.lt)
        obtain ⟨⟨g0, g1, g2, g3, g4⟩, ⟨f0, f1, f2⟩, ⟨s0, s1, s2, s3, s4, s5, s6, s7, s8⟩⟩ := HA.out w3 Hb4.out
        clear hb3 Hbr Hbk hix
        cases hmk : inG P Q m2 with
        | false =>
          clear hmk
          go_wp2_with fail
          go_ret
          exact ⟨rfl, below_trans Hb0.out Hb4.out⟩
        | true =>
          have Hmk := Lib.hid hmk
          clear hmk
          go_wp2_with fail
          have l0 := Later.cell g0
          have l1 := Later.cell g1
          have l2 := Later.cell g2
          have l3 := Later.cell g3
          have l4 := Later.cell g4
          have l5 := Later.cell s5
          refine region_float_tail [(56, fun u _ => u = .agg #[.int .u64 (U2 : Int), .int .u64 (V2 : Int)])] 10 (Know.stable_cons (fun _ _ _ h _ => h) Know.stable_nil) (by kernel_rfl) (by kernel_rfl) (by rfl) ?_
          simp only [List.take_succ_cons, List.take_zero, List.drop_succ_cons, List.drop_zero]
          (repeat (first | (refine loose_skip (by rfl) ?_; simp only [Act.put, List.setIfInBounds_toArray, List.set_cons_zero, List.set_cons_succ]) | (refine loose_plain (by rfl) (by rfl) (by rfl) (fun Kc hKc => ?_); go_big_quiet_op; refine hKc _ ?_; clear hKc Kc)))
          refine loose_fix 56 (.agg #[.int .u64 (U2 : Int), .int .u64 (V2 : Int)]) (f := 27) (args := #[.agg #[.int .u64 (P : Int), .int .u64 (Q : Int), .int .u64 (G : Int), .int .u64 (H : Int), R], .int .u64 (key : Int), .int .u64 (m2 : Int), .int .u64 (r2 : Int)]) (fun w => by go_simp; try rfl) (by rfl) (by rfl) (by rfl) (fun _ _ => Iff.rfl) (fun wk _ _ => Hs2.out wk) ?_
          simp only [Act.put, List.setIfInBounds_toArray, List.set_cons_zero, List.set_cons_succ]
          (repeat (first | (refine loose_skip (by rfl) ?_; simp only [Act.put, List.setIfInBounds_toArray, List.set_cons_zero, List.set_cons_succ]) | (refine loose_plain (by rfl) (by rfl) (by rfl) (fun Kc hKc => ?_); go_big_quiet_op; refine hKc _ ?_; clear hKc Kc)))
          refine loose_nil ?_
          intro wz hbz _
          have hkz := Hbk4.out.below hbz Hbk4.out.lt
          have c0 : wz.cell? ⟨bb, 4, none⟩ = some (.int .u64 0) := hkz.cell 4
          have c1 : wz.cell? ⟨bb, 5, none⟩ = some (.int .u64 0) := hkz.cell 5
          have z0 : wz.frozen? ⟨bb, 4, none⟩ = false := hkz.frozen 4
          have z1 : wz.frozen? ⟨bb, 5, none⟩ = false := hkz.frozen 5
          have HKz := Lib.hid ((hkz.set 4 (.int .u64 (U2 : Int))).set 5 (.int .u64 (V2 : Int)))
          have Hbz := Lib.hid (below_set (below_set (below_trans Hb4.out hbz) hbw 4 (.int .u64 (U2 : Int))) hbw 5 (.int .u64 (V2 : Int)))
          clear l0 l1 l2 l3 l4 l5 hbz hkz g0 g1 g2 g3 g4 f0 f1 f2 s0 s1 s2 s3 s4 s5 s6 s7 s8
          go_wp2_with fail
          refine NoPanic.normal ?_
          go_wp2_with fail
          go_roundw
          case rel => exact ⟨3, rfl, by omega, Hbz.out, HKz.out, fun m hm => by
            have h := Hmm.out m
            have h2 := Hmk.out
            simp at hm h ⊢
            rcases hm with rfl | rfl | rfl <;> simp_all⟩
          case measure => simp [intOf]
      · -- behind the box
        have Hbr := Lib.hid hbr
        have Hbk := Lib.hid (show Blk wr bb 46 [.int .u64 (U0 : Int), .int .u64 (V0 : Int), .int .u64 (U1 : Int), .int .u64 (V1 : Int), .int .u64 (U2 : Int), .int .u64 (V2 : Int)] from hbk)
        have Hm0 := Lib.hid (hmm m0 (by simp))
        have hlb := hbk.lt
        clear hbr hbk hmm Hs0 Hs1 Hs2 Hk1 Hk2 Hgr Hin
        obtain ⟨c0, c1, c2, c3, c4, c5⟩ := six_cells Hbk.out
        have hcr := fun W => refCross_any P Q G H x z U0 1 V0 r1 R W hP hQ hQ2 hG bx bz bU0 (by omega) bV0 br1
        rw [← HU1.out] at hcr
        obtain ⟨C2, hC2⟩ : ∃ C, C = crossV P Q U0 V0 x z r1 := ⟨_, rfl⟩
        have bC2 : C2 < 18446744073709551616 := by rw [hC2]; exact prodG_lt _
        rw [← hC2] at hcr
        have Hcr := Lib.hid hcr
        have HC2 := Lib.hid hC2
        clear hcr hC2
        go_wp2_with fail
        refine (refEnter_any U0 V0 wr).mono ?_
        rintro e w4 ⟨rfl, hb4⟩
        obtain ⟨wa, hwa⟩ : ∃ W, W = w4.alloc (.cells #[.int .u64 (U0 : Int), .int .u64 1, .int .u64 (V0 : Int)] 48) := ⟨_, rfl⟩
        have Hlwa := Lib.hid (show Lat wr wa by rw [hwa]; exact lat_alloc hb4 _)
        have Hwk := Lib.hid (show Blk wa w4.heap.size 48 [.int .u64 (U0 : Int), .int .u64 1, .int .u64 (V0 : Int)] by rw [hwa]; exact Blk.of _ _ _ _ rfl)
        have Hbwa := Lib.hid (below_trans Hbr.out Hlwa.out)
        obtain ⟨⟨g0, g1, g2, g3, g4⟩, _, ⟨s0, s1, s2, s3, s4, s5, s6, s7, s8⟩⟩ := HA.out wa Hbwa.out
        obtain ⟨a0, a1, a2⟩ := three_cells Hwk.out
        have hwkl := Hwk.out.lt
        rw [hwa] at g0 g1 g2 g3 g4 s0 s1 s2 s3 s4 s5 s6 s7 s8 a0 a1 a2
        have Hwa := Lib.hid hwa
        clear hb4 hwa c0 c1 c2 c3 c4 c5 f0 f1 f2
        go_wp2_with fail
        rw [← Hwa.out]
        refine (Hcr.out wa).mono ?_
        rintro e w5 ⟨rfl, hb5⟩
        obtain ⟨w6, hw6⟩ : ∃ W, W = w5.alloc (.cells #[.int .u64 (U0 : Int), .int .u64 (U1 : Int), .int .u64 (C2 : Int)] 48) := ⟨_, rfl⟩
        have hl6 : Lat wa w6 := by rw [hw6]; exact lat_alloc hb5 _
        have Hl6 := Lib.hid hl6
        have Hk6 := Lib.hid (show Blk w6 w5.heap.size 48 [.int .u64 (U0 : Int), .int .u64 (U1 : Int), .int .u64 (C2 : Int)] by rw [hw6]; exact Blk.of _ _ _ _ rfl)
        have Hb6 := Lib.hid (below_trans Hbwa.out hl6)
        obtain ⟨⟨g0, g1, g2, g3, g4⟩, _, ⟨s0, s1, s2, s3, s4, s5, s6, s7, s8⟩⟩ := HA.out w6 Hb6.out
        obtain ⟨a0, a1, a2⟩ := three_cells (Hwk.out.below hl6 hwkl)
        obtain ⟨t0, t1, t2⟩ := three_cells Hk6.out
        obtain ⟨c0, c1, c2, c3, c4, c5⟩ := six_cells (Hbk.out.below (below_trans Hlwa.out hl6) hlb)
        have Hw6 := Lib.hid hw6
        clear hb5 hl6 hw6
        go_wp2_with fail
        rw [← Hw6.out]
        obtain ⟨sh, hsh⟩ : ∃ s, s = expG P Q U2 x := ⟨_, rfl⟩
        have bsh : sh < 18446744073709551616 := by rw [hsh]; exact expG_lt hP
        have hshc := fun W => refShare_any P Q G H x U2 V2 R W hP hQ hQ2 bU2 bx
        rw [← hsh] at hshc
        unfold gval at hshc
        have Hshc := Lib.hid hshc
        have Hsh := Lib.hid hsh
        have hN3 : Nums w6 (some ⟨w.heap.size + 1 + 1, 3, none⟩) 3 [r0, r1, r2] := nums_at s3 s4 s5 br0 br1 br2
        have HN3 := Lib.hid hN3
        clear hshc hsh hN3
        have l0 := Later.cell g0
        have l1 := Later.cell g1
        have l2 := Later.cell g2
        have l3 := Later.cell g3
        have l4 := Later.cell g4
        have l5 := Later.cell s1
        have l6 := Later.cell s3
        have l7 := Later.cell s4
        have l8 := Later.cell s5
        have l9 := Later.cell a0
        have l10 := Later.cell a1
        have l11 := Later.cell a2
        have l12 := Later.cell t0
        have l13 := Later.cell t1
        have l14 := Later.cell t2
        have l15 := Later.cell c0
        have l16 := Later.cell c1
        have l17 := Later.cell c2
        have l18 := Later.cell c3
        have l19 := Later.cell c4
        have l20 := Later.cell c5
        refine region_loose [(73, CV2 [key] [[G]]), (76, N1 1 [x]), (77, BV [key] [[G]] 1 [x]), (80, CV2 [U0, U1, U2] [[G, 1, 1], [1, G, 1], [1, 1, G]]), (83, BV [U0, U1, U2] [[G, 1, 1], [1, G, 1], [1, 1, G]] 3 [r0, r1, r2]), (93, fun u _ => u = .int .u64 (sh : Int)), (94, CV2 [key, sh] [[G], [U2]]), (97, N1 1 [x]), (98, BV [key, sh] [[G], [U2]] 1 [x]), (104, CV2 [key, overG P U1 1, overG P C2 V0] [[G, 1], [1, G], [overG P 1 U0, z]]), (110, N1 2 [x, r1]), (111, BV [key, overG P U1 1, overG P C2 V0] [[G, 1], [1, G], [overG P 1 U0, z]] 2 [x, r1]), (112, ES w6.heap.size [key] [[G]] 1 [x] [U0, U1, U2] [[G, 1, 1], [1, G, 1], [1, 1, G]] 3 [r0, r1, r2] [key, sh] [[G], [U2]] 1 [x] [key, overG P U1 1, overG P C2 V0] [[G, 1], [1, G], [overG P 1 U0, z]] 2 [x, r1])] (Know.stable_cons (fun _ _ _ h hl => h.later hl) (Know.stable_cons (fun _ _ _ h hl => h.later hl) (Know.stable_cons (fun _ _ _ h hl => h.later hl) (Know.stable_cons (fun _ _ _ h hl => h.later hl) (Know.stable_cons (fun _ _ _ h hl => h.later hl) (Know.stable_cons (fun _ _ _ h _ => h) (Know.stable_cons (fun _ _ _ h hl => h.later hl) (Know.stable_cons (fun _ _ _ h hl => h.later hl) (Know.stable_cons (fun _ _ _ h hl => h.later hl) (Know.stable_cons (fun _ _ _ h hl => h.later hl) (Know.stable_cons (fun _ _ _ h hl => h.later hl) (Know.stable_cons (fun _ _ _ h hl => h.later hl) (Know.stable_cons (fun _ _ _ h hl => h.later hl) Know.stable_nil))))))))))))) (by kernel_rfl) (by kernel_rfl) ?_
        (repeat (first | (refine loose_skip (by rfl) ?_; simp only [Act.put, List.setIfInBounds_toArray, List.set_cons_zero, List.set_cons_succ]) | (refine loose_plain (by rfl) (by rfl) (by rfl) (fun Kc hKc => ?_); go_big_quiet_op; refine hKc _ ?_; clear hKc Kc)))
        refine loose_call 73 (f := 18) (args := #[.agg #[.int .u64 (P : Int), .int .u64 (Q : Int), .int .u64 (G : Int), .int .u64 (H : Int), R], .int .u64 (key : Int)]) (fun w => by kernel_rfl) (by rfl) (by rfl) (by rfl) (fun wk hl _ => (keeps_any P Q G H key R wk hG bk).mono fun e w' ⟨h, hb⟩ => let ⟨u, he, hu⟩ := CV2.of h; ⟨u, he, hb, hu⟩) ?_
        rintro _ wk73 hl73 ⟨e0, e1, rfl, -⟩
        simp only [Act.put, List.setIfInBounds_toArray, List.set_cons_zero, List.set_cons_succ]
        (repeat (first | (refine loose_skip (by rfl) ?_; simp only [Act.put, List.setIfInBounds_toArray, List.set_cons_zero, List.set_cons_succ]) | (refine loose_plain (by rfl) (by rfl) (by rfl) (fun Kc hKc => ?_); go_big_quiet_op; refine hKc _ ?_; clear hKc Kc)))
        refine loose_make 76 (V := fun w => .slice (some ⟨w.heap.size, 0, none⟩) 1 1) (W := fun w => w.alloc (.cells #[.int .u64 (x : Int)] 22)) (fun w => by kernel_rfl) (by rfl) (by rfl) (by rfl) (fun w _ _ => ⟨(Below.refl _ _).alloc (Nat.le_refl _) _, N1.one w x bx⟩) ?_
        rintro _ wk76 hl76 ⟨A1, n1, rfl, -, -⟩
        simp only [Act.put, List.setIfInBounds_toArray, List.set_cons_zero, List.set_cons_succ]
        (repeat (first | (refine loose_skip (by rfl) ?_; simp only [Act.put, List.setIfInBounds_toArray, List.set_cons_zero, List.set_cons_succ]) | (refine loose_plain (by rfl) (by rfl) (by rfl) (fun Kc hKc => ?_); go_big_quiet_op; refine hKc _ ?_; clear hKc Kc)))
        refine loose_make 77 (V := fun _ => .agg #[e0, e1, .slice A1 1 n1]) (W := fun w => w) (fun w => by kernel_rfl) (by rfl) (by rfl) (by rfl) (fun w hl hd => ⟨Below.refl _ _, _, _, _, rfl, EV.of_deps (hd 73 (by decide) _ (by simp [behind, gadd])) (hd 76 (by decide) _ (by simp [behind, gadd]))⟩) ?_
        rintro _ wk77 hl77 ⟨f0, f1, f2, rfl, -⟩
        simp only [Act.put, List.setIfInBounds_toArray, List.set_cons_zero, List.set_cons_succ]
        (repeat (first | (refine loose_skip (by rfl) ?_; simp only [Act.put, List.setIfInBounds_toArray, List.set_cons_zero, List.set_cons_succ]) | (refine loose_plain (by rfl) (by rfl) (by rfl) (fun Kc hKc => ?_); go_big_quiet_op; refine hKc _ ?_; clear hKc Kc)))
        refine loose_call 80 (f := 20) (args := #[.agg #[.int .u64 (P : Int), .int .u64 (Q : Int), .int .u64 (G : Int), .int .u64 (H : Int), R], .agg #[.int .u64 (U0 : Int), .int .u64 (V0 : Int), .int .u64 (U1 : Int), .int .u64 (V1 : Int), .int .u64 (U2 : Int), .int .u64 (V2 : Int)]]) (fun w => by kernel_rfl) (by rfl) (by rfl) (by rfl) (fun wk hl _ => (knows_any P Q G H U0 V0 U1 V1 U2 V2 R wk hG bU0 bU1 bU2).mono fun e w' ⟨h, hb⟩ => let ⟨u, he, hu⟩ := CV2.of h; ⟨u, he, hb, hu⟩) ?_
        rintro _ wk80 hl80 ⟨e2, e3, rfl, -⟩
        simp only [Act.put, List.setIfInBounds_toArray, List.set_cons_zero, List.set_cons_succ]
        (repeat (first | (refine loose_skip (by rfl) ?_; simp only [Act.put, List.setIfInBounds_toArray, List.set_cons_zero, List.set_cons_succ]) | (refine loose_plain (by rfl) (by rfl) (by rfl) (fun Kc hKc => ?_); go_big_quiet_op; refine hKc _ ?_; clear hKc Kc)))
        refine loose_make 83 (V := fun _ => .agg #[e2, e3, .slice (some ⟨w.heap.size + 1 + 1, 3, none⟩) 3 3]) (W := fun w => w) (fun w => by kernel_rfl) (by rfl) (by rfl) (by rfl) (fun w hl hd => ⟨Below.refl _ _, _, _, _, rfl, EV.of_deps (hd 80 (by decide) _ (by simp [behind, gadd])) ⟨_, _, rfl, rfl, HN3.out.below hl⟩⟩) ?_
        rintro _ wk83 hl83 ⟨h0, h1, h2, rfl, -⟩
        simp only [Act.put, List.setIfInBounds_toArray, List.set_cons_zero, List.set_cons_succ]
        (repeat (first | (refine loose_skip (by rfl) ?_; simp only [Act.put, List.setIfInBounds_toArray, List.set_cons_zero, List.set_cons_succ]) | (refine loose_plain (by rfl) (by rfl) (by rfl) (fun Kc hKc => ?_); go_big_quiet_op; refine hKc _ ?_; clear hKc Kc)))
        refine loose_fix 93 (.int .u64 (sh : Int)) (f := 30) (args := #[.agg #[.int .u64 (P : Int), .int .u64 (Q : Int), .int .u64 (G : Int), .int .u64 (H : Int), R], .int .u64 (x : Int), .agg #[.int .u64 (U2 : Int), .int .u64 (V2 : Int)]]) (fun w => by kernel_rfl) (by rfl) (by rfl) (by rfl) (fun _ _ => Iff.rfl) (fun wk _ _ => Hshc.out wk) ?_
        simp only [Act.put, List.setIfInBounds_toArray, List.set_cons_zero, List.set_cons_succ]
        (repeat (first | (refine loose_skip (by rfl) ?_; simp only [Act.put, List.setIfInBounds_toArray, List.set_cons_zero, List.set_cons_succ]) | (refine loose_plain (by rfl) (by rfl) (by rfl) (fun Kc hKc => ?_); go_big_quiet_op; refine hKc _ ?_; clear hKc Kc)))
        refine loose_call 94 (f := 22) (args := #[.agg #[.int .u64 (P : Int), .int .u64 (Q : Int), .int .u64 (G : Int), .int .u64 (H : Int), R], .int .u64 (key : Int), .agg #[.int .u64 (U2 : Int), .int .u64 (V2 : Int)], .int .u64 (sh : Int)]) (fun w => by kernel_rfl) (by rfl) (by rfl) (by rfl) (fun wk hl _ => (shares_any P Q G H key U2 V2 sh R wk hG bk bU2 bsh).mono fun e w' ⟨h, hb⟩ => let ⟨u, he, hu⟩ := CV2.of h; ⟨u, he, hb, hu⟩) ?_
        rintro _ wk94 hl94 ⟨e4, e5, rfl, -⟩
        simp only [Act.put, List.setIfInBounds_toArray, List.set_cons_zero, List.set_cons_succ]
        (repeat (first | (refine loose_skip (by rfl) ?_; simp only [Act.put, List.setIfInBounds_toArray, List.set_cons_zero, List.set_cons_succ]) | (refine loose_plain (by rfl) (by rfl) (by rfl) (fun Kc hKc => ?_); go_big_quiet_op; refine hKc _ ?_; clear hKc Kc)))
        refine loose_make 97 (V := fun w => .slice (some ⟨w.heap.size, 0, none⟩) 1 1) (W := fun w => w.alloc (.cells #[.int .u64 (x : Int)] 22)) (fun w => by kernel_rfl) (by rfl) (by rfl) (by rfl) (fun w _ _ => ⟨(Below.refl _ _).alloc (Nat.le_refl _) _, N1.one w x bx⟩) ?_
        rintro _ wk97 hl97 ⟨A2, n2, rfl, -, -⟩
        simp only [Act.put, List.setIfInBounds_toArray, List.set_cons_zero, List.set_cons_succ]
        (repeat (first | (refine loose_skip (by rfl) ?_; simp only [Act.put, List.setIfInBounds_toArray, List.set_cons_zero, List.set_cons_succ]) | (refine loose_plain (by rfl) (by rfl) (by rfl) (fun Kc hKc => ?_); go_big_quiet_op; refine hKc _ ?_; clear hKc Kc)))
        refine loose_make 98 (V := fun _ => .agg #[e4, e5, .slice A2 1 n2]) (W := fun w => w) (fun w => by kernel_rfl) (by rfl) (by rfl) (by rfl) (fun w hl hd => ⟨Below.refl _ _, _, _, _, rfl, EV.of_deps (hd 94 (by decide) _ (by simp [behind, gadd])) (hd 97 (by decide) _ (by simp [behind, gadd]))⟩) ?_
        rintro _ wk98 hl98 ⟨i0, i1, i2, rfl, -⟩
        simp only [Act.put, List.setIfInBounds_toArray, List.set_cons_zero, List.set_cons_succ]
        (repeat (first | (refine loose_skip (by rfl) ?_; simp only [Act.put, List.setIfInBounds_toArray, List.set_cons_zero, List.set_cons_succ]) | (refine loose_plain (by rfl) (by rfl) (by rfl) (fun Kc hKc => ?_); go_big_quiet_op; refine hKc _ ?_; clear hKc Kc)))
        refine loose_call 104 (f := 24) (args := #[.agg #[.int .u64 (P : Int), .int .u64 (Q : Int), .int .u64 (G : Int), .int .u64 (H : Int), R], .int .u64 (key : Int), .int .u64 (z : Int), .agg #[.int .u64 (U0 : Int), .int .u64 1, .int .u64 (V0 : Int)], .agg #[.int .u64 (U0 : Int), .int .u64 (U1 : Int), .int .u64 (C2 : Int)]]) (fun w => by kernel_rfl) (by rfl) (by rfl) (by rfl) (fun wk hl _ => (crosses_any P Q G H key z U0 1 V0 U0 U1 C2 R wk hP hG bk bz bU0 (by omega) bV0 bU1 bC2).mono fun e w' ⟨h, hb⟩ => let ⟨u, he, hu⟩ := CV2.of h; ⟨u, he, hb, hu⟩) ?_
        rintro _ wk104 hl104 ⟨e6, e7, rfl, -⟩
        simp only [Act.put, List.setIfInBounds_toArray, List.set_cons_zero, List.set_cons_succ]
        (repeat (first | (refine loose_skip (by rfl) ?_; simp only [Act.put, List.setIfInBounds_toArray, List.set_cons_zero, List.set_cons_succ]) | (refine loose_plain (by rfl) (by rfl) (by rfl) (fun Kc hKc => ?_); go_big_quiet_op; refine hKc _ ?_; clear hKc Kc)))
        refine loose_make 110 (V := fun w => .slice (some ⟨w.heap.size, 0, none⟩) 2 2) (W := fun w => w.alloc (.cells #[.int .u64 (x : Int), .int .u64 (r1 : Int)] 22)) (fun w => by kernel_rfl) (by rfl) (by rfl) (by rfl) (fun w _ _ => ⟨(Below.refl _ _).alloc (Nat.le_refl _) _, N1.two w x r1 bx br1⟩) ?_
        rintro _ wk110 hl110 ⟨A3, n3, rfl, -, -⟩
        simp only [Act.put, List.setIfInBounds_toArray, List.set_cons_zero, List.set_cons_succ]
        (repeat (first | (refine loose_skip (by rfl) ?_; simp only [Act.put, List.setIfInBounds_toArray, List.set_cons_zero, List.set_cons_succ]) | (refine loose_plain (by rfl) (by rfl) (by rfl) (fun Kc hKc => ?_); go_big_quiet_op; refine hKc _ ?_; clear hKc Kc)))
        refine loose_make 111 (V := fun _ => .agg #[e6, e7, .slice A3 2 n3]) (W := fun w => w) (fun w => by kernel_rfl) (by rfl) (by rfl) (by rfl) (fun w hl hd => ⟨Below.refl _ _, _, _, _, rfl, EV.of_deps (hd 104 (by decide) _ (by simp [behind, gadd])) (hd 110 (by decide) _ (by simp [behind, gadd]))⟩) ?_
        rintro _ wk111 hl111 ⟨j0, j1, j2, rfl, -⟩
        simp only [Act.put, List.setIfInBounds_toArray, List.set_cons_zero, List.set_cons_succ]
        (repeat (first | (refine loose_skip (by rfl) ?_; simp only [Act.put, List.setIfInBounds_toArray, List.set_cons_zero, List.set_cons_succ]) | (refine loose_plain (by rfl) (by rfl) (by rfl) (fun Kc hKc => ?_); go_big_quiet_op; refine hKc _ ?_; clear hKc Kc)))
        refine loose_make 112 (V := fun w => .slice (some ⟨w.heap.size, 0, none⟩) 4 4) (W := fun w => w.alloc (.cells #[f0, f1, f2, h0, h1, h2, i0, i1, i2, j0, j1, j2] 64)) (fun w => by kernel_rfl) (by rfl) (by rfl) (by rfl) (fun w hl hd => by
          have hla : Lat w (w.alloc (.cells #[f0, f1, f2, h0, h1, h2, i0, i1, i2, j0, j1, j2] 64)) := (Below.refl _ _).alloc (Nat.le_refl _) _
          exact ⟨hla, _, _, _, _, _, _, _, _, _, _, _, _, _, rfl, hl.size, Blk.of _ _ _ _ rfl, (EV.of_bv (hd 77 (by decide) _ (by simp [behind, gadd]))).later hla, (EV.of_bv (hd 83 (by decide) _ (by simp [behind, gadd]))).later hla, (EV.of_bv (hd 98 (by decide) _ (by simp [behind, gadd]))).later hla, (EV.of_bv (hd 111 (by decide) _ (by simp [behind, gadd]))).later hla⟩) ?_
        rintro _ wk112 hl112 ⟨eb, v0, v1, v2, v3, v4, v5, v6, v7, v8, v9, v10, v11, rfl, -⟩
        simp only [Act.put, List.setIfInBounds_toArray, List.set_cons_zero, List.set_cons_succ]
        (repeat (first | (refine loose_skip (by rfl) ?_; simp only [Act.put, List.setIfInBounds_toArray, List.set_cons_zero, List.set_cons_succ]) | (refine loose_plain (by rfl) (by rfl) (by rfl) (fun Kc hKc => ?_); go_big_quiet_op; refine hKc _ ?_; clear hKc Kc)))
        refine loose_nil ?_
        intro w7 hb7 hkn
        have HES := Lib.hid (show ES w6.heap.size [key] [[G]] 1 [x] [U0, U1, U2] [[G, 1, 1], [1, G, 1], [1, 1, G]] 3 [r0, r1, r2] [key, sh] [[G], [U2]] 1 [x] [key, overG P U1 1, overG P C2 V0] [[G, 1], [1, G], [overG P 1 U0, z]] 2 [x, r1] (.slice (some ⟨eb, 0, none⟩) 4 4) w7 from hkn 112 _ (by simp [behind, gadd]))
        have Hb7 := Lib.hid hb7
        clear hkn hb7 l0 l1 l2 l3 l4 l5 l6 l7 l8 l9 l10 l11 l12 l13 l14 l15 l16 l17 l18 l19 l20
        obtain ⟨ad, had⟩ : ∃ ad : Addr, ad = ⟨eb, 0, none⟩ := ⟨_, rfl⟩
        rw [← had]
        have hQ0 : 0 < Q := by omega
        have hP1 := HrP.out
        have hq1 := HrQ.out
        have hGe := (inG_pow hP1 HGG.out).1
        have hkE : key ^ Q % P = 1 % P := by rw [Hkey.out]; exact elem_exp hP1 hGe
        have hzE : z ^ Q % P = 1 % P := by rw [Hz.out]; exact elem_exp hP1 hGe
        have hzP : z < P := by rw [Hz.out]; exact expG_lt_P hP1
        have hmE := inG_pow hP1 Hm0.out
        have hU0E : U0 ^ Q % P = 1 % P := by rw [HU0.out, againU_one hP1]; exact elem_exp hP1 hGe
        have hU2E : U2 ^ Q % P = 1 % P := by rw [HU2.out, againU_one hP1]; exact elem_exp hP1 hGe
        have hU2P : U2 < P := by rw [HU2.out, againU_one hP1]; exact expG_lt_P hP1
        have hV0E : V0 ^ Q % P = 1 % P := by rw [HV0.out, againV_of hP1 hmE.2.1]; exact elem_mul hP1 hmE.1 (elem_exp hP1 hkE)
        have i1 := one_elem hP1 hQ0
        have iz : inG P Q z = true := inG_of hP1 hQ0 hzE hzP
        have i2 : inG P Q U2 = true := inG_of hP1 hQ0 hU2E hU2P
        have io : inG P Q (overG P 1 U0) = true := inG_of hP1 hQ0 (elem_over hP1 hQ0 (by rw [Nat.one_pow]) hU0E) (overG_lt_P hP1)
        have iG := HGG.out
        have good0 : Good label P Q G H [d0, d1, d2] [key] [[G]] 1 [x] := Good.of hP1 hq1 (by simp) (by simp) (by simp [iG]) (by omega) (by omega) rfl rfl (by rw [Hkey.out]; exact keeps_eq hP1)
        have good1 : Good label P Q G H [d0, d1, d2] [U0, U1, U2] [[G, 1, 1], [1, G, 1], [1, 1, G]] 3 [r0, r1, r2] := Good.of hP1 hq1 (by simp) (by simp) (by simp [iG, i1]) (by omega) (by omega) rfl rfl (by rw [HU0.out, HU1.out, HU2.out]; exact knows_eq hP1)
        have good2 : Good label P Q G H [d0, d1, d2] [key, sh] [[G], [U2]] 1 [x] := Good.of hP1 hq1 (by simp) (by simp) (by simp [iG, i2]) (by omega) (by omega) rfl rfl (by rw [Hkey.out, Hsh.out]; exact shares_eq hP1)
        have good3 : Good label P Q G H [d0, d1, d2] [key, overG P U1 1, overG P C2 V0] [[G, 1], [1, G], [overG P 1 U0, z]] 2 [x, r1] := Good.of hP1 hq1 (by simp) (by simp) (by simp [iG, i1, iz, io]) (by omega) (by omega) rfl rfl (by rw [HC2.out, Hkey.out, HU1.out]; exact crosses_eq hP1 hQ0 hU0E hV0E)
        have HEl := Lib.hid (ES.elems HES.out good0 good1 good2 good3 ad had)
        have Hbw7 := Lib.hid (below_trans Hb6.out Hb7.out)
        clear good0 good1 good2 good3 hkE hzE hzP hmE hU0E hU2E hU2P hV0E i1 iz i2 io iG hGe had HES Hb7 Hk6 Hwk g0 g1 g2 g3 g4 s0 s1 s2 s3 s4 s5 s6 s7 s8 a0 a1 a2 t0 t1 t2 c0 c1 c2 c3 c4 c5
        go_wp2_with fail
        go_loopw [114] (fun iv wr => ∃ k : Nat, iv = .int .i64 (k : Int) ∧ k ≤ 4 ∧ Lat w7 wr) (fun iv _ => 4 - (intOf iv).toNat)
        case atStart => exact ⟨0, rfl, by omega, Below.refl _ _⟩
        case round =>
          obtain ⟨k, rfl, hk, hbr⟩ := hrel
          by_cases hk4 : k < 4
          · have d6 : decide ((k : Int) < 4) = true := decide_eq_true (by omega)
            have hki : (k : Int) < 4 := by omega
            obtain ⟨T, L, n, V, c0, c1, c2, hc0, hc1, hc2, hE, hg⟩ := HEl.out k hk4
            have hc0 := below_cell hbr hc0
            have hc1 := below_cell hbr hc1
            have hc2 := below_cell hbr hc2
            obtain ⟨⟨A, cT, B, cB, cs, hcc, ⟨hnT, hgB⟩, hmL⟩, ⟨X, cX, hxx, hnV, hNX⟩⟩ := hE
            injection hcc with hcc
            simp only [cval, Array.mk.injEq, List.cons.injEq, and_true] at hcc
            obtain ⟨rfl, rfl⟩ := hcc
            subst hxx
            obtain ⟨nT, hlT⟩ : ∃ n, n = T.length := ⟨_, rfl⟩
            obtain ⟨nB, hlB⟩ : ∃ n, n = cs.length := ⟨_, rfl⟩
            obtain ⟨vv, hvv⟩ : ∃ n, n = V.length := ⟨_, rfl⟩
            rw [← hlT] at hc0
            rw [← hlB] at hc1
            obtain ⟨g1, g2, g3, g4, g5, g6, g7, t, zz, gp⟩ := hg
            have hvl : ([d0, d1, d2].take n).length = n := by rw [List.length_take]; simp; omega
            have hwb : Lat w0 w7 := Hbw7.out
            have hND : Nums w7 (some ⟨w.heap.size + 1 + 1, 6, none⟩) 3 ([d0, d1, d2].take n) := by
              obtain ⟨_, _, ⟨_, _, _, _, _, _, s6, s7, s8⟩⟩ := HA.out w7 hwb
              exact (nums_at s6 s7 s8 bd0 bd1 bd2).take n
            have hpb := proved_bounds (rs := cs) (by rw [hmL]; exact gp)
            have hl6 : label.length ≤ 1000000 := by have := Hnl.out; omega
            have hcsl : cs.length ≤ 10 := by rw [← List.length_map (f := (·.l)), hmL]; exact g5
            have hcr : ∀ r ∈ cs, r.l.length ≤ 10 := fun r hr => g6 r.l (by rw [← hmL]; exact List.mem_map.2 ⟨r, hr, rfl⟩)
            have hpv : ∀ W, Lat w7 W → Calls Tryz.prog 10 #[.agg #[.int .u64 (P : Int), .int .u64 (Q : Int), .int .u64 (G : Int), .int .u64 (H : Int), R], .string (str label), .agg #[.slice A nT cT, .slice B nB cB], .slice X n cX, .slice (some ⟨w.heap.size + 1 + 1, 6, none⟩) n 3] W fun e w' => ∃ u, e = .returned u ∧ Below W.heap.size W w' ∧ PV t.length zz.length t zz u w' := fun W hb => by
              have h := prove_any P Q G H R label A cT T B cB cs X cX V (some ⟨w.heap.size + 1 + 1, 6, none⟩) 3 ([d0, d1, d2].take n) W hP HrP.out hQ hQ2 hG hH (hnT.below hb) (hgB.below hb) (hNX.below hb) (hND.below hb) hl6 (by omega) (by omega) (fun r hr => by have := hcr r hr; omega) (by omega) (by omega)
              rw [hmL, gp, hvl, ← hlT, ← hlB, ← hnV] at h
              exact h.mono fun e w' ⟨h1, h2⟩ => let ⟨u, he, hu⟩ := PV.of h1 hpb.1 hpb.2.1; ⟨u, he, h2, hu⟩
            have hhv : ∀ W, Lat w7 W → Calls Tryz.prog 13 #[.agg #[.int .u64 (P : Int), .int .u64 (Q : Int), .int .u64 (G : Int), .int .u64 (H : Int), R], .agg #[.slice A nT cT, .slice B nB cB], .slice X n cX] W fun e w' => e = .returned (.bool true) ∧ Below W.heap.size W w' := fun W hb => by
              have h := refHolds_any P Q G H R A cT T B cB cs X cX V W hP hQ hQ2 (hnT.below hb) (hgB.below hb) (hNX.below hb) (by omega) (by omega) (fun r hr => by have := hcr r hr; omega) (by omega)
              rw [hmL, g7, ← hlT, ← hlB, ← hnV] at h
              exact h
            have hav : ∀ W A1 k1 A2 k2, Lat w7 W → Nums W A1 k1 t → Nums W A2 k2 zz → Calls Tryz.prog 14 #[.agg #[.int .u64 (P : Int), .int .u64 (Q : Int), .int .u64 (G : Int), .int .u64 (H : Int), R], .string (str label), .agg #[.slice A nT cT, .slice B nB cB], .agg #[.slice A1 t.length k1, .slice A2 zz.length k2]] W fun e w' => e = .returned (.bool true) ∧ Below W.heap.size W w' := fun W A1 k1 A2 k2 hb h1 h2 => by
              have h := accept_any P Q G H R label A cT T B cB cs A1 k1 t A2 k2 zz W hP HrP.out hQ hQ2 hG hH (hnT.below hb) (hgB.below hb) h1 h2 hl6 (by omega) (by omega) (fun r hr => by have := hcr r hr; omega) hpb.2.2.1 hpb.2.2.2
              rw [made_accepted (rs := cs) HrP.out HrQ.out (by rw [hmL]; exact gp) (by rw [hmL]; exact g7), ← hlT, ← hlB] at h
              exact h
            obtain ⟨lt, hlt⟩ : ∃ n, n = t.length := ⟨_, rfl⟩
            obtain ⟨lz, hlz⟩ : ∃ n, n = zz.length := ⟨_, rfl⟩
            rw [← hlt, ← hlz] at hpv
            rw [← hlt, ← hlz] at hav
            have Hpv := Lib.hid hpv
            have Hhv := Lib.hid hhv
            have Hav := Lib.hid hav
            have Hbr := Lib.hid hbr
            have hn0 : (0 : Int) ≤ (n : Int) := by omega
            have hn3 : (n : Int) ≤ 3 := by omega
            have hn3' : n ≤ 3 := g3
            clear hpv hhv hav hbr hvv vv hlT hlB g1 g2 g3 g4 g5 g6 g7 gp hvl hwb hND hpb hl6 hcsl hcr hlt hlz hnV hmL hgB hnT hNX hl73 hl76 hl77 hl80 hl83 hl94 hl97 hl98 hl104 hl110 hl111 hl112
            go_wp2_with fail
            obtain ⟨we, hwe⟩ : ∃ W, W = wr.alloc (.cells #[.slice A nT cT, .slice B nB cB, .slice X n cX] 64) := ⟨_, rfl⟩
            rw [← hwe]
            have Hle := Lib.hid (show Lat w7 we by rw [hwe]; exact lat_alloc Hbr.out _)
            have Hke := Lib.hid (show Blk we wr.heap.size 64 [.slice A nT cT, .slice B nB cB, .slice X n cX] by rw [hwe]; exact Blk.of _ _ _ _ rfl)
            have hkel := Hke.out.lt
            obtain ⟨e0, e1, e2⟩ := three_cells Hke.out
            obtain ⟨⟨g0, g1, g2, g3, g4⟩, _, _⟩ := HA.out we (below_trans Hbw7.out Hle.out)
            clear hwe hc0 hc1 hc2
            have l0 := Later.cell g0
            have l1 := Later.cell g1
            have l2 := Later.cell g2
            have l3 := Later.cell g3
            have l4 := Later.cell g4
            have l5 := Later.cell e0
            have l6 := Later.cell e1
            have l7 := Later.cell e2
            refine region_float_tail [(130, PV lt lz t zz), (17, fun u w' => ∃ b, u = .pointer (some ⟨b, 0, none⟩) ∧ we.heap.size ≤ b ∧ Blk w' b 36 [.slice none 0 0, .slice none 0 0])] 16
              (Know.stable_cons (fun _ _ _ h hl => h.later hl) (Know.stable_cons (fun _ _ _ h hl => let ⟨b, e, h1, h2⟩ := h; ⟨b, e, h1, h2.below hl h2.lt⟩) Know.stable_nil)) (by kernel_rfl) (by kernel_rfl) (by rfl) ?_
            simp only [List.take_succ_cons, List.take_zero, List.drop_succ_cons, List.drop_zero]
            (repeat (first | (refine loose_skip (by rfl) ?_; simp only [Act.put, List.setIfInBounds_toArray, List.set_cons_zero, List.set_cons_succ]) | (refine loose_plain (by rfl) (by rfl) (by rfl) (fun Kc hKc => ?_); go_big_quiet_op; refine hKc _ ?_; clear hKc Kc)))
            refine loose_call 130 (f := 10) (args := #[.agg #[.int .u64 (P : Int), .int .u64 (Q : Int), .int .u64 (G : Int), .int .u64 (H : Int), R], .string (str label), .agg #[.slice A nT cT, .slice B nB cB], .slice X n cX, .slice (some ⟨w.heap.size + 1 + 1, 6, none⟩) n 3]) (fun w => by kernel_rfl) (by rfl) (by rfl) (by rfl) (fun wk hl _ => Hpv.out wk (below_trans Hle.out hl)) ?_
            rintro _ wk hlk ⟨A1, k1, A2, k2, rfl, -, -⟩
            simp only [Act.put, List.setIfInBounds_toArray, List.set_cons_zero, List.set_cons_succ]
            (repeat (first | (refine loose_skip (by rfl) ?_; simp only [Act.put, List.setIfInBounds_toArray, List.set_cons_zero, List.set_cons_succ]) | (refine loose_plain (by rfl) (by rfl) (by rfl) (fun Kc hKc => ?_); go_big_quiet_op; refine hKc _ ?_; clear hKc Kc)))
            refine loose_make 17 (V := fun w => .pointer (some ⟨w.heap.size, 0, none⟩)) (W := fun w => w.alloc (.cells #[.slice none 0 0, .slice none 0 0] 36)) (fun w => by kernel_rfl) (by rfl) (by rfl) (by rfl) (fun w hl _ => ⟨(Below.refl _ _).alloc (Nat.le_refl _) _, _, rfl, hl.size, Blk.of w _ _ _ rfl⟩) ?_
            rintro _ wk2 _ ⟨pb, rfl, hpb, -⟩
            simp only [Act.put, List.setIfInBounds_toArray, List.set_cons_zero, List.set_cons_succ]
            (repeat (first | (refine loose_skip (by rfl) ?_; simp only [Act.put, List.setIfInBounds_toArray, List.set_cons_zero, List.set_cons_succ]) | (refine loose_plain (by rfl) (by rfl) (by rfl) (fun Kc hKc => ?_); go_big_quiet_op; refine hKc _ ?_; clear hKc Kc)))
            refine loose_nil ?_
            intro wz hbz hkn
            obtain ⟨hN1, hN2⟩ := PV.nums (show PV lt lz t zz _ wz from hkn 130 _ (.inr (.inl ⟨rfl, rfl⟩)))
            obtain ⟨pb', hpe, _, hpk⟩ := hkn 17 _ (.inl ⟨rfl, rfl⟩)
            injection hpe with hpe; injection hpe with hpe; injection hpe with hpe
            subst hpe
            obtain ⟨k0, k1'⟩ := two_cells hpk
            have z0 := hpk.frozen 0
            have z1 := hpk.frozen 1
            obtain ⟨wy, hwy⟩ : ∃ W, W = (wz.setCell ⟨pb, 0, none⟩ (.slice A1 lt k1)).setCell ⟨pb, 1, none⟩ (.slice A2 lz k2) := ⟨_, rfl⟩
            have hly : Lat we wy := by rw [hwy]; exact below_set (below_set hbz hpb _ _) hpb _ _
            have Hpy := Lib.hid (show Blk wy pb 36 [.slice A1 lt k1, .slice A2 lz k2] by rw [hwy]; exact (hpk.set 0 (.slice A1 lt k1)).set 1 (.slice A2 lz k2))
            have hs1 : ∀ (A : Option Addr) (a b n : Nat), Value.slice A a b ≠ .int .u64 (n : Int) := fun _ _ _ _ h => by cases h
            have HN1 := Lib.hid (show Nums wy A1 k1 t by rw [hwy]; exact (hN1.otherB hpk (hs1 _ _ _) (hs1 _ _ _) 0 (.slice A1 lt k1)).otherB (hpk.set 0 (.slice A1 lt k1)) (hs1 _ _ _) (hs1 _ _ _) 1 (.slice A2 lz k2))
            have HN2 := Lib.hid (show Nums wy A2 k2 zz by rw [hwy]; exact (hN2.otherB hpk (hs1 _ _ _) (hs1 _ _ _) 0 (.slice A1 lt k1)).otherB (hpk.set 0 (.slice A1 lt k1)) (hs1 _ _ _) (hs1 _ _ _) 1 (.slice A2 lz k2))
            have Hly := Lib.hid (below_trans Hle.out hly)
            have Hwy := Lib.hid hwy
            have hpyl := Hpy.out.lt
            have hke2 := Hke.out.below hly hkel
            have hke2l := hke2.lt
            have Hke2 := Lib.hid hke2
            clear l0 l1 l2 l3 l4 l5 l6 l7 hbz hkn hpk hly hN1 hN2 hwy hlk hs1 hke2 e0 e1 e2 g0 g1 g2 g3 g4 hpb
            go_wp2_with fail
            refine NoPanic.normal ?_
            rw [← Hwy.out]
            obtain ⟨⟨g0, g1, g2, g3, g4⟩, _, _⟩ := HA.out wy (below_trans Hbw7.out Hly.out)
            obtain ⟨e0, e1, e2⟩ := three_cells Hke2.out
            clear k0 k1' z0 z1
            go_wp2_with fail
            refine (Hhv.out wy Hly.out).mono ?_
            rintro e w8 ⟨rfl, hb8⟩
            have Hb8 := Lib.hid (below_trans Hly.out hb8)
            have HM1 := Lib.hid (HN1.out.below hb8)
            have HM2 := Lib.hid (HN2.out.below hb8)
            obtain ⟨⟨g0, g1, g2, g3, g4⟩, _, _⟩ := HA.out w8 (below_trans Hbw7.out Hb8.out)
            obtain ⟨e0, e1, e2⟩ := three_cells (Hke2.out.below hb8 hke2l)
            obtain ⟨q0, q1⟩ := two_cells (Hpy.out.below hb8 hpyl)
            clear hb8
            go_wp2_with fail
            refine (Hav.out w8 A1 k1 A2 k2 Hb8.out HM1.out HM2.out).mono ?_
            rintro e w9 ⟨rfl, hb9⟩
            have Hb9 := Lib.hid (below_trans Hb8.out hb9)
            clear hb9 g0 g1 g2 g3 g4 e0 e1 e2 q0 q1
            go_wp2_with fail
            go_roundw
            case rel => exact ⟨k + 1, by go_num, by omega, Hb9.out⟩
            case measure => simp [intOf]; omega
          · have d6 : decide ((k : Int) < 4) = false := decide_eq_false (by omega)
            have Hbr := Lib.hid hbr
            clear hbr
            go_wp2_with fail
            go_ret
            exact ⟨rfl, below_trans Hb0.out (below_trans Hbw7.out Hbr.out)⟩
end Go.Proofs.YtinlciofhegciaaGreat

/- Arguments, opened by their types. -/
namespace Go.Proofs.YtinlciofhegciaaGreat
open Go.ChangeShapes Go.WideShapes Go.ChangeAt Go.RowKit
section
variable {H : Type} {enc : TypeId × Value → H} {P : Program} {w : World} {r : Reach} {b : Nat} {t e : TypeId} {v : Value}
theorem arg_string (hu : P.underlying t = some .string) (hv : Value.okWide P w r b t v) (h : Rdg enc P w t v.cells.toList) : ∃ l, v = .string (str l) ∧ l.length ≤ 140737488351232 := by
  obtain ⟨s, rfl⟩ := okWide_string hu hv
  obtain ⟨s', hs, hz⟩ := rd_string hu h
  simp [Value.cells] at hs
  subst hs
  refine ⟨s.data.toList, by rw [str_of], ?_⟩
  have : s.data.toList.length = s.size := by rw [← ByteArray.size_data]; simp
  unfold reachBytes at hz
  omega
theorem cell_string {c : Value} (hu : P.underlying t = some .string) (h : Rdg enc P w t [c]) : ∃ l, c = .string (str l) ∧ l.length ≤ 140737488351232 := by
  obtain ⟨s', hs, hz⟩ := rd_string hu h
  simp only [List.cons.injEq, and_true] at hs
  subst hs
  refine ⟨s'.data.toList, by rw [str_of], ?_⟩
  have : s'.data.toList.length = s'.size := by rw [← ByteArray.size_data]; simp
  unfold reachBytes at hz
  omega
theorem arg_i64 (hu : P.underlying t = some (.int .i64)) (hv : Value.okWide P w r b t v) (h : Rdg enc P w t v.cells.toList) : ∃ n : Int, v = .int .i64 n ∧ -9223372036854775808 ≤ n ∧ n ≤ 9223372036854775807 := by
  obtain ⟨n, rfl⟩ := okWide_int hu hv
  obtain ⟨m, hm, hw⟩ := rd_int hu h
  simp [Value.cells] at hm
  subst hm
  exact ⟨n, rfl, bounds_i64 hw⟩
theorem cell_i64 {c : Value} (hu : P.underlying t = some (.int .i64)) (h : Rdg enc P w t [c]) : ∃ n : Int, c = .int .i64 n ∧ -9223372036854775808 ≤ n ∧ n ≤ 9223372036854775807 := by
  obtain ⟨m, hm, hw⟩ := rd_int hu h
  simp only [List.cons.injEq, and_true] at hm
  exact ⟨m, hm, bounds_i64 hw⟩
theorem nat_u64 {n : Int} (h : 0 ≤ n ∧ n ≤ 18446744073709551615) : ∃ m : Nat, n = (m : Int) ∧ m < 18446744073709551616 := ⟨n.toNat, by omega, by omega⟩
theorem arg_u64 (hu : P.underlying t = some (.int .u64)) (hv : Value.okWide P w r b t v) (h : Rdg enc P w t v.cells.toList) : ∃ n : Nat, v = .int .u64 (n : Int) ∧ n < 18446744073709551616 := by
  obtain ⟨n, rfl⟩ := okWide_int hu hv
  obtain ⟨m, hm, hw⟩ := rd_int hu h
  simp [Value.cells] at hm
  subst hm
  obtain ⟨m, rfl, hm⟩ := nat_u64 (bounds_u64 hw)
  exact ⟨m, rfl, hm⟩
theorem cell_u64 {c : Value} (hu : P.underlying t = some (.int .u64)) (h : Rdg enc P w t [c]) : ∃ n : Nat, c = .int .u64 (n : Int) ∧ n < 18446744073709551616 := by
  obtain ⟨m, hm, hw⟩ := rd_int hu h
  simp only [List.cons.injEq, and_true] at hm
  subst hm
  obtain ⟨m, rfl, hm⟩ := nat_u64 (bounds_u64 hw)
  exact ⟨m, rfl, hm⟩
theorem cell_strs {c : Value} (hu : P.underlying t = some (.slice e)) (he : P.underlying e = some .string) (hc : P.cellsOf e = 1) (hb : P.bytesOf e = 16) (h : Rdg enc P w t [c]) :
    ∃ A cap l, c = .slice A l.length cap ∧ Strs w A cap l ∧ (∀ x ∈ l, x.length ≤ 140737488355328) ∧ l.length ≤ 8796093022208 := by
  obtain ⟨A, cap, l, hl, hs, hz, hbs, _⟩ := rd_strs hu he hc h
  simp only [List.cons.injEq, and_true] at hl
  rw [hb] at hbs
  unfold reachBytes at hbs hz
  exact ⟨A, cap, l, hl, hs, fun x hx => by have := hz x hx; omega, by have := hs.len; omega⟩
theorem arg_strs (hu : P.underlying t = some (.slice e)) (he : P.underlying e = some .string) (hc : P.cellsOf e = 1) (hb : P.bytesOf e = 16) (hv : Value.okWide P w r b t v) (h : Rdg enc P w t v.cells.toList) :
    ∃ A cap l, v = .slice A l.length cap ∧ Strs w A cap l ∧ (∀ x ∈ l, x.length ≤ 140737488355328) ∧ l.length ≤ 8796093022208 := by
  obtain ⟨A, n, cap, rfl⟩ := okWide_slice hu hv
  exact cell_strs hu he hc hb h
theorem arg_array2 (hu : P.underlying t = some (.array 2 e)) (hc : P.cellsOf t = 2) (he : P.cellsOf e = 1) (hv : Value.okWide P w r b t v) (h : Rdg enc P w t v.cells.toList) :
    ∃ c0 c1, v = .agg #[c0, c1] ∧ Rdg enc P w e [c0] ∧ Rdg enc P w e [c1] := by
  obtain ⟨cs, rfl, hs⟩ := okWide_agg hu hv
  obtain ⟨c0, c1, hcs, h0, h1⟩ := rd_array2 hu hc he h
  exact ⟨c0, c1, by congr 1; exact Array.ext' hcs, h0, h1⟩
end
end Go.Proofs.YtinlciofhegciaaGreat
