/- Joined texts, part 8: contracts of the functions that the laws reach, and what is needed for them. -/
import Derived.Test.YtinlciofhegciaaGreatJ7
/- Challenges: the reference's walk. -/
namespace Go.Proofs.YtinlciofhegciaaGreat
open Go.RowKit Go.BigFrame

set_option maxRecDepth 100000 in
set_option maxHeartbeats 4000000 in
theorem refChallenge_any (P Q G H : Nat) (R : Value) (label : List UInt8) (A : Option Addr) (capT : Nat) (T : List Nat) (B : Option Addr) (capB : Nat) (rs : List NumV) (Y : Option Addr) (capY : Nat) (C : List Nat) (w : World) (hP : P < 18446744073709551616) (hQ : Q < 18446744073709551616) (hG : G < 18446744073709551616) (hH : H < 18446744073709551616) (hT : Nums w A capT T) (hR : Grid w B capB rs) (hY : Nums w Y capY C)
    (hl : label.length ≤ 1000000) (hTl : T.length ≤ 10000) (hRl : rs.length ≤ 10000) (hrl : ∀ r ∈ rs, r.l.length ≤ 10000) (hYl : C.length ≤ 10000) :
    Calls Tryz.prog 38 #[gval P Q G H R, .string (str label), cval A capT T.length B capB rs.length, .slice Y C.length capY] w fun e w' => e = .returned (.int .u64 (chal label P Q G H T (rs.map (·.l)) C : Int)) ∧ Below w.heap.size w w' := by
  unfold gval cval
  have hbd := chal_bound (P := P) (Q := Q) (G := G) (H := H) (C := C) hl hTl hRl hrl hYl
  obtain ⟨nT, hnT⟩ : ∃ n, n = T.length := ⟨_, rfl⟩
  obtain ⟨nB, hnB⟩ : ∃ n, n = rs.length := ⟨_, rfl⟩
  obtain ⟨nY, hnY⟩ : ∃ n, n = C.length := ⟨_, rfl⟩
  obtain ⟨res, hres⟩ : ∃ s, s = chal label P Q G H T (rs.map (·.l)) C := ⟨_, rfl⟩
  rw [← hnT, ← hnB, ← hnY, ← hres]
  have hb0 : Below w.heap.size w ((w.alloc (.cells #[.int .u64 (P : Int), .int .u64 (Q : Int), .int .u64 (G : Int), .int .u64 (H : Int), R] 25)).alloc (.cells #[.slice A nT capT, .slice B nB capB] 29)) :=
    ((Below.refl _ _).alloc (Nat.le_refl _) _).alloc (by simp) _
  have hg0 : Blk ((w.alloc (.cells #[.int .u64 (P : Int), .int .u64 (Q : Int), .int .u64 (G : Int), .int .u64 (H : Int), R] 25)).alloc (.cells #[.slice A nT capT, .slice B nB capB] 29)) w.heap.size 25 (glist P Q G H R) :=
    (Blk.of w _ _ _ rfl).alloc _
  have hc0 : Blk ((w.alloc (.cells #[.int .u64 (P : Int), .int .u64 (Q : Int), .int .u64 (G : Int), .int .u64 (H : Int), R] 25)).alloc (.cells #[.slice A nT capT, .slice B nB capB] 29)) (w.heap.size + 1) 29 [.slice A nT capT, .slice B nB capB] := by
    have := Blk.of (w.alloc (.cells #[.int .u64 (P : Int), .int .u64 (Q : Int), .int .u64 (G : Int), .int .u64 (H : Int), R] 25)) 29 #[.slice A nT capT, .slice B nB capB] _ rfl
    rwa [show (w.alloc (.cells #[.int .u64 (P : Int), .int .u64 (Q : Int), .int .u64 (G : Int), .int .u64 (H : Int), R] 25)).heap.size = w.heap.size + 1 by simp] at this
  have hT0 := hT.below hb0
  have hY0 := hY.below hb0
  have hR0 := hR.below hb0
  obtain ⟨w0, hw0⟩ : ∃ w0, w0 = ((w.alloc (.cells #[.int .u64 (P : Int), .int .u64 (Q : Int), .int .u64 (G : Int), .int .u64 (H : Int), R] 25)).alloc (.cells #[.slice A nT capT, .slice B nB capB] 29)) := ⟨_, rfl⟩
  rw [← hw0] at hb0 hg0 hc0 hT0 hY0 hR0
  have Hb0 := Lib.hid hb0
  have Hg0 := Lib.hid hg0
  have Hc0 := Lib.hid hc0
  have HT0 := Lib.hid hT0
  have HY0 := Lib.hid hY0
  have HR0 := Lib.hid hR0
  have HnT := Lib.hid hnT
  have HnB := Lib.hid hnB
  have HnY := Lib.hid hnY
  have Hres := Lib.hid hres
  have Hbd := Lib.hid hbd
  have Hrl := Lib.hid hrl
  have Hw0 := Lib.hid hw0
  have hTl' : nT ≤ 10000 := by omega
  have hRl' : nB ≤ 10000 := by omega
  have hYl' : nY ≤ 10000 := by omega
  have hgl := hg0.lt
  have hcl := hc0.lt
  obtain ⟨g0, g1, g2, g3, g4⟩ := gcells hg0
  obtain ⟨f0, f1⟩ := two_cells hc0
  clear hb0 hg0 hc0 hT0 hY0 hR0 hT hR hY hTl hRl hrl hYl hnT hnB hnY hres hw0 hbd
  have hs4 : ∀ x ∈ [P, Q, G, H], x < 18446744073709551616 := by simp [hP, hQ, hG, hH]
  have Hs4 := Lib.hid hs4
  obtain ⟨s1, hs1⟩ : ∃ s, s = numsText [P, Q, G, H] := ⟨_, rfl⟩
  obtain ⟨s2, hs2⟩ : ∃ s, s = numsText T := ⟨_, rfl⟩
  have Hs1 := Lib.hid hs1
  have Hs2 := Lib.hid hs2
  clear hs4 hs1 hs2
  go_enter Tryz.func38, Tryz.ntmps38
  go_wp2_with fail
  rw [← Hw0.out]
  have l0 := Later.cell g0
  have l1 := Later.cell g1
  have l2 := Later.cell g2
  have l3 := Later.cell g3
  have l4 := Later.cell f0
  refine region_loose [(19, fun u w => ∃ A c, u = .slice A 4 c ∧ Nums w A c [P, Q, G, H]), (20, fun u _ => u = .string (str s1)), (23, fun u _ => u = .string (str s2)), (24, fun u w => Row w w0.heap.size 9 1 u 2 [.string (str s1), .string (str s2)])]
    (Know.stable_cons (fun _ _ _ h hl => let ⟨A, c, e, hn⟩ := h; ⟨A, c, e, hn.below hl⟩) (Know.stable_cons (fun _ _ _ h _ => h) (Know.stable_cons (fun _ _ _ h _ => h) (Know.stable_cons (fun _ _ _ h hl => h.below hl) Know.stable_nil)))) (by kernel_rfl) (by kernel_rfl) ?_
  (repeat (first | (refine loose_skip (by rfl) ?_; simp only [Act.put, List.setIfInBounds_toArray, List.set_cons_zero, List.set_cons_succ]) | (refine loose_plain (by rfl) (by rfl) (by rfl) (fun Kc hKc => ?_); go_big_quiet_op; refine hKc _ ?_; clear hKc Kc)))
  refine loose_make 19 (V := fun w => .slice (some ⟨w.heap.size, 0, none⟩) 4 4) (W := fun w => w.alloc (.cells #[.int .u64 (P : Int), .int .u64 (Q : Int), .int .u64 (G : Int), .int .u64 (H : Int)] 22)) (fun w => by go_simp) (by rfl) (by rfl) (by rfl) (fun w _ _ => ⟨(Below.refl _ _).alloc (Nat.le_refl _) _, _, _, rfl, nums_new w [P, Q, G, H] _ Hs4.out⟩) ?_
  rintro _ wk hlk ⟨As, cs, rfl, _⟩
  simp only [Act.put, List.setIfInBounds_toArray, List.set_cons_zero, List.set_cons_succ]
  refine loose_fix 20 (.string (str s1)) (f := 61) (args := #[.slice As 4 cs]) (fun w => by go_simp; try rfl) (by rfl) (by rfl) (by rfl) (fun _ _ => Iff.rfl) (fun w _ hd => by
    obtain ⟨A', c', he, hn⟩ := hd 19 (by decide) _ (.inl ⟨rfl, rfl⟩)
    injection he with h1 _ h2
    subst h1 h2
    rw [Hs1.out]
    exact refNumbers_any As cs _ w hn (by simp)) ?_
  simp only [Act.put, List.setIfInBounds_toArray, List.set_cons_zero, List.set_cons_succ]
  (repeat (first | (refine loose_skip (by rfl) ?_; simp only [Act.put, List.setIfInBounds_toArray, List.set_cons_zero, List.set_cons_succ]) | (refine loose_plain (by rfl) (by rfl) (by rfl) (fun Kc hKc => ?_); go_big_quiet_op; refine hKc _ ?_; clear hKc Kc)))
  refine loose_fix 23 (.string (str s2)) (f := 61) (args := #[.slice A nT capT]) (fun w => by go_simp; try rfl) (by rfl) (by rfl) (by rfl) (fun _ _ => Iff.rfl) (fun w hl hd => by
    rw [Hs2.out, HnT.out]
    exact refNumbers_any A capT T w (HT0.out.below hl) (by rw [← HnT.out]; omega)) ?_
  simp only [Act.put, List.setIfInBounds_toArray, List.set_cons_zero, List.set_cons_succ]
  refine loose_make 24 (V := fun w => .slice (some ⟨w.heap.size, 0, none⟩) 2 2) (W := fun w => w.alloc (.cells #[.string (str s1), .string (str s2)] 9)) (fun w => by go_simp) (by rfl) (by rfl) (by rfl) (fun w hl _ => ⟨(Below.refl _ _).alloc (Nat.le_refl _) _, row_low (Row.of_blk (Blk.of w _ _ _ rfl) 2 rfl (by simp [maxLen])) hl.size⟩) ?_
  intro v25 wk25 _ hrow25
  obtain ⟨A25, c25, rfl⟩ := hrow25.slice
  clear hrow25
  simp only [Act.put, List.setIfInBounds_toArray, List.set_cons_zero, List.set_cons_succ]
  (repeat (first | (refine loose_skip (by rfl) ?_; simp only [Act.put, List.setIfInBounds_toArray, List.set_cons_zero, List.set_cons_succ]) | (refine loose_plain (by rfl) (by rfl) (by rfl) (fun Kc hKc => ?_); go_big_quiet_op; refine hKc _ ?_; clear hKc Kc)))
  refine loose_nil ?_
  intro wq hbq hkn
  have Hrow := Lib.hid (show Row wq w0.heap.size 9 1 (.slice A25 2 c25) 2 [.string (str s1), .string (str s2)] from hkn 24 _ (.inl ⟨rfl, rfl⟩))
  have Hbq := Lib.hid (show Below w0.heap.size w0 wq from hbq)
  have f1q := below_cell Hbq.out f1
  clear hkn hbq l0 l1 l2 l3 l4
  go_wp2_with fail
  go_loopw [9, 10] (fun pv iv wr => ∃ k : Nat, iv = .int .i64 (k : Int) ∧ k ≤ nB ∧ Row wr w0.heap.size 9 1 pv (2 + k) ((chalUpto P Q G H T rs k).map tv) ∧ Below w0.heap.size w0 wr) (fun _ iv _ => nB - (intOf iv).toNat)
  case atStart => exact ⟨0, rfl, by omega, row_len Hrow.out (by omega) (by rw [Hs1.out, Hs2.out]; simp [chalUpto, tv]), Hbq.out⟩
  case round =>
    obtain ⟨k, rfl, hk, hrow, hbr⟩ := hrel
    obtain ⟨Av, cv, rfl⟩ := hrow.slice
    have Hbr := Lib.hid hbr
    have HRw := Lib.hid hrow
    clear hbr hrow
    have hcu := chalUpto_length (P := P) (Q := Q) (G := G) (H := H) (T := T) (rs := rs) (k := k) (by rw [← HnB.out]; omega)
    have Hcu := Lib.hid hcu
    clear hcu
    have f1r := below_cell Hbr.out f1
    by_cases hkl : k < nB
    · have d6 : decide ((k : Int) < (nB : Int)) = true := decide_eq_true (by omega)
      have hki : (k : Int) < (nB : Int) := by omega
      obtain ⟨r, hr⟩ : ∃ r, rs[k]? = some r := ⟨_, List.getElem?_eq_getElem (by rw [← HnB.out]; exact hkl)⟩
      have hmem := List.mem_of_getElem? hr
      obtain ⟨b', hb', hrc⟩ := HR0.out.cells k r hr
      subst hb'
      have hrc := below_cell Hbr.out hrc
      rw [show r.val = .slice r.A r.l.length r.cap from rfl] at hrc
      have hcon := refNumbers_any r.A r.cap r.l wr ((HR0.out.nums r hmem).below Hbr.out) (by have := Hrl.out r hmem; omega)
      have hnx := chalUpto_next (P := P) (Q := Q) (G := G) (H := H) (T := T) hr
      obtain ⟨s3, hs3⟩ : ∃ s, s = numsText r.l := ⟨_, rfl⟩
      rw [← hs3] at hcon hnx
      obtain ⟨nr, hnr⟩ : ∃ n, n = r.l.length := ⟨_, rfl⟩
      rw [← hnr] at hrc hcon
      obtain ⟨xs, hxs⟩ : ∃ xs, xs = (chalUpto P Q G H T rs k).map tv := ⟨_, rfl⟩
      have hxl : xs.length = 2 + k := by rw [hxs, List.length_map, Hcu.out]
      have hnx2 : xs ++ [Value.string (str s3)] = (chalUpto P Q G H T rs (k + 1)).map tv := by rw [← hnx, List.map_append, ← hxs]; rfl
      have HRw2 := Lib.hid (row_len HRw.out hxl.symm hxs.symm)
      have Hnx := Lib.hid hnx2
      have Hxl := Lib.hid hxl
      have Hcon := Lib.hid hcon
      have hxb : (xs.length + 1) * 16 ≤ 140737488355328 := by omega
      clear hr hmem hs3 hnr hxs hxl hnx hnx2 hcon HRw
      go_wp2_with (first | (go_at_call 61; refine Hcon.out.mono ?_; rintro e w2 ⟨rfl, hb2⟩; have Hb2 := Lib.hid hb2; clear hb2) | (at_builtin; go_must (refine ap_one Tryz.und_strs Tryz.info_str rfl (HRw2.out.below Hb2.out) rfl (by omega) hxb (Nat.le_trans Hbr.out.size Hb2.out.size) rfl _ _ rfl rfl rfl ?_; intro v1 w3 hr3 hg3; have hr4 := row_len hr3 (m := 2 + (k + 1)) (by rw [List.length_append, Hxl.out]; simp; omega) Hnx.out; obtain ⟨Av3, cv3, rfl⟩ := hr4.slice; have Hr3 := Lib.hid hr4; have Hb3 := Lib.hid ((below_trans Hbr.out Hb2.out).grown hg3 (below_trans Hbr.out Hb2.out).size (fun q hq => (HRw2.out.block q hq).1)); clear hr3 hr4 hg3)))
      go_roundw
      case rel => exact ⟨k + 1, by go_num, by omega, Hr3.out, Hb3.out⟩
      case measure => simp [intOf]; omega
    · have d6 : decide ((k : Int) < (nB : Int)) = false := decide_eq_false (by omega)
      obtain ⟨s4, hs4⟩ : ∃ s, s = numsText C := ⟨_, rfl⟩
      have hall := chalUpto_all (P := P) (Q := Q) (G := G) (H := H) (T := T) (C := C) (rs := rs) (k := k) (by rw [← HnB.out]; omega)
      obtain ⟨xs, hxs⟩ : ∃ xs, xs = (chalUpto P Q G H T rs k).map tv := ⟨_, rfl⟩
      have hxl : xs.length = 2 + k := by rw [hxs, List.length_map, Hcu.out]
      obtain ⟨pp, hpp⟩ : ∃ p, p = chalParts P Q G H T (rs.map (·.l)) C := ⟨_, rfl⟩
      have hnx2 : xs ++ [Value.string (str s4)] = pp.map tv := by rw [hpp, ← hall, List.map_append, ← hxs, ← hs4]; rfl
      have hppl : pp.length = 2 + k + 1 := by rw [hpp, ← hall, List.length_append, Hcu.out]; rfl
      have hcon := refNumbers_any Y capY C wr (HY0.out.below Hbr.out) (by rw [← HnY.out]; omega)
      rw [← hs4, ← HnY.out] at hcon
      have Hlen1 : Hid ((xs ++ [Value.string (str s4)]).length = pp.length) := Lib.hid (by rw [hppl, List.length_append, hxl]; rfl)
      have Hcon := Lib.hid hcon
      have HRw2 := Lib.hid (row_len HRw.out hxl.symm hxs.symm)
      have Hnx := Lib.hid hnx2
      have hpp0 : 0 < pp.length := by omega
      have Hppl := Lib.hid hppl
      have Hxl := Lib.hid hxl
      have hres2 : res = numberOf label pp Q := by rw [Hres.out, hpp]; rfl
      have Hres2 := Lib.hid hres2
      have Hbd2 : Hid ((numText (label :: pp)).length ≤ 1099511627776 ∧ pp.length ≤ 1099511627776) := by rw [hpp]; exact Lib.hid Hbd.out
      have hxb : (xs.length + 1) * 16 ≤ 140737488355328 := by omega
      have g1r := below_cell Hbr.out g1
      clear hs4 hall hxs hxl hpp hnx2 hppl hcon hres2 HRw Hbd Hres
      go_wp2_with (first | (go_at_call 61; refine Hcon.out.mono ?_; rintro e w2 ⟨rfl, hb2⟩; have Hb2 := Lib.hid hb2; clear hb2) | (at_builtin; go_must (refine ap_one Tryz.und_strs Tryz.info_str rfl (HRw2.out.below Hb2.out) rfl (by omega) hxb (Nat.le_trans Hbr.out.size Hb2.out.size) rfl _ _ rfl rfl rfl ?_; intro v1 w3 hr3 hg3; have hr4 := row_len hr3 Hlen1.out Hnx.out; obtain ⟨g6, cap6, rfl, _, _, hst6⟩ := Row.strs hr4 hpp0; have Hst6 := Lib.hid hst6; have Hb3 := Lib.hid ((below_trans Hbr.out Hb2.out).grown hg3 (below_trans Hbr.out Hb2.out).size (fun q hq => (HRw2.out.block q hq).1)); have g1t := below_cell Hb3.out g1; clear hr3 hr4 hg3 hst6)) | (go_at_call 62; refine (refNumber_any label _ _ pp Q _ Hst6.out hQ Hbd2.out.1 Hbd2.out.2).mono ?_; rw [← Hres2.out]; rintro e w7 ⟨rfl, hb7⟩; have Hb7 := Lib.hid (below_trans Hb3.out hb7); clear hb7))
      go_ret
      exact ⟨rfl, below_trans Hb0.out Hb7.out⟩
end Go.Proofs.YtinlciofhegciaaGreat

/- Proofs are made: the reference's walk. -/
namespace Go.Proofs.YtinlciofhegciaaGreat
open Go.RowKit Go.BigFrame

set_option maxRecDepth 100000 in
set_option maxHeartbeats 4000000 in
theorem refProve_any (P Q G H : Nat) (R : Value) (label : List UInt8) (A : Option Addr) (capT : Nat) (T : List Nat) (B : Option Addr) (capB : Nat) (rs : List NumV) (X : Option Addr) (capX : Nat) (V : List Nat) (Y : Option Addr) (capY : Nat) (D : List Nat) (w : World) (hP : P < 18446744073709551616) (hQ : Q < 18446744073709551616) (hQ2 : 2 ≤ Q) (hG : G < 18446744073709551616) (hH : H < 18446744073709551616) (hT : Nums w A capT T) (hR : Grid w B capB rs) (hX : Nums w X capX V) (hY : Nums w Y capY D)
    (hl : label.length ≤ 1000000) (hTl : T.length ≤ 10000) (hRl : rs.length ≤ 10000) (hrl : ∀ r ∈ rs, r.l.length ≤ 10000) (hXl : V.length ≤ 10000) (hYl : D.length ≤ 10000) :
    Calls Tryz.prog 11 #[gval P Q G H R, .string (str label), cval A capT T.length B capB rs.length, .slice X V.length capX, .slice Y D.length capY] w fun e w' => OutProof w.heap.size (proveO label P Q G H T (rs.map (·.l)) V D) e w' ∧ Below w.heap.size w w' := by
  have himg := fun W0 hb => refImage_any P Q G H R A capT T B capB rs Y capY D W0 hP hQ hQ2 (hT.below (w1 := W0) hb) (hR.below hb) (hY.below hb) (by omega) (by omega) (fun r hr => by have := hrl r hr; omega) (by omega)
  have hch := fun W0 Z cZ t hb hZ hl' => refChallenge_any P Q G H R label A capT T B capB rs Z cZ t W0 hP hQ hG hH (hT.below (w1 := W0) hb) (hR.below hb) hZ hl hTl hRl hrl hl'
  have han := fun W0 E hE hb => refAnswer_any P Q G H E R X capX V Y capY D W0 hQ hE (hX.below (w1 := W0) hb) (hY.below hb) (by omega) (by omega)
  unfold gval cval at himg hch ⊢
  unfold gval at han
  obtain ⟨nT, hnT⟩ : ∃ n, n = T.length := ⟨_, rfl⟩
  obtain ⟨nB, hnB⟩ : ∃ n, n = rs.length := ⟨_, rfl⟩
  obtain ⟨nX, hnX⟩ : ∃ n, n = V.length := ⟨_, rfl⟩
  obtain ⟨nY, hnY⟩ : ∃ n, n = D.length := ⟨_, rfl⟩
  rw [← hnT, ← hnB] at hch
  rw [← hnT, ← hnB, ← hnY] at himg
  rw [← hnX, ← hnY] at han
  rw [← hnT, ← hnB, ← hnX, ← hnY]
  obtain ⟨w0, hw0⟩ : ∃ w0, w0 = (((w.alloc (.cells #[.int .u64 (P : Int), .int .u64 (Q : Int), .int .u64 (G : Int), .int .u64 (H : Int), R] 25)).alloc (.cells #[.slice A nT capT, .slice B nB capB] 29)).alloc (.cells #[.slice none 0 0, .slice none 0 0] 36)) := ⟨_, rfl⟩
  have hb0 : Below w.heap.size w w0 := by rw [hw0]; exact (((Below.refl _ _).alloc (Nat.le_refl _) _).alloc (by simp) _).alloc (by simp; omega) _
  have hg0 : Blk w0 w.heap.size 25 (glist P Q G H R) := by rw [hw0]; exact ((Blk.of w _ _ _ rfl).alloc _).alloc _
  have hc0 : Blk w0 (w.heap.size + 1) 29 [.slice A nT capT, .slice B nB capB] := by
    have := Blk.of (w.alloc (.cells #[.int .u64 (P : Int), .int .u64 (Q : Int), .int .u64 (G : Int), .int .u64 (H : Int), R] 25)) 29 #[.slice A nT capT, .slice B nB capB] _ rfl
    rw [show (w.alloc (.cells #[.int .u64 (P : Int), .int .u64 (Q : Int), .int .u64 (G : Int), .int .u64 (H : Int), R] 25)).heap.size = w.heap.size + 1 by simp] at this
    rw [hw0]; exact this.alloc _
  have hr0 : Blk w0 (w.heap.size + 1 + 1) 36 [.slice none 0 0, .slice none 0 0] := by
    have := Blk.of ((w.alloc (.cells #[.int .u64 (P : Int), .int .u64 (Q : Int), .int .u64 (G : Int), .int .u64 (H : Int), R] 25)).alloc (.cells #[.slice A nT capT, .slice B nB capB] 29)) 36 #[.slice none 0 0, .slice none 0 0] _ rfl
    rw [show ((w.alloc (.cells #[.int .u64 (P : Int), .int .u64 (Q : Int), .int .u64 (G : Int), .int .u64 (H : Int), R] 25)).alloc (.cells #[.slice A nT capT, .slice B nB capB] 29)).heap.size = w.heap.size + 1 + 1 by simp] at this
    rw [hw0]; exact this
  obtain ⟨res, hres⟩ : ∃ s, s = imgO P Q T (rs.map (·.l)) D := ⟨_, rfl⟩
  obtain ⟨out, hout⟩ : ∃ s, s = proveO label P Q G H T (rs.map (·.l)) V D := ⟨_, rfl⟩
  have himg0 := himg w0 hb0
  rw [← hres] at himg0
  rw [← hout]
  have Himg := Lib.hid himg0
  have Hch := Lib.hid hch
  have Han := Lib.hid han
  have Hb0 := Lib.hid hb0
  have Hg0 := Lib.hid hg0
  have Hc0 := Lib.hid hc0
  have Hr0 := Lib.hid hr0
  have HnT := Lib.hid hnT
  have HnX := Lib.hid hnX
  have HnY := Lib.hid hnY
  have Hres := Lib.hid hres
  have Hout := Lib.hid hout
  have Hw0 := Lib.hid hw0
  have hrl0 := hr0.lt
  clear himg himg0 hch han hb0 hg0 hc0 hr0 hT hR hX hY hRl hrl hXl hYl hnT hnB hnX hnY hres hout hw0
  cases res with
  | none =>
    have hn : out = none := by rw [Hout.out, proveO, ← Hres.out]
    subst hn
    go_enter Tryz.func11, Tryz.ntmps11
    go_wp2_with fail
    rw [← Hw0.out]
    obtain ⟨g0, g1, g2, g3, g4⟩ := gcells Hg0.out
    obtain ⟨f0, f1⟩ := two_cells Hc0.out
    go_wp2_with (go_at_call 36; refine Himg.out.mono ?_; rintro e w2 ⟨hout, hb2⟩; have he : e = .returned (.tuple #[.slice none 0 0, .bool false]) := hout; clear hout; subst he; have hr2 := Hr0.out.below hb2 hrl0; obtain ⟨p0, p1⟩ := two_cells hr2; have q0 := hr2.frozen 0; have q1 := hr2.frozen 1; have Hb2 := Lib.hid hb2; clear hb2 hr2)
    have hr2 := Hr0.out.below Hb2.out hrl0
    have hf := (hr2.set 0 (.slice none 0 0)).set 1 (.slice none 0 0)
    obtain ⟨k0, k1⟩ := two_cells (show Blk _ _ _ [.slice none 0 0, .slice none 0 0] from hf)
    clear hf hr2
    exact bodyPost_ret (v := .tuple #[.agg #[.slice none 0 0, .slice none 0 0], .bool false]) (by simp [results, Tryz.results11, go_sem, k0, k1]) rfl ⟨rfl, below_set (below_set (below_trans Hb0.out Hb2.out) (by omega) _ _) (by omega) _ _⟩
  | some t =>
    obtain ⟨htb, htT, ht64⟩ := img_bound Hres.out.symm
    have Htb := Lib.hid htb
    obtain ⟨nt, hnt⟩ : ∃ n, n = t.length := ⟨_, rfl⟩
    have hnt64 : nt ≤ 10000 := by omega
    obtain ⟨E, hE⟩ : ∃ E, E = chal label P Q G H T (rs.map (·.l)) t := ⟨_, rfl⟩
    have hEl : E < 18446744073709551616 := by rw [hE]; exact chal_lt _ _ _ _ _ _ _ _
    obtain ⟨an, han⟩ : ∃ s, s = ansO Q E V D := ⟨_, rfl⟩
    have Hnt := Lib.hid hnt
    have HE := Lib.hid hE
    have HAn := Lib.hid han
    clear htb htT ht64 hnt hE han
    have Hans : Hid (∀ W0, Below w.heap.size w W0 → Calls Tryz.prog 37 #[.agg #[.int .u64 (P : Int), .int .u64 (Q : Int), .int .u64 (G : Int), .int .u64 (H : Int), R], .slice X nX capX, .slice Y nY capY, .int .u64 (E : Int)] W0 fun e w' => OutNums W0.heap.size an e w' ∧ Below W0.heap.size W0 w') := Lib.hid (fun W0 hb => by rw [HAn.out]; exact Han.out W0 E hEl hb)
    clear Han
    cases an with
    | none =>
      have hn : out = none := by rw [Hout.out, proveO, ← Hres.out]; show (match ansO Q (chal label P Q G H T (rs.map (·.l)) t) V D with | none => none | some z => some (t, z)) = none; rw [← HE.out, ← HAn.out]
      subst hn
      have d2 : ((nX : Int) != (nY : Int)) = true := by rw [bne_iff_ne]; intro h; have h1 := HAn.out; rw [ansO, if_neg (by rw [← HnX.out, ← HnY.out]; omega)] at h1; cases h1
      go_enter Tryz.func11, Tryz.ntmps11
      go_wp2_with fail
      rw [← Hw0.out]
      obtain ⟨g0, g1, g2, g3, g4⟩ := gcells Hg0.out
      obtain ⟨f0, f1⟩ := two_cells Hc0.out
      go_wp2_with (go_at_call 36; refine Himg.out.mono ?_; rintro e w2 ⟨⟨v, rfl, hrow⟩, hb2⟩; obtain ⟨g0, g1, g2, g3, g4⟩ := gcells (Hg0.out.below hb2 Hg0.out.lt); obtain ⟨f0, f1⟩ := two_cells (Hc0.out.below hb2 Hc0.out.lt); obtain ⟨Al, cl, rfl, hN⟩ := nums_of_row hrow Htb.out; rw [← Hnt.out]; have HN := Lib.hid hN; have Hb2 := Lib.hid hb2; have Hrow := Lib.hid hrow; have hr2 := Hr0.out.below hb2 hrl0; obtain ⟨p0, p1⟩ := two_cells hr2; have q0 := hr2.frozen 0; have q1 := hr2.frozen 1; clear hb2 hN hrow hr2)
      have hr2 := (Hr0.out.below Hb2.out hrl0)
      have hf := (hr2.set 0 (.slice none 0 0)).set 1 (.slice none 0 0)
      obtain ⟨k0, k1⟩ := two_cells (show Blk _ _ _ [.slice none 0 0, .slice none 0 0] from hf)
      clear hf hr2
      exact bodyPost_ret (v := .tuple #[.agg #[.slice none 0 0, .slice none 0 0], .bool false]) (by simp [results, Tryz.results11, go_sem, k0, k1]) rfl ⟨rfl, below_set (below_set (below_trans Hb0.out Hb2.out) (by omega) _ _) (by omega) _ _⟩
    | some z =>
      have hn : out = some (t, z) := by rw [Hout.out, proveO, ← Hres.out]; show (match ansO Q (chal label P Q G H T (rs.map (·.l)) t) V D with | none => none | some z => some (t, z)) = some (t, z); rw [← HE.out, ← HAn.out]
      subst hn
      have hxy : nX = nY := Decidable.byContradiction (fun h => by have h1 := HAn.out; rw [ansO, if_pos (by rw [← HnX.out, ← HnY.out]; exact h)] at h1; cases h1)
      have d2 : ((nX : Int) != (nY : Int)) = false := by rw [bne_eq_false_iff_eq, hxy]
      clear hxy
      go_enter Tryz.func11, Tryz.ntmps11
      go_wp2_with fail
      rw [← Hw0.out]
      obtain ⟨g0, g1, g2, g3, g4⟩ := gcells Hg0.out
      obtain ⟨f0, f1⟩ := two_cells Hc0.out
      go_wp2_with (go_at_call 36; refine Himg.out.mono ?_; rintro e w2 ⟨⟨v, rfl, hrow⟩, hb2⟩; obtain ⟨g0, g1, g2, g3, g4⟩ := gcells (Hg0.out.below hb2 Hg0.out.lt); obtain ⟨f0, f1⟩ := two_cells (Hc0.out.below hb2 Hc0.out.lt); obtain ⟨Al, cl, rfl, hN⟩ := nums_of_row hrow Htb.out; rw [← Hnt.out]; have HN := Lib.hid hN; have Hb2 := Lib.hid hb2; have Hrow := Lib.hid hrow; clear hb2 hN hrow)
      go_wp2_with fail
      have l0 := Later.cell g0
      have l1 := Later.cell g1
      have l2 := Later.cell g2
      have l3 := Later.cell g3
      have l4 := Later.cell g4
      have l5 := Later.cell f0
      have l6 := Later.cell f1
      refine region_loose [(41, fun u _ => u = .int .u64 (E : Int)), (42, fun u w' => ∃ v, u = .tuple #[v, .bool true] ∧ Row w' w0.heap.size 22 1 v z.length (u64s z))] (Know.stable_cons (fun _ _ _ h _ => h) (Know.stable_cons (fun _ _ _ h hl => let ⟨v, e, hr⟩ := h; ⟨v, e, hr.below hl⟩) Know.stable_nil)) (by kernel_rfl) (by kernel_rfl) ?_
      (repeat (first | (refine loose_skip (by rfl) ?_; simp only [Act.put, List.setIfInBounds_toArray, List.set_cons_zero, List.set_cons_succ]) | (refine loose_plain (by rfl) (by rfl) (by rfl) (fun Kc hKc => ?_); go_big_quiet_op; refine hKc _ ?_; clear hKc Kc)))
      refine loose_fix 41 (.int .u64 (E : Int)) (f := 38) (args := #[.agg #[.int .u64 (P : Int), .int .u64 (Q : Int), .int .u64 (G : Int), .int .u64 (H : Int), R], .string (str label), .agg #[.slice A nT capT, .slice B nB capB], .slice Al nt cl]) (fun w => by go_simp; try rfl) (by rfl) (by rfl) (by rfl) (fun _ _ => Iff.rfl) (fun wk hl _ => by
        rw [HE.out, Hnt.out]
        exact Hch.out wk Al cl t (below_trans (below_trans Hb0.out Hb2.out) hl) (HN.out.below hl) (by rw [← Hnt.out]; exact hnt64)) ?_
      simp only [Act.put, List.setIfInBounds_toArray, List.set_cons_zero, List.set_cons_succ]
      refine loose_call 42 (f := 37) (args := #[.agg #[.int .u64 (P : Int), .int .u64 (Q : Int), .int .u64 (G : Int), .int .u64 (H : Int), R], .slice X nX capX, .slice Y nY capY, .int .u64 (E : Int)]) (fun w => by go_simp; try rfl) (by rfl) (by rfl) (by rfl) (fun wk hl _ => (Hans.out wk (below_trans (below_trans Hb0.out Hb2.out) hl)).mono fun e w' h => by
        obtain ⟨⟨v, he, hr⟩, hb⟩ := h
        exact ⟨_, he, hb, v, rfl, row_low hr (below_trans Hb2.out hl).size⟩) ?_
      rintro _ wk _ ⟨vz, rfl, _⟩
      simp only [Act.put, List.setIfInBounds_toArray, List.set_cons_zero, List.set_cons_succ]
      (repeat (first | (refine loose_skip (by rfl) ?_; simp only [Act.put, List.setIfInBounds_toArray, List.set_cons_zero, List.set_cons_succ]) | (refine loose_plain (by rfl) (by rfl) (by rfl) (fun Kc hKc => ?_); go_big_quiet_op; refine hKc _ ?_; clear hKc Kc)))
      refine loose_nil ?_
      intro wq hbq hkn
      have Hbq := Lib.hid (show Below w2.heap.size w2 wq from hbq)
      obtain ⟨vz', he, hrz⟩ := hkn 42 _ (.inl ⟨rfl, rfl⟩)
      obtain rfl : vz = vz' := by injection he with he; injection he with he; injection he with he _
      have Hrz := Lib.hid hrz
      have hr2 := (Hr0.out.below Hb2.out hrl0).below Hbq.out (Nat.lt_of_lt_of_le hrl0 Hb2.out.size)
      obtain ⟨p0, p1⟩ := two_cells hr2
      have q0 := hr2.frozen 0
      have q1 := hr2.frozen 1
      obtain ⟨Az, cz, rfl⟩ := hrz.slice
      clear hkn hbq l0 l1 l2 l3 l4 l5 l6 he hrz
      go_wp2_with fail
      have hf := (hr2.set 0 (.slice Al nt cl)).set 1 (.slice Az z.length cz)
      obtain ⟨k0, k1⟩ := two_cells (show Blk _ _ _ [.slice Al nt cl, .slice Az z.length cz] from hf)
      have hrt : Row wq w0.heap.size 22 1 (.slice Al nt cl) t.length (u64s t) := by rw [Hnt.out]; exact Hrow.out.below Hbq.out
      clear hf hr2
      exact bodyPost_ret (v := .tuple #[.agg #[.slice Al nt cl, .slice Az z.length cz], .bool true]) (by simp [results, Tryz.results11, go_sem, k0, k1]) rfl ⟨⟨_, _, rfl, row_low ((hrt.other hrl0 _ _).other hrl0 _ _) Hb0.out.size, row_low ((Hrz.out.other hrl0 _ _).other hrl0 _ _) Hb0.out.size⟩, below_set (below_set (below_trans (below_trans Hb0.out Hb2.out) Hbq.out) (by omega) _ _) (by omega) _ _⟩
end Go.Proofs.YtinlciofhegciaaGreat

/- The same proof? The reference's walk. -/
namespace Go.Proofs.YtinlciofhegciaaGreat
open Go.RowKit

set_option maxRecDepth 100000 in
set_option maxHeartbeats 1000000 in
theorem sameP_any (A1 : Option Addr) (c1 : Nat) (L1 : List Nat) (A2 : Option Addr) (c2 : Nat) (L2 : List Nat) (A3 : Option Addr) (c3 : Nat) (L3 : List Nat) (A4 : Option Addr) (c4 : Nat) (L4 : List Nat) (w : World)
    (h1 : Nums w A1 c1 L1) (h2 : Nums w A2 c2 L2) (h3 : Nums w A3 c3 L3) (h4 : Nums w A4 c4 L4) (l1 : L1.length < 1000000) (l2 : L2.length < 1000000) (l3 : L3.length < 1000000) (l4 : L4.length < 1000000) :
    Calls Tryz.prog 12 #[.agg #[.slice A1 L1.length c1, .slice A2 L2.length c2], .agg #[.slice A3 L3.length c3, .slice A4 L4.length c4]] w fun e w' => e = .returned (.bool (decide (L1 = L3) && decide (L2 = L4))) ∧ Below w.heap.size w w' := by
  have hs1 := fun W hb => refSame_any A1 c1 L1 A3 c3 L3 W (h1.below (w1 := W) hb) (h3.below hb) l1 l3
  have hs2 := fun W hb => refSame_any A2 c2 L2 A4 c4 L4 W (h2.below (w1 := W) hb) (h4.below hb) l2 l4
  obtain ⟨n1, hn1⟩ : ∃ n, n = L1.length := ⟨_, rfl⟩
  obtain ⟨n2, hn2⟩ : ∃ n, n = L2.length := ⟨_, rfl⟩
  obtain ⟨n3, hn3⟩ : ∃ n, n = L3.length := ⟨_, rfl⟩
  obtain ⟨n4, hn4⟩ : ∃ n, n = L4.length := ⟨_, rfl⟩
  obtain ⟨r1, hr1⟩ : ∃ r, r = decide (L1 = L3) := ⟨_, rfl⟩
  obtain ⟨r2, hr2⟩ : ∃ r, r = decide (L2 = L4) := ⟨_, rfl⟩
  rw [← hr1, ← hn1, ← hn3] at hs1
  rw [← hr2, ← hn2, ← hn4] at hs2
  rw [← hr1, ← hr2, ← hn1, ← hn2, ← hn3, ← hn4]
  have hb0 : Below w.heap.size w ((w.alloc (.cells #[.slice A1 n1 c1, .slice A2 n2 c2] 36)).alloc (.cells #[.slice A3 n3 c3, .slice A4 n4 c4] 36)) := ((Below.refl _ _).alloc (Nat.le_refl _) _).alloc (by simp) _
  have Hs1 := Lib.hid hs1
  have Hs2 := Lib.hid hs2
  have Hb0 := Lib.hid hb0
  clear hs1 hs2 hb0 h1 h2 h3 h4 l1 l2 l3 l4 hn1 hn2 hn3 hn4 hr1 hr2
  cases r1 with
  | false =>
    go_enter Tryz.func12, Tryz.ntmps12
    go_wp2_with (go_at_call 39; refine (Hs1.out _ Hb0.out).mono ?_; rintro e w2 ⟨rfl, q, rfl⟩)
    go_ret
    exact ⟨rfl, below_drewN Hb0.out _⟩
  | true =>
    go_enter Tryz.func12, Tryz.ntmps12
    go_wp2_with fail
    refine (Hs1.out _ Hb0.out).mono ?_
    rintro e w2 ⟨rfl, q, rfl⟩
    go_wp2_with fail
    refine (Hs2.out _ (below_drewN Hb0.out q)).mono ?_
    rintro e w2 ⟨rfl, q2, rfl⟩
    go_wp2_with fail
    go_ret
    exact ⟨by simp, below_drewN Hb0.out _⟩
end Go.Proofs.YtinlciofhegciaaGreat

/- What is proved is the document's: the law's walk. -/
namespace Go.Proofs.YtinlciofhegciaaGreat
open Go.RowKit

/-- The cells of the law's three arguments. -/
theorem three_args {w w0 : World} {g0 c0 l0 P Q G H : Nat} {R x y l1 l2 l3 : Value} {tg tc tl : TypeId} (hg : Blk w0 g0 tg (glist P Q G H R)) (hc : Blk w0 c0 tc [x, y]) (hl : Blk w0 l0 tl [l1, l2, l3]) (hb : Below w0.heap.size w0 w) :
    (w.cell? ⟨g0, 0, none⟩ = some (.int .u64 (P : Int)) ∧ w.cell? ⟨g0, 1, none⟩ = some (.int .u64 (Q : Int)) ∧ w.cell? ⟨g0, 2, none⟩ = some (.int .u64 (G : Int)) ∧ w.cell? ⟨g0, 3, none⟩ = some (.int .u64 (H : Int)) ∧ w.cell? ⟨g0, 4, none⟩ = some R) ∧
    (w.cell? ⟨c0, 0, none⟩ = some x ∧ w.cell? ⟨c0, 1, none⟩ = some y) ∧ (w.cell? ⟨l0, 0, none⟩ = some l1 ∧ w.cell? ⟨l0, 1, none⟩ = some l2 ∧ w.cell? ⟨l0, 2, none⟩ = some l3) := by
  refine ⟨gcells (hg.below hb hg.lt), two_cells (hc.below hb hc.lt), ?_⟩
  have h := hl.below hb hl.lt
  exact ⟨by rw [h.cell]; rfl, by rw [h.cell]; rfl, by rw [h.cell]; rfl⟩

set_option maxRecDepth 100000 in
set_option maxHeartbeats 8000000 in
theorem makes_walk (P Q G H : Nat) (RB : Option Addr) (capR : Nat) (rs : List RowV) (A : Option Addr) (capT : Nat) (T : List Nat) (B : Option Addr) (capB : Nat) (cs : List NumV) (label : List UInt8) (X : Option Addr) (capX : Nat) (V : List Nat) (Y : Option Addr) (capY : Nat) (D : List Nat) (w : World)
    (hP : P < 18446744073709551616) (hQ : Q < 18446744073709551616) (hG : G < 18446744073709551616) (hH : H < 18446744073709551616) (hR : Rows3 w RB capR rs) (hRl : rs.length < 9223372036854775807) (hFl : ∀ r ∈ rs, r.F.l.length < 9223372036854775807)
    (hT : Nums w A capT T) (hC : Grid w B capB cs) (hTl : T.length < 9223372036854775807) (hCl : cs.length < 9223372036854775807) (hcl : ∀ r ∈ cs, r.l.length < 9223372036854775807) (hll : label.length < 9223372036854775807)
    (hX : Nums w X capX V) (hY : Nums w Y capY D) (hXl : V.length < 9223372036854775807) (hYl : D.length < 9223372036854775807) :
    Calls Tryz.prog 3 #[gval P Q G H (.slice RB rs.length capR), cval A capT T.length B capB cs.length, .agg #[.string (str label), .slice X V.length capX, .slice Y D.length capY]] w fun e w' => e = .returned (.bool true) ∧ Below w.heap.size w w' := by
  have hgr := fun W hb => group_any P Q G H RB capR rs W hP hQ hG hH (hR.below (w1 := W) hb) hRl hFl
  have hfw := fun W b2 c2 hb hg => few_claim A capT T B capB cs b2 c2 [⟨X, capX, V⟩, ⟨Y, capY, D⟩] W (hC.below (w1 := W) hb) hg hTl hCl (by simp) hcl (by simp [hXl, hYl])
  obtain ⟨R, hRv⟩ : ∃ R, R = Value.slice RB rs.length capR := ⟨_, rfl⟩
  have hone : R.oneCell' = true := by rw [hRv]; rfl
  rw [← hRv] at hgr
  rw [← hRv]
  clear hRv
  have hpv := fun W h1 h2 h3 hb g1 g2 g3 g4 g5 => prove_any P Q G H R label A capT T B capB cs X capX V Y capY D W hP h1 hQ h2 hG hH (hT.below (w1 := W) hb) (hC.below hb) (hX.below hb) (hY.below hb) h3 g1 g2 g3 g4 g5
  have hrp := fun W h2 h3 hb g1 g2 g3 g4 g5 => refProve_any P Q G H R label A capT T B capB cs X capX V Y capY D W hP hQ h2 hG hH (hT.below (w1 := W) hb) (hC.below hb) (hX.below hb) (hY.below hb) h3 g1 g2 g3 g4 g5
  have hho := fun W h2 hb => refHolds_any P Q G H R A capT T B capB cs X capX V W hP hQ h2 (hT.below (w1 := W) hb) (hC.below hb) (hX.below hb) hTl hCl hcl hXl
  have hac := fun W h1 h2 Y2 c2 C2 X2 d2 V2 hb hn1 hn2 g0 g1 g2 g3 g4 g5 => accept_any P Q G H R label A capT T B capB cs Y2 c2 C2 X2 d2 V2 W hP h1 hQ h2 hG hH (hT.below (w1 := W) hb) (hC.below hb) hn1 hn2 g0 g1 g2 g3 g4 g5
  unfold gval at hgr
  unfold cval at hfw
  unfold gval cval at hpv hrp hho hac ⊢
  obtain ⟨nT, hnT⟩ : ∃ n, n = T.length := ⟨_, rfl⟩
  obtain ⟨nB, hnB⟩ : ∃ n, n = cs.length := ⟨_, rfl⟩
  obtain ⟨nX, hnX⟩ : ∃ n, n = V.length := ⟨_, rfl⟩
  obtain ⟨nY, hnY⟩ : ∃ n, n = D.length := ⟨_, rfl⟩
  obtain ⟨nl, hnl⟩ : ∃ n, n = label.length := ⟨_, rfl⟩
  have hsz : (str label).size = nl := by rw [str_size, hnl]
  have hnl' : nl < 9223372036854775807 := by omega
  rw [← hnT, ← hnB] at hfw
  rw [← hnT, ← hnB, ← hnX, ← hnY] at hpv hrp
  rw [← hnT, ← hnB, ← hnX] at hho
  rw [← hnT, ← hnB] at hac
  rw [← hnT, ← hnB, ← hnX, ← hnY]
  obtain ⟨w0, hw0⟩ : ∃ w0, w0 = (((w.alloc (.cells #[.int .u64 (P : Int), .int .u64 (Q : Int), .int .u64 (G : Int), .int .u64 (H : Int), R] 25)).alloc (.cells #[.slice A nT capT, .slice B nB capB] 29)).alloc (.cells #[.string (str label), .slice X nX capX, .slice Y nY capY] 31)) := ⟨_, rfl⟩
  have hb0 : Below w.heap.size w w0 := by rw [hw0]; exact (((Below.refl _ _).alloc (Nat.le_refl _) _).alloc (by simp) _).alloc (by simp; omega) _
  have hg0 : Blk w0 w.heap.size 25 (glist P Q G H R) := by rw [hw0]; exact ((Blk.of w _ _ _ rfl).alloc _).alloc _
  have hc0 : Blk w0 (w.heap.size + 1) 29 [.slice A nT capT, .slice B nB capB] := by rw [hw0]; exact (Blk.at_new _ _ _ _ _ (by simp) rfl).alloc _
  have hl0 : Blk w0 (w.heap.size + 1 + 1) 31 [.string (str label), .slice X nX capX, .slice Y nY capY] := by rw [hw0]; exact Blk.at_new _ _ _ _ _ (by simp) rfl
  have HA := Lib.hid (fun W hb => three_args (w := W) hg0 hc0 hl0 hb)
  have Hgr := Lib.hid hgr
  have Hfw := Lib.hid hfw
  have Hpv := Lib.hid hpv
  have Hrp := Lib.hid hrp
  have Hho := Lib.hid hho
  have Hac := Lib.hid hac
  have Hb0 := Lib.hid hb0
  have Hw0 := Lib.hid hw0
  have HnT := Lib.hid hnT
  have HnB := Lib.hid hnB
  have HnX := Lib.hid hnX
  have HnY := Lib.hid hnY
  have Hnl := Lib.hid hnl
  have HX := Lib.hid hX
  have HY := Lib.hid hY
  have Hsz := Lib.hid hsz
  have hgl := hg0.lt
  have hcl0 := hc0.lt
  have hll0 := hl0.lt
  clear hgr hfw hpv hrp hho hac hb0 hg0 hc0 hl0 hw0 hnT hnB hnX hnY hnl hX hY hT hC hR hRl hFl hTl hCl hcl hXl hYl hll hsz
  go_enter Tryz.func3, Tryz.ntmps3
  go_wp2_with fail
  rw [← Hw0.out]
  refine (awake7_any _).mono ?_
  rintro e w1 ⟨rfl, hb1⟩
  obtain ⟨⟨g0, g1, g2, g3, g4⟩, ⟨f0, f1⟩, ⟨q0, q1, q2⟩⟩ := HA.out w1 hb1
  have Hb1 := Lib.hid hb1
  clear hb1
  go_wp2_with fail
  refine (Hgr.out w1 (below_trans Hb0.out Hb1.out)).mono ?_
  rintro e w2 ⟨rfl, hb2⟩
  have Hb2 := Lib.hid (below_trans Hb1.out hb2)
  obtain ⟨⟨g0, g1, g2, g3, g4⟩, ⟨f0, f1⟩, ⟨q0, q1, q2⟩⟩ := HA.out w2 Hb2.out
  clear hb2 Hb1
  cases hgb : groupB P Q G H rs with
  | false =>
    clear hgb
    go_wp2_with fail
    go_ret
    exact ⟨rfl, below_trans Hb0.out Hb2.out⟩
  | true =>
    obtain ⟨hQ5, hQm, hPQ, hrP, hrQ⟩ := group_yes hgb
    have HrP := Lib.hid hrP
    have HrQ := Lib.hid hrQ
    clear hgb hPQ hrP hrQ
    by_cases h100 : 100 < nl
    · have d1 : decide ((100 : Int) < (nl : Int)) = true := decide_eq_true (by omega)
      have hsz := Hsz.out
      go_wp2_with fail
      go_ret
      exact ⟨rfl, below_trans Hb0.out Hb2.out⟩
    have d1 : decide ((100 : Int) < (nl : Int)) = false := decide_eq_false (by omega)
    have hsz := Hsz.out
    have hgrid : Grid (w2.alloc (.cells #[.slice X nX capX, .slice Y nY capY] 26)) (some ⟨w2.heap.size, 0, none⟩) 2 [⟨X, capX, V⟩, ⟨Y, capY, D⟩] := by
      refine Grid.of_blk (rs := [⟨X, capX, V⟩, ⟨Y, capY, D⟩]) (T := 26) (Blk.at_new _ _ _ _ _ rfl ?_) ?_
      · simp [NumV.val, HnX.out, HnY.out]
      · have hb := below_trans (below_trans Hb0.out Hb2.out) ((Below.refl w2.heap.size w2).alloc (Nat.le_refl _) (.cells #[.slice X nX capX, .slice Y nY capY] 26))
        simp only [List.mem_cons, List.not_mem_nil, or_false]
        rintro r (rfl | rfl)
        · exact HX.out.below hb
        · exact HY.out.below hb
    have hfw2 := Hfw.out _ _ _ (below_trans (below_trans Hb0.out Hb2.out) ((Below.refl w2.heap.size w2).alloc (Nat.le_refl _) (.cells #[.slice X nX capX, .slice Y nY capY] 26))) hgrid
    have Hfw2 := Lib.hid hfw2
    clear hgrid hfw2
    go_wp2_with fail
    refine Hfw2.out.mono ?_
    rintro e w3 ⟨rfl, hb3⟩
    have Hb3 := Lib.hid (below_trans Hb2.out (below_trans ((Below.refl w2.heap.size w2).alloc (Nat.le_refl _) (.cells #[.slice X nX capX, .slice Y nY capY] 26)) hb3))
    obtain ⟨⟨g0, g1, g2, g3, g4⟩, ⟨f0, f1⟩, ⟨q0, q1, q2⟩⟩ := HA.out w3 Hb3.out
    clear hb3 Hfw2 Hb2
    cases hfb : fewC T cs [⟨X, capX, V⟩, ⟨Y, capY, D⟩] with
    | false =>
      clear hfb
      go_wp2_with fail
      go_ret
      exact ⟨rfl, below_trans Hb0.out Hb3.out⟩
    | true =>
      obtain ⟨b1, b2, b3, b4⟩ := fewC_yes hfb
      have b5 := b4 ⟨X, capX, V⟩ (by simp)
      have b6 := b4 ⟨Y, capY, D⟩ (by simp)
      have B1 : Hid (nT ≤ 10000) := Lib.hid (by rw [HnT.out]; omega)
      have B2 : Hid (nB ≤ 10000) := Lib.hid (by rw [HnB.out]; omega)
      have B3 : Hid (∀ r ∈ cs, r.l.length ≤ 10000) := Lib.hid (fun r hr => by have := b3 r hr; omega)
      have B5 : Hid (nX ≤ 10000) := Lib.hid (by rw [HnX.out]; dsimp only at b5; omega)
      have B6 : Hid (nY ≤ 10000) := Lib.hid (by rw [HnY.out]; dsimp only at b6; omega)
      have Hl6 : Hid (label.length ≤ 1000000) := Lib.hid (by have := Hnl.out; omega)
      clear hfb b1 b2 b3 b4 b5 b6
      obtain ⟨res, hres⟩ : ∃ r, r = proveO label P Q G H T (cs.map (·.l)) V D := ⟨_, rfl⟩
      have hp1 := Hpv.out w3 HrP.out (by omega) Hl6.out (below_trans Hb0.out Hb3.out) B1.out B2.out B3.out B5.out B6.out
      have hp2 := fun W hb => Hrp.out W (by omega) Hl6.out hb B1.out B2.out B3.out B5.out B6.out
      rw [← hres] at hp1 hp2
      have Hp1 := Lib.hid hp1
      have Hp2 := Lib.hid hp2
      have Hres := Lib.hid hres
      clear hp1 hp2 hres
      cases res with
      | none =>
        go_wp2_with fail
        refine Hp1.out.mono ?_
        rintro e w4 ⟨hout, hb4⟩
        have he : e = .returned (.tuple #[.agg #[.slice none 0 0, .slice none 0 0], .bool false]) := hout
        subst he
        have Hb4 := Lib.hid (below_trans Hb3.out hb4)
        obtain ⟨⟨g0, g1, g2, g3, g4⟩, ⟨f0, f1⟩, ⟨q0, q1, q2⟩⟩ := HA.out (w4.alloc (.cells #[.slice none 0 0, .slice none 0 0] 36)) (below_trans Hb4.out ((Below.refl _ _).alloc (Nat.le_refl _) _))
        clear hout hb4
        go_wp2_with fail
        obtain ⟨w5, hw5⟩ : ∃ W, W = w4.alloc (.cells #[.slice none 0 0, .slice none 0 0] 36) := ⟨_, rfl⟩
        rw [← hw5]
        have hb5 : Below w0.heap.size w0 w5 := by rw [hw5]; exact below_trans Hb4.out ((Below.refl _ _).alloc (Nat.le_refl _) _)
        have hk5 : Blk w5 w4.heap.size 36 [.slice none 0 0, .slice none 0 0] := by rw [hw5]; exact Blk.at_new _ _ _ _ _ rfl rfl
        have Hb5 := Lib.hid hb5
        have Hk5 := Lib.hid hk5
        have h45 : w4.heap.size < w5.heap.size := by rw [hw5]; simp
        clear hw5 hb5 hk5 Hb4
        refine (Hp2.out w5 (below_trans Hb0.out Hb5.out)).mono ?_
        rintro e w6 ⟨hout, hb6⟩
        have he : e = .returned (.tuple #[.agg #[.slice none 0 0, .slice none 0 0], .bool false]) := hout
        subst he
        have hb7 := below_trans hb6 ((Below.refl w6.heap.size w6).alloc (Nat.le_refl _) (.cells #[.slice none 0 0, .slice none 0 0] 36))
        have hk7 := Hk5.out.below hb7 h45
        obtain ⟨r0, r1⟩ := two_cells hk7
        have hk8 : Blk (w6.alloc (.cells #[.slice none 0 0, .slice none 0 0] 36)) w6.heap.size 36 [.slice none 0 0, .slice none 0 0] := Blk.at_new _ _ _ _ _ rfl rfl
        obtain ⟨s0, s1⟩ := two_cells hk8
        have Hb7 := Lib.hid (below_trans Hb5.out hb7)
        clear hout hb6 hb7 hk7 hk8
        have hsm := fun W => sameP_any none 0 [] none 0 [] none 0 [] none 0 [] W (Nums.nil _ _ _) (Nums.nil _ _ _) (Nums.nil _ _ _) (Nums.nil _ _ _) (by simp) (by simp) (by simp) (by simp)
        have Hsm := Lib.hid hsm
        clear hsm
        go_wp2_with fail
        refine (Hsm.out _).mono ?_
        rintro e w8 ⟨rfl, hb8⟩
        have Hb8 := Lib.hid (below_trans Hb7.out hb8)
        clear hb8
        go_wp2_with fail
        go_ret
        exact ⟨rfl, below_trans Hb0.out Hb8.out⟩
      | some p =>
        obtain ⟨t, z⟩ := p
        have hpb := proved_bounds Hres.out.symm
        have Hpb := Lib.hid hpb
        clear hpb
        go_wp2_with fail
        refine Hp1.out.mono ?_
        rintro e w4 ⟨⟨v1, v2, rfl, hr1, hr2⟩, hb4⟩
        obtain ⟨X1, d1', rfl, hN1⟩ := nums_of_row hr1 Hpb.out.1
        obtain ⟨X2, d2', rfl, hN2⟩ := nums_of_row hr2 Hpb.out.2.1
        have Hb4 := Lib.hid (below_trans Hb3.out hb4)
        have HN1 := Lib.hid hN1
        have HN2 := Lib.hid hN2
        obtain ⟨n1, hn1⟩ : ∃ n, n = t.length := ⟨_, rfl⟩
        obtain ⟨n2, hn2⟩ : ∃ n, n = z.length := ⟨_, rfl⟩
        dsimp only
        rw [← hn1, ← hn2]
        have Hn1 := Lib.hid hn1
        have Hn2 := Lib.hid hn2
        obtain ⟨⟨g0, g1, g2, g3, g4⟩, ⟨f0, f1⟩, ⟨q0, q1, q2⟩⟩ := HA.out (w4.alloc (.cells #[.slice X1 n1 d1', .slice X2 n2 d2'] 36)) (below_trans Hb4.out ((Below.refl _ _).alloc (Nat.le_refl _) _))
        clear hb4 hr1 hr2 hN1 hN2 hn1 hn2
        go_wp2_with fail
        obtain ⟨w5, hw5⟩ : ∃ W, W = w4.alloc (.cells #[.slice X1 n1 d1', .slice X2 n2 d2'] 36) := ⟨_, rfl⟩
        rw [← hw5]
        have hb45 : Below w4.heap.size w4 w5 := by rw [hw5]; exact (Below.refl _ _).alloc (Nat.le_refl _) _
        have hk5 : Blk w5 w4.heap.size 36 [.slice X1 n1 d1', .slice X2 n2 d2'] := by rw [hw5]; exact Blk.at_new _ _ _ _ _ rfl rfl
        have Hb45 := Lib.hid hb45
        have Hb5 := Lib.hid (below_trans Hb4.out hb45)
        have Hk5 := Lib.hid hk5
        have h45 : w4.heap.size < w5.heap.size := by rw [hw5]; simp
        clear hw5 hb45 hk5 Hb4
        refine (Hp2.out w5 (below_trans Hb0.out Hb5.out)).mono ?_
        rintro e w6 ⟨⟨v3, v4, rfl, hr1, hr2⟩, hb6⟩
        obtain ⟨X3, d3', rfl, hN3⟩ := nums_of_row hr1 Hpb.out.1
        obtain ⟨X4, d4', rfl, hN4⟩ := nums_of_row hr2 Hpb.out.2.1
        have HN3 := Lib.hid hN3
        have HN4 := Lib.hid hN4
        dsimp only
        rw [← Hn1.out, ← Hn2.out]
        have hb67 : Below w6.heap.size w6 (w6.alloc (.cells #[.slice X3 n1 d3', .slice X4 n2 d4'] 36)) := (Below.refl w6.heap.size w6).alloc (Nat.le_refl _) _
        have hb7 := below_trans hb6 hb67
        have hk7 := Hk5.out.below hb7 h45
        obtain ⟨r0, r1⟩ := two_cells hk7
        have hk8 : Blk (w6.alloc (.cells #[.slice X3 n1 d3', .slice X4 n2 d4'] 36)) w6.heap.size 36 [.slice X3 n1 d3', .slice X4 n2 d4'] := Blk.at_new _ _ _ _ _ rfl rfl
        obtain ⟨s0, s1⟩ := two_cells hk8
        have Hb57 := Lib.hid hb7
        have Hb7 := Lib.hid (below_trans Hb5.out hb7)
        have hsm := sameP_any X1 d1' t X2 d2' z X3 d3' t X4 d4' z _ ((HN1.out.below Hb45.out).below hb7) ((HN2.out.below Hb45.out).below hb7) (HN3.out.below hb67) (HN4.out.below hb67) (by have := Hpb.out.2.2.1; omega) (by have := Hpb.out.2.2.2; omega) (by have := Hpb.out.2.2.1; omega) (by have := Hpb.out.2.2.2; omega)
        rw [← Hn1.out, ← Hn2.out, decide_eq_true rfl, decide_eq_true rfl] at hsm
        have Hsm := Lib.hid hsm
        clear hb6 hb67 hb7 hk7 hk8 hr1 hr2 hN3 hN4 hsm
        go_wp2_with fail
        refine Hsm.out.mono ?_
        rintro e w8 ⟨rfl, hb8⟩
        have Hb58 := Lib.hid (below_trans Hb57.out hb8)
        have Hb8 := Lib.hid (below_trans Hb7.out hb8)
        obtain ⟨⟨g0, g1, g2, g3, g4⟩, ⟨f0, f1⟩, ⟨q0, q1, q2⟩⟩ := HA.out w8 Hb8.out
        clear hb8
        have hho := Hho.out w8 (by omega) (below_trans Hb0.out Hb8.out)
        have Hho8 := Lib.hid hho
        clear hho
        cases hh : holdsO T (imgO P Q T (cs.map (·.l)) V) with
        | false =>
          have Hh := Lib.hid hh
          clear hh
          go_wp2_with fail
          refine Hho8.out.mono ?_
          rw [Hh.out]
          rintro e w9 ⟨rfl, hb9⟩
          have Hb9 := Lib.hid (below_trans Hb8.out hb9)
          clear hb9
          go_wp2_with fail
          go_ret
          exact ⟨rfl, below_trans Hb0.out Hb9.out⟩
        | true =>
          have hacc := made_accepted HrP.out HrQ.out Hres.out.symm hh
          have Hacc := Lib.hid hacc
          have Hh := Lib.hid hh
          clear hh hacc
          go_wp2_with fail
          refine Hho8.out.mono ?_
          rw [Hh.out]
          rintro e w9 ⟨rfl, hb9⟩
          have Hb9 := Lib.hid (below_trans Hb8.out hb9)
          obtain ⟨⟨g0, g1, g2, g3, g4⟩, ⟨f0, f1⟩, ⟨q0, q1, q2⟩⟩ := HA.out w9 Hb9.out
          have hb59 := below_trans Hb58.out hb9
          obtain ⟨r0, r1⟩ := two_cells (Hk5.out.below hb59 h45)
          have hac := Hac.out w9 HrP.out (by omega) X1 d1' t X2 d2' z (below_trans Hb0.out Hb9.out) ((HN1.out.below Hb45.out).below hb59) ((HN2.out.below Hb45.out).below hb59) Hl6.out B1.out B2.out B3.out Hpb.out.2.2.1 Hpb.out.2.2.2
          rw [← Hn1.out, ← Hn2.out, Hacc.out] at hac
          have Hac9 := Lib.hid hac
          clear hb9 hb59 hac
          go_wp2_with fail
          refine Hac9.out.mono ?_
          rintro e wa ⟨rfl, hba⟩
          have Hba := Lib.hid (below_trans Hb9.out hba)
          clear hba
          go_wp2_with fail
          go_ret
          exact ⟨rfl, below_trans Hb0.out Hba.out⟩
end Go.Proofs.YtinlciofhegciaaGreat

/- Arguments, opened by their types. -/
namespace Go.Proofs.YtinlciofhegciaaGreat
open Go.ChangeShapes Go.WideShapes Go.ChangeAt Go.RowKit
section
variable {H : Type} {enc : TypeId × Value → H} {P : Program} {w : World} {r : Reach} {b : Nat} {t e : TypeId} {v : Value}
theorem arg_string (hu : P.underlying t = some .string) (hv : Value.okWide P w r b t v) (h : Rdg enc P w t v.cells.toList) : ∃ l, v = .string (str l) ∧ l.length ≤ 140737488351232 := by
  obtain ⟨s, rfl⟩ := okWide_string hu hv
  obtain ⟨s', hs, hz⟩ := rd_string hu h
  simp [Value.cells] at hs
  subst hs
  refine ⟨s.data.toList, by rw [str_of], ?_⟩
  have : s.data.toList.length = s.size := by rw [← ByteArray.size_data]; simp
  unfold reachBytes at hz
  omega
theorem cell_string {c : Value} (hu : P.underlying t = some .string) (h : Rdg enc P w t [c]) : ∃ l, c = .string (str l) ∧ l.length ≤ 140737488351232 := by
  obtain ⟨s', hs, hz⟩ := rd_string hu h
  simp only [List.cons.injEq, and_true] at hs
  subst hs
  refine ⟨s'.data.toList, by rw [str_of], ?_⟩
  have : s'.data.toList.length = s'.size := by rw [← ByteArray.size_data]; simp
  unfold reachBytes at hz
  omega
theorem arg_i64 (hu : P.underlying t = some (.int .i64)) (hv : Value.okWide P w r b t v) (h : Rdg enc P w t v.cells.toList) : ∃ n : Int, v = .int .i64 n ∧ -9223372036854775808 ≤ n ∧ n ≤ 9223372036854775807 := by
  obtain ⟨n, rfl⟩ := okWide_int hu hv
  obtain ⟨m, hm, hw⟩ := rd_int hu h
  simp [Value.cells] at hm
  subst hm
  exact ⟨n, rfl, bounds_i64 hw⟩
theorem cell_i64 {c : Value} (hu : P.underlying t = some (.int .i64)) (h : Rdg enc P w t [c]) : ∃ n : Int, c = .int .i64 n ∧ -9223372036854775808 ≤ n ∧ n ≤ 9223372036854775807 := by
  obtain ⟨m, hm, hw⟩ := rd_int hu h
  simp only [List.cons.injEq, and_true] at hm
  exact ⟨m, hm, bounds_i64 hw⟩
theorem nat_u64 {n : Int} (h : 0 ≤ n ∧ n ≤ 18446744073709551615) : ∃ m : Nat, n = (m : Int) ∧ m < 18446744073709551616 := ⟨n.toNat, by omega, by omega⟩
theorem arg_u64 (hu : P.underlying t = some (.int .u64)) (hv : Value.okWide P w r b t v) (h : Rdg enc P w t v.cells.toList) : ∃ n : Nat, v = .int .u64 (n : Int) ∧ n < 18446744073709551616 := by
  obtain ⟨n, rfl⟩ := okWide_int hu hv
  obtain ⟨m, hm, hw⟩ := rd_int hu h
  simp [Value.cells] at hm
  subst hm
  obtain ⟨m, rfl, hm⟩ := nat_u64 (bounds_u64 hw)
  exact ⟨m, rfl, hm⟩
theorem cell_u64 {c : Value} (hu : P.underlying t = some (.int .u64)) (h : Rdg enc P w t [c]) : ∃ n : Nat, c = .int .u64 (n : Int) ∧ n < 18446744073709551616 := by
  obtain ⟨m, hm, hw⟩ := rd_int hu h
  simp only [List.cons.injEq, and_true] at hm
  subst hm
  obtain ⟨m, rfl, hm⟩ := nat_u64 (bounds_u64 hw)
  exact ⟨m, rfl, hm⟩
theorem cell_strs {c : Value} (hu : P.underlying t = some (.slice e)) (he : P.underlying e = some .string) (hc : P.cellsOf e = 1) (hb : P.bytesOf e = 16) (h : Rdg enc P w t [c]) :
    ∃ A cap l, c = .slice A l.length cap ∧ Strs w A cap l ∧ (∀ x ∈ l, x.length ≤ 140737488355328) ∧ l.length ≤ 8796093022208 := by
  obtain ⟨A, cap, l, hl, hs, hz, hbs, _⟩ := rd_strs hu he hc h
  simp only [List.cons.injEq, and_true] at hl
  rw [hb] at hbs
  unfold reachBytes at hbs hz
  exact ⟨A, cap, l, hl, hs, fun x hx => by have := hz x hx; omega, by have := hs.len; omega⟩
theorem arg_strs (hu : P.underlying t = some (.slice e)) (he : P.underlying e = some .string) (hc : P.cellsOf e = 1) (hb : P.bytesOf e = 16) (hv : Value.okWide P w r b t v) (h : Rdg enc P w t v.cells.toList) :
    ∃ A cap l, v = .slice A l.length cap ∧ Strs w A cap l ∧ (∀ x ∈ l, x.length ≤ 140737488355328) ∧ l.length ≤ 8796093022208 := by
  obtain ⟨A, n, cap, rfl⟩ := okWide_slice hu hv
  exact cell_strs hu he hc hb h
theorem arg_array2 (hu : P.underlying t = some (.array 2 e)) (hc : P.cellsOf t = 2) (he : P.cellsOf e = 1) (hv : Value.okWide P w r b t v) (h : Rdg enc P w t v.cells.toList) :
    ∃ c0 c1, v = .agg #[c0, c1] ∧ Rdg enc P w e [c0] ∧ Rdg enc P w e [c1] := by
  obtain ⟨cs, rfl, hs⟩ := okWide_agg hu hv
  obtain ⟨c0, c1, hcs, h0, h1⟩ := rd_array2 hu hc he h
  exact ⟨c0, c1, by congr 1; exact Array.ext' hcs, h0, h1⟩
end
end Go.Proofs.YtinlciofhegciaaGreat

/- Arguments, opened by their types: numbers, lists of numbers, certificates, groups, claims. -/
namespace Go.Proofs.YtinlciofhegciaaGreat
open Go.ChangeShapes Go.WideShapes Go.ChangeAt Go.RowKit
section
variable {H : Type} {enc : TypeId × Value → H} {P : Program} {w : World} {r : Reach} {b : Nat} {t e : TypeId} {v : Value}
theorem okWide_struct {fs : Array Field} (ht : P.underlying t = some (.struct fs)) (h : Value.okWide P w r b t v) : ∃ cs, v = .agg cs := by
  simp only [Value.okWide, ht] at h
  obtain ⟨cs, h1, _⟩ := h
  exact ⟨cs, h1⟩
theorem rd_sl {α : Type} [Inhabited α] {cs : List Value} (R : α → List Value → Prop) (hu : P.underlying t = some (.slice e)) (hR : ∀ cells, Rdg enc P w e cells → ∃ x, R x cells) (h : Rdg enc P w t cs) :
    ∃ A cap, ∃ l : List α, cs = [.slice A l.length cap] ∧ l.length ≤ cap ∧ cap * P.bytesOf e ≤ reachBytes ∧
      (∀ (i : Nat) (x : α), l[i]? = some x → ∃ a cells, A = some a ∧ w.cells? 0 (a.add (i * P.cellsOf e)) (P.cellsOf e) = some cells ∧ R x cells) := by
  rcases rd_slice hu h with rfl | ⟨a, len, cap, rfl, hl, hb, hm, hall⟩
  · exact ⟨none, 0, [], rfl, Nat.le_refl _, by simp, fun i x hx => by simp at hx⟩
  · have each : ∀ i, ∃ x : α, i < len → ∃ cells, w.cells? 0 (a.add (i * P.cellsOf e)) (P.cellsOf e) = some cells ∧ R x cells := by
      intro i
      by_cases hi : i < len
      · obtain ⟨cells, hcc, hr⟩ := hall i hi
        obtain ⟨x, hx⟩ := hR cells hr
        exact ⟨x, fun _ => ⟨cells, hcc, hx⟩⟩
      · exact ⟨default, fun h => absurd h hi⟩
    obtain ⟨f, hf⟩ := Classical.axiomOfChoice each
    have hlen : ((List.range len).map f).length = len := by simp
    refine ⟨some a, cap, (List.range len).map f, by rw [hlen], by rw [hlen]; exact hl, hb, fun i x hx => ?_⟩
    have hi : i < len := by have := (List.getElem?_eq_some_iff.1 hx).1; simpa using this
    rw [List.getElem?_map, List.getElem?_range hi] at hx
    simp only [Option.map_some, Option.some.injEq] at hx
    subst hx
    obtain ⟨cells, h1, h2⟩ := hf i hi
    exact ⟨a, cells, rfl, h1, h2⟩
def isNum (x : Nat) (cells : List Value) : Prop := cells = [.int .u64 (x : Int)] ∧ x < 18446744073709551616
theorem rd_num {cells : List Value} (hu : P.underlying t = some (.int .u64)) (h : Rdg enc P w t cells) : ∃ x, isNum x cells := by
  obtain ⟨n, rfl, hw⟩ := rd_int hu h
  obtain ⟨m, rfl, hm⟩ := nat_u64 (bounds_u64 hw)
  exact ⟨m, rfl, hm⟩
theorem rd_nums {cs : List Value} (hu : P.underlying t = some (.slice e)) (he : P.underlying e = some (.int .u64)) (hc : P.cellsOf e = 1) (hb : P.bytesOf e = 8) (h : Rdg enc P w t cs) :
    ∃ A cap l, cs = [.slice A l.length cap] ∧ Nums w A cap l ∧ l.length ≤ 17592186044416 := by
  obtain ⟨A, cap, l, rfl, hl, hbs, hall⟩ := rd_sl isNum hu (fun cells => rd_num he) h
  rw [hb] at hbs
  unfold reachBytes at hbs
  refine ⟨A, cap, l, rfl, ⟨hl, fun i x hx => ?_, fun x hx => ?_⟩, by omega⟩
  · obtain ⟨a, cells, rfl, hcc, rfl, _⟩ := hall i x hx
    rw [hc, Nat.mul_one] at hcc
    obtain ⟨u, hu, hcell⟩ := cells_one hcc
    simp only [List.cons.injEq, and_true] at hu
    subst hu
    exact ⟨a, rfl, hcell⟩
  · obtain ⟨i, hi⟩ := List.mem_iff_getElem?.1 hx
    obtain ⟨_, _, _, _, _, h⟩ := hall i x hi
    exact h
def isNums (w : World) (r : NumV) (cells : List Value) : Prop := cells = [r.val] ∧ Nums w r.A r.cap r.l ∧ r.l.length ≤ 17592186044416
instance : Inhabited NumV := ⟨⟨none, 0, []⟩⟩
theorem rd_isNums {cells : List Value} (hu : P.underlying t = some (.slice e)) (he : P.underlying e = some (.int .u64)) (hc : P.cellsOf e = 1) (hb : P.bytesOf e = 8) (h : Rdg enc P w t cells) : ∃ r, isNums w r cells := by
  obtain ⟨A, cap, l, rfl, hn, hl⟩ := rd_nums hu he hc hb h
  exact ⟨⟨A, cap, l⟩, rfl, hn, hl⟩
theorem rd_grid {t2 : TypeId} {cs : List Value} (hu2 : P.underlying t2 = some (.slice t)) (hc2 : P.cellsOf t = 1) (hb2 : P.bytesOf t = 24) (hu : P.underlying t = some (.slice e)) (he : P.underlying e = some (.int .u64)) (hc : P.cellsOf e = 1) (hb : P.bytesOf e = 8) (h : Rdg enc P w t2 cs) :
    ∃ B cap rs, cs = [.slice B rs.length cap] ∧ Grid w B cap rs ∧ rs.length ≤ 17592186044416 ∧ ∀ r ∈ rs, r.l.length ≤ 17592186044416 := by
  obtain ⟨A, cap, l, rfl, hl, hbs, hall⟩ := rd_sl (isNums w) hu2 (fun cells => rd_isNums hu he hc hb) h
  rw [hb2] at hbs
  unfold reachBytes at hbs
  refine ⟨A, cap, l, rfl, ⟨hl, fun i x hx => ?_, fun x hx => ?_⟩, by omega, fun x hx => ?_⟩
  · obtain ⟨a, cells, rfl, hcc, rfl, _⟩ := hall i x hx
    rw [hc2, Nat.mul_one] at hcc
    obtain ⟨u, hu, hcell⟩ := cells_one hcc
    simp only [List.cons.injEq, and_true] at hu
    subst hu
    exact ⟨a, rfl, hcell⟩
  · obtain ⟨i, hi⟩ := List.mem_iff_getElem?.1 hx
    obtain ⟨_, _, _, _, _, h, _⟩ := hall i x hi
    exact h
  · obtain ⟨i, hi⟩ := List.mem_iff_getElem?.1 hx
    obtain ⟨_, _, _, _, _, _, h⟩ := hall i x hi
    exact h
theorem add_at (a : Addr) (i : Nat) (h : i ≠ 0) : a.add i = ⟨a.block, a.off + i, none⟩ := by unfold Addr.add; rw [if_neg h]
end
def isRow (w : World) (r : RowV) (cells : List Value) : Prop := cells = [.int .u64 (r.N : Int), .int .u64 (r.A : Int), r.F.val] ∧ (Nums w r.F.A r.F.cap r.F.l ∧ r.N < 18446744073709551616 ∧ r.A < 18446744073709551616) ∧ r.F.l.length ≤ 17592186044416
instance : Inhabited RowV := ⟨⟨0, 0, default⟩⟩
section
variable {H : Type} {enc : TypeId × Value → H} {w : World} {r : Reach} {b : Nat} {v : Value}
theorem Tryz.cellsRow : Tryz.prog.cellsOf 70 = 3 := by kernel_rfl
theorem Tryz.bytesRow : Tryz.prog.bytesOf 70 = 40 := by kernel_rfl
theorem Tryz.cellsU : Tryz.prog.cellsOf 22 = 1 := by kernel_rfl
theorem Tryz.bytesU : Tryz.prog.bytesOf 22 = 8 := by kernel_rfl
theorem Tryz.cellsN : Tryz.prog.cellsOf 26 = 1 := by kernel_rfl
theorem Tryz.bytesN : Tryz.prog.bytesOf 26 = 24 := by kernel_rfl
theorem Tryz.cellsG : Tryz.prog.cellsOf 25 = 5 := by kernel_rfl
theorem Tryz.cellsC : Tryz.prog.cellsOf 29 = 2 := by kernel_rfl
theorem Tryz.cellsRs : Tryz.prog.cellsOf 23 = 1 := by kernel_rfl
theorem Tryz.cellsNN : Tryz.prog.cellsOf 27 = 1 := by kernel_rfl
theorem three_of {cs : List Value} (h : cs.length = 3) : ∃ a b c, cs = [a, b, c] := by
  match cs, h with
  | [a, b, c], _ => exact ⟨a, b, c, rfl⟩
theorem five_of {cs : List Value} (h : cs.length = 5) : ∃ a b c d e, cs = [a, b, c, d, e] := by
  match cs, h with
  | [a, b, c, d, e], _ => exact ⟨a, b, c, d, e, rfl⟩
theorem two_of {cs : List Value} (h : cs.length = 2) : ∃ a b, cs = [a, b] := by
  match cs, h with
  | [a, b], _ => exact ⟨a, b, rfl⟩
theorem rd_isRow {cells : List Value} (h : Rdg enc Tryz.prog w 70 cells) : ∃ r, isRow w r cells := by
  obtain ⟨hl, hf⟩ := rd_struct Tryz.underlying70 h
  rw [Tryz.cellsRow] at hl
  obtain ⟨c0, c1, c2, rfl⟩ := three_of hl
  have h0 : Rdg enc Tryz.prog w 22 (([c0, c1, c2].drop 0).take (Tryz.prog.cellsOf 22)) := hf 0 _ rfl
  have h1 : Rdg enc Tryz.prog w 22 (([c0, c1, c2].drop 1).take (Tryz.prog.cellsOf 22)) := hf 1 _ rfl
  have h2 : Rdg enc Tryz.prog w 26 (([c0, c1, c2].drop 2).take (Tryz.prog.cellsOf 26)) := hf 2 _ rfl
  rw [Tryz.cellsU] at h0 h1
  rw [Tryz.cellsN] at h2
  simp only [List.drop_zero, List.drop_succ_cons, List.take_succ_cons, List.take_zero] at h0 h1 h2
  obtain ⟨n, hn, hnb⟩ := rd_num Tryz.underlying22 h0
  obtain ⟨m, hm, hmb⟩ := rd_num Tryz.underlying22 h1
  obtain ⟨f, hfv, hfn, hfl⟩ := rd_isNums Tryz.underlying26 Tryz.underlying22 Tryz.cellsU Tryz.bytesU h2
  simp only [List.cons.injEq, and_true] at hn hm hfv
  subst hn hm hfv
  exact ⟨⟨n, m, f⟩, rfl, ⟨hfn, hnb, hmb⟩, hfl⟩
theorem rd_rows {cs : List Value} (h : Rdg enc Tryz.prog w 23 cs) :
    ∃ B cap rs, cs = [.slice B rs.length cap] ∧ Rows3 w B cap rs ∧ rs.length ≤ 17592186044416 ∧ ∀ r ∈ rs, r.F.l.length ≤ 17592186044416 := by
  obtain ⟨A, cap, l, rfl, hl, hbs, hall⟩ := rd_sl (isRow w) Tryz.underlying23 (fun cells => rd_isRow) h
  rw [Tryz.bytesRow] at hbs
  unfold reachBytes at hbs
  refine ⟨A, cap, l, rfl, ⟨hl, fun i x hx => ?_, fun x hx => ?_⟩, by omega, fun x hx => ?_⟩
  · obtain ⟨a, cells, rfl, hcc, rfl, _⟩ := hall i x hx
    rw [Tryz.cellsRow] at hcc
    obtain ⟨_, hg⟩ := cells_get hcc
    have k0 := hg 0 _ rfl
    have k1 := hg 1 _ rfl
    have k2 := hg 2 _ rfl
    rw [addr_zero] at k0
    rw [add_at _ 1 (by omega)] at k1
    rw [add_at _ 2 (by omega)] at k2
    exact ⟨a, rfl, k0, k1, k2⟩
  · obtain ⟨i, hi⟩ := List.mem_iff_getElem?.1 hx
    obtain ⟨_, _, _, _, _, h, _⟩ := hall i x hi
    exact h
  · obtain ⟨i, hi⟩ := List.mem_iff_getElem?.1 hx
    obtain ⟨_, _, _, _, _, _, h⟩ := hall i x hi
    exact h
set_option maxRecDepth 100000 in
/-- A group as an argument. -/
theorem arg_group (hv : Value.okWide Tryz.prog w r b 25 v) (h : Rdg enc Tryz.prog w 25 v.cells.toList) :
    ∃ P Q G K B cap rs, v = gval P Q G K (.slice B rs.length cap) ∧ P < 18446744073709551616 ∧ Q < 18446744073709551616 ∧ G < 18446744073709551616 ∧ K < 18446744073709551616 ∧ Rows3 w B cap rs ∧ rs.length ≤ 17592186044416 ∧ ∀ r ∈ rs, r.F.l.length ≤ 17592186044416 := by
  obtain ⟨cs, rfl⟩ := okWide_struct Tryz.underlying25 hv
  obtain ⟨hl, hf⟩ := rd_struct Tryz.underlying25 h
  rw [Tryz.cellsG] at hl
  have hcs : (Value.agg cs).cells = cs := rfl
  rw [hcs] at hl hf
  obtain ⟨c0, c1, c2, c3, c4, hc⟩ := five_of hl
  rw [hc] at hf
  have h0 : Rdg enc Tryz.prog w 22 (([c0, c1, c2, c3, c4].drop 0).take (Tryz.prog.cellsOf 22)) := hf 0 _ rfl
  have h1 : Rdg enc Tryz.prog w 22 (([c0, c1, c2, c3, c4].drop 1).take (Tryz.prog.cellsOf 22)) := hf 1 _ rfl
  have h2 : Rdg enc Tryz.prog w 22 (([c0, c1, c2, c3, c4].drop 2).take (Tryz.prog.cellsOf 22)) := hf 2 _ rfl
  have h3 : Rdg enc Tryz.prog w 22 (([c0, c1, c2, c3, c4].drop 3).take (Tryz.prog.cellsOf 22)) := hf 3 _ rfl
  have h4 : Rdg enc Tryz.prog w 23 (([c0, c1, c2, c3, c4].drop 4).take (Tryz.prog.cellsOf 23)) := hf 4 _ rfl
  rw [Tryz.cellsU] at h0 h1 h2 h3
  rw [Tryz.cellsRs] at h4
  simp only [List.drop_zero, List.drop_succ_cons, List.take_succ_cons, List.take_zero] at h0 h1 h2 h3 h4
  obtain ⟨n0, e0, b0⟩ := rd_num Tryz.underlying22 h0
  obtain ⟨n1, e1, b1⟩ := rd_num Tryz.underlying22 h1
  obtain ⟨n2, e2, b2⟩ := rd_num Tryz.underlying22 h2
  obtain ⟨n3, e3, b3⟩ := rd_num Tryz.underlying22 h3
  obtain ⟨B, cap, rs, e4, hr, hrl, hfl⟩ := rd_rows h4
  simp only [List.cons.injEq, and_true] at e0 e1 e2 e3 e4
  subst e0 e1 e2 e3 e4
  exact ⟨n0, n1, n2, n3, B, cap, rs, by rw [gval]; congr 1; exact Array.ext' hc, b0, b1, b2, b3, hr, hrl, hfl⟩
set_option maxRecDepth 100000 in
/-- A claim as an argument. -/
theorem arg_claim (hv : Value.okWide Tryz.prog w r b 29 v) (h : Rdg enc Tryz.prog w 29 v.cells.toList) :
    ∃ A cT T B cB rs, v = .agg #[.slice A (List.length T) cT, .slice B (List.length rs) cB] ∧ Nums w A cT T ∧ Grid w B cB rs ∧ T.length ≤ 17592186044416 ∧ rs.length ≤ 17592186044416 ∧ ∀ r ∈ rs, r.l.length ≤ 17592186044416 := by
  obtain ⟨cs, rfl⟩ := okWide_struct Tryz.underlying29 hv
  obtain ⟨hl, hf⟩ := rd_struct Tryz.underlying29 h
  rw [Tryz.cellsC] at hl
  have hcs : (Value.agg cs).cells = cs := rfl
  rw [hcs] at hl hf
  obtain ⟨c0, c1, hc⟩ := two_of hl
  rw [hc] at hf
  have h0 : Rdg enc Tryz.prog w 26 (([c0, c1].drop 0).take (Tryz.prog.cellsOf 26)) := hf 0 _ rfl
  have h1 : Rdg enc Tryz.prog w 27 (([c0, c1].drop 1).take (Tryz.prog.cellsOf 27)) := hf 1 _ rfl
  rw [Tryz.cellsN] at h0
  rw [Tryz.cellsNN] at h1
  simp only [List.drop_zero, List.drop_succ_cons, List.take_succ_cons, List.take_zero] at h0 h1
  obtain ⟨A, cT, T, e0, hT, hTl⟩ := rd_nums Tryz.underlying26 Tryz.underlying22 Tryz.cellsU Tryz.bytesU h0
  obtain ⟨B, cB, rs, e1, hG, hGl, hrl⟩ := rd_grid Tryz.underlying27 Tryz.cellsN Tryz.bytesN Tryz.underlying26 Tryz.underlying22 Tryz.cellsU Tryz.bytesU h1
  simp only [List.cons.injEq, and_true] at e0 e1
  subst e0 e1
  exact ⟨A, cT, T, B, cB, rs, by congr 1; exact Array.ext' hc, hT, hG, hTl, hGl, hrl⟩
end
end Go.Proofs.YtinlciofhegciaaGreat

/- Arguments of chapter 07: a label and two lists. -/
namespace Go.Proofs.YtinlciofhegciaaGreat
open Go.ChangeShapes Go.WideShapes Go.ChangeAt Go.RowKit
section
variable {H : Type} {enc : TypeId × Value → H} {w : World} {r : Reach} {b : Nat} {v : Value}
theorem Tryz.cellsL : Tryz.prog.cellsOf 31 = 3 := by kernel_rfl
theorem Tryz.cellsS : Tryz.prog.cellsOf 9 = 1 := by kernel_rfl
set_option maxRecDepth 100000 in
theorem arg_labelled (hv : Value.okWide Tryz.prog w r b 31 v) (h : Rdg enc Tryz.prog w 31 v.cells.toList) :
    ∃ l A cA V B cB D, v = .agg #[.string (str l), .slice A (List.length V) cA, .slice B (List.length D) cB] ∧ l.length ≤ 140737488351232 ∧ Nums w A cA V ∧ Nums w B cB D ∧ V.length ≤ 17592186044416 ∧ D.length ≤ 17592186044416 := by
  obtain ⟨cs, rfl⟩ := okWide_struct Tryz.underlying31 hv
  obtain ⟨hl, hf⟩ := rd_struct Tryz.underlying31 h
  rw [Tryz.cellsL] at hl
  have hcs : (Value.agg cs).cells = cs := rfl
  rw [hcs] at hl hf
  obtain ⟨c0, c1, c2, hc⟩ := three_of hl
  rw [hc] at hf
  have h0 : Rdg enc Tryz.prog w 9 (([c0, c1, c2].drop 0).take (Tryz.prog.cellsOf 9)) := hf 0 _ rfl
  have h1 : Rdg enc Tryz.prog w 26 (([c0, c1, c2].drop 1).take (Tryz.prog.cellsOf 26)) := hf 1 _ rfl
  have h2 : Rdg enc Tryz.prog w 26 (([c0, c1, c2].drop 2).take (Tryz.prog.cellsOf 26)) := hf 2 _ rfl
  rw [Tryz.cellsS] at h0
  rw [Tryz.cellsN] at h1 h2
  simp only [List.drop_zero, List.drop_succ_cons, List.take_succ_cons, List.take_zero] at h0 h1 h2
  obtain ⟨l, e0, hll⟩ := cell_string Tryz.underlying9 h0
  obtain ⟨A, cA, V, e1, hV, hVl⟩ := rd_nums Tryz.underlying26 Tryz.underlying22 Tryz.cellsU Tryz.bytesU h1
  obtain ⟨B, cB, D, e2, hD, hDl⟩ := rd_nums Tryz.underlying26 Tryz.underlying22 Tryz.cellsU Tryz.bytesU h2
  simp only [List.cons.injEq, and_true] at e1 e2
  subst e0 e1 e2
  exact ⟨l, A, cA, V, B, cB, D, by congr 1; exact Array.ext' hc, hll, hV, hD, hVl, hDl⟩
end
end Go.Proofs.YtinlciofhegciaaGreat

/- Is a talk accepted? The reference's walk. -/
namespace Go.Proofs.YtinlciofhegciaaGreat
open Go.RowKit

set_option maxRecDepth 100000 in
set_option maxHeartbeats 4000000 in
theorem refAccepts_any (P Q G H E : Nat) (R : Value) (A : Option Addr) (capT : Nat) (T : List Nat) (B : Option Addr) (capB : Nat) (rs : List NumV) (Y : Option Addr) (capY : Nat) (C : List Nat) (X : Option Addr) (capX : Nat) (V : List Nat) (w : World) (hP : P < 18446744073709551616) (hQ : Q < 18446744073709551616) (hQ2 : 2 ≤ Q) (hE : E < 18446744073709551616) (hT : Nums w A capT T) (hR : Grid w B capB rs) (hY : Nums w Y capY C) (hX : Nums w X capX V)
    (hTl : T.length < 9223372036854775807) (hRl : rs.length < 9223372036854775807) (hrl : ∀ r ∈ rs, r.l.length < 9223372036854775807) (hYl : C.length < 9223372036854775807) (hXl : V.length < 9223372036854775807) :
    Calls Tryz.prog 41 #[gval P Q G H R, cval A capT T.length B capB rs.length, .slice Y C.length capY, .int .u64 (E : Int), .slice X V.length capX] w fun e w' => e = .returned (.bool (match imgO P Q T (rs.map (·.l)) V with | none => false | some l => decide (C.length = T.length) && accUpto P Q E l T C T.length)) ∧ Below w.heap.size w w' := by
  have himg := fun W0 hb => refImage_any P Q G H R A capT T B capB rs X capX V W0 hP hQ hQ2 (hT.below (w1 := W0) hb) (hR.below hb) (hX.below hb) hTl hRl hrl hXl
  unfold gval cval at himg ⊢
  obtain ⟨nT, hnT⟩ : ∃ n, n = T.length := ⟨_, rfl⟩
  obtain ⟨nB, hnB⟩ : ∃ n, n = rs.length := ⟨_, rfl⟩
  obtain ⟨nY, hnY⟩ : ∃ n, n = C.length := ⟨_, rfl⟩
  obtain ⟨nX, hnX⟩ : ∃ n, n = V.length := ⟨_, rfl⟩
  have hb0 : Below w.heap.size w ((w.alloc (.cells #[.int .u64 (P : Int), .int .u64 (Q : Int), .int .u64 (G : Int), .int .u64 (H : Int), R] 25)).alloc (.cells #[.slice A nT capT, .slice B nB capB] 29)) :=
    ((Below.refl _ _).alloc (Nat.le_refl _) _).alloc (by simp) _
  have hg0 : Blk ((w.alloc (.cells #[.int .u64 (P : Int), .int .u64 (Q : Int), .int .u64 (G : Int), .int .u64 (H : Int), R] 25)).alloc (.cells #[.slice A nT capT, .slice B nB capB] 29)) w.heap.size 25 (glist P Q G H R) :=
    (Blk.of w _ _ _ rfl).alloc _
  have hc0 : Blk ((w.alloc (.cells #[.int .u64 (P : Int), .int .u64 (Q : Int), .int .u64 (G : Int), .int .u64 (H : Int), R] 25)).alloc (.cells #[.slice A nT capT, .slice B nB capB] 29)) (w.heap.size + 1) 29 [.slice A nT capT, .slice B nB capB] := by
    have := Blk.of (w.alloc (.cells #[.int .u64 (P : Int), .int .u64 (Q : Int), .int .u64 (G : Int), .int .u64 (H : Int), R] 25)) 29 #[.slice A nT capT, .slice B nB capB] _ rfl
    rwa [show (w.alloc (.cells #[.int .u64 (P : Int), .int .u64 (Q : Int), .int .u64 (G : Int), .int .u64 (H : Int), R] 25)).heap.size = w.heap.size + 1 by simp] at this
  have himg0 := himg _ hb0
  have hT0 := hT.below hb0
  have hY0 := hY.below hb0
  obtain ⟨res, hres⟩ : ∃ s, s = imgO P Q T (rs.map (·.l)) V := ⟨_, rfl⟩
  rw [← hnT, ← hnB, ← hnX, ← hres] at himg0
  rw [← hnT, ← hnB, ← hnX, ← hnY, ← hres]
  have Himg := Lib.hid himg0
  have Hb0 := Lib.hid hb0
  have Hg0 := Lib.hid hg0
  have Hc0 := Lib.hid hc0
  have HT0 := Lib.hid hT0
  have HY0 := Lib.hid hY0
  have HnT := Lib.hid hnT
  have HnY := Lib.hid hnY
  have hYl' : nY < 9223372036854775807 := by omega
  have Hres := Lib.hid hres
  clear himg himg0 hb0 hg0 hc0 hT0 hY0 hT hR hY hX hTl hRl hrl hYl hXl hnT hnB hnY hnX hres
  cases res with
  | none =>
    go_enter Tryz.func41, Tryz.ntmps41
    go_wp2_with (go_at_call 36; refine Himg.out.mono ?_; rintro e w2 ⟨hout, hb2⟩; have he : e = .returned (.tuple #[.slice none 0 0, .bool false]) := hout; clear hout; subst he; have Hb2 := Lib.hid hb2; clear hb2)
    go_ret
    exact ⟨rfl, below_trans Hb0.out Hb2.out⟩
  | some l =>
    obtain ⟨hlb, hlT, hl64⟩ := img_bound Hres.out.symm
    have HlT := Lib.hid hlT
    have Hlb := Lib.hid hlb
    have hT64 : nT ≤ 64 := by rw [HnT.out, ← hlT]; exact hl64
    clear hlb hlT hl64
    by_cases h1 : nY = nT
    case neg =>
      have d1 : ((nY : Int) != (nT : Int)) = true := by rw [bne_iff_ne]; omega
      rw [show (match some l with | none => false | some l => decide (nY = nT) && accUpto P Q E l T C nT) = false from by simp [h1]]
      clear h1
      go_enter Tryz.func41, Tryz.ntmps41
      go_wp2_with (go_at_call 36; refine Himg.out.mono ?_; rintro e w2 ⟨⟨v, rfl, hrow⟩, hb2⟩; obtain ⟨f0, f1⟩ := two_cells (Hc0.out.below hb2 Hc0.out.lt); have Hb2 := Lib.hid hb2; clear hb2 hrow)
      go_ret
      exact ⟨rfl, below_trans Hb0.out Hb2.out⟩
    subst h1
    obtain ⟨rr, hrr⟩ : ∃ rr, rr = accUpto P Q E l T C nY := ⟨_, rfl⟩
    rw [show (match some l with | none => false | some l => decide (nY = nY) && accUpto P Q E l T C nY) = rr from by simp [hrr]]
    have Hrr := Lib.hid hrr
    clear hrr
    go_enter Tryz.func41, Tryz.ntmps41
    go_wp2_with (go_at_call 36; refine Himg.out.mono ?_; rintro e w2 ⟨⟨v, rfl, hrow⟩, hb2⟩; obtain ⟨f0, f1⟩ := two_cells (Hc0.out.below hb2 Hc0.out.lt); obtain ⟨Al, cl, rfl, hN⟩ := nums_of_row hrow Hlb.out; have HN := Lib.hid hN; rw [HlT.out, ← HnT.out] ; have Hb2 := Lib.hid hb2; clear hb2 hrow hN)
    have HG2 := Lib.hid (Hg0.out.below Hb2.out Hg0.out.lt)
    have HC2 := Lib.hid (Hc0.out.below Hb2.out Hc0.out.lt)
    have HT2 := Lib.hid (HT0.out.below Hb2.out)
    have HY2 := Lib.hid (HY0.out.below Hb2.out)
    have Hb02 := Lib.hid (below_trans Hb0.out Hb2.out)
    have hgl := HG2.out.lt
    have hcl := HC2.out.lt
    clear Hg0 Hc0 HT0 HY0 Hb0 Hb2 Himg f0 f1
    go_loopw [13] (fun iv wr => ∃ j : Nat, iv = .int .i64 (j : Int) ∧ j ≤ nY ∧ accUpto P Q E l T C j = true ∧ Below w2.heap.size w2 wr) (fun iv _ => nY - (intOf iv).toNat)
    case atStart => exact ⟨0, rfl, by omega, by simp [accUpto], Below.refl _ _⟩
    case round =>
      obtain ⟨j, rfl, hj, hacc, hbr⟩ := hrel
      have Hacc := Lib.hid hacc
      have Hbr := Lib.hid hbr
      clear hacc hbr
      by_cases hjl : j < nY
      · have d6 : decide ((j : Int) < (nY : Int)) = true := decide_eq_true (by omega)
        have hji : (j : Int) < (nY : Int) := by omega
        obtain ⟨g0, g1, g2, g3, g4⟩ := gcells (HG2.out.below Hbr.out hgl)
        obtain ⟨f0, f1⟩ := two_cells (HC2.out.below Hbr.out hcl)
        obtain ⟨t, ht⟩ : ∃ t, C[j]? = some t := ⟨_, List.getElem?_eq_getElem (by rw [← HnY.out]; exact hjl)⟩
        obtain ⟨ay, hAy, htc⟩ := HY2.out.cells j t ht
        subst hAy
        have htc := below_cell Hbr.out htc
        have hts := HY2.out.small t (List.mem_of_getElem? ht)
        obtain ⟨c, hc⟩ : ∃ c, T[j]? = some c := ⟨_, List.getElem?_eq_getElem (by rw [← HnT.out]; exact hjl)⟩
        obtain ⟨ac, hAc, hcc⟩ := HT2.out.cells j c hc
        subst hAc
        have hcc := below_cell Hbr.out hcc
        have hcs := HT2.out.small c (List.mem_of_getElem? hc)
        obtain ⟨x, hx⟩ : ∃ x, l[j]? = some x := ⟨_, List.getElem?_eq_getElem (by rw [HlT.out, ← HnT.out]; exact hjl)⟩
        obtain ⟨al, hAl, hxc⟩ := HN.out.cells j x hx
        subst hAl
        have hxc := below_cell Hbr.out hxc
        have hxs := Hlb.out x (List.mem_of_getElem? hx)
        have heb : expG P Q c E < 18446744073709551616 := by have := powM_le c (E % Q) P; show powM _ _ _ < _; omega
        have hcon := fun W => refIn_any P Q G H t R W hP hQ hts
        have hcon1 := fun W => refExp_any P Q G H c E R W hP hQ hQ2 hcs hE
        have hcon2 := fun W => refMul_any t (expG P Q c E) P W hts heb hP
        have hyes := accUpto_next (P := P) (Q := Q) (E := E) hx hc ht Hacc.out
        have hno := accUpto_no (P := P) (Q := Q) (E := E) hjl hx hc ht
        have hat : accAt P Q E x c t = (inG P Q t && decide (x = mulM t (expG P Q c E) P)) := rfl
        obtain ⟨F, hF⟩ : ∃ F, F = expG P Q c E := ⟨_, rfl⟩
        rw [← hF] at hcon1 hcon2 hat
        obtain ⟨M, hM⟩ : ∃ M, M = mulM t F P := ⟨_, rfl⟩
        rw [← hM] at hcon2 hat
        have Hyes := Lib.hid hyes
        have Hno := Lib.hid hno
        have l0 := Later.cell g0
        have l1 := Later.cell g1
        have l2 := Later.cell g2
        have l3 := Later.cell g3
        have l4 := Later.cell g4
        have l5 := Later.cell f0
        have l6 := Later.cell htc
        have l7 := Later.cell hxc
        have l8 := Later.cell hcc
        clear ht hc hx hF hM hyes hno heb
        cases hin : inG P Q t with
        | false =>
          have hres : rr = false := by rw [Hrr.out]; exact Hno.out (by rw [hat, hin]; rfl)
          subst hres
          rw [hin] at hcon
          clear hat hin
          go_wp2_with fail
          (refine region_calm (by kernel_rfl) (by kernel_rfl) ?_; (repeat (go_big_quiet_step ((first | (go_at_call 16; exact calm_of (hcon _)) | (go_at_call 45; exact calm_of (hcon1 _)) | (go_at_call 59; exact calm_same (hcon2 _)))))); refine wpQuiet_nil ?_; intro wq hw'; obtain ⟨pq, hpq⟩ := hw'; have hbq := pq.below; rw [← hpq] at hbq; clear hpq pq; try dsimp only)
          have Hbq := Lib.hid hbq
          clear hbq l0 l1 l2 l3 l4 l5 l6 l7 l8 hcon hcon1 hcon2
          go_wp2_with fail
          go_ret
          exact ⟨rfl, below_trans Hb02.out (below_trans Hbr.out Hbq.out)⟩
        | true =>
          rw [hin] at hcon
          by_cases hxm : x = M
          · have d7 : ((x : Int) != (M : Int)) = false := by rw [bne_eq_false_iff_eq]; omega
            have hnx := Hyes.out (by rw [hat, hin, hxm]; simp)
            have Hnx := Lib.hid hnx
            clear hat hin hnx hxm
            go_wp2_with fail
            (refine region_calm (by kernel_rfl) (by kernel_rfl) ?_; (repeat (go_big_quiet_step ((first | (go_at_call 16; exact calm_of (hcon _)) | (go_at_call 45; exact calm_of (hcon1 _)) | (go_at_call 59; exact calm_same (hcon2 _)))))); refine wpQuiet_nil ?_; intro wq hw'; obtain ⟨pq, hpq⟩ := hw'; have hbq := pq.below; rw [← hpq] at hbq; clear hpq pq; try dsimp only)
            have Hbq := Lib.hid hbq
            clear hbq l0 l1 l2 l3 l4 l5 l6 l7 l8 hcon hcon1 hcon2
            go_wp2_with fail
            go_roundw
            case rel => exact ⟨j + 1, by go_num, by omega, Hnx.out, below_trans Hbr.out Hbq.out⟩
            case measure => simp [intOf]; omega
          · have d7 : ((x : Int) != (M : Int)) = true := by rw [bne_iff_ne]; omega
            have hres : rr = false := by rw [Hrr.out]; exact Hno.out (by rw [hat, decide_eq_false hxm]; simp)
            subst hres
            clear hat hin hxm
            go_wp2_with fail
            (refine region_calm (by kernel_rfl) (by kernel_rfl) ?_; (repeat (go_big_quiet_step ((first | (go_at_call 16; exact calm_of (hcon _)) | (go_at_call 45; exact calm_of (hcon1 _)) | (go_at_call 59; exact calm_same (hcon2 _)))))); refine wpQuiet_nil ?_; intro wq hw'; obtain ⟨pq, hpq⟩ := hw'; have hbq := pq.below; rw [← hpq] at hbq; clear hpq pq; try dsimp only)
            have Hbq := Lib.hid hbq
            clear hbq l0 l1 l2 l3 l4 l5 l6 l7 l8 hcon hcon1 hcon2
            go_wp2_with fail
            go_ret
            exact ⟨rfl, below_trans Hb02.out (below_trans Hbr.out Hbq.out)⟩
      · have d6 : decide ((j : Int) < (nY : Int)) = false := decide_eq_false (by omega)
        have hres : rr = true := by rw [Hrr.out, ← Hacc.out, show j = nY by omega]
        subst hres
        go_wp2_with fail
        go_ret
        exact ⟨rfl, below_trans Hb02.out Hbr.out⟩
end Go.Proofs.YtinlciofhegciaaGreat

/- Is a proof accepted? The reference's walk. -/
namespace Go.Proofs.YtinlciofhegciaaGreat
open Go.RowKit Go.BigFrame


set_option maxRecDepth 100000 in
set_option maxHeartbeats 4000000 in
theorem refAccept_any (P Q G H : Nat) (R : Value) (label : List UInt8) (A : Option Addr) (capT : Nat) (T : List Nat) (B : Option Addr) (capB : Nat) (rs : List NumV) (Y : Option Addr) (capY : Nat) (C : List Nat) (X : Option Addr) (capX : Nat) (V : List Nat) (w : World) (hP : P < 18446744073709551616) (hQ : Q < 18446744073709551616) (hQ2 : 2 ≤ Q) (hG : G < 18446744073709551616) (hH : H < 18446744073709551616) (hT : Nums w A capT T) (hR : Grid w B capB rs) (hY : Nums w Y capY C) (hX : Nums w X capX V)
    (hl : label.length ≤ 1000000) (hTl : T.length ≤ 10000) (hRl : rs.length ≤ 10000) (hrl : ∀ r ∈ rs, r.l.length ≤ 10000) (hYl : C.length ≤ 10000) (hXl : V.length ≤ 10000) :
    Calls Tryz.prog 15 #[gval P Q G H R, .string (str label), cval A capT T.length B capB rs.length, .agg #[.slice Y C.length capY, .slice X V.length capX]] w fun e w' => e = .returned (.bool (acceptB label P Q G H T (rs.map (·.l)) C V)) ∧ Below w.heap.size w w' := by
  obtain ⟨E, hE⟩ : ∃ E, E = chal label P Q G H T (rs.map (·.l)) C := ⟨_, rfl⟩
  have hEl : E < 18446744073709551616 := by rw [hE]; exact chal_lt _ _ _ _ _ _ _ _
  obtain ⟨out, hout⟩ : ∃ s, s = acceptB label P Q G H T (rs.map (·.l)) C V := ⟨_, rfl⟩
  have hac := fun W0 hb => (refAccepts_any P Q G H E R A capT T B capB rs Y capY C X capX V W0 hP hQ hQ2 hEl (hT.below (w1 := W0) hb) (hR.below hb) (hY.below hb) (hX.below hb) (by omega) (by omega) (fun r hr => by have := hrl r hr; omega) (by omega) (by omega)).mono (fun e w' h => (⟨by rw [h.1, hout]; unfold acceptB; rw [← hE]; try rfl, h.2⟩ : e = .returned (.bool out) ∧ Below W0.heap.size W0 w'))
  have hch := fun W0 hb => refChallenge_any P Q G H R label A capT T B capB rs Y capY C W0 hP hQ hG hH (hT.below (w1 := W0) hb) (hR.below hb) (hY.below hb) hl hTl hRl hrl hYl
  unfold gval cval at hac hch ⊢
  rw [← hE] at hch
  rw [← hout]
  obtain ⟨nT, hnT⟩ : ∃ n, n = T.length := ⟨_, rfl⟩
  obtain ⟨nB, hnB⟩ : ∃ n, n = rs.length := ⟨_, rfl⟩
  obtain ⟨nX, hnX⟩ : ∃ n, n = V.length := ⟨_, rfl⟩
  obtain ⟨nY, hnY⟩ : ∃ n, n = C.length := ⟨_, rfl⟩
  rw [← hnT, ← hnB, ← hnY] at hch
  rw [← hnT, ← hnB, ← hnX, ← hnY] at hac
  rw [← hnT, ← hnB, ← hnX, ← hnY]
  obtain ⟨w0, hw0⟩ : ∃ w0, w0 = (((w.alloc (.cells #[.int .u64 (P : Int), .int .u64 (Q : Int), .int .u64 (G : Int), .int .u64 (H : Int), R] 25)).alloc (.cells #[.slice A nT capT, .slice B nB capB] 29)).alloc (.cells #[.slice Y nY capY, .slice X nX capX] 36)) := ⟨_, rfl⟩
  have hb0 : Below w.heap.size w w0 := by rw [hw0]; exact (((Below.refl _ _).alloc (Nat.le_refl _) _).alloc (by simp) _).alloc (by simp; omega) _
  have hg0 : Blk w0 w.heap.size 25 (glist P Q G H R) := by rw [hw0]; exact ((Blk.of w _ _ _ rfl).alloc _).alloc _
  have hc0 : Blk w0 (w.heap.size + 1) 29 [.slice A nT capT, .slice B nB capB] := by
    have := Blk.of (w.alloc (.cells #[.int .u64 (P : Int), .int .u64 (Q : Int), .int .u64 (G : Int), .int .u64 (H : Int), R] 25)) 29 #[.slice A nT capT, .slice B nB capB] _ rfl
    rw [show (w.alloc (.cells #[.int .u64 (P : Int), .int .u64 (Q : Int), .int .u64 (G : Int), .int .u64 (H : Int), R] 25)).heap.size = w.heap.size + 1 by simp] at this
    rw [hw0]; exact this.alloc _
  have hr0 : Blk w0 (w.heap.size + 1 + 1) 36 [.slice Y nY capY, .slice X nX capX] := by
    have := Blk.of ((w.alloc (.cells #[.int .u64 (P : Int), .int .u64 (Q : Int), .int .u64 (G : Int), .int .u64 (H : Int), R] 25)).alloc (.cells #[.slice A nT capT, .slice B nB capB] 29)) 36 #[.slice Y nY capY, .slice X nX capX] _ rfl
    rw [show ((w.alloc (.cells #[.int .u64 (P : Int), .int .u64 (Q : Int), .int .u64 (G : Int), .int .u64 (H : Int), R] 25)).alloc (.cells #[.slice A nT capT, .slice B nB capB] 29)).heap.size = w.heap.size + 1 + 1 by simp] at this
    rw [hw0]; exact this
  obtain ⟨g0, g1, g2, g3, g4⟩ := gcells hg0
  obtain ⟨f0, f1⟩ := two_cells hc0
  obtain ⟨p0, p1⟩ := two_cells hr0
  have Hac := Lib.hid hac
  have Hch := Lib.hid hch
  have Hb0 := Lib.hid hb0
  have Hw0 := Lib.hid hw0
  clear hac hch hb0 hg0 hc0 hr0 hT hR hX hY hTl hRl hrl hXl hYl hnT hnB hnX hnY hE hout hw0
  go_enter Tryz.func15, Tryz.ntmps15
  go_wp2_with fail
  rw [← Hw0.out]
  have l0 := Later.cell g0
  have l1 := Later.cell g1
  have l2 := Later.cell g2
  have l3 := Later.cell g3
  have l4 := Later.cell g4
  have l5 := Later.cell f0
  have l6 := Later.cell f1
  have l7 := Later.cell p0
  have l8 := Later.cell p1
  refine region_loose [(18, fun u _ => u = .int .u64 (E : Int)), (21, fun u _ => u = .bool out)] (Know.stable_cons (fun _ _ _ h _ => h) (Know.stable_cons (fun _ _ _ h _ => h) Know.stable_nil)) (by kernel_rfl) (by kernel_rfl) ?_
  (repeat (first | (refine loose_skip (by rfl) ?_; simp only [Act.put, List.setIfInBounds_toArray, List.set_cons_zero, List.set_cons_succ]) | (refine loose_plain (by rfl) (by rfl) (by rfl) (fun Kc hKc => ?_); go_big_quiet_op; refine hKc _ ?_; clear hKc Kc)))
  refine loose_fix 18 (.int .u64 (E : Int)) (f := 38) (args := #[.agg #[.int .u64 (P : Int), .int .u64 (Q : Int), .int .u64 (G : Int), .int .u64 (H : Int), R], .string (str label), .agg #[.slice A nT capT, .slice B nB capB], .slice Y nY capY]) (fun w => by go_simp; try rfl) (by rfl) (by rfl) (by rfl) (fun _ _ => Iff.rfl) (fun wk hl _ => Hch.out wk (below_trans Hb0.out hl)) ?_
  simp only [Act.put, List.setIfInBounds_toArray, List.set_cons_zero, List.set_cons_succ]
  (repeat (first | (refine loose_skip (by rfl) ?_; simp only [Act.put, List.setIfInBounds_toArray, List.set_cons_zero, List.set_cons_succ]) | (refine loose_plain (by rfl) (by rfl) (by rfl) (fun Kc hKc => ?_); go_big_quiet_op; refine hKc _ ?_; clear hKc Kc)))
  refine loose_fix 21 (.bool out) (f := 41) (args := #[.agg #[.int .u64 (P : Int), .int .u64 (Q : Int), .int .u64 (G : Int), .int .u64 (H : Int), R], .agg #[.slice A nT capT, .slice B nB capB], .slice Y nY capY, .int .u64 (E : Int), .slice X nX capX]) (fun w => by go_simp; try rfl) (by rfl) (by rfl) (by rfl) (fun _ _ => Iff.rfl) (fun wk hl _ => Hac.out wk (below_trans Hb0.out hl)) ?_
  simp only [Act.put, List.setIfInBounds_toArray, List.set_cons_zero, List.set_cons_succ]
  (repeat (first | (refine loose_skip (by rfl) ?_; simp only [Act.put, List.setIfInBounds_toArray, List.set_cons_zero, List.set_cons_succ]) | (refine loose_plain (by rfl) (by rfl) (by rfl) (fun Kc hKc => ?_); go_big_quiet_op; refine hKc _ ?_; clear hKc Kc)))
  refine loose_nil ?_
  intro wq hbq _
  have Hbq := Lib.hid (show Below w0.heap.size w0 wq from hbq)
  clear hbq l0 l1 l2 l3 l4 l5 l6 l7 l8
  go_wp2_with fail
  go_ret
  exact ⟨rfl, below_trans Hb0.out Hbq.out⟩
end Go.Proofs.YtinlciofhegciaaGreat

/- Which proof is accepted is the document's: the law's walk. -/
namespace Go.Proofs.YtinlciofhegciaaGreat
open Go.RowKit Go.BigFrame

set_option maxRecDepth 100000 in
set_option maxHeartbeats 8000000 in
theorem takes_walk (P Q G H : Nat) (RB : Option Addr) (capR : Nat) (rs : List RowV) (A : Option Addr) (capT : Nat) (T : List Nat) (B : Option Addr) (capB : Nat) (cs : List NumV) (label : List UInt8) (X : Option Addr) (capX : Nat) (V : List Nat) (Y : Option Addr) (capY : Nat) (D : List Nat) (w : World)
    (hP : P < 18446744073709551616) (hQ : Q < 18446744073709551616) (hG : G < 18446744073709551616) (hH : H < 18446744073709551616) (hR : Rows3 w RB capR rs) (hRl : rs.length < 9223372036854775807) (hFl : ∀ r ∈ rs, r.F.l.length < 9223372036854775807)
    (hT : Nums w A capT T) (hC : Grid w B capB cs) (hTl : T.length < 9223372036854775807) (hCl : cs.length < 9223372036854775807) (hcl : ∀ r ∈ cs, r.l.length < 9223372036854775807) (hll : label.length < 9223372036854775807)
    (hX : Nums w X capX V) (hY : Nums w Y capY D) (hXl : V.length < 9223372036854775807) (hYl : D.length < 9223372036854775807) :
    Calls Tryz.prog 4 #[gval P Q G H (.slice RB rs.length capR), cval A capT T.length B capB cs.length, .agg #[.string (str label), .slice X V.length capX, .slice Y D.length capY]] w fun e w' => e = .returned (.bool true) ∧ Below w.heap.size w w' := by
  have hgr := fun W hb => group_any P Q G H RB capR rs W hP hQ hG hH (hR.below (w1 := W) hb) hRl hFl
  have hfw := fun W b2 c2 hb hg => few_claim A capT T B capB cs b2 c2 [⟨X, capX, V⟩, ⟨Y, capY, D⟩] W (hC.below (w1 := W) hb) hg hTl hCl (by simp) hcl (by simp [hXl, hYl])
  obtain ⟨R, hRv⟩ : ∃ R, R = Value.slice RB rs.length capR := ⟨_, rfl⟩
  have hone : R.oneCell' = true := by rw [hRv]; rfl
  rw [← hRv] at hgr
  rw [← hRv]
  clear hRv
  have hac := fun W h1 h2 hb g0 g1 g2 g3 g4 g5 => accept_any P Q G H R label A capT T B capB cs X capX V Y capY D W hP h1 hQ h2 hG hH (hT.below (w1 := W) hb) (hC.below hb) (hX.below hb) (hY.below hb) g0 g1 g2 g3 g4 g5
  have hra := fun W h2 hb g0 g1 g2 g3 g4 g5 => refAccept_any P Q G H R label A capT T B capB cs X capX V Y capY D W hP hQ h2 hG hH (hT.below (w1 := W) hb) (hC.below hb) (hX.below hb) (hY.below hb) g0 g1 g2 g3 g4 g5
  unfold gval at hgr
  unfold cval at hfw
  unfold gval cval at hac hra ⊢
  obtain ⟨nT, hnT⟩ : ∃ n, n = T.length := ⟨_, rfl⟩
  obtain ⟨nB, hnB⟩ : ∃ n, n = cs.length := ⟨_, rfl⟩
  obtain ⟨nX, hnX⟩ : ∃ n, n = V.length := ⟨_, rfl⟩
  obtain ⟨nY, hnY⟩ : ∃ n, n = D.length := ⟨_, rfl⟩
  obtain ⟨nl, hnl⟩ : ∃ n, n = label.length := ⟨_, rfl⟩
  have hsz : (str label).size = nl := by rw [str_size, hnl]
  have hnl' : nl < 9223372036854775807 := by omega
  rw [← hnT, ← hnB] at hfw
  rw [← hnT, ← hnB, ← hnX, ← hnY] at hac hra
  rw [← hnT, ← hnB, ← hnX, ← hnY]
  obtain ⟨w0, hw0⟩ : ∃ w0, w0 = (((w.alloc (.cells #[.int .u64 (P : Int), .int .u64 (Q : Int), .int .u64 (G : Int), .int .u64 (H : Int), R] 25)).alloc (.cells #[.slice A nT capT, .slice B nB capB] 29)).alloc (.cells #[.string (str label), .slice X nX capX, .slice Y nY capY] 31)) := ⟨_, rfl⟩
  have hb0 : Below w.heap.size w w0 := by rw [hw0]; exact (((Below.refl _ _).alloc (Nat.le_refl _) _).alloc (by simp) _).alloc (by simp; omega) _
  have hg0 : Blk w0 w.heap.size 25 (glist P Q G H R) := by rw [hw0]; exact ((Blk.of w _ _ _ rfl).alloc _).alloc _
  have hc0 : Blk w0 (w.heap.size + 1) 29 [.slice A nT capT, .slice B nB capB] := by rw [hw0]; exact (Blk.at_new _ _ _ _ _ (by simp) rfl).alloc _
  have hl0 : Blk w0 (w.heap.size + 1 + 1) 31 [.string (str label), .slice X nX capX, .slice Y nY capY] := by rw [hw0]; exact Blk.at_new _ _ _ _ _ (by simp) rfl
  have HA := Lib.hid (fun W hb => three_args (w := W) hg0 hc0 hl0 hb)
  have Hgr := Lib.hid hgr
  have Hfw := Lib.hid hfw
  have Hac := Lib.hid hac
  have Hra := Lib.hid hra
  have Hb0 := Lib.hid hb0
  have Hw0 := Lib.hid hw0
  have HnT := Lib.hid hnT
  have HnB := Lib.hid hnB
  have HnX := Lib.hid hnX
  have HnY := Lib.hid hnY
  have Hnl := Lib.hid hnl
  have HX := Lib.hid hX
  have HY := Lib.hid hY
  have Hsz := Lib.hid hsz
  have hgl := hg0.lt
  have hcl0 := hc0.lt
  have hll0 := hl0.lt
  clear hgr hfw hac hra hb0 hg0 hc0 hl0 hw0 hnT hnB hnX hnY hnl hX hY hT hC hR hRl hFl hTl hCl hcl hXl hYl hll hsz
  go_enter Tryz.func4, Tryz.ntmps4
  go_wp2_with fail
  rw [← Hw0.out]
  refine (awake7_any _).mono ?_
  rintro e w1 ⟨rfl, hb1⟩
  obtain ⟨⟨g0, g1, g2, g3, g4⟩, ⟨f0, f1⟩, ⟨q0, q1, q2⟩⟩ := HA.out w1 hb1
  have Hb1 := Lib.hid hb1
  clear hb1
  go_wp2_with fail
  have l0 := Later.cell q0
  have l1 := Later.cell q1
  have l2 := Later.cell q2
  refine region_float_tail [(8, fun u w' => ∃ b, u = .pointer (some ⟨b, 0, none⟩) ∧ w1.heap.size ≤ b ∧ Blk w' b 36 [.slice none 0 0, .slice none 0 0])] 9
    (Know.stable_cons (fun _ _ _ h hl => let ⟨b, e, h1, h2⟩ := h; ⟨b, e, h1, h2.below hl h2.lt⟩) Know.stable_nil) (by kernel_rfl) (by kernel_rfl) (by rfl) ?_
  simp only [List.take_succ_cons, List.take_zero, List.drop_succ_cons, List.drop_zero]
  (repeat (first | (refine loose_skip (by rfl) ?_; simp only [Act.put, List.setIfInBounds_toArray, List.set_cons_zero, List.set_cons_succ]) | (refine loose_plain (by rfl) (by rfl) (by rfl) (fun Kc hKc => ?_); go_big_quiet_op; refine hKc _ ?_; clear hKc Kc)))
  refine loose_make 8 (V := fun w => .pointer (some ⟨w.heap.size, 0, none⟩)) (W := fun w => w.alloc (.cells #[.slice none 0 0, .slice none 0 0] 36)) (fun w => by go_simp) (by rfl) (by rfl) (by rfl) (fun w hl _ => ⟨(Below.refl _ _).alloc (Nat.le_refl _) _, _, rfl, hl.size, Blk.of w _ _ _ rfl⟩) ?_
  rintro _ wk2 _ ⟨pb, rfl, hpb, _⟩
  simp only [Act.put, List.setIfInBounds_toArray, List.set_cons_zero, List.set_cons_succ]
  (repeat (first | (refine loose_skip (by rfl) ?_; simp only [Act.put, List.setIfInBounds_toArray, List.set_cons_zero, List.set_cons_succ]) | (refine loose_plain (by rfl) (by rfl) (by rfl) (fun Kc hKc => ?_); go_big_quiet_op; refine hKc _ ?_; clear hKc Kc)))
  refine loose_nil ?_
  intro wq hbq hkn
  obtain ⟨pb', hpe, _, hpk⟩ := hkn 8 _ (.inl ⟨rfl, rfl⟩)
  injection hpe with hpe; injection hpe with hpe; injection hpe with hpe
  subst hpe
  obtain ⟨p0, p1⟩ := two_cells hpk
  have z0 := hpk.frozen 0
  have z1 := hpk.frozen 1
  have hpk2 := (hpk.set 0 (.slice X nX capX)).set 1 (.slice Y nY capY)
  have hbx : Below w0.heap.size w0 ((wq.setCell ⟨pb, 0, none⟩ (.slice X nX capX)).setCell ⟨pb, 1, none⟩ (.slice Y nY capY)) := below_set (below_set (below_trans Hb1.out hbq) (by have := Hb1.out.size; omega) _ _) (by have := Hb1.out.size; omega) _ _
  have Hpk := Lib.hid (show Blk _ pb 36 [.slice X nX capX, .slice Y nY capY] from hpk2)
  have Hbx := Lib.hid hbx
  obtain ⟨⟨g0, g1, g2, g3, g4⟩, ⟨f0, f1⟩, ⟨q0, q1, q2⟩⟩ := HA.out _ Hbx.out
  clear hpk hpk2 hbx hkn hbq l0 l1 l2
  go_wp2_with fail
  refine NoPanic.normal ?_
  go_wp2_with fail
  obtain ⟨wx, hwx⟩ : ∃ W, W = (wq.setCell ⟨pb, 0, none⟩ (.slice X nX capX)).setCell ⟨pb, 1, none⟩ (.slice Y nY capY) := ⟨_, rfl⟩
  rw [← hwx] at Hpk Hbx g0 g1 g2 g3 g4 f0 f1 q0 q1 q2 ⊢
  have hpx := Hpk.out.lt
  clear hwx p0 p1 z0 z1 Hb1
  refine (Hgr.out wx (below_trans Hb0.out Hbx.out)).mono ?_
  rintro e w2 ⟨rfl, hb2⟩
  have Hb2 := Lib.hid (below_trans Hbx.out hb2)
  have Hbx2 := Lib.hid hb2
  obtain ⟨⟨g0, g1, g2, g3, g4⟩, ⟨f0, f1⟩, ⟨q0, q1, q2⟩⟩ := HA.out w2 Hb2.out
  obtain ⟨p0, p1⟩ := two_cells (Hpk.out.below hb2 hpx)
  clear hb2
  cases hgb : groupB P Q G H rs with
  | false =>
    clear hgb
    go_wp2_with fail
    go_ret
    exact ⟨rfl, below_trans Hb0.out Hb2.out⟩
  | true =>
    obtain ⟨hQ5, hQm, hPQ, hrP, hrQ⟩ := group_yes hgb
    have HrP := Lib.hid hrP
    have HrQ := Lib.hid hrQ
    clear hgb hPQ hrP hrQ
    by_cases h100 : 100 < nl
    · have d1 : decide ((100 : Int) < (nl : Int)) = true := decide_eq_true (by omega)
      have hsz := Hsz.out
      go_wp2_with fail
      go_ret
      exact ⟨rfl, below_trans Hb0.out Hb2.out⟩
    have d1 : decide ((100 : Int) < (nl : Int)) = false := decide_eq_false (by omega)
    have hsz := Hsz.out
    have hgrid : Grid (w2.alloc (.cells #[.slice X nX capX, .slice Y nY capY] 26)) (some ⟨w2.heap.size, 0, none⟩) 2 [⟨X, capX, V⟩, ⟨Y, capY, D⟩] := by
      refine Grid.of_blk (rs := [⟨X, capX, V⟩, ⟨Y, capY, D⟩]) (T := 26) (Blk.at_new _ _ _ _ _ rfl ?_) ?_
      · simp [NumV.val, HnX.out, HnY.out]
      · have hb := below_trans (below_trans Hb0.out Hb2.out) ((Below.refl w2.heap.size w2).alloc (Nat.le_refl _) (.cells #[.slice X nX capX, .slice Y nY capY] 26))
        simp only [List.mem_cons, List.not_mem_nil, or_false]
        rintro r (rfl | rfl)
        · exact HX.out.below hb
        · exact HY.out.below hb
    have hfw2 := Hfw.out _ _ _ (below_trans (below_trans Hb0.out Hb2.out) ((Below.refl w2.heap.size w2).alloc (Nat.le_refl _) (.cells #[.slice X nX capX, .slice Y nY capY] 26))) hgrid
    have Hfw2 := Lib.hid hfw2
    clear hgrid hfw2
    go_wp2_with fail
    refine Hfw2.out.mono ?_
    rintro e w3 ⟨rfl, hb3⟩
    have Hb3 := Lib.hid (below_trans Hb2.out (below_trans ((Below.refl w2.heap.size w2).alloc (Nat.le_refl _) (.cells #[.slice X nX capX, .slice Y nY capY] 26)) hb3))
    obtain ⟨⟨g0, g1, g2, g3, g4⟩, ⟨f0, f1⟩, ⟨q0, q1, q2⟩⟩ := HA.out w3 Hb3.out
    obtain ⟨p0, p1⟩ := two_cells (Hpk.out.below (below_trans Hbx2.out (below_trans ((Below.refl w2.heap.size w2).alloc (Nat.le_refl _) (.cells #[.slice X nX capX, .slice Y nY capY] 26)) hb3)) hpx)
    clear hb3 Hfw2 Hb2
    cases hfb : fewC T cs [⟨X, capX, V⟩, ⟨Y, capY, D⟩] with
    | false =>
      clear hfb
      go_wp2_with fail
      go_ret
      exact ⟨rfl, below_trans Hb0.out Hb3.out⟩
    | true =>
      obtain ⟨b1, b2, b3, b4⟩ := fewC_yes hfb
      have b5 := b4 ⟨X, capX, V⟩ (by simp)
      have b6 := b4 ⟨Y, capY, D⟩ (by simp)
      have B1 : Hid (nT ≤ 10000) := Lib.hid (by rw [HnT.out]; omega)
      have B2 : Hid (nB ≤ 10000) := Lib.hid (by rw [HnB.out]; omega)
      have B3 : Hid (∀ r ∈ cs, r.l.length ≤ 10000) := Lib.hid (fun r hr => by have := b3 r hr; omega)
      have B5 : Hid (nX ≤ 10000) := Lib.hid (by rw [HnX.out]; dsimp only at b5; omega)
      have B6 : Hid (nY ≤ 10000) := Lib.hid (by rw [HnY.out]; dsimp only at b6; omega)
      have Hl6 : Hid (label.length ≤ 1000000) := Lib.hid (by have := Hnl.out; omega)
      clear hfb b1 b2 b3 b4 b5 b6
      obtain ⟨out, hout⟩ : ∃ r, r = acceptB label P Q G H T (cs.map (·.l)) V D := ⟨_, rfl⟩
      have hp1 := fun W hb => Hac.out W HrP.out (by omega) hb Hl6.out B1.out B2.out B3.out B5.out B6.out
      have hp2 := fun W hb => Hra.out W (by omega) hb Hl6.out B1.out B2.out B3.out B5.out B6.out
      rw [← hout] at hp1 hp2
      have Hp1 := Lib.hid hp1
      have Hp2 := Lib.hid hp2
      clear hp1 hp2 hout
      go_wp2_with fail
      have l0 := Later.cell g0
      have l1 := Later.cell g1
      have l2 := Later.cell g2
      have l3 := Later.cell g3
      have l4 := Later.cell g4
      have l5 := Later.cell f0
      have l6 := Later.cell f1
      have l7 := Later.cell p0
      have l8 := Later.cell p1
      refine region_loose [(40, fun u _ => u = .bool out), (45, fun u _ => u = .bool out)] (Know.stable_cons (fun _ _ _ h _ => h) (Know.stable_cons (fun _ _ _ h _ => h) Know.stable_nil)) (by kernel_rfl) (by kernel_rfl) ?_
      (repeat (first | (refine loose_skip (by rfl) ?_; simp only [Act.put, List.setIfInBounds_toArray, List.set_cons_zero, List.set_cons_succ]) | (refine loose_plain (by rfl) (by rfl) (by rfl) (fun Kc hKc => ?_); go_big_quiet_op; refine hKc _ ?_; clear hKc Kc)))
      refine loose_fix 40 (.bool out) (f := 14) (args := #[.agg #[.int .u64 (P : Int), .int .u64 (Q : Int), .int .u64 (G : Int), .int .u64 (H : Int), R], .string (str label), .agg #[.slice A nT capT, .slice B nB capB], .agg #[.slice X nX capX, .slice Y nY capY]]) (fun w => by go_simp; try rfl) (by rfl) (by rfl) (by rfl) (fun _ _ => Iff.rfl) (fun wk hl _ => Hp1.out wk (below_trans Hb0.out (below_trans Hb3.out hl))) ?_
      simp only [Act.put, List.setIfInBounds_toArray, List.set_cons_zero, List.set_cons_succ]
      (repeat (first | (refine loose_skip (by rfl) ?_; simp only [Act.put, List.setIfInBounds_toArray, List.set_cons_zero, List.set_cons_succ]) | (refine loose_plain (by rfl) (by rfl) (by rfl) (fun Kc hKc => ?_); go_big_quiet_op; refine hKc _ ?_; clear hKc Kc)))
      refine loose_fix 45 (.bool out) (f := 15) (args := #[.agg #[.int .u64 (P : Int), .int .u64 (Q : Int), .int .u64 (G : Int), .int .u64 (H : Int), R], .string (str label), .agg #[.slice A nT capT, .slice B nB capB], .agg #[.slice X nX capX, .slice Y nY capY]]) (fun w => by go_simp; try rfl) (by rfl) (by rfl) (by rfl) (fun _ _ => Iff.rfl) (fun wk hl _ => Hp2.out wk (below_trans Hb0.out (below_trans Hb3.out hl))) ?_
      simp only [Act.put, List.setIfInBounds_toArray, List.set_cons_zero, List.set_cons_succ]
      (repeat (first | (refine loose_skip (by rfl) ?_; simp only [Act.put, List.setIfInBounds_toArray, List.set_cons_zero, List.set_cons_succ]) | (refine loose_plain (by rfl) (by rfl) (by rfl) (fun Kc hKc => ?_); go_big_quiet_op; refine hKc _ ?_; clear hKc Kc)))
      refine loose_nil ?_
      intro wr hbr _
      have Hbr := Lib.hid (show Below w3.heap.size w3 wr from hbr)
      clear hbr l0 l1 l2 l3 l4 l5 l6 l7 l8
      go_wp2_with fail
      go_ret
      exact ⟨by simp, below_trans Hb0.out (below_trans Hb3.out Hbr.out)⟩
end Go.Proofs.YtinlciofhegciaaGreat
