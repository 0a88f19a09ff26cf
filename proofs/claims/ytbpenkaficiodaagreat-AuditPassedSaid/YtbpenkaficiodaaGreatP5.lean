/- Joined texts, part 5: contracts of the functions that the laws reach, and what is needed for them. -/
import Derived.Deep.OwnRows
import Derived.WalkSmall
import Derived.Laws.CopyOwn
import Derived.Deep.RegionHeld3
import Derived.Test.YtbpenkaficiodaaGreatP4
/- The image of exponents: the program's walk. -/
namespace Go.Proofs.YtbpenkaficiodaaGreat
open Go.RowKit Go.BigFrame

theorem madeNums (v : Value) (n : Nat) : (madeCells #[v] n).toList = List.replicate n v := by
  simp only [madeCells]
  apply List.ext_getElem?
  intro i
  simp [Nat.mod_one, List.getElem?_replicate]
  by_cases h : i < n <;> simp [h]
def rowAt (p : List Nat) (x q : Nat) : List Value := u64s (p ++ x :: List.replicate q 0)
theorem rowAt_set {p : List Nat} {x y q j : Nat} (hj : p.length = j) : (rowAt p x q).set j (.int .u64 (y : Int)) = rowAt p y q := by
  subst hj
  simp [rowAt, u64s, List.set_append]
theorem rowAt_get {p : List Nat} {x q j : Nat} (hj : p.length = j) : (rowAt p x q)[j]? = some (.int .u64 (x : Int)) := by
  subst hj
  simp [rowAt, u64s]
theorem rowAt_next {p : List Nat} {x q : Nat} : rowAt p x (q + 1) = rowAt (p ++ [x]) 0 q := by simp [rowAt, List.replicate_succ]
theorem nums_two (w : World) (x y : Nat) (t : TypeId) (hx : x < 18446744073709551616) (hy : y < 18446744073709551616) : Nums (w.alloc (.cells #[.int .u64 (x : Int), .int .u64 (y : Int)] t)) (some ⟨w.heap.size, 0, none⟩) 2 [x, y] := by
  refine ⟨by simp, fun i z hz => ⟨_, rfl, ?_⟩, by simp [hx, hy]⟩
  refine cell_two_new w _ _ t i _ ?_
  match i with
  | 0 => simp at hz; subst hz; rfl
  | 1 => simp at hz; subst hz; rfl
  | i + 2 => simp at hz
theorem prod_two {P x y : Nat} (hr : rightB P = true) (hx : x < P) : prodG P [x, y] = mulM x y P := by
  show mulM (mulM 1 x P) y P = _
  rw [mulM_yes (a := 1) hr, Nat.one_mul, Nat.mod_eq_of_lt hx]
theorem step_one {P Q x z : Nat} (hr : rightB P = true) (hx : x < P) : mulM x (expG P Q 1 z) P = x := by
  have hm := rightB_yes hr
  rw [expG, powM_yes hr, Nat.one_pow, Nat.mod_eq_of_lt (by omega), mulM_yes hr, Nat.mul_one, Nat.mod_eq_of_lt hx]
theorem mulM_lt_P {P x y : Nat} (hr : rightB P = true) : mulM x y P < P := by
  have hm := rightB_yes hr
  rw [mulM_yes hr]; exact Nat.mod_lt _ (by omega)

set_option maxRecDepth 100000 in
set_option maxHeartbeats 4000000 in
theorem image_any (P Q G H : Nat) (R : Value) (A : Option Addr) (capT : Nat) (T : List Nat) (B : Option Addr) (capB : Nat) (rs : List NumV) (X : Option Addr) (capX : Nat) (V : List Nat) (w : World) (hP : P < 18446744073709551616) (hPr : rightB P = true) (hQ : Q < 18446744073709551616) (hQ2 : 2 ≤ Q) (hT : Nums w A capT T) (hR : Grid w B capB rs) (hX : Nums w X capX V)
    (hTl : T.length < 9223372036854775807) (hRl : rs.length < 9223372036854775807) (hrl : ∀ r ∈ rs, r.l.length < 9223372036854775807) (hXl : V.length < 9223372036854775807) :
    Calls Tryz.prog 52 #[gval P Q G H R, cval A capT T.length B capB rs.length, .slice X V.length capX] w fun e w' => OutNums w.heap.size (imgO P Q T (rs.map (·.l)) V) e w' ∧ Below w.heap.size w w' := by
  have hsz := fun W0 hb => size_any P Q G H R A capT T B capB rs W0 hP hQ (hT.below (w1 := W0) hb) (hR.below hb) (by omega) (by omega) (fun r hr => by have := hrl r hr; omega)
  unfold gval cval at hsz ⊢
  obtain ⟨nT, hnT⟩ : ∃ n, n = T.length := ⟨_, rfl⟩
  obtain ⟨nB, hnB⟩ : ∃ n, n = rs.length := ⟨_, rfl⟩
  obtain ⟨nX, hnX⟩ : ∃ n, n = V.length := ⟨_, rfl⟩
  have hb0 : Below w.heap.size w ((w.alloc (.cells #[.int .u64 (P : Int), .int .u64 (Q : Int), .int .u64 (G : Int), .int .u64 (H : Int), R] 25)).alloc (.cells #[.slice A nT capT, .slice B nB capB] 83)) :=
    ((Below.refl _ _).alloc (Nat.le_refl _) _).alloc (by simp) _
  have hg0 : Blk ((w.alloc (.cells #[.int .u64 (P : Int), .int .u64 (Q : Int), .int .u64 (G : Int), .int .u64 (H : Int), R] 25)).alloc (.cells #[.slice A nT capT, .slice B nB capB] 83)) w.heap.size 25 (glist P Q G H R) :=
    (Blk.of w _ _ _ rfl).alloc _
  have hc0 : Blk ((w.alloc (.cells #[.int .u64 (P : Int), .int .u64 (Q : Int), .int .u64 (G : Int), .int .u64 (H : Int), R] 25)).alloc (.cells #[.slice A nT capT, .slice B nB capB] 83)) (w.heap.size + 1) 83 [.slice A nT capT, .slice B nB capB] := by
    have := Blk.of (w.alloc (.cells #[.int .u64 (P : Int), .int .u64 (Q : Int), .int .u64 (G : Int), .int .u64 (H : Int), R] 25)) 83 #[.slice A nT capT, .slice B nB capB] _ rfl
    rwa [show (w.alloc (.cells #[.int .u64 (P : Int), .int .u64 (Q : Int), .int .u64 (G : Int), .int .u64 (H : Int), R] 25)).heap.size = w.heap.size + 1 by simp] at this
  have hsz0 := hsz _ hb0
  have hR0 := hR.below hb0
  have hX0 := hX.below hb0
  obtain ⟨sz, hs⟩ : ∃ s, s = sizeC P Q T (rs.map (·.l)) := ⟨_, rfl⟩
  obtain ⟨res, hres⟩ : ∃ s, s = imgO P Q T (rs.map (·.l)) V := ⟨_, rfl⟩
  rw [← hnT, ← hnB] at hsz0
  rw [← hs] at hsz0
  rw [← hnT, ← hnB, ← hnX, ← hres]
  have Hsz := Lib.hid hsz0
  have Hb0 := Lib.hid hb0
  have Hg0 := Lib.hid hg0
  have Hc0 := Lib.hid hc0
  have HX0 := Lib.hid hX0
  have HR0 := Lib.hid hR0
  have HnT := Lib.hid hnT
  have HnB := Lib.hid hnB
  have HnX := Lib.hid hnX
  have Hs := Lib.hid hs
  have HPr := Lib.hid hPr
  have hP2 := (rightB_yes hPr).1
  have hRl' : nB < 9223372036854775807 := by omega
  have hXl' : nX < 9223372036854775807 := by omega
  have Hres := Lib.hid hres
  have Hrl := Lib.hid hrl
  clear hres hb0 hg0 hc0 hR0 hX0 hR hT hX hTl hRl hXl hnT hnB hnX hrl hs hsz0 hsz hPr
  by_cases h1 : sz = 0
  · have d1 : ((sz : Int) == 0) = true := by rw [beq_iff_eq]; omega
    have hr : res = none := by rw [Hres.out]; exact imgO_none (.inl (by rw [← Hs.out]; exact h1))
    subst hr
    clear h1
    go_enter Tryz.func52, Tryz.ntmps52
    go_wp2_with (go_at_call 58; refine Hsz.out.mono ?_; rintro e w2 ⟨rfl, hb2⟩; have Hb2 := Lib.hid hb2; clear hb2)
    go_ret2
    exact ⟨rfl, below_trans Hb0.out Hb2.out⟩
  have d1 : ((sz : Int) == 0) = false := by rw [beq_eq_false_iff_ne]; omega
  by_cases h2 : nX = sz
  case neg =>
    have d2 : ((nX : Int) != (sz : Int)) = true := by rw [bne_iff_ne]; omega
    have hr : res = none := by rw [Hres.out]; exact imgO_none (.inr (by rw [← Hs.out, ← HnX.out]; exact h2))
    subst hr
    clear h2
    go_enter Tryz.func52, Tryz.ntmps52
    go_wp2_with (go_at_call 58; refine Hsz.out.mono ?_; rintro e w2 ⟨rfl, hb2⟩; have Hb2 := Lib.hid hb2; clear hb2)
    go_ret2
    exact ⟨rfl, below_trans Hb0.out Hb2.out⟩
  subst h2
  obtain ⟨hlT, hB1, hB64, hn64, hrow⟩ := sizeC_pos Hs.out h1
  have hnTB : nT = nB := by rw [HnT.out, HnB.out]; exact hlT.symm
  subst hnTB
  rw [← HnB.out] at hB1 hB64
  have Hrow := Lib.hid hrow
  have hr : res = some (rs.map fun r => imgRow P Q V r.l) := by
    rw [Hres.out, imgO_some (by rw [← Hs.out, ← HnX.out]; omega), rows_imgs]
  subst hr
  have hmk : ∀ W : World, (Instr.makeSlice 40 (.int .i64 (nT : Int)) (.int .i64 (nT : Int))).run Tryz.prog W = .ok (.slice (some ⟨W.heap.size, 0, none⟩) nT nT) (W.alloc (.cells (madeCells #[.int .u64 0] nT) 22)) :=
    fun W => run_make_row' 40 22 (.int .u64 0) 8 Tryz.un_nums Tryz.inf_u64 rfl .i64 .i64 nT (by omega) (by omega) W
  clear hrow hlT Hrl Hres
  go_enter Tryz.func52, Tryz.ntmps52
  go_wp2_with (go_at_call 58; refine Hsz.out.mono ?_; rintro e w2 ⟨rfl, hb2⟩; have hcl0 := (Hc0.out.below hb2 Hc0.out.lt).cell 0; have hcl1 := (Hc0.out.below hb2 Hc0.out.lt).cell 1; simp only [List.getElem?_cons_zero, List.getElem?_cons_succ] at hcl0 hcl1; have hcl2 := fun o => below_cell ((Below.refl w2.heap.size w2).alloc (Nat.le_refl _) o) hcl1; have Hb2 := Lib.hid hb2; clear hb2)
  clear hmk hcl0 hcl1 hcl2
  have HG2 := Lib.hid (Hg0.out.below Hb2.out Hg0.out.lt)
  have HC2 := Lib.hid (Hc0.out.below Hb2.out Hc0.out.lt)
  have HR2 := Lib.hid (HR0.out.below Hb2.out)
  have HX2 := Lib.hid (HX0.out.below Hb2.out)
  have Hb02 := Lib.hid (below_trans Hb0.out Hb2.out)
  have hgl := HG2.out.lt
  have hcl := HC2.out.lt
  clear Hg0 Hc0 HR0 HX0 Hb0 Hb2 Hsz
  go_loopw [32] (fun iv wr => ∃ j : Nat, iv = .int .i64 (j : Int) ∧ j ≤ nT ∧ Row wr w2.heap.size 22 1 (.slice (some ⟨w2.heap.size, 0, none⟩) nT nT) nT (u64s (((rs.take j).map fun r => imgRow P Q V r.l) ++ List.replicate (nT - j) 0)) ∧ Below w2.heap.size w2 wr) (fun iv _ => nT - (intOf iv).toNat)
  case atStart =>
    refine ⟨0, rfl, by omega, ?_, (Below.refl _ _).alloc (Nat.le_refl _) _⟩
    have h := Row.of_blk (Blk.of w2 22 (madeCells #[.int .u64 0] nT) _ (madeNums _ _)) nT (by simp) (by simp only [maxLen]; omega)
    simpa [u64s] using h
  case round =>
    obtain ⟨j, rfl, hj, hrow, hbr⟩ := hrel
    have Hbr := Lib.hid hbr
    obtain ⟨ps, hps⟩ : ∃ ps, ps = (rs.take j).map fun r => imgRow P Q V r.l := ⟨_, rfl⟩
    rw [← hps] at hrow
    have hpl : ps.length = j := by rw [hps, List.length_map, List.length_take, ← HnB.out]; omega
    have Hps := Lib.hid hps
    have Hpl := Lib.hid hpl
    clear hbr hps hpl
    by_cases hjl : j < nT
    · have d6 : decide ((j : Int) < (nT : Int)) = true := decide_eq_true (by omega)
      have hji : (j : Int) < (nT : Int) := by omega
      obtain ⟨q, hq⟩ : ∃ q, nT - j = q + 1 := ⟨nT - j - 1, by omega⟩
      have hrow : Row wr w2.heap.size 22 1 (.slice (some ⟨w2.heap.size, 0, none⟩) nT nT) nT (rowAt ps 0 q) := by rw [hq] at hrow; exact hrow
      obtain ⟨r, hr⟩ : ∃ r, rs[j]? = some r := ⟨_, List.getElem?_eq_getElem (by rw [← HnB.out]; exact hjl)⟩
      have hrl := (Hrow.out r (List.mem_of_getElem? hr)).1
      have Hrl := Lib.hid hrl
      have HN := Lib.hid (HR2.out.nums r (List.mem_of_getElem? hr))
      obtain ⟨b', hb', hrc⟩ := HR2.out.cells j r hr
      subst hb'
      have hrc := below_cell Hbr.out hrc
      rw [show r.val = .slice r.A nX r.cap by rw [← Hrl.out]; rfl] at hrc
      have Hr1 := Lib.hid hr
      obtain ⟨g2, cap2, hv2, _, hg2, _, hcells⟩ := hrow.form (by omega)
      injection hv2 with hv3 _ hv4
      injection hv3 with hv3
      injection hv3 with hv3
      subst hv3 hv4
      obtain ⟨hc1, hf1⟩ := hcells j _ (rowAt_get Hpl.out)
      have hst := hrow.store j (.int .u64 ((1 : Nat) : Int))
      rw [rowAt_set Hpl.out] at hst
      have Hst := Lib.hid hst
      have Hq := Lib.hid hq
      have Hbs := Lib.hid (below_set Hbr.out (b := w2.heap.size) (Nat.le_refl _) j (.int .u64 ((1 : Nat) : Int)))
      clear hr hrl hcells hst hrow hq
      go_wp2_with fail
      go_loopw [42] (fun kv wr2 => ∃ k x : Nat, kv = .int .i64 (k : Int) ∧ k ≤ nX ∧ x < P ∧ x = ((r.l.zip V).take k).foldl (imgStep P Q) 1 ∧ Row wr2 w2.heap.size 22 1 (.slice (some ⟨w2.heap.size, 0, none⟩) nT nT) nT (rowAt ps x q) ∧ Below w2.heap.size w2 wr2) (fun kv _ => nX - (intOf kv).toNat)
      case atStart => exact ⟨0, 1, rfl, by omega, by omega, by simp, Hst.out, Hbs.out⟩
      case round =>
        obtain ⟨k, x, rfl, hk, hxP, hxk, hrow2, hbk⟩ := hrel
        have Hbk := Lib.hid hbk
        have Hxk := Lib.hid hxk
        have Hrow2 := Lib.hid hrow2
        have hxb : x < 18446744073709551616 := by omega
        clear hbk hxk hrc hc1 hf1 Hbr Hst Hbs hrow2
        by_cases hkl : k < nX
        · have d8 : decide ((k : Int) < (nX : Int)) = true := decide_eq_true (by omega)
          have hki : (k : Int) < (nX : Int) := by omega
          obtain ⟨y, hy⟩ : ∃ y, r.l[k]? = some y := ⟨_, List.getElem?_eq_getElem (by rw [Hrl.out]; exact hkl)⟩
          obtain ⟨a2, hA2, hyc⟩ := HN.out.cells k y hy
          have hyc := below_cell Hbk.out hyc
          have hys := HN.out.small y (List.mem_of_getElem? hy)
          obtain ⟨z, hz⟩ : ∃ z, V[k]? = some z := ⟨_, List.getElem?_eq_getElem (by rw [← HnX.out]; exact hkl)⟩
          obtain ⟨x2, hX2, hzc⟩ := HX2.out.cells k z hz
          have hzc0 := hzc
          have hzc := below_cell Hbk.out hzc
          have hzs := HX2.out.small z (List.mem_of_getElem? hz)
          have hnx := imgStep_take (P := P) (Q := Q) hy hz Hxk.out
          have HA2 := Lib.hid hA2
          have HX2' := Lib.hid hX2
          clear hy hz hA2 hX2
          rw [HA2.out, HX2'.out]
          by_cases hy1 : y = 1
          · have d9 : ((y : Int) != 1) = false := by rw [bne_eq_false_iff_eq]; omega
            rw [show mulM x (expG P Q y z) P = x by rw [hy1]; exact step_one HPr.out hxP] at hnx
            have Hnx := Lib.hid hnx
            clear hnx hy1
            go_wp2_with fail
            go_roundw
            case rel => exact ⟨k + 1, x, by go_num, by omega, hxP, Hnx.out, Hrow2.out, Hbk.out⟩
            case measure => simp [intOf]; omega
          · have d9 : ((y : Int) != 1) = true := by rw [bne_iff_ne]; omega
            have heb : expG P Q y z < 18446744073709551616 := by have := powM_le y (z % Q) P; show powM _ _ _ < _; omega
            have hcon := fun W => exp_any P Q G H y z R W hP hQ hQ2 hys hzs
            have hmP : mulM x (expG P Q y z) P < P := mulM_lt_P HPr.out
            have hpt := prod_two (y := expG P Q y z) HPr.out hxP
            obtain ⟨E, hE⟩ : ∃ E, E = expG P Q y z := ⟨_, rfl⟩
            rw [← hE] at hcon hnx heb hmP hpt
            obtain ⟨M, hM⟩ : ∃ M, M = mulM x E P := ⟨_, rfl⟩
            rw [← hM] at hnx hmP hpt
            have hcon2 := fun A c W h => prod_any P Q G H R A c [x, E] W hP (by simp) h
            rw [hpt] at hcon2
            have Hcon := Lib.hid hcon
            have Hcon2 := Lib.hid hcon2
            have Hnx := Lib.hid hnx
            obtain ⟨g2, cap2, hv2, _, _, _, hcells⟩ := Hrow2.out.form (by omega)
            injection hv2 with hv3 _ hv4
            injection hv3 with hv3
            injection hv3 with hv3
            subst hv3 hv4
            obtain ⟨hc1, hf1⟩ := hcells j _ (rowAt_get Hpl.out)
            obtain ⟨g0, g1, g2, g3, g4⟩ := gcells (HG2.out.below Hbk.out hgl)
            have hne1 : w2.heap.size ≠ w.heap.size := by omega
            have hxbk : (x2.add k).block < w2.heap.size := World.block_lt_of_cell? w2 _ hzc0
            have hne2 : w2.heap.size ≠ (x2.add k).block := by omega
            clear hE hM hnx hcon hcon2 hpt hcells hy1 hzc0 hxbk
            have l0 := Later.cell g0
            have l1 := Later.cell g1
            have l2 := Later.cell g2
            have l3 := Later.cell g3
            have l4 := Later.cell g4
            have l5 := Later.cell hzc
            have l6 := Later.cell hc1
            have hEb := Lib.hid heb
            have hXb := Lib.hid hxb
            go_wp2_with fail
            refine region_float_tail [(62, fun u _ => u = .int .u64 (E : Int)), (63, fun u w => ∃ A c, u = .slice A 2 c ∧ Nums w A c [x, E]), (64, fun u _ => u = .int .u64 (M : Int))] 17
              (Know.stable_cons (fun _ _ _ h _ => h) (Know.stable_cons (fun _ _ _ h hl => let ⟨A, c, e, hn⟩ := h; ⟨A, c, e, hn.below hl⟩) (Know.stable_cons (fun _ _ _ h _ => h) Know.stable_nil))) (by kernel_rfl) (by kernel_rfl) (by rfl) ?_
            simp only [List.take_succ_cons, List.take_zero, List.drop_succ_cons, List.drop_zero]
            (repeat (first | (refine loose_skip (by rfl) ?_; simp only [Act.put, List.setIfInBounds_toArray, List.set_cons_zero, List.set_cons_succ]) | (refine loose_plain (by rfl) (by rfl) (by rfl) (fun Kc hKc => ?_); go_big_quiet_op; refine hKc _ ?_; clear hKc Kc)))
            refine loose_fix 62 (.int .u64 (E : Int)) (f := 102) (args := #[gval P Q G H R, .int .u64 (y : Int), .int .u64 (z : Int)]) (fun w => by go_simp; try rfl) (by rfl) (by rfl) (by rfl) (fun _ _ => Iff.rfl) (fun wk _ _ => Hcon.out wk) ?_
            simp only [Act.put, List.setIfInBounds_toArray, List.set_cons_zero, List.set_cons_succ]
            refine loose_make 63 (V := fun w => .slice (some ⟨w.heap.size, 0, none⟩) 2 2) (W := fun w => w.alloc (.cells #[.int .u64 (x : Int), .int .u64 (E : Int)] 22)) (fun w => by go_simp) (by rfl) (by rfl) (by rfl) (fun w _ _ => ⟨(Below.refl _ _).alloc (Nat.le_refl _) _, _, _, rfl, nums_two w x E _ hXb.out hEb.out⟩) ?_
            rintro _ wk hlk ⟨As, cs, rfl, _⟩
            simp only [Act.put, List.setIfInBounds_toArray, List.set_cons_zero, List.set_cons_succ]
            (repeat (first | (refine loose_skip (by rfl) ?_; simp only [Act.put, List.setIfInBounds_toArray, List.set_cons_zero, List.set_cons_succ]) | (refine loose_plain (by rfl) (by rfl) (by rfl) (fun Kc hKc => ?_); go_big_quiet_op; refine hKc _ ?_; clear hKc Kc)))
            refine loose_fix 64 (.int .u64 (M : Int)) (f := 104) (args := #[gval P Q G H R, .slice As 2 cs]) (fun w => by go_simp; try rfl) (by rfl) (by rfl) (by rfl) (fun _ _ => Iff.rfl) (fun wk _ hd => by
              obtain ⟨A', c', he, hn⟩ := hd 63 (by decide) _ (.inl ⟨rfl, rfl⟩)
              injection he with h1 _ h2
              subst h1 h2
              exact Hcon2.out As cs wk hn) ?_
            simp only [Act.put, List.setIfInBounds_toArray, List.set_cons_zero, List.set_cons_succ]
            (repeat (first | (refine loose_skip (by rfl) ?_; simp only [Act.put, List.setIfInBounds_toArray, List.set_cons_zero, List.set_cons_succ]) | (refine loose_plain (by rfl) (by rfl) (by rfl) (fun Kc hKc => ?_); go_big_quiet_op; refine hKc _ ?_; clear hKc Kc)))
            refine loose_nil ?_
            intro wq hbq _
            have hrow6 := Hrow2.out.below (show Below wr.heap.size wr wq from hbq)
            obtain ⟨gg, cc, hv2, _, _, _, hcells⟩ := hrow6.form (by omega)
            injection hv2 with hv3 _ hv4
            injection hv3 with hv3
            injection hv3 with hv3
            subst hv3 hv4
            obtain ⟨hc6, hf6⟩ := hcells j _ (rowAt_get Hpl.out)
            have hst6 := hrow6.store j (.int .u64 (M : Int))
            rw [rowAt_set Hpl.out] at hst6
            have Hst6 := Lib.hid hst6
            have Hb6 := Lib.hid (below_set (below_trans Hbk.out hbq) (b := w2.heap.size) (Nat.le_refl _) j (.int .u64 (M : Int)))
            clear hcells hst6 hrow6 hbq l0 l1 l2 l3 l4 l5 l6
            go_wp2_with fail
            refine NoPanic.normal ?_
            go_wp2_with fail
            go_roundw
            case rel => exact ⟨k + 1, M, by go_num, by omega, hmP, Hnx.out, Hst6.out, Hb6.out⟩
            case measure => simp [intOf]; omega
        · have d8 : decide ((k : Int) < (nX : Int)) = false := decide_eq_false (by omega)
          have hx : x = imgRow P Q V r.l := by
            rw [Hxk.out, List.take_of_length_le (by rw [List.length_zip, Hrl.out, ← HnX.out]; omega)]; rfl
          have hn2 : rowAt ps x q = u64s (((rs.take (j + 1)).map fun r => imgRow P Q V r.l) ++ List.replicate (nT - (j + 1)) 0) := by
            rw [imgs_take Hr1.out, ← hx, ← Hps.out, show nT - (j + 1) = q from by have := Hq.out; omega, rowAt]; simp
          have hrow3 := Hrow2.out
          rw [hn2] at hrow3
          have Hrow3 := Lib.hid hrow3
          clear hx hn2 hrow3
          go_wp2_with fail
          go_roundw
          case rel => exact ⟨j + 1, by go_num, by omega, Hrow3.out, Hbk.out⟩
          case measure => simp [intOf]; omega
    · have d6 : decide ((j : Int) < (nT : Int)) = false := decide_eq_false (by omega)
      have hjn : j = nT := by omega
      have hfin : Row wr w.heap.size 22 1 (.slice (some ⟨w2.heap.size, 0, none⟩) nT nT) (rs.map fun r => imgRow P Q V r.l).length (u64s (rs.map fun r => imgRow P Q V r.l)) := by
        rw [List.length_map, ← HnB.out]
        have h := hrow
        rw [Hps.out, List.take_of_length_le (by rw [← HnB.out]; omega), hjn, Nat.sub_self, List.replicate_zero, List.append_nil] at h
        exact row_low h (by have := Hb02.out.size; omega)
      have Hfin := Lib.hid hfin
      clear hfin hjn hrow
      go_wp2_with fail
      go_ret2
      exact ⟨⟨_, rfl, Hfin.out⟩, below_trans Hb02.out Hbr.out⟩
end Go.Proofs.YtbpenkaficiodaaGreat

/- Answers to a challenge: the reference's walk. -/
namespace Go.Proofs.YtbpenkaficiodaaGreat
open Go.RowKit

def ansL (Q E : Nat) (W D : List Nat) : List Nat := (W.zip D).map fun p => addM p.2 (mulM E p.1 Q) Q
def ansO (Q E : Nat) (W D : List Nat) : Option (List Nat) := if W.length ≠ D.length then none else some (ansL Q E W D)
theorem ansL_take {Q E k x y : Nat} {W D : List Nat} (hx : W[k]? = some x) (hy : D[k]? = some y) :
    (ansL Q E W D).take (k + 1) = (ansL Q E W D).take k ++ [addM y (mulM E x Q) Q] := by
  rw [List.take_add_one]
  have : (ansL Q E W D)[k]? = some (addM y (mulM E x Q) Q) := by
    rw [ansL, List.getElem?_map, show (W.zip D)[k]? = some (x, y) from List.getElem?_zip_eq_some.2 ⟨hx, hy⟩]; rfl
  rw [this]; rfl
theorem alloc_size_le (w : World) (o : Obj) : w.heap.size ≤ (w.alloc o).heap.size := by simp

set_option maxRecDepth 100000 in
set_option maxHeartbeats 4000000 in
theorem refAnswer_any (P Q G H E : Nat) (R : Value) (X : Option Addr) (capX : Nat) (V : List Nat) (Y : Option Addr) (capY : Nat) (D : List Nat) (w : World) (hQ : Q < 18446744073709551616) (hE : E < 18446744073709551616) (hX : Nums w X capX V) (hY : Nums w Y capY D) (hXl : V.length < 1000000) (hYl : D.length < 1000000) :
    Calls Tryz.prog 170 #[gval P Q G H R, .slice X V.length capX, .slice Y D.length capY, .int .u64 (E : Int)] w fun e w' => OutNums w.heap.size (ansO Q E V D) e w' ∧ Below w.heap.size w w' := by
  unfold gval
  obtain ⟨nX, hnX⟩ : ∃ n, n = V.length := ⟨_, rfl⟩
  obtain ⟨nY, hnY⟩ : ∃ n, n = D.length := ⟨_, rfl⟩
  obtain ⟨res, hres⟩ : ∃ s, s = ansO Q E V D := ⟨_, rfl⟩
  rw [← hnX, ← hnY, ← hres]
  have hb0 : Below w.heap.size w (w.alloc (.cells #[.int .u64 (P : Int), .int .u64 (Q : Int), .int .u64 (G : Int), .int .u64 (H : Int), R] 25)) := (Below.refl _ _).alloc (Nat.le_refl _) _
  have hg0 : Blk (w.alloc (.cells #[.int .u64 (P : Int), .int .u64 (Q : Int), .int .u64 (G : Int), .int .u64 (H : Int), R] 25)) w.heap.size 25 (glist P Q G H R) := Blk.of w _ _ _ rfl
  by_cases h1 : nX = nY
  case neg =>
    have d1 : ((nX : Int) != (nY : Int)) = true := by rw [bne_iff_ne]; omega
    have hr : res = none := by rw [hres, ansO, if_pos (by rw [← hnX, ← hnY]; exact h1)]
    have Hb0 := Lib.hid hb0
    subst hr
    clear hres h1 hb0 hg0 hX hY hnX hnY
    go_enter Tryz.func170, Tryz.ntmps170
    go_wp2_with fail
    go_ret2
    exact ⟨rfl, Hb0.out⟩
  subst h1
  have hr : res = some (ansL Q E V D) := by rw [hres, ansO, if_neg (by rw [← hnX, ← hnY]; omega)]
  have hal : (ansL Q E V D).length = nX := by rw [ansL, List.length_map, List.length_zip, ← hnX, ← hnY]; omega
  subst hr
  have Hal := Lib.hid hal
  have Hb0 := Lib.hid hb0
  have Hg0 := Lib.hid hg0
  have HX0 := Lib.hid (hX.below hb0)
  have HY0 := Lib.hid (hY.below hb0)
  have HnX := Lib.hid hnX
  have HnY := Lib.hid hnY
  have hXl' : nX < 1000000 := by omega
  clear hres hal hb0 hg0 hX hY hnX hnY hXl hYl
  go_enter Tryz.func170, Tryz.ntmps170
  go_wp2_with fail
  obtain ⟨W1, hW1⟩ : ∃ W1, W1 = w.alloc (.cells #[.int .u64 (P : Int), .int .u64 (Q : Int), .int .u64 (G : Int), .int .u64 (H : Int), R] 25) := ⟨_, rfl⟩
  rw [← hW1] at Hb0 Hg0 HX0 HY0 ⊢
  clear hW1
  have hgl := Hg0.out.lt
  go_loopw [10, 11] (fun v kv wr => ∃ k : Nat, kv = .int .i64 (k : Int) ∧ k ≤ nX ∧ Row wr W1.heap.size 22 1 v k (u64s ((ansL Q E V D).take k)) ∧ Below W1.heap.size W1 wr) (fun _ kv _ => nX - (intOf kv).toNat)
  case atStart => exact ⟨0, rfl, by omega, Row.nil _ _ _ _, Below.refl _ _⟩
  case round =>
    obtain ⟨k, rfl, hk, hrow, hbr⟩ := hrel
    obtain ⟨Av, cv, rfl⟩ := hrow.slice
    have Hbr := Lib.hid hbr
    obtain ⟨us, hus⟩ : ∃ us, us = u64s ((ansL Q E V D).take k) := ⟨_, rfl⟩
    rw [← hus] at hrow
    have hul : us.length = k := by have := hrow.1; omega
    have Hrw := Lib.hid hrow
    have Hus := Lib.hid hus
    have Hul := Lib.hid hul
    clear hbr hrow hus hul
    by_cases hkl : k < nX
    · have d8 : decide ((k : Int) < (nX : Int)) = true := decide_eq_true (by omega)
      have hki : (k : Int) < (nX : Int) := by omega
      obtain ⟨x, hx⟩ : ∃ x, V[k]? = some x := ⟨_, List.getElem?_eq_getElem (by rw [← HnX.out]; exact hkl)⟩
      obtain ⟨ax, hAx, hxc⟩ := HX0.out.cells k x hx
      subst hAx
      have hxc0 := hxc
      have hxc := below_cell Hbr.out hxc
      have hxs := HX0.out.small x (List.mem_of_getElem? hx)
      obtain ⟨y, hy⟩ : ∃ y, D[k]? = some y := ⟨_, List.getElem?_eq_getElem (by rw [← HnY.out]; exact hkl)⟩
      obtain ⟨ay, hAy, hyc⟩ := HY0.out.cells k y hy
      subst hAy
      have hyc0 := hyc
      have hyc := below_cell Hbr.out hyc
      have hys := HY0.out.small y (List.mem_of_getElem? hy)
      have htk := ansL_take (Q := Q) (E := E) hx hy
      obtain ⟨g0, g1, g2, g3, g4⟩ := gcells (Hg0.out.below Hbr.out hgl)
      have hmb := mulM_lt E x Q
      have hcon := fun W => refMul_any E x Q W hE hxs hQ
      have hcon2 := fun W => (refAdd_any y (mulM E x Q) Q W hys (by omega) hQ).mono (fun e w' h => (⟨h.1, by obtain ⟨n, hn⟩ := h.2; rw [hn]; exact below_drewN (Below.refl _ _) n⟩ : _ ∧ Below W.heap.size W w'))
      have hpg : w.heap.size < W1.heap.size := hgl
      have hpx : (ax.add k).block < W1.heap.size := World.block_lt_of_cell? W1 _ hxc0
      have hpy : (ay.add k).block < W1.heap.size := World.block_lt_of_cell? W1 _ hyc0
      obtain ⟨M, hM⟩ : ∃ M, M = mulM E x Q := ⟨_, rfl⟩
      rw [← hM] at hcon hcon2 hmb htk
      obtain ⟨N, hN⟩ : ∃ N, N = addM y M Q := ⟨_, rfl⟩
      rw [← hN] at hcon2 htk
      have hn2 : us ++ [Value.int .u64 (N : Int)] = u64s ((ansL Q E V D).take (k + 1)) := by rw [htk, Hus.out]; simp [u64s]
      have Hn2 := Lib.hid hn2
      have Hcon := Lib.hid hcon
      have Hcon2 := Lib.hid hcon2
      have hr2 : Row wr W1.heap.size 22 1 (.slice Av k cv) us.length us := by rw [Hul.out]; exact Hrw.out
      have Hr2 := Lib.hid hr2
      have hby : (us.length + 1) * 8 ≤ 140737488355328 := by rw [Hul.out]; omega
      clear hx hy hM hN htk hn2 hcon hcon2 hr2 g0 g2 g3 g4
      go_wp2_with fail
      go_region_held3 (fun w' => w'.cell? ⟨w.heap.size, 1, none⟩ = some (.int .u64 (Q : Int)) ∧ w'.cell? (ax.add k) = some (.int .u64 (x : Int)) ∧ w'.cell? (ay.add k) = some (.int .u64 (y : Int))) ((first | go_keep | (exact ⟨below_cell hb4 g1, below_cell hb4 hxc, below_cell hb4 hyc⟩) | (exact ⟨(hb5.cell (p := ⟨w.heap.size, 1, none⟩) hpg).trans (below_cell ((Below.refl _ w4).alloc (Nat.le_refl _) _) (below_cell hb4 g1)), (hb5.cell (p := ax.add k) hpx).trans (below_cell ((Below.refl _ w4).alloc (Nat.le_refl _) _) (below_cell hb4 hxc)), (hb5.cell (p := ay.add k) hpy).trans (below_cell ((Below.refl _ w4).alloc (Nat.le_refl _) _) (below_cell hb4 hyc))⟩))) ((first | (go_at_call 111; refine (Hcon.out _).mono ?_; rintro e w4 ⟨rfl, rfl⟩) | (go_at_call 159; refine (Hcon2.out _).mono ?_; rintro e w4 ⟨rfl, hb4⟩) | (refine step_oneZ Tryz.un_nums Tryz.inf_u64 rfl (.inr (Row.below (Row.below (w := wr.drew) Hr2.out hb4) ((Below.refl _ _).alloc (Nat.le_refl _) _))) (cell_one_new _ _ _ 0 _ rfl) rfl (by omega) hby (Nat.le_trans Hbr.out.size (Nat.le_trans (m := w4.heap.size) hb4.size (alloc_size_le w4 _))) rfl _ _ rfl rfl rfl ?_; intro v1 w5 hr5 hb5)))
      rw [show (us ++ [Value.int .u64 (N : Int)]).length = k + 1 from by rw [List.length_append, Hul.out]; rfl] at hr5
      rw [Hn2.out] at hr5
      have Hr5 := Lib.hid hr5
      have Hb5 : Hid (Below W1.heap.size W1 w5) :=
        ((Hbr.out.drew.trans (hb4.mono Hbr.out.size)).alloc (Nat.le_trans Hbr.out.size hb4.size) _).trans hb5
      clear hr5 hb4 hb5
      go_wp2_with fail
      go_roundw
      case rel => exact ⟨k + 1, by go_num, by omega, Hr5.out, Hb5.out⟩
      case measure => simp [intOf]; omega
    · have d8 : decide ((k : Int) < (nX : Int)) = false := decide_eq_false (by omega)
      have hfin : Row wr w.heap.size 22 1 (.slice Av k cv) (ansL Q E V D).length (u64s (ansL Q E V D)) := by
        have h := Hrw.out
        rw [Hus.out, List.take_of_length_le (by rw [Hal.out]; omega)] at h
        rw [Hal.out, show nX = k by omega]
        exact row_low h (by have := Hb0.out.size; omega)
      have Hfin := Lib.hid hfin
      clear hfin
      go_wp2_with fail
      go_ret2
      exact ⟨⟨_, rfl, Hfin.out⟩, below_trans Hb0.out Hbr.out⟩
end Go.Proofs.YtbpenkaficiodaaGreat

/- Challenges: the program's walk. -/
namespace Go.Proofs.YtbpenkaficiodaaGreat
open Go.RowKit Go.BigFrame

theorem row_len {w : World} {B : Nat} {e : TypeId} {v : Value} {n m : Nat} {xs ys : List Value} (h : Row w B e 1 v n xs) (hn : n = m) (hx : xs = ys) : Row w B e 1 v m ys := by subst hn hx; exact h

set_option maxRecDepth 100000 in
set_option maxHeartbeats 4000000 in
theorem challenge_any (P Q G H : Nat) (R : Value) (label : List UInt8) (A : Option Addr) (capT : Nat) (T : List Nat) (B : Option Addr) (capB : Nat) (rs : List NumV) (Y : Option Addr) (capY : Nat) (C : List Nat) (w : World) (hP : P < 18446744073709551616) (hQ : Q < 18446744073709551616) (hG : G < 18446744073709551616) (hH : H < 18446744073709551616) (hT : Nums w A capT T) (hR : Grid w B capB rs) (hY : Nums w Y capY C)
    (hl : label.length ≤ 1000000) (hTl : T.length ≤ 10000) (hRl : rs.length ≤ 10000) (hrl : ∀ r ∈ rs, r.l.length ≤ 10000) (hYl : C.length ≤ 10000) :
    Calls Tryz.prog 147 #[gval P Q G H R, .string (str label), cval A capT T.length B capB rs.length, .slice Y C.length capY] w fun e w' => e = .returned (.int .u64 (chal label P Q G H T (rs.map (·.l)) C : Int)) ∧ Below w.heap.size w w' := by
  unfold gval cval
  have hbd := chal_bound (P := P) (Q := Q) (G := G) (H := H) (C := C) hl hTl hRl hrl hYl
  obtain ⟨nT, hnT⟩ : ∃ n, n = T.length := ⟨_, rfl⟩
  obtain ⟨nB, hnB⟩ : ∃ n, n = rs.length := ⟨_, rfl⟩
  obtain ⟨nY, hnY⟩ : ∃ n, n = C.length := ⟨_, rfl⟩
  obtain ⟨res, hres⟩ : ∃ s, s = chal label P Q G H T (rs.map (·.l)) C := ⟨_, rfl⟩
  rw [← hnT, ← hnB, ← hnY, ← hres]
  have hb0 : Below w.heap.size w ((w.alloc (.cells #[.int .u64 (P : Int), .int .u64 (Q : Int), .int .u64 (G : Int), .int .u64 (H : Int), R] 25)).alloc (.cells #[.slice A nT capT, .slice B nB capB] 83)) :=
    ((Below.refl _ _).alloc (Nat.le_refl _) _).alloc (by simp) _
  have hg0 : Blk ((w.alloc (.cells #[.int .u64 (P : Int), .int .u64 (Q : Int), .int .u64 (G : Int), .int .u64 (H : Int), R] 25)).alloc (.cells #[.slice A nT capT, .slice B nB capB] 83)) w.heap.size 25 (glist P Q G H R) :=
    (Blk.of w _ _ _ rfl).alloc _
  have hc0 : Blk ((w.alloc (.cells #[.int .u64 (P : Int), .int .u64 (Q : Int), .int .u64 (G : Int), .int .u64 (H : Int), R] 25)).alloc (.cells #[.slice A nT capT, .slice B nB capB] 83)) (w.heap.size + 1) 83 [.slice A nT capT, .slice B nB capB] := by
    have := Blk.of (w.alloc (.cells #[.int .u64 (P : Int), .int .u64 (Q : Int), .int .u64 (G : Int), .int .u64 (H : Int), R] 25)) 83 #[.slice A nT capT, .slice B nB capB] _ rfl
    rwa [show (w.alloc (.cells #[.int .u64 (P : Int), .int .u64 (Q : Int), .int .u64 (G : Int), .int .u64 (H : Int), R] 25)).heap.size = w.heap.size + 1 by simp] at this
  have hT0 := hT.below hb0
  have hY0 := hY.below hb0
  have hR0 := hR.below hb0
  obtain ⟨w0, hw0⟩ : ∃ w0, w0 = ((w.alloc (.cells #[.int .u64 (P : Int), .int .u64 (Q : Int), .int .u64 (G : Int), .int .u64 (H : Int), R] 25)).alloc (.cells #[.slice A nT capT, .slice B nB capB] 83)) := ⟨_, rfl⟩
  rw [← hw0] at hb0 hg0 hc0 hT0 hY0 hR0
  have Hb0 := Lib.hid hb0
  have Hg0 := Lib.hid hg0
  have Hc0 := Lib.hid hc0
  have HT0 := Lib.hid hT0
  have HY0 := Lib.hid hY0
  have HR0 := Lib.hid hR0
  have HnT := Lib.hid hnT
  have HnB := Lib.hid hnB
  have HnY := Lib.hid hnY
  have Hres := Lib.hid hres
  have Hbd := Lib.hid hbd
  have Hrl := Lib.hid hrl
  have Hw0 := Lib.hid hw0
  have hTl' : nT ≤ 10000 := by omega
  have hRl' : nB ≤ 10000 := by omega
  have hYl' : nY ≤ 10000 := by omega
  have hgl := hg0.lt
  have hcl := hc0.lt
  obtain ⟨g0, g1, g2, g3, g4⟩ := gcells hg0
  obtain ⟨f0, f1⟩ := two_cells hc0
  clear hb0 hg0 hc0 hT0 hY0 hR0 hT hR hY hTl hRl hrl hYl hnT hnB hnY hres hw0 hbd
  have hs4 : ∀ x ∈ [P, Q, G, H], x < 18446744073709551616 := by simp [hP, hQ, hG, hH]
  have Hs4 := Lib.hid hs4
  obtain ⟨s1, hs1⟩ : ∃ s, s = numsText [P, Q, G, H] := ⟨_, rfl⟩
  obtain ⟨s2, hs2⟩ : ∃ s, s = numsText T := ⟨_, rfl⟩
  have Hs1 := Lib.hid hs1
  have Hs2 := Lib.hid hs2
  clear hs4 hs1 hs2
  go_enter Tryz.func147, Tryz.ntmps147
  go_wp2_with fail
  rw [← Hw0.out]
  have l0 := Later.cell g0
  have l1 := Later.cell g1
  have l2 := Later.cell g2
  have l3 := Later.cell g3
  have l4 := Later.cell f0
  refine region_loose [(20, fun u w => ∃ A c, u = .slice A 4 c ∧ Nums w A c [P, Q, G, H]), (21, fun u _ => u = .string (str s1)), (24, fun u _ => u = .string (str s2)), (25, fun u w => Row w w0.heap.size 9 1 u 2 [.string (str s1), .string (str s2)])]
    (Know.stable_cons (fun _ _ _ h hl => let ⟨A, c, e, hn⟩ := h; ⟨A, c, e, hn.below hl⟩) (Know.stable_cons (fun _ _ _ h _ => h) (Know.stable_cons (fun _ _ _ h _ => h) (Know.stable_cons (fun _ _ _ h hl => h.below hl) Know.stable_nil)))) (by kernel_rfl) (by kernel_rfl) ?_
  (repeat (first | (refine loose_skip (by rfl) ?_; simp only [Act.put, List.setIfInBounds_toArray, List.set_cons_zero, List.set_cons_succ]) | (refine loose_plain (by rfl) (by rfl) (by rfl) (fun Kc hKc => ?_); go_big_quiet_op; refine hKc _ ?_; clear hKc Kc)))
  refine loose_make 20 (V := fun w => .slice (some ⟨w.heap.size, 0, none⟩) 4 4) (W := fun w => w.alloc (.cells #[.int .u64 (P : Int), .int .u64 (Q : Int), .int .u64 (G : Int), .int .u64 (H : Int)] 22)) (fun w => by go_simp) (by rfl) (by rfl) (by rfl) (fun w _ _ => ⟨(Below.refl _ _).alloc (Nat.le_refl _) _, _, _, rfl, nums_new w [P, Q, G, H] _ Hs4.out⟩) ?_
  rintro _ wk hlk ⟨As, cs, rfl, _⟩
  simp only [Act.put, List.setIfInBounds_toArray, List.set_cons_zero, List.set_cons_succ]
  refine loose_fix 21 (.string (str s1)) (f := 177) (args := #[.slice As 4 cs]) (fun w => by go_simp; try rfl) (by rfl) (by rfl) (by rfl) (fun _ _ => Iff.rfl) (fun w _ hd => by
    obtain ⟨A', c', he, hn⟩ := hd 20 (by decide) _ (.inl ⟨rfl, rfl⟩)
    injection he with h1 _ h2
    subst h1 h2
    rw [Hs1.out]
    exact pnumbers_any As cs _ w hn (by simp)) ?_
  simp only [Act.put, List.setIfInBounds_toArray, List.set_cons_zero, List.set_cons_succ]
  (repeat (first | (refine loose_skip (by rfl) ?_; simp only [Act.put, List.setIfInBounds_toArray, List.set_cons_zero, List.set_cons_succ]) | (refine loose_plain (by rfl) (by rfl) (by rfl) (fun Kc hKc => ?_); go_big_quiet_op; refine hKc _ ?_; clear hKc Kc)))
  refine loose_fix 24 (.string (str s2)) (f := 177) (args := #[.slice A nT capT]) (fun w => by go_simp; try rfl) (by rfl) (by rfl) (by rfl) (fun _ _ => Iff.rfl) (fun w hl hd => by
    rw [Hs2.out, HnT.out]
    exact pnumbers_any A capT T w (HT0.out.below hl) (by rw [← HnT.out]; omega)) ?_
  simp only [Act.put, List.setIfInBounds_toArray, List.set_cons_zero, List.set_cons_succ]
  refine loose_make 25 (V := fun w => .slice (some ⟨w.heap.size, 0, none⟩) 2 2) (W := fun w => w.alloc (.cells #[.string (str s1), .string (str s2)] 9)) (fun w => by go_simp) (by rfl) (by rfl) (by rfl) (fun w hl _ => ⟨(Below.refl _ _).alloc (Nat.le_refl _) _, row_low (Row.of_blk (Blk.of w _ _ _ rfl) 2 rfl (by simp [maxLen])) hl.size⟩) ?_
  intro v25 wk25 _ hrow25
  obtain ⟨A25, c25, rfl⟩ := hrow25.slice
  clear hrow25
  simp only [Act.put, List.setIfInBounds_toArray, List.set_cons_zero, List.set_cons_succ]
  (repeat (first | (refine loose_skip (by rfl) ?_; simp only [Act.put, List.setIfInBounds_toArray, List.set_cons_zero, List.set_cons_succ]) | (refine loose_plain (by rfl) (by rfl) (by rfl) (fun Kc hKc => ?_); go_big_quiet_op; refine hKc _ ?_; clear hKc Kc)))
  refine loose_nil ?_
  intro wq hbq hkn
  have Hrow := Lib.hid (show Row wq w0.heap.size 9 1 (.slice A25 2 c25) 2 [.string (str s1), .string (str s2)] from hkn 25 _ (.inl ⟨rfl, rfl⟩))
  have Hbq := Lib.hid (show Below w0.heap.size w0 wq from hbq)
  have f1q := below_cell Hbq.out f1
  clear hkn hbq l0 l1 l2 l3 l4
  go_wp2_with fail
  go_loopw [9, 11, 29] (fun pv _ iv wr => ∃ k : Nat, iv = .int .i64 (k : Int) ∧ k ≤ nB ∧ Row wr w0.heap.size 9 1 pv (2 + k) ((chalUpto P Q G H T rs k).map tv) ∧ Below w0.heap.size w0 wr) (fun _ _ iv _ => nB - (intOf iv).toNat)
  case atStart => exact ⟨0, rfl, by omega, row_len Hrow.out (by omega) (by rw [Hs1.out, Hs2.out]; simp [chalUpto, tv]), Hbq.out⟩
  case round =>
    obtain ⟨k, rfl, hk, hrow, hbr⟩ := hrel
    obtain ⟨Av, cv, rfl⟩ := hrow.slice
    have Hbr := Lib.hid hbr
    have HRw := Lib.hid hrow
    clear hbr hrow
    have hcu := chalUpto_length (P := P) (Q := Q) (G := G) (H := H) (T := T) (rs := rs) (k := k) (by rw [← HnB.out]; omega)
    have Hcu := Lib.hid hcu
    clear hcu
    by_cases hkl : k < nB
    · have d6 : decide ((k : Int) < (nB : Int)) = true := decide_eq_true (by omega)
      have hki : (k : Int) < (nB : Int) := by omega
      obtain ⟨r, hr⟩ : ∃ r, rs[k]? = some r := ⟨_, List.getElem?_eq_getElem (by rw [← HnB.out]; exact hkl)⟩
      have hmem := List.mem_of_getElem? hr
      obtain ⟨b', hb', hrc⟩ := HR0.out.cells k r hr
      subst hb'
      have hrc := below_cell Hbr.out hrc
      rw [show r.val = .slice r.A r.l.length r.cap from rfl] at hrc
      have hcon := pnumbers_any r.A r.cap r.l wr ((HR0.out.nums r hmem).below Hbr.out) (by have := Hrl.out r hmem; omega)
      have hnx := chalUpto_next (P := P) (Q := Q) (G := G) (H := H) (T := T) hr
      obtain ⟨s3, hs3⟩ : ∃ s, s = numsText r.l := ⟨_, rfl⟩
      rw [← hs3] at hcon hnx
      obtain ⟨nr, hnr⟩ : ∃ n, n = r.l.length := ⟨_, rfl⟩
      rw [← hnr] at hrc hcon
      obtain ⟨xs, hxs⟩ : ∃ xs, xs = (chalUpto P Q G H T rs k).map tv := ⟨_, rfl⟩
      have hxl : xs.length = 2 + k := by rw [hxs, List.length_map, Hcu.out]
      have hnx2 : xs ++ [Value.string (str s3)] = (chalUpto P Q G H T rs (k + 1)).map tv := by rw [← hnx, List.map_append, ← hxs]; rfl
      have HRw2 := Lib.hid (row_len HRw.out hxl.symm hxs.symm)
      have Hnx := Lib.hid hnx2
      have Hxl := Lib.hid hxl
      have Hcon := Lib.hid hcon
      have hxb : (xs.length + 1) * 16 ≤ 140737488355328 := by omega
      clear hr hmem hs3 hnr hxs hxl hnx hnx2 hcon HRw
      go_wp2_with (first | (go_at_call 177; refine Hcon.out.mono ?_; rintro e w2 ⟨rfl, hb2⟩; have Hb2 := Lib.hid hb2; clear hb2) | (at_builtin; go_must (refine ap_one Tryz.und_strs Tryz.info_str rfl (HRw2.out.below Hb2.out) rfl (by omega) hxb (Nat.le_trans Hbr.out.size Hb2.out.size) rfl _ _ rfl rfl rfl ?_; intro v1 w3 hr3 hg3; have hr4 := row_len hr3 (m := 2 + (k + 1)) (by rw [List.length_append, Hxl.out]; simp; omega) Hnx.out; obtain ⟨Av3, cv3, rfl⟩ := hr4.slice; have Hr3 := Lib.hid hr4; have Hb3 := Lib.hid ((below_trans Hbr.out Hb2.out).grown hg3 (below_trans Hbr.out Hb2.out).size (fun q hq => (HRw2.out.block q hq).1)); clear hr3 hr4 hg3)))
      go_roundw
      case rel => exact ⟨k + 1, by go_num, by omega, Hr3.out, Hb3.out⟩
      case measure => simp [intOf]; omega
    · have d6 : decide ((k : Int) < (nB : Int)) = false := decide_eq_false (by omega)
      obtain ⟨s4, hs4⟩ : ∃ s, s = numsText C := ⟨_, rfl⟩
      have hall := chalUpto_all (P := P) (Q := Q) (G := G) (H := H) (T := T) (C := C) (rs := rs) (k := k) (by rw [← HnB.out]; omega)
      obtain ⟨xs, hxs⟩ : ∃ xs, xs = (chalUpto P Q G H T rs k).map tv := ⟨_, rfl⟩
      have hxl : xs.length = 2 + k := by rw [hxs, List.length_map, Hcu.out]
      obtain ⟨pp, hpp⟩ : ∃ p, p = chalParts P Q G H T (rs.map (·.l)) C := ⟨_, rfl⟩
      have hnx2 : xs ++ [Value.string (str s4)] = pp.map tv := by rw [hpp, ← hall, List.map_append, ← hxs, ← hs4]; rfl
      have hppl : pp.length = 2 + k + 1 := by rw [hpp, ← hall, List.length_append, Hcu.out]; rfl
      have hcon := pnumbers_any Y capY C wr.drew ((HY0.out.below Hbr.out).below ((Below.refl _ _).drew)) (by rw [← HnY.out]; omega)
      rw [← hs4, ← HnY.out] at hcon
      have Hlen1 : Hid ((xs ++ [Value.string (str s4)]).length = pp.length) := Lib.hid (by rw [hppl, List.length_append, hxl]; rfl)
      have Hcon := Lib.hid hcon
      have HRw2 := Lib.hid (row_len HRw.out hxl.symm hxs.symm)
      have Hnx := Lib.hid hnx2
      have hpp0 : 0 < pp.length := by omega
      have Hppl := Lib.hid hppl
      have Hxl := Lib.hid hxl
      have hres2 : res = numberOf label pp Q := by rw [Hres.out, hpp]; rfl
      have Hres2 := Lib.hid hres2
      have Hbd2 : Hid ((numText (label :: pp)).length ≤ 1099511627776 ∧ pp.length ≤ 1099511627776) := by rw [hpp]; exact Lib.hid Hbd.out
      have hxb : (xs.length + 1) * 16 ≤ 140737488355328 := by omega
      have g1r := below_cell Hbr.out g1
      clear hs4 hall hxs hxl hpp hnx2 hppl hcon hres2 HRw Hbd Hres
      go_wp2_with fail
      go_region_held3 (fun w' => w'.cell? ⟨w.heap.size, 1, none⟩ = some (.int .u64 (Q : Int))) ((first | exact g1r | exact below_cell hb4 g1r | exact (hb5.cell (p := ⟨w.heap.size, 1, none⟩) hgl).trans (below_cell ((Below.refl _ w4).alloc (Nat.le_refl _) _) (below_cell hb4 g1r)) | exact below_cell hb7 ((hb5.cell (p := ⟨w.heap.size, 1, none⟩) hgl).trans (below_cell ((Below.refl _ w4).alloc (Nat.le_refl _) _) (below_cell hb4 g1r))) | go_keep)) ((first | (go_at_call 177; refine Hcon.out.mono ?_; rintro e w4 ⟨rfl, hb4⟩) | (refine step_oneZ Tryz.und_strs Tryz.info_str rfl (.inr (Row.below (Row.below (w := wr.drew) HRw2.out hb4) ((Below.refl _ _).alloc (Nat.le_refl _) _))) (cell_one_new _ _ _ 0 _ rfl) rfl (by omega) hxb (Nat.le_trans Hbr.out.size (Nat.le_trans (m := w4.heap.size) hb4.size (alloc_size_le w4 _))) rfl _ _ rfl rfl rfl ?_; intro v1 w5 hr5 hb5) | (go_at_call 163; have hr6 := row_len hr5 Hlen1.out Hnx.out; obtain ⟨g6, cap6, rfl, hg61, hg62, hst6⟩ := Row.strs hr6 hpp0; have Hst6 := Lib.hid hst6; clear hr5 hr6 hst6; refine (number_text label _ _ pp Q _ Hst6.out hQ Hbd2.out.1 Hbd2.out.2).mono ?_; rw [← Hres2.out]; rintro e w7 ⟨rfl, hb7⟩)))
      all_goals
        have hbe := Below.trans (Below.mono (below_trans (Below.drew (Below.refl wr.heap.size wr)) hb4) Hbr.out.size) (Below.trans (Below.mono ((Below.refl _ w4).alloc (Nat.le_refl _) _) (Nat.le_trans Hbr.out.size hb4.size)) (Below.trans hb5 (Below.mono hb7 (Nat.le_trans Hbr.out.size (Nat.le_trans (m := w4.heap.size) hb4.size (Nat.le_trans (alloc_size_le w4 _) hb5.size))))))
        have Hbe := Lib.hid hbe
        clear hbe
        go_wp2_with fail
        go_ret
        exact ⟨rfl, below_trans Hb0.out (Below.trans Hbr.out Hbe.out)⟩
end Go.Proofs.YtbpenkaficiodaaGreat

/- Answers to a challenge: the program's walk. -/
namespace Go.Proofs.YtbpenkaficiodaaGreat
open Go.RowKit

theorem addM_comm (a b m : Nat) : addM a b m = addM b a m := by unfold addM; rw [Nat.add_comm]

set_option maxRecDepth 100000 in
set_option maxHeartbeats 1000000 in
theorem ansOne_any (P Q G H E x y eb gb : Nat) (R : Value) (w : World) (hQ : Q < 18446744073709551616) (hE : E < 18446744073709551616) (hx : x < 18446744073709551616) (hy : y < 18446744073709551616)
    (hB : Blk w gb 25 (glist P Q G H R)) (hc : w.cell? ⟨eb, 0, none⟩ = some (.int .u64 (E : Int))) :
    Calls Tryz.prog 127 #[.int .u64 (x : Int), .int .u64 (y : Int), .pointer (some ⟨eb, 0, none⟩), .pointer (some ⟨gb, 0, none⟩)] w fun e w' => e = .returned (.int .u64 (addM y (mulM E x Q) Q : Int)) ∧ Below w.heap.size w w' := by
  rw [addM_comm]
  obtain ⟨g0, g1, g2, g3, g4⟩ := gcells hB
  have hmb := mulM_lt E x Q
  have hcon := fun W => mul_any E x Q W hE hx hQ
  have hcon2 := fun W => add_any (mulM E x Q) y Q W (by omega) hy hQ
  obtain ⟨M, hM⟩ : ∃ M, M = mulM E x Q := ⟨_, rfl⟩
  rw [← hM] at hcon hcon2 hmb ⊢
  obtain ⟨N, hN⟩ : ∃ N, N = addM M y Q := ⟨_, rfl⟩
  rw [← hN] at hcon2 ⊢
  have l1 := Later.cell g1
  have l2 := Later.cell hc
  clear hB hM hN g0 g2 g3 g4
  go_enter Tryz.func127, Tryz.ntmps127
  go_wp2_with fail
  (refine region_calm (by kernel_rfl) (by kernel_rfl) ?_; (repeat (go_big_quiet_step ((first | (go_at_call 99; exact calm_drew (hcon _)) | (go_at_call 128; exact calm_drew (hcon2 _)) | (go_at_call 128; exact calm_same (hcon2 _)))))); refine wpQuiet_nil ?_; intro wq hw'; obtain ⟨pq, hpq⟩ := hw'; have hbq := pq.below; rw [← hpq] at hbq; clear hpq pq; try dsimp only)
  go_wp2_with fail
  go_ret
  exact ⟨rfl, hbq⟩

set_option maxRecDepth 100000 in
set_option maxHeartbeats 4000000 in
theorem each_any (P Q G H E eb gb : Nat) (R : Value) (X : Option Addr) (capX : Nat) (V : List Nat) (Y : Option Addr) (capY : Nat) (D : List Nat) (w : World) (hQ : Q < 18446744073709551616) (hE : E < 18446744073709551616) (hX : Nums w X capX V) (hY : Nums w Y capY D) (hXl : V.length < 1000000) (hYl : D.length < 1000000)
    (hB : Blk w gb 25 (glist P Q G H R)) (hc : w.cell? ⟨eb, 0, none⟩ = some (.int .u64 (E : Int))) :
    Calls Tryz.prog 126 #[.slice X V.length capX, .slice Y D.length capY, .func (.func 127) #[] #[.pointer (some ⟨eb, 0, none⟩), .pointer (some ⟨gb, 0, none⟩)]] w fun e w' => OutNums w.heap.size (ansO Q E V D) e w' ∧ Below w.heap.size w w' := by
  obtain ⟨nX, hnX⟩ : ∃ n, n = V.length := ⟨_, rfl⟩
  obtain ⟨nY, hnY⟩ : ∃ n, n = D.length := ⟨_, rfl⟩
  obtain ⟨res, hres⟩ : ∃ s, s = ansO Q E V D := ⟨_, rfl⟩
  rw [← hnX, ← hnY, ← hres]
  by_cases h1 : nX = nY
  case neg =>
    have d1 : ((nX : Int) != (nY : Int)) = true := by rw [bne_iff_ne]; omega
    have hr : res = none := by rw [hres, ansO, if_pos (by rw [← hnX, ← hnY]; exact h1)]
    subst hr
    clear hres h1 hX hY hnX hnY hB hc
    go_enter Tryz.func126, Tryz.ntmps126
    go_wp2_with fail
    go_ret2
    exact ⟨rfl, Below.refl _ _⟩
  subst h1
  have hr : res = some (ansL Q E V D) := by rw [hres, ansO, if_neg (by rw [← hnX, ← hnY]; omega)]
  have hal : (ansL Q E V D).length = nX := by rw [ansL, List.length_map, List.length_zip, ← hnX, ← hnY]; omega
  subst hr
  have hmk : ∀ W : World, (Instr.makeSlice 40 (.int .i64 (nX : Int)) (.int .i64 (nX : Int))).run Tryz.prog W = .ok (.slice (some ⟨W.heap.size, 0, none⟩) nX nX) (W.alloc (.cells (madeCells #[.int .u64 0] nX) 22)) :=
    fun W => run_make_row' 40 22 (.int .u64 0) 8 Tryz.un_nums Tryz.inf_u64 rfl .i64 .i64 nX (by omega) (by omega) W
  have hgl := hB.lt
  have hel := World.block_lt_of_cell? w _ hc
  have Hal := Lib.hid hal
  have HB := Lib.hid hB
  have Hc := Lib.hid hc
  have HX0 := Lib.hid hX
  have HY0 := Lib.hid hY
  have HnX := Lib.hid hnX
  have HnY := Lib.hid hnY
  have hXl' : nX < 1000000 := by omega
  clear hres hal hX hY hnX hnY hXl hYl hB hc
  go_enter Tryz.func126, Tryz.ntmps126
  go_wp2_with fail
  clear hmk
  go_loopw [21] (fun kv wr => ∃ k : Nat, kv = .int .i64 (k : Int) ∧ k ≤ nX ∧ Row wr w.heap.size 22 1 (.slice (some ⟨w.heap.size, 0, none⟩) nX nX) nX (u64s ((ansL Q E V D).take k ++ List.replicate (nX - k) 0)) ∧ Below w.heap.size w wr) (fun kv _ => nX - (intOf kv).toNat)
  case atStart =>
    refine ⟨0, rfl, by omega, ?_, (Below.refl _ _).alloc (Nat.le_refl _) _⟩
    have h := Row.of_blk (Blk.of w 22 (madeCells #[.int .u64 0] nX) _ (madeNums _ _)) nX (by simp) (by simp only [maxLen]; omega)
    simpa [u64s] using h
  case round =>
    obtain ⟨k, rfl, hk, hrow, hbr⟩ := hrel
    have Hbr := Lib.hid hbr
    obtain ⟨ps, hps⟩ : ∃ ps, ps = (ansL Q E V D).take k := ⟨_, rfl⟩
    rw [← hps] at hrow
    have hpl : ps.length = k := by rw [hps, List.length_take, Hal.out]; omega
    have Hps := Lib.hid hps
    have Hpl := Lib.hid hpl
    clear hbr hps hpl
    by_cases hkl : k < nX
    · have d8 : decide ((k : Int) < (nX : Int)) = true := decide_eq_true (by omega)
      have hki : (k : Int) < (nX : Int) := by omega
      obtain ⟨q, hq⟩ : ∃ q, nX - k = q + 1 := ⟨nX - k - 1, by omega⟩
      have hrow : Row wr w.heap.size 22 1 (.slice (some ⟨w.heap.size, 0, none⟩) nX nX) nX (rowAt ps 0 q) := by rw [hq] at hrow; exact hrow
      obtain ⟨x, hx⟩ : ∃ x, V[k]? = some x := ⟨_, List.getElem?_eq_getElem (by rw [← HnX.out]; exact hkl)⟩
      obtain ⟨ax, hAx, hxc⟩ := HX0.out.cells k x hx
      subst hAx
      have hxc := below_cell Hbr.out hxc
      have hxs := HX0.out.small x (List.mem_of_getElem? hx)
      obtain ⟨y, hy⟩ : ∃ y, D[k]? = some y := ⟨_, List.getElem?_eq_getElem (by rw [← HnY.out]; exact hkl)⟩
      obtain ⟨ay, hAy, hyc⟩ := HY0.out.cells k y hy
      subst hAy
      have hyc := below_cell Hbr.out hyc
      have hys := HY0.out.small y (List.mem_of_getElem? hy)
      have htk := ansL_take (Q := Q) (E := E) hx hy
      have hcon := ansOne_any P Q G H E x y eb gb R wr hQ hE hxs hys (HB.out.below Hbr.out hgl) (below_cell Hbr.out Hc.out)
      obtain ⟨N, hN⟩ : ∃ N, N = addM y (mulM E x Q) Q := ⟨_, rfl⟩
      rw [← hN] at hcon htk
      have hnx : rowAt ps N q = u64s ((ansL Q E V D).take (k + 1) ++ List.replicate (nX - (k + 1)) 0) := by
        rw [htk, ← Hps.out, show nX - (k + 1) = q by omega, rowAt]; simp
      have Hcon := Lib.hid hcon
      have Hnx := Lib.hid hnx
      have Hrow := Lib.hid hrow
      clear hx hy hN htk hcon hnx hrow hq
      go_wp2_with (go_at_call 127; refine Hcon.out.mono ?_; rintro e w6 ⟨rfl, hb6⟩; have hrow6 := Hrow.out.below hb6; obtain ⟨gg, cc, hv2, _, _, _, hcells⟩ := hrow6.form (by omega); injection hv2 with hv3 _ hv4; injection hv3 with hv3; injection hv3 with hv3; subst hv3 hv4; obtain ⟨hc6, hf6⟩ := hcells k _ (rowAt_get Hpl.out); have hst6 := hrow6.store k (.int .u64 (N : Int)); rw [rowAt_set Hpl.out, Hnx.out] at hst6; have Hst6 := Lib.hid hst6; have Hb6 := Lib.hid (below_set (below_trans Hbr.out hb6) (b := w.heap.size) (Nat.le_refl _) k (.int .u64 (N : Int))); clear hcells hst6 hrow6 hb6)
      go_roundw
      case rel => exact ⟨k + 1, by go_num, by omega, Hst6.out, Hb6.out⟩
      case measure => simp [intOf]; omega
    · have d8 : decide ((k : Int) < (nX : Int)) = false := decide_eq_false (by omega)
      have hfin : Row wr w.heap.size 22 1 (.slice (some ⟨w.heap.size, 0, none⟩) nX nX) (ansL Q E V D).length (u64s (ansL Q E V D)) := by
        rw [Hal.out]
        have h := hrow
        rw [Hps.out, List.take_of_length_le (by rw [Hal.out]; omega), show nX - k = 0 by omega, List.replicate_zero, List.append_nil] at h
        exact h
      have Hfin := Lib.hid hfin
      clear hfin hrow
      go_wp2_with fail
      go_ret2
      exact ⟨⟨_, rfl, Hfin.out⟩, Hbr.out⟩
end Go.Proofs.YtbpenkaficiodaaGreat

/- Answers to a challenge: the program's walk: the function that is called. -/
namespace Go.Proofs.YtbpenkaficiodaaGreat
open Go.RowKit

theorem OutNums.low {B B' : Nat} {res : Option (List Nat)} {e : Ending} {w : World} (h : OutNums B res e w) (hB : B' ≤ B) : OutNums B' res e w := by
  cases res with
  | none => exact h
  | some l => obtain ⟨v, he, hr⟩ := h; exact ⟨v, he, row_low hr hB⟩

set_option maxRecDepth 100000 in
set_option maxHeartbeats 2000000 in
theorem answer_any (P Q G H E : Nat) (R : Value) (X : Option Addr) (capX : Nat) (V : List Nat) (Y : Option Addr) (capY : Nat) (D : List Nat) (w : World) (hQ : Q < 18446744073709551616) (hE : E < 18446744073709551616) (hX : Nums w X capX V) (hY : Nums w Y capY D) (hXl : V.length < 1000000) (hYl : D.length < 1000000) :
    Calls Tryz.prog 53 #[gval P Q G H R, .slice X V.length capX, .slice Y D.length capY, .int .u64 (E : Int)] w fun e w' => OutNums w.heap.size (ansO Q E V D) e w' ∧ Below w.heap.size w w' := by
  unfold gval
  have hmf : ∀ (fn : Fn) (first cap : Array Value) (w : World), (Instr.makeFunc fn first cap).run Tryz.prog w = .ok (.func fn first cap) w := fun _ _ _ _ => rfl
  have hb0 : Below w.heap.size w ((w.alloc (.cells #[.int .u64 (P : Int), .int .u64 (Q : Int), .int .u64 (G : Int), .int .u64 (H : Int), R] 25)).alloc (.cells #[.int .u64 (E : Int)] 22)) :=
    ((Below.refl _ _).alloc (Nat.le_refl _) _).alloc (by simp) _
  have hg0 : Blk ((w.alloc (.cells #[.int .u64 (P : Int), .int .u64 (Q : Int), .int .u64 (G : Int), .int .u64 (H : Int), R] 25)).alloc (.cells #[.int .u64 (E : Int)] 22)) w.heap.size 25 (glist P Q G H R) :=
    (Blk.of w _ _ _ rfl).alloc _
  have hc0 : Blk ((w.alloc (.cells #[.int .u64 (P : Int), .int .u64 (Q : Int), .int .u64 (G : Int), .int .u64 (H : Int), R] 25)).alloc (.cells #[.int .u64 (E : Int)] 22)) (w.heap.size + 1) 22 [.int .u64 (E : Int)] := by
    have := Blk.of (w.alloc (.cells #[.int .u64 (P : Int), .int .u64 (Q : Int), .int .u64 (G : Int), .int .u64 (H : Int), R] 25)) 22 #[.int .u64 (E : Int)] _ rfl
    rwa [show (w.alloc (.cells #[.int .u64 (P : Int), .int .u64 (Q : Int), .int .u64 (G : Int), .int .u64 (H : Int), R] 25)).heap.size = w.heap.size + 1 by simp] at this
  have hcon := each_any P Q G H E (w.heap.size + 1) w.heap.size R X capX V Y capY D _ hQ hE (hX.below hb0) (hY.below hb0) hXl hYl hg0 (hc0.cell 0)
  obtain ⟨nX, hnX⟩ : ∃ n, n = V.length := ⟨_, rfl⟩
  obtain ⟨nY, hnY⟩ : ∃ n, n = D.length := ⟨_, rfl⟩
  obtain ⟨res, hres⟩ : ∃ s, s = ansO Q E V D := ⟨_, rfl⟩
  rw [← hnX, ← hnY, ← hres] at hcon ⊢
  have Hcon := Lib.hid hcon
  have Hb0 := Lib.hid hb0
  clear hcon hb0 hg0 hc0 hX hY hXl hYl hnX hnY hres
  cases res with
  | none =>
    go_enter Tryz.func53, Tryz.ntmps53
    go_wp2_with (go_at_call 126; refine Hcon.out.mono ?_; rintro e w2 ⟨hout, hb2⟩; have he : e = .returned (.tuple #[.slice none 0 0, .bool false]) := hout; clear hout; subst he; have Hb2 := Lib.hid hb2; clear hb2)
    go_ret2
    exact ⟨rfl, below_trans Hb0.out Hb2.out⟩
  | some l =>
    go_enter Tryz.func53, Tryz.ntmps53
    go_wp2_with (go_at_call 126; refine Hcon.out.mono ?_; rintro e w2 ⟨⟨v, rfl, hrow⟩, hb2⟩; have Hb2 := Lib.hid hb2; have Hrow := Lib.hid hrow; clear hb2 hrow)
    go_ret2
    exact ⟨⟨_, rfl, row_low Hrow.out Hb0.out.size⟩, below_trans Hb0.out Hb2.out⟩
end Go.Proofs.YtbpenkaficiodaaGreat

/- Is a talk accepted? The reference's walk. -/
namespace Go.Proofs.YtbpenkaficiodaaGreat
open Go.RowKit

theorem nums_of_row {w : World} {B : Nat} {e : TypeId} {v : Value} {l : List Nat} (h : Row w B e 1 v l.length (u64s l)) (hs : ∀ x ∈ l, x < 18446744073709551616) : ∃ A c, v = .slice A l.length c ∧ Nums w A c l := by
  by_cases h0 : 0 < l.length
  · obtain ⟨g, cap, rfl, _, _, hnc, hcells⟩ := h.form h0
    refine ⟨_, _, rfl, hnc, fun i x hx => ⟨_, rfl, ?_⟩, hs⟩
    have := (hcells i (.int .u64 (x : Int)) (by rw [u64s, List.getElem?_map, hx]; rfl)).1
    rw [show (⟨g, 0, none⟩ : Addr).add i = ⟨g, i, none⟩ by unfold Addr.add; split <;> simp_all]
    exact this
  · obtain ⟨A, c, rfl⟩ := h.slice
    have hl : l = [] := List.eq_nil_of_length_eq_zero (by omega)
    subst hl
    exact ⟨A, c, rfl, Nums.nil _ _ _⟩
def accAt (P Q E : Nat) (x c t : Nat) : Bool := inG P Q t && decide (x = mulM t (expG P Q c E) P)
def accG (P Q E : Nat) (T : List Nat) (C : List Nat) (res : Option (List Nat)) : Bool := match res with
  | none => false
  | some l => decide (C.length = T.length) && (List.range C.length).all fun j => accAt P Q E (l.getD j 0) (T.getD j 0) (C.getD j 0)
theorem u64s_bound_img {P Q : Nat} {V : List Nat} {rs : List NumV} : ∀ x ∈ rs.map (fun r => imgRow P Q V r.l), x < 18446744073709551616 := by
  intro x hx
  obtain ⟨r, _, rfl⟩ := List.mem_map.1 hx
  exact imgRow_le _ _ _ _
theorem img_bound {P Q : Nat} {T : List Nat} {rs : List NumV} {V l : List Nat} (h : imgO P Q T (rs.map (·.l)) V = some l) : (∀ x ∈ l, x < 18446744073709551616) ∧ l.length = T.length ∧ l.length ≤ 64 := by
  unfold imgO at h
  split at h
  · cases h
  · rename_i h1
    injection h with h
    obtain ⟨a, _, b, _, _⟩ := sizeC_pos (P := P) (Q := Q) (T := T) (rs := rs) rfl (by omega)
    subst h
    rw [rows_imgs]
    exact ⟨u64s_bound_img, by rw [List.length_map]; exact a, by rw [List.length_map]; exact b⟩
def accUpto (P Q E : Nat) (l T C : List Nat) (j : Nat) : Bool := (List.range j).all fun i => accAt P Q E (l.getD i 0) (T.getD i 0) (C.getD i 0)
theorem accUpto_next {P Q E j x c t : Nat} {l T C : List Nat} (hx : l[j]? = some x) (hc : T[j]? = some c) (ht : C[j]? = some t) (h : accUpto P Q E l T C j = true) (ha : accAt P Q E x c t = true) : accUpto P Q E l T C (j + 1) = true := by
  unfold accUpto at *
  rw [List.range_succ, List.all_append, h]
  simp [List.getD, hx, hc, ht, ha]
theorem accUpto_no {P Q E j x c t n : Nat} {l T C : List Nat} (hj : j < n) (hx : l[j]? = some x) (hc : T[j]? = some c) (ht : C[j]? = some t) (ha : accAt P Q E x c t = false) : accUpto P Q E l T C n = false := by
  unfold accUpto
  rw [List.all_eq_false]
  exact ⟨j, List.mem_range.2 hj, by simp [List.getD, hx, hc, ht, ha]⟩
end Go.Proofs.YtbpenkaficiodaaGreat

/- Proofs are made: the program's walk. -/
namespace Go.Proofs.YtbpenkaficiodaaGreat
open Go.RowKit Go.BigFrame

def proveO (label : List UInt8) (P Q G H : Nat) (T : List Nat) (L : List (List Nat)) (W D : List Nat) : Option (List Nat × List Nat) := match imgO P Q T L D with
  | none => none
  | some t => match ansO Q (chal label P Q G H T L t) W D with
    | none => none
    | some z => some (t, z)
/-- A proof that is handed back, or none. -/
def OutProof (B : Nat) (res : Option (List Nat × List Nat)) (e : Ending) (w' : World) : Prop := match res with
  | none => e = .returned (.tuple #[.agg #[.slice none 0 0, .slice none 0 0], .bool false])
  | some p => ∃ v1 v2, e = .returned (.tuple #[.agg #[v1, v2], .bool true]) ∧ Row w' B 22 1 v1 p.1.length (u64s p.1) ∧ Row w' B 22 1 v2 p.2.length (u64s p.2)
theorem Row.other {w : World} {B b : Nat} {e : TypeId} {sz n : Nat} {v : Value} {xs : List Value} (h : Row w B e sz v n xs) (hb : b < B) (o : Nat) (x : Value) : Row (w.setCell ⟨b, o, none⟩ x) B e sz v n xs := by
  refine h.kept (grown_set w b o x) ?_
  cases hv : v.ownBlock with
  | none => exact .inl rfl
  | some k =>
    refine .inr ?_
    have := (h.block k hv).1
    intro hk
    injection hk with hk
    omega
theorem chal_lt (label : List UInt8) (P Q G H : Nat) (T : List Nat) (L : List (List Nat)) (C : List Nat) : chal label P Q G H T L C < 18446744073709551616 := by
  have := fold_le Q ((sha (numText (label :: chalParts P Q G H T L C))).take 16) 0 (by omega)
  unfold chal numberOf
  omega

set_option maxRecDepth 100000 in
set_option maxHeartbeats 4000000 in
theorem prove_any (P Q G H : Nat) (R : Value) (label : List UInt8) (A : Option Addr) (capT : Nat) (T : List Nat) (B : Option Addr) (capB : Nat) (rs : List NumV) (X : Option Addr) (capX : Nat) (V : List Nat) (Y : Option Addr) (capY : Nat) (D : List Nat) (w : World) (hP : P < 18446744073709551616) (hPr : rightB P = true) (hQ : Q < 18446744073709551616) (hQ2 : 2 ≤ Q) (hG : G < 18446744073709551616) (hH : H < 18446744073709551616) (hT : Nums w A capT T) (hR : Grid w B capB rs) (hX : Nums w X capX V) (hY : Nums w Y capY D)
    (hl : label.length ≤ 1000000) (hTl : T.length ≤ 10000) (hRl : rs.length ≤ 10000) (hrl : ∀ r ∈ rs, r.l.length ≤ 10000) (hXl : V.length ≤ 10000) (hYl : D.length ≤ 10000) :
    Calls Tryz.prog 115 #[gval P Q G H R, .string (str label), cval A capT T.length B capB rs.length, .slice X V.length capX, .slice Y D.length capY] w fun e w' => OutProof w.heap.size (proveO label P Q G H T (rs.map (·.l)) V D) e w' ∧ Below w.heap.size w w' := by
  have himg := fun W0 hb => image_any P Q G H R A capT T B capB rs Y capY D W0 hP hPr hQ hQ2 (hT.below (w1 := W0) hb) (hR.below hb) (hY.below hb) (by omega) (by omega) (fun r hr => by have := hrl r hr; omega) (by omega)
  have hch := fun W0 Z cZ t hb hZ hl' => challenge_any P Q G H R label A capT T B capB rs Z cZ t W0 hP hQ hG hH (hT.below (w1 := W0) hb) (hR.below hb) hZ hl hTl hRl hrl hl'
  have han := fun W0 E hE hb => answer_any P Q G H E R X capX V Y capY D W0 hQ hE (hX.below (w1 := W0) hb) (hY.below hb) (by omega) (by omega)
  unfold gval cval at himg hch ⊢
  unfold gval at han
  obtain ⟨nT, hnT⟩ : ∃ n, n = T.length := ⟨_, rfl⟩
  obtain ⟨nB, hnB⟩ : ∃ n, n = rs.length := ⟨_, rfl⟩
  obtain ⟨nX, hnX⟩ : ∃ n, n = V.length := ⟨_, rfl⟩
  obtain ⟨nY, hnY⟩ : ∃ n, n = D.length := ⟨_, rfl⟩
  rw [← hnT, ← hnB] at hch
  rw [← hnT, ← hnB, ← hnY] at himg
  rw [← hnX, ← hnY] at han
  rw [← hnT, ← hnB, ← hnX, ← hnY]
  obtain ⟨w0, hw0⟩ : ∃ w0, w0 = (((w.alloc (.cells #[.int .u64 (P : Int), .int .u64 (Q : Int), .int .u64 (G : Int), .int .u64 (H : Int), R] 25)).alloc (.cells #[.slice A nT capT, .slice B nB capB] 83)).alloc (.cells #[.slice none 0 0, .slice none 0 0] 42)) := ⟨_, rfl⟩
  have hb0 : Below w.heap.size w w0 := by rw [hw0]; exact (((Below.refl _ _).alloc (Nat.le_refl _) _).alloc (by simp) _).alloc (by simp; omega) _
  have hg0 : Blk w0 w.heap.size 25 (glist P Q G H R) := by rw [hw0]; exact ((Blk.of w _ _ _ rfl).alloc _).alloc _
  have hc0 : Blk w0 (w.heap.size + 1) 83 [.slice A nT capT, .slice B nB capB] := by
    have := Blk.of (w.alloc (.cells #[.int .u64 (P : Int), .int .u64 (Q : Int), .int .u64 (G : Int), .int .u64 (H : Int), R] 25)) 83 #[.slice A nT capT, .slice B nB capB] _ rfl
    rw [show (w.alloc (.cells #[.int .u64 (P : Int), .int .u64 (Q : Int), .int .u64 (G : Int), .int .u64 (H : Int), R] 25)).heap.size = w.heap.size + 1 by simp] at this
    rw [hw0]; exact this.alloc _
  have hr0 : Blk w0 (w.heap.size + 1 + 1) 42 [.slice none 0 0, .slice none 0 0] := by
    have := Blk.of ((w.alloc (.cells #[.int .u64 (P : Int), .int .u64 (Q : Int), .int .u64 (G : Int), .int .u64 (H : Int), R] 25)).alloc (.cells #[.slice A nT capT, .slice B nB capB] 83)) 42 #[.slice none 0 0, .slice none 0 0] _ rfl
    rw [show ((w.alloc (.cells #[.int .u64 (P : Int), .int .u64 (Q : Int), .int .u64 (G : Int), .int .u64 (H : Int), R] 25)).alloc (.cells #[.slice A nT capT, .slice B nB capB] 83)).heap.size = w.heap.size + 1 + 1 by simp] at this
    rw [hw0]; exact this
  obtain ⟨res, hres⟩ : ∃ s, s = imgO P Q T (rs.map (·.l)) D := ⟨_, rfl⟩
  obtain ⟨out, hout⟩ : ∃ s, s = proveO label P Q G H T (rs.map (·.l)) V D := ⟨_, rfl⟩
  have himg0 := himg w0 hb0
  rw [← hres] at himg0
  rw [← hout]
  have Himg := Lib.hid himg0
  have Hch := Lib.hid hch
  have Han := Lib.hid han
  have Hb0 := Lib.hid hb0
  have Hg0 := Lib.hid hg0
  have Hc0 := Lib.hid hc0
  have Hr0 := Lib.hid hr0
  have HnT := Lib.hid hnT
  have Hres := Lib.hid hres
  have Hout := Lib.hid hout
  have Hw0 := Lib.hid hw0
  have hrl0 := hr0.lt
  clear himg himg0 hch han hb0 hg0 hc0 hr0 hT hR hX hY hRl hrl hXl hYl hnT hnB hnX hnY hres hout hw0
  cases res with
  | none =>
    have hn : out = none := by rw [Hout.out, proveO, ← Hres.out]
    subst hn
    go_enter Tryz.func115, Tryz.ntmps115
    go_wp2_with fail
    rw [← Hw0.out]
    obtain ⟨g0, g1, g2, g3, g4⟩ := gcells Hg0.out
    obtain ⟨f0, f1⟩ := two_cells Hc0.out
    go_wp2_with (go_at_call 52; refine Himg.out.mono ?_; rintro e w2 ⟨hout, hb2⟩; have he : e = .returned (.tuple #[.slice none 0 0, .bool false]) := hout; clear hout; subst he; have hr2 := Hr0.out.below hb2 hrl0; obtain ⟨p0, p1⟩ := two_cells hr2; have q0 := hr2.frozen 0; have q1 := hr2.frozen 1; have Hb2 := Lib.hid hb2; clear hb2 hr2)
    have hr2 := Hr0.out.below Hb2.out hrl0
    have hf := (hr2.set 0 (.slice none 0 0)).set 1 (.slice none 0 0)
    obtain ⟨k0, k1⟩ := two_cells (show Blk _ _ _ [.slice none 0 0, .slice none 0 0] from hf)
    clear hf hr2
    exact bodyPost_ret (v := .tuple #[.agg #[.slice none 0 0, .slice none 0 0], .bool false]) (by simp [results, Tryz.results115, go_sem, k0, k1]) rfl ⟨rfl, below_set (below_set (below_trans Hb0.out Hb2.out) (by omega) _ _) (by omega) _ _⟩
  | some t =>
    obtain ⟨htb, htT, ht64⟩ := img_bound Hres.out.symm
    have Htb := Lib.hid htb
    obtain ⟨nt, hnt⟩ : ∃ n, n = t.length := ⟨_, rfl⟩
    have hnt64 : nt ≤ 10000 := by omega
    obtain ⟨E, hE⟩ : ∃ E, E = chal label P Q G H T (rs.map (·.l)) t := ⟨_, rfl⟩
    have hEl : E < 18446744073709551616 := by rw [hE]; exact chal_lt _ _ _ _ _ _ _ _
    obtain ⟨an, han⟩ : ∃ s, s = ansO Q E V D := ⟨_, rfl⟩
    have Hnt := Lib.hid hnt
    have HE := Lib.hid hE
    have HAn := Lib.hid han
    clear htb htT ht64 hnt hE han
    have Hans : Hid (∀ W0, Below w.heap.size w W0 → Calls Tryz.prog 53 #[.agg #[.int .u64 (P : Int), .int .u64 (Q : Int), .int .u64 (G : Int), .int .u64 (H : Int), R], .slice X nX capX, .slice Y nY capY, .int .u64 (E : Int)] W0 fun e w' => OutNums W0.heap.size an e w' ∧ Below W0.heap.size W0 w') := Lib.hid (fun W0 hb => by rw [HAn.out]; exact Han.out W0 E hEl hb)
    clear Han
    cases an with
    | none =>
      have hn : out = none := by rw [Hout.out, proveO, ← Hres.out]; show (match ansO Q (chal label P Q G H T (rs.map (·.l)) t) V D with | none => none | some z => some (t, z)) = none; rw [← HE.out, ← HAn.out]
      subst hn
      go_enter Tryz.func115, Tryz.ntmps115
      go_wp2_with fail
      rw [← Hw0.out]
      obtain ⟨g0, g1, g2, g3, g4⟩ := gcells Hg0.out
      obtain ⟨f0, f1⟩ := two_cells Hc0.out
      go_wp2_with (go_at_call 52; refine Himg.out.mono ?_; rintro e w2 ⟨⟨v, rfl, hrow⟩, hb2⟩; obtain ⟨g0, g1, g2, g3, g4⟩ := gcells (Hg0.out.below hb2 Hg0.out.lt); obtain ⟨f0, f1⟩ := two_cells (Hc0.out.below hb2 Hc0.out.lt); obtain ⟨Al, cl, rfl, hN⟩ := nums_of_row hrow Htb.out; rw [← Hnt.out]; have HN := Lib.hid hN; have Hb2 := Lib.hid hb2; have Hrow := Lib.hid hrow; clear hb2 hN hrow)
      go_wp2_with fail
      have l0 := Later.cell g0
      have l1 := Later.cell g1
      have l2 := Later.cell g2
      have l3 := Later.cell g3
      have l4 := Later.cell g4
      have l5 := Later.cell f0
      have l6 := Later.cell f1
      refine region_loose [(33, fun u _ => u = .int .u64 (E : Int)), (34, fun u _ => u = .tuple #[.slice none 0 0, .bool false])] (Know.stable_cons (fun _ _ _ h _ => h) (Know.stable_cons (fun _ _ _ h _ => h) Know.stable_nil)) (by kernel_rfl) (by kernel_rfl) ?_
      (repeat (first | (refine loose_skip (by rfl) ?_; simp only [Act.put, List.setIfInBounds_toArray, List.set_cons_zero, List.set_cons_succ]) | (refine loose_plain (by rfl) (by rfl) (by rfl) (fun Kc hKc => ?_); go_big_quiet_op; refine hKc _ ?_; clear hKc Kc)))
      refine loose_fix 33 (.int .u64 (E : Int)) (f := 147) (args := #[.agg #[.int .u64 (P : Int), .int .u64 (Q : Int), .int .u64 (G : Int), .int .u64 (H : Int), R], .string (str label), .agg #[.slice A nT capT, .slice B nB capB], .slice Al nt cl]) (fun w => by go_simp; try rfl) (by rfl) (by rfl) (by rfl) (fun _ _ => Iff.rfl) (fun wk hl _ => by
        rw [HE.out, Hnt.out]
        exact Hch.out wk Al cl t (below_trans (below_trans Hb0.out Hb2.out) hl) (HN.out.below hl) (by rw [← Hnt.out]; exact hnt64)) ?_
      simp only [Act.put, List.setIfInBounds_toArray, List.set_cons_zero, List.set_cons_succ]
      refine loose_fix 34 (.tuple #[.slice none 0 0, .bool false]) (f := 53) (args := #[.agg #[.int .u64 (P : Int), .int .u64 (Q : Int), .int .u64 (G : Int), .int .u64 (H : Int), R], .slice X nX capX, .slice Y nY capY, .int .u64 (E : Int)]) (fun w => by go_simp; try rfl) (by rfl) (by rfl) (by rfl) (fun _ _ => Iff.rfl) (fun wk hl _ => (Hans.out wk (below_trans (below_trans Hb0.out Hb2.out) hl)).mono fun e w' h => h) ?_
      simp only [Act.put, List.setIfInBounds_toArray, List.set_cons_zero, List.set_cons_succ]
      (repeat (first | (refine loose_skip (by rfl) ?_; simp only [Act.put, List.setIfInBounds_toArray, List.set_cons_zero, List.set_cons_succ]) | (refine loose_plain (by rfl) (by rfl) (by rfl) (fun Kc hKc => ?_); go_big_quiet_op; refine hKc _ ?_; clear hKc Kc)))
      refine loose_nil ?_
      intro wq hbq hkn
      have Hbq := Lib.hid (show Below w2.heap.size w2 wq from hbq)
      have hr2 := (Hr0.out.below Hb2.out hrl0).below Hbq.out (Nat.lt_of_lt_of_le hrl0 Hb2.out.size)
      obtain ⟨p0, p1⟩ := two_cells hr2
      have q0 := hr2.frozen 0
      have q1 := hr2.frozen 1
      clear hkn hbq l0 l1 l2 l3 l4 l5 l6
      go_wp2_with fail
      have hf := (hr2.set 0 (.slice none 0 0)).set 1 (.slice none 0 0)
      obtain ⟨k0, k1⟩ := two_cells (show Blk _ _ _ [.slice none 0 0, .slice none 0 0] from hf)
      clear hf hr2
      exact bodyPost_ret (v := .tuple #[.agg #[.slice none 0 0, .slice none 0 0], .bool false]) (by simp [results, Tryz.results115, go_sem, k0, k1]) rfl ⟨rfl, below_set (below_set (below_trans (below_trans Hb0.out Hb2.out) Hbq.out) (by omega) _ _) (by omega) _ _⟩
    | some z =>
      have hn : out = some (t, z) := by rw [Hout.out, proveO, ← Hres.out]; show (match ansO Q (chal label P Q G H T (rs.map (·.l)) t) V D with | none => none | some z => some (t, z)) = some (t, z); rw [← HE.out, ← HAn.out]
      subst hn
      go_enter Tryz.func115, Tryz.ntmps115
      go_wp2_with fail
      rw [← Hw0.out]
      obtain ⟨g0, g1, g2, g3, g4⟩ := gcells Hg0.out
      obtain ⟨f0, f1⟩ := two_cells Hc0.out
      go_wp2_with (go_at_call 52; refine Himg.out.mono ?_; rintro e w2 ⟨⟨v, rfl, hrow⟩, hb2⟩; obtain ⟨g0, g1, g2, g3, g4⟩ := gcells (Hg0.out.below hb2 Hg0.out.lt); obtain ⟨f0, f1⟩ := two_cells (Hc0.out.below hb2 Hc0.out.lt); obtain ⟨Al, cl, rfl, hN⟩ := nums_of_row hrow Htb.out; rw [← Hnt.out]; have HN := Lib.hid hN; have Hb2 := Lib.hid hb2; have Hrow := Lib.hid hrow; clear hb2 hN hrow)
      go_wp2_with fail
      have l0 := Later.cell g0
      have l1 := Later.cell g1
      have l2 := Later.cell g2
      have l3 := Later.cell g3
      have l4 := Later.cell g4
      have l5 := Later.cell f0
      have l6 := Later.cell f1
      refine region_loose [(33, fun u _ => u = .int .u64 (E : Int)), (34, fun u w' => ∃ v, u = .tuple #[v, .bool true] ∧ Row w' w0.heap.size 22 1 v z.length (u64s z))] (Know.stable_cons (fun _ _ _ h _ => h) (Know.stable_cons (fun _ _ _ h hl => let ⟨v, e, hr⟩ := h; ⟨v, e, hr.below hl⟩) Know.stable_nil)) (by kernel_rfl) (by kernel_rfl) ?_
      (repeat (first | (refine loose_skip (by rfl) ?_; simp only [Act.put, List.setIfInBounds_toArray, List.set_cons_zero, List.set_cons_succ]) | (refine loose_plain (by rfl) (by rfl) (by rfl) (fun Kc hKc => ?_); go_big_quiet_op; refine hKc _ ?_; clear hKc Kc)))
      refine loose_fix 33 (.int .u64 (E : Int)) (f := 147) (args := #[.agg #[.int .u64 (P : Int), .int .u64 (Q : Int), .int .u64 (G : Int), .int .u64 (H : Int), R], .string (str label), .agg #[.slice A nT capT, .slice B nB capB], .slice Al nt cl]) (fun w => by go_simp; try rfl) (by rfl) (by rfl) (by rfl) (fun _ _ => Iff.rfl) (fun wk hl _ => by
        rw [HE.out, Hnt.out]
        exact Hch.out wk Al cl t (below_trans (below_trans Hb0.out Hb2.out) hl) (HN.out.below hl) (by rw [← Hnt.out]; exact hnt64)) ?_
      simp only [Act.put, List.setIfInBounds_toArray, List.set_cons_zero, List.set_cons_succ]
      refine loose_call 34 (f := 53) (args := #[.agg #[.int .u64 (P : Int), .int .u64 (Q : Int), .int .u64 (G : Int), .int .u64 (H : Int), R], .slice X nX capX, .slice Y nY capY, .int .u64 (E : Int)]) (fun w => by go_simp; try rfl) (by rfl) (by rfl) (by rfl) (fun wk hl _ => (Hans.out wk (below_trans (below_trans Hb0.out Hb2.out) hl)).mono fun e w' h => by
        obtain ⟨⟨v, he, hr⟩, hb⟩ := h
        exact ⟨_, he, hb, v, rfl, row_low hr (below_trans Hb2.out hl).size⟩) ?_
      rintro _ wk _ ⟨vz, rfl, _⟩
      simp only [Act.put, List.setIfInBounds_toArray, List.set_cons_zero, List.set_cons_succ]
      (repeat (first | (refine loose_skip (by rfl) ?_; simp only [Act.put, List.setIfInBounds_toArray, List.set_cons_zero, List.set_cons_succ]) | (refine loose_plain (by rfl) (by rfl) (by rfl) (fun Kc hKc => ?_); go_big_quiet_op; refine hKc _ ?_; clear hKc Kc)))
      refine loose_nil ?_
      intro wq hbq hkn
      have Hbq := Lib.hid (show Below w2.heap.size w2 wq from hbq)
      obtain ⟨vz', he, hrz⟩ := hkn 34 _ (.inl ⟨rfl, rfl⟩)
      obtain rfl : vz = vz' := by injection he with he; injection he with he; injection he with he _
      have Hrz := Lib.hid hrz
      have hr2 := (Hr0.out.below Hb2.out hrl0).below Hbq.out (Nat.lt_of_lt_of_le hrl0 Hb2.out.size)
      obtain ⟨p0, p1⟩ := two_cells hr2
      have q0 := hr2.frozen 0
      have q1 := hr2.frozen 1
      obtain ⟨Az, cz, rfl⟩ := hrz.slice
      clear hkn hbq l0 l1 l2 l3 l4 l5 l6 he hrz
      go_wp2_with fail
      have hf := (hr2.set 0 (.slice Al nt cl)).set 1 (.slice Az z.length cz)
      obtain ⟨k0, k1⟩ := two_cells (show Blk _ _ _ [.slice Al nt cl, .slice Az z.length cz] from hf)
      have hrt : Row wq w0.heap.size 22 1 (.slice Al nt cl) t.length (u64s t) := by rw [Hnt.out]; exact Hrow.out.below Hbq.out
      clear hf hr2
      exact bodyPost_ret (v := .tuple #[.agg #[.slice Al nt cl, .slice Az z.length cz], .bool true]) (by simp [results, Tryz.results115, go_sem, k0, k1]) rfl ⟨⟨_, _, rfl, row_low ((hrt.other hrl0 _ _).other hrl0 _ _) Hb0.out.size, row_low ((Hrz.out.other hrl0 _ _).other hrl0 _ _) Hb0.out.size⟩, below_set (below_set (below_trans (below_trans Hb0.out Hb2.out) Hbq.out) (by omega) _ _) (by omega) _ _⟩
end Go.Proofs.YtbpenkaficiodaaGreat

/- Claims of keys and of shares: both walks. -/
namespace Go.Proofs.YtbpenkaficiodaaGreat
open Go.RowKit

/-- A claim that is handed back. -/
def OutClaim (T : List Nat) (L : List (List Nat)) (e : Ending) (w' : World) : Prop :=
  ∃ A cT B cB rs, e = .returned (cval A cT T.length B cB rs.length) ∧ Nums w' A cT T ∧ Grid w' B cB rs ∧ rs.map (·.l) = L
theorem Blk.at_new (w : World) (n : Nat) (T : TypeId) (cs : Array Value) (l : List Value) (h : n = w.heap.size) (hl : cs.toList = l) : Blk (w.alloc (.cells cs T)) n T l := by subst h; exact Blk.of w T cs l hl
theorem blk_add (b i : Nat) : (⟨b, 0, none⟩ : Addr).add i = ⟨b, i, none⟩ := by unfold Addr.add; split <;> simp_all
theorem Nums.of_blk {w : World} {b : Nat} {T : TypeId} {l : List Nat} (h : Blk w b T (l.map fun (x : Nat) => .int .u64 (x : Int))) (hs : ∀ x ∈ l, x < 18446744073709551616) : Nums w (some ⟨b, 0, none⟩) l.length l :=
  ⟨Nat.le_refl _, fun i x hx => ⟨_, rfl, by rw [blk_add, h.cell, List.getElem?_map, hx]; rfl⟩, hs⟩
theorem Grid.of_blk {w : World} {b : Nat} {T : TypeId} {rs : List NumV} (h : Blk w b T (rs.map NumV.val)) (hn : ∀ r ∈ rs, Nums w r.A r.cap r.l) : Grid w (some ⟨b, 0, none⟩) rs.length rs :=
  ⟨Nat.le_refl _, fun i r hr => ⟨_, rfl, by rw [blk_add, h.cell, List.getElem?_map, hr]; rfl⟩, hn⟩

end Go.Proofs.YtbpenkaficiodaaGreat

/- Claims of shares: both walks. -/
namespace Go.Proofs.YtbpenkaficiodaaGreat
open Go.RowKit

set_option maxRecDepth 100000 in
set_option maxHeartbeats 2000000 in
theorem shares_any (P Q G H x U V s : Nat) (R : Value) (w : World) (hG : G < 18446744073709551616) (hx : x < 18446744073709551616) (hU : U < 18446744073709551616) (hs : s < 18446744073709551616) :
    Calls Tryz.prog 83 #[gval P Q G H R, .int .u64 (x : Int), .agg #[.int .u64 (U : Int), .int .u64 (V : Int)], .int .u64 (s : Int)] w fun e w' => OutClaim [x, s] [[G], [U]] e w' ∧ Below w.heap.size w w' := by
  unfold gval
  go_enter Tryz.func83, Tryz.ntmps83
  go_wp2_with fail
  obtain ⟨w1, hw1⟩ : ∃ w1, w1 = w.alloc (.cells #[.int .u64 (P : Int), .int .u64 (Q : Int), .int .u64 (G : Int), .int .u64 (H : Int), R] 25) := ⟨_, rfl⟩
  rw [← hw1]
  have hs1 : w1.heap.size = w.heap.size + 1 := by rw [hw1]; simp
  have hb1 : Below w.heap.size w w1 := by rw [hw1]; exact (Below.refl _ _).alloc (Nat.le_refl _) _
  have l1 : ∀ {b : Nat} {T : TypeId} {cs : List Value}, Blk w b T cs → Blk w1 b T cs := fun h => by rw [hw1]; exact h.alloc _
  have hk1 : Blk w1 (w.heap.size) 25 (glist P Q G H R) := by rw [hw1]; exact Blk.at_new _ _ _ _ _ rfl rfl
  obtain ⟨w2, hw2⟩ : ∃ w2, w2 = w1.alloc (.cells #[.int .u64 (U : Int), .int .u64 (V : Int)] 61) := ⟨_, rfl⟩
  rw [← hw2]
  have hs2 : w2.heap.size = w.heap.size + 1 + 1 := by rw [hw2]; simp [hs1]
  have hb2 : Below w.heap.size w w2 := by rw [hw2]; exact hb1.alloc (by omega) _
  have l2 : ∀ {b : Nat} {T : TypeId} {cs : List Value}, Blk w1 b T cs → Blk w2 b T cs := fun h => by rw [hw2]; exact h.alloc _
  have hk2 : Blk w2 (w.heap.size + 1) 61 [.int .u64 (U : Int), .int .u64 (V : Int)] := by rw [hw2]; exact Blk.at_new _ _ _ _ _ hs1.symm rfl
  obtain ⟨w3, hw3⟩ : ∃ w3, w3 = w2.alloc (.cells #[.slice (some ⟨w.heap.size + 1 + 1 + 1, 0, none⟩) 2 2, .slice (some ⟨w.heap.size + 1 + 1 + 1 + 1 + 1 + 1, 0, none⟩) 2 2] 83) := ⟨_, rfl⟩
  rw [← hw3]
  have hs3 : w3.heap.size = w.heap.size + 1 + 1 + 1 := by rw [hw3]; simp [hs2]
  have hb3 : Below w.heap.size w w3 := by rw [hw3]; exact hb2.alloc (by omega) _
  have l3 : ∀ {b : Nat} {T : TypeId} {cs : List Value}, Blk w2 b T cs → Blk w3 b T cs := fun h => by rw [hw3]; exact h.alloc _
  have hk3 : Blk w3 (w.heap.size + 1 + 1) 83 [.slice (some ⟨w.heap.size + 1 + 1 + 1, 0, none⟩) 2 2, .slice (some ⟨w.heap.size + 1 + 1 + 1 + 1 + 1 + 1, 0, none⟩) 2 2] := by rw [hw3]; exact Blk.at_new _ _ _ _ _ hs2.symm rfl
  obtain ⟨w4, hw4⟩ : ∃ w4, w4 = w3.alloc (.cells #[.int .u64 (x : Int), .int .u64 (s : Int)] 22) := ⟨_, rfl⟩
  rw [← hw4]
  have hs4 : w4.heap.size = w.heap.size + 1 + 1 + 1 + 1 := by rw [hw4]; simp [hs3]
  have hb4 : Below w.heap.size w w4 := by rw [hw4]; exact hb3.alloc (by omega) _
  have l4 : ∀ {b : Nat} {T : TypeId} {cs : List Value}, Blk w3 b T cs → Blk w4 b T cs := fun h => by rw [hw4]; exact h.alloc _
  have hk4 : Blk w4 (w.heap.size + 1 + 1 + 1) 22 ([x, s].map fun (x : Nat) => .int .u64 (x : Int)) := by rw [hw4]; exact Blk.at_new _ _ _ _ _ hs3.symm rfl
  obtain ⟨w5, hw5⟩ : ∃ w5, w5 = w4.alloc (.cells #[.int .u64 (G : Int)] 22) := ⟨_, rfl⟩
  rw [← hw5]
  have hs5 : w5.heap.size = w.heap.size + 1 + 1 + 1 + 1 + 1 := by rw [hw5]; simp [hs4]
  have hb5 : Below w.heap.size w w5 := by rw [hw5]; exact hb4.alloc (by omega) _
  have l5 : ∀ {b : Nat} {T : TypeId} {cs : List Value}, Blk w4 b T cs → Blk w5 b T cs := fun h => by rw [hw5]; exact h.alloc _
  have hk5 : Blk w5 (w.heap.size + 1 + 1 + 1 + 1) 22 ([G].map fun (x : Nat) => .int .u64 (x : Int)) := by rw [hw5]; exact Blk.at_new _ _ _ _ _ hs4.symm rfl
  obtain ⟨w6, hw6⟩ : ∃ w6, w6 = w5.alloc (.cells #[.int .u64 (U : Int)] 22) := ⟨_, rfl⟩
  rw [← hw6]
  have hs6 : w6.heap.size = w.heap.size + 1 + 1 + 1 + 1 + 1 + 1 := by rw [hw6]; simp [hs5]
  have hb6 : Below w.heap.size w w6 := by rw [hw6]; exact hb5.alloc (by omega) _
  have l6 : ∀ {b : Nat} {T : TypeId} {cs : List Value}, Blk w5 b T cs → Blk w6 b T cs := fun h => by rw [hw6]; exact h.alloc _
  have hk6 : Blk w6 (w.heap.size + 1 + 1 + 1 + 1 + 1) 22 ([U].map fun (x : Nat) => .int .u64 (x : Int)) := by rw [hw6]; exact Blk.at_new _ _ _ _ _ hs5.symm rfl
  obtain ⟨w7, hw7⟩ : ∃ w7, w7 = w6.alloc (.cells #[.slice (some ⟨w.heap.size + 1 + 1 + 1 + 1, 0, none⟩) 1 1, .slice (some ⟨w.heap.size + 1 + 1 + 1 + 1 + 1, 0, none⟩) 1 1] 40) := ⟨_, rfl⟩
  rw [← hw7]
  have hs7 : w7.heap.size = w.heap.size + 1 + 1 + 1 + 1 + 1 + 1 + 1 := by rw [hw7]; simp [hs6]
  have hb7 : Below w.heap.size w w7 := by rw [hw7]; exact hb6.alloc (by omega) _
  have l7 : ∀ {b : Nat} {T : TypeId} {cs : List Value}, Blk w6 b T cs → Blk w7 b T cs := fun h => by rw [hw7]; exact h.alloc _
  have hk7 : Blk w7 (w.heap.size + 1 + 1 + 1 + 1 + 1 + 1) 40 ([⟨some ⟨w.heap.size + 1 + 1 + 1 + 1, 0, none⟩, 1, [G]⟩, ⟨some ⟨w.heap.size + 1 + 1 + 1 + 1 + 1, 0, none⟩, 1, [U]⟩].map NumV.val) := by rw [hw7]; exact Blk.at_new _ _ _ _ _ hs6.symm rfl
  have kf1 := l7 (l6 (l5 (l4 (l3 (l2 (hk1))))))
  have kf2 := l7 (l6 (l5 (l4 (l3 (hk2)))))
  have kf3 := l7 (l6 (l5 (l4 (hk3))))
  have kf4 := l7 (l6 (l5 (hk4)))
  have kf5 := l7 (l6 (hk5))
  have kf6 := l7 (hk6)
  have kf7 := hk7
  clear hw1 hs1 l1 hk1 hw2 hs2 l2 hk2 hw3 hs3 l3 hk3 hw4 hs4 l4 hk4 hw5 hs5 l5 hk5 hw6 hs6 l6 hk6 hw7 hs7 l7 hk7 hb1 hb2 hb3 hb4 hb5 hb6
  obtain ⟨k0, k1⟩ := two_cells kf3
  have hN := Nums.of_blk kf4 (by simp [hx, hs])
  have hN2 := Nums.of_blk kf5 (by simp [hG])
  have hN3 := Nums.of_blk kf6 (by simp [hU])
  have hGr := Grid.of_blk kf7 (by
    simp only [List.mem_cons, List.not_mem_nil, or_false]
    rintro r (rfl | rfl)
    · exact hN2
    · exact hN3)
  have HN := Lib.hid hN
  have HGr := Lib.hid hGr
  have Hb7 := Lib.hid hb7
  clear kf1 kf2 kf3 kf4 kf5 kf6 kf7 hN hN2 hN3 hGr hb7
  exact bodyPost_ret (v := .agg #[.slice (some ⟨w.heap.size + 1 + 1 + 1, 0, none⟩) 2 2, .slice (some ⟨w.heap.size + 1 + 1 + 1 + 1 + 1 + 1, 0, none⟩) 2 2]) (by simp [results, Tryz.results83, go_sem, k0, k1]) rfl ⟨⟨_, _, _, _, _, rfl, HN.out, HGr.out, rfl⟩, Hb7.out⟩

set_option maxRecDepth 100000 in
set_option maxHeartbeats 2000000 in
theorem refShares_any (P Q G H x U V s : Nat) (R : Value) (w : World) (hG : G < 18446744073709551616) (hx : x < 18446744073709551616) (hU : U < 18446744073709551616) (hs : s < 18446744073709551616) :
    Calls Tryz.prog 84 #[gval P Q G H R, .int .u64 (x : Int), .agg #[.int .u64 (U : Int), .int .u64 (V : Int)], .int .u64 (s : Int)] w fun e w' => OutClaim [x, s] [[G], [U]] e w' ∧ Below w.heap.size w w' := by
  unfold gval
  go_enter Tryz.func84, Tryz.ntmps84
  go_wp2_with fail
  obtain ⟨w1, hw1⟩ : ∃ w1, w1 = w.alloc (.cells #[.int .u64 (P : Int), .int .u64 (Q : Int), .int .u64 (G : Int), .int .u64 (H : Int), R] 25) := ⟨_, rfl⟩
  rw [← hw1]
  have hs1 : w1.heap.size = w.heap.size + 1 := by rw [hw1]; simp
  have hb1 : Below w.heap.size w w1 := by rw [hw1]; exact (Below.refl _ _).alloc (Nat.le_refl _) _
  have l1 : ∀ {b : Nat} {T : TypeId} {cs : List Value}, Blk w b T cs → Blk w1 b T cs := fun h => by rw [hw1]; exact h.alloc _
  have hk1 : Blk w1 (w.heap.size) 25 (glist P Q G H R) := by rw [hw1]; exact Blk.at_new _ _ _ _ _ rfl rfl
  obtain ⟨w2, hw2⟩ : ∃ w2, w2 = w1.alloc (.cells #[.int .u64 (U : Int), .int .u64 (V : Int)] 61) := ⟨_, rfl⟩
  rw [← hw2]
  have hs2 : w2.heap.size = w.heap.size + 1 + 1 := by rw [hw2]; simp [hs1]
  have hb2 : Below w.heap.size w w2 := by rw [hw2]; exact hb1.alloc (by omega) _
  have l2 : ∀ {b : Nat} {T : TypeId} {cs : List Value}, Blk w1 b T cs → Blk w2 b T cs := fun h => by rw [hw2]; exact h.alloc _
  have hk2 : Blk w2 (w.heap.size + 1) 61 [.int .u64 (U : Int), .int .u64 (V : Int)] := by rw [hw2]; exact Blk.at_new _ _ _ _ _ hs1.symm rfl
  obtain ⟨w3, hw3⟩ : ∃ w3, w3 = w2.alloc (.cells #[.slice (some ⟨w.heap.size + 1 + 1 + 1, 0, none⟩) 2 2, .slice (some ⟨w.heap.size + 1 + 1 + 1 + 1 + 1 + 1, 0, none⟩) 2 2] 83) := ⟨_, rfl⟩
  rw [← hw3]
  have hs3 : w3.heap.size = w.heap.size + 1 + 1 + 1 := by rw [hw3]; simp [hs2]
  have hb3 : Below w.heap.size w w3 := by rw [hw3]; exact hb2.alloc (by omega) _
  have l3 : ∀ {b : Nat} {T : TypeId} {cs : List Value}, Blk w2 b T cs → Blk w3 b T cs := fun h => by rw [hw3]; exact h.alloc _
  have hk3 : Blk w3 (w.heap.size + 1 + 1) 83 [.slice (some ⟨w.heap.size + 1 + 1 + 1, 0, none⟩) 2 2, .slice (some ⟨w.heap.size + 1 + 1 + 1 + 1 + 1 + 1, 0, none⟩) 2 2] := by rw [hw3]; exact Blk.at_new _ _ _ _ _ hs2.symm rfl
  obtain ⟨w4, hw4⟩ : ∃ w4, w4 = w3.alloc (.cells #[.int .u64 (x : Int), .int .u64 (s : Int)] 22) := ⟨_, rfl⟩
  rw [← hw4]
  have hs4 : w4.heap.size = w.heap.size + 1 + 1 + 1 + 1 := by rw [hw4]; simp [hs3]
  have hb4 : Below w.heap.size w w4 := by rw [hw4]; exact hb3.alloc (by omega) _
  have l4 : ∀ {b : Nat} {T : TypeId} {cs : List Value}, Blk w3 b T cs → Blk w4 b T cs := fun h => by rw [hw4]; exact h.alloc _
  have hk4 : Blk w4 (w.heap.size + 1 + 1 + 1) 22 ([x, s].map fun (x : Nat) => .int .u64 (x : Int)) := by rw [hw4]; exact Blk.at_new _ _ _ _ _ hs3.symm rfl
  obtain ⟨w5, hw5⟩ : ∃ w5, w5 = w4.alloc (.cells #[.int .u64 (G : Int)] 22) := ⟨_, rfl⟩
  rw [← hw5]
  have hs5 : w5.heap.size = w.heap.size + 1 + 1 + 1 + 1 + 1 := by rw [hw5]; simp [hs4]
  have hb5 : Below w.heap.size w w5 := by rw [hw5]; exact hb4.alloc (by omega) _
  have l5 : ∀ {b : Nat} {T : TypeId} {cs : List Value}, Blk w4 b T cs → Blk w5 b T cs := fun h => by rw [hw5]; exact h.alloc _
  have hk5 : Blk w5 (w.heap.size + 1 + 1 + 1 + 1) 22 ([G].map fun (x : Nat) => .int .u64 (x : Int)) := by rw [hw5]; exact Blk.at_new _ _ _ _ _ hs4.symm rfl
  obtain ⟨w6, hw6⟩ : ∃ w6, w6 = w5.alloc (.cells #[.int .u64 (U : Int)] 22) := ⟨_, rfl⟩
  rw [← hw6]
  have hs6 : w6.heap.size = w.heap.size + 1 + 1 + 1 + 1 + 1 + 1 := by rw [hw6]; simp [hs5]
  have hb6 : Below w.heap.size w w6 := by rw [hw6]; exact hb5.alloc (by omega) _
  have l6 : ∀ {b : Nat} {T : TypeId} {cs : List Value}, Blk w5 b T cs → Blk w6 b T cs := fun h => by rw [hw6]; exact h.alloc _
  have hk6 : Blk w6 (w.heap.size + 1 + 1 + 1 + 1 + 1) 22 ([U].map fun (x : Nat) => .int .u64 (x : Int)) := by rw [hw6]; exact Blk.at_new _ _ _ _ _ hs5.symm rfl
  obtain ⟨w7, hw7⟩ : ∃ w7, w7 = w6.alloc (.cells #[.slice (some ⟨w.heap.size + 1 + 1 + 1 + 1, 0, none⟩) 1 1, .slice (some ⟨w.heap.size + 1 + 1 + 1 + 1 + 1, 0, none⟩) 1 1] 40) := ⟨_, rfl⟩
  rw [← hw7]
  have hs7 : w7.heap.size = w.heap.size + 1 + 1 + 1 + 1 + 1 + 1 + 1 := by rw [hw7]; simp [hs6]
  have hb7 : Below w.heap.size w w7 := by rw [hw7]; exact hb6.alloc (by omega) _
  have l7 : ∀ {b : Nat} {T : TypeId} {cs : List Value}, Blk w6 b T cs → Blk w7 b T cs := fun h => by rw [hw7]; exact h.alloc _
  have hk7 : Blk w7 (w.heap.size + 1 + 1 + 1 + 1 + 1 + 1) 40 ([⟨some ⟨w.heap.size + 1 + 1 + 1 + 1, 0, none⟩, 1, [G]⟩, ⟨some ⟨w.heap.size + 1 + 1 + 1 + 1 + 1, 0, none⟩, 1, [U]⟩].map NumV.val) := by rw [hw7]; exact Blk.at_new _ _ _ _ _ hs6.symm rfl
  have kf1 := l7 (l6 (l5 (l4 (l3 (l2 (hk1))))))
  have kf2 := l7 (l6 (l5 (l4 (l3 (hk2)))))
  have kf3 := l7 (l6 (l5 (l4 (hk3))))
  have kf4 := l7 (l6 (l5 (hk4)))
  have kf5 := l7 (l6 (hk5))
  have kf6 := l7 (hk6)
  have kf7 := hk7
  clear hw1 hs1 l1 hk1 hw2 hs2 l2 hk2 hw3 hs3 l3 hk3 hw4 hs4 l4 hk4 hw5 hs5 l5 hk5 hw6 hs6 l6 hk6 hw7 hs7 l7 hk7 hb1 hb2 hb3 hb4 hb5 hb6
  obtain ⟨k0, k1⟩ := two_cells kf3
  have hN := Nums.of_blk kf4 (by simp [hx, hs])
  have hN2 := Nums.of_blk kf5 (by simp [hG])
  have hN3 := Nums.of_blk kf6 (by simp [hU])
  have hGr := Grid.of_blk kf7 (by
    simp only [List.mem_cons, List.not_mem_nil, or_false]
    rintro r (rfl | rfl)
    · exact hN2
    · exact hN3)
  have HN := Lib.hid hN
  have HGr := Lib.hid hGr
  have Hb7 := Lib.hid hb7
  clear kf1 kf2 kf3 kf4 kf5 kf6 kf7 hN hN2 hN3 hGr hb7
  exact bodyPost_ret (v := .agg #[.slice (some ⟨w.heap.size + 1 + 1 + 1, 0, none⟩) 2 2, .slice (some ⟨w.heap.size + 1 + 1 + 1 + 1 + 1 + 1, 0, none⟩) 2 2]) (by simp [results, Tryz.results84, go_sem, k0, k1]) rfl ⟨⟨_, _, _, _, _, rfl, HN.out, HGr.out, rfl⟩, Hb7.out⟩
end Go.Proofs.YtbpenkaficiodaaGreat

/- Claims of crossings: what they are made of. -/
namespace Go.Proofs.YtbpenkaficiodaaGreat
open Go.RowKit Go.BigFrame

def nv (l : List Nat) : List Value := l.map fun (x : Nat) => .int .u64 (x : Int)
/-- A slice of numbers that was built from block B on. -/
def BNums (B : Nat) (l : List Nat) (u : Value) (w : World) : Prop := ∃ b, u = .slice (some ⟨b, 0, none⟩) l.length l.length ∧ B ≤ b ∧ Blk w b 22 (nv l)
theorem BNums.later {B : Nat} {l : List Nat} {u : Value} {w w' : World} (h : BNums B l u w) (hl : Lat w w') : BNums B l u w' := let ⟨b, e, h1, h2⟩ := h; ⟨b, e, h1, h2.below hl h2.lt⟩
def BRow (B : Nat) (w : World) (r : NumV) : Prop := ∃ b, r.A = some ⟨b, 0, none⟩ ∧ r.cap = r.l.length ∧ B ≤ b ∧ Blk w b 22 (nv r.l)
/-- A slice of such slices. -/
def BGrid (B : Nat) (L : List (List Nat)) (u : Value) (w : World) : Prop := ∃ (b : Nat) (rs : List NumV), u = .slice (some ⟨b, 0, none⟩) L.length L.length ∧ rs.map (·.l) = L ∧ B ≤ b ∧ Blk w b 40 (rs.map NumV.val) ∧ ∀ r ∈ rs, BRow B w r
theorem BRow.later {B : Nat} {r : NumV} {w w' : World} (h : BRow B w r) (hl : Lat w w') : BRow B w' r := let ⟨b, e, h0, h1, h2⟩ := h; ⟨b, e, h0, h1, h2.below hl h2.lt⟩
theorem BGrid.later {B : Nat} {L : List (List Nat)} {u : Value} {w w' : World} (h : BGrid B L u w) (hl : Lat w w') : BGrid B L u w' :=
  let ⟨b, rs, e, hm, h1, h2, h3⟩ := h; ⟨b, rs, e, hm, h1, h2.below hl h2.lt, fun r hr => (h3 r hr).later hl⟩
theorem BNums.new (w : World) (B : Nat) (l : List Nat) (h : B ≤ w.heap.size) : BNums B l (.slice (some ⟨w.heap.size, 0, none⟩) l.length l.length) (w.alloc (.cells (nv l).toArray 22)) :=
  ⟨_, rfl, h, Blk.new w _ _⟩
theorem BNums.set {B c : Nat} {l : List Nat} {u : Value} {w : World} (h : BNums B l u w) (hc : c < B) (o : Nat) (x : Value) : BNums B l u (w.setCell ⟨c, o, none⟩ x) :=
  let ⟨b, e, h1, h2⟩ := h; ⟨b, e, h1, h2.other (by show b ≠ c; omega) x⟩
theorem BGrid.set {B c : Nat} {L : List (List Nat)} {u : Value} {w : World} (h : BGrid B L u w) (hc : c < B) (o : Nat) (x : Value) : BGrid B L u (w.setCell ⟨c, o, none⟩ x) :=
  let ⟨b, rs, e, hm, h1, h2, h3⟩ := h; ⟨b, rs, e, hm, h1, h2.other (by show b ≠ c; omega) x, fun r hr => let ⟨b', e', h0, h1', h2'⟩ := h3 r hr; ⟨b', e', h0, h1', h2'.other (by show b' ≠ c; omega) x⟩⟩
theorem BNums.row {B : Nat} {l : List Nat} {u : Value} {w : World} (h : BNums B l u w) : ∃ r : NumV, r.val = u ∧ r.l = l ∧ BRow B w r :=
  let ⟨b, e, h1, h2⟩ := h; ⟨⟨some ⟨b, 0, none⟩, l.length, l⟩, e.symm, rfl, b, rfl, rfl, h1, h2⟩
theorem BNums.nums {B : Nat} {l : List Nat} {u : Value} {w : World} (h : BNums B l u w) (hs : ∀ x ∈ l, x < 18446744073709551616) : ∃ A c, u = .slice A l.length c ∧ Nums w A c l :=
  let ⟨_, e, _, h2⟩ := h; ⟨_, _, e, Nums.of_blk h2 hs⟩
theorem BGrid.grid {B : Nat} {L : List (List Nat)} {u : Value} {w : World} (h : BGrid B L u w) (hs : ∀ l ∈ L, ∀ x ∈ l, x < 18446744073709551616) : ∃ A c rs, u = .slice A (List.length rs) c ∧ Grid w A c rs ∧ rs.map (·.l) = L := by
  obtain ⟨b, rs, e, hm, _, h2, h3⟩ := h
  refine ⟨_, _, rs, by rw [e, ← hm, List.length_map], Grid.of_blk h2 fun r hr => ?_, hm⟩
  obtain ⟨b', e', h0, _, h2'⟩ := h3 r hr
  rw [e', h0]
  exact Nums.of_blk h2' (hs _ (by rw [← hm]; exact List.mem_map.2 ⟨r, hr, rfl⟩))
/-- Slices of numbers, one behind the other in a slice that is built just now. -/
theorem BGrid.new3 {B : Nat} {l1 l2 l3 : List Nat} {u1 u2 u3 : Value} {w : World} (hB : B ≤ w.heap.size) (h1 : BNums B l1 u1 w) (h2 : BNums B l2 u2 w) (h3 : BNums B l3 u3 w) :
    BGrid B [l1, l2, l3] (.slice (some ⟨w.heap.size, 0, none⟩) 3 3) (w.alloc (.cells #[u1, u2, u3] 40)) := by
  obtain ⟨r1, e1, m1, b1⟩ := h1.row
  obtain ⟨r2, e2, m2, b2⟩ := h2.row
  obtain ⟨r3, e3, m3, b3⟩ := h3.row
  subst e1 e2 e3
  have hl : Lat w (w.alloc (.cells #[r1.val, r2.val, r3.val] 40)) := (Below.refl _ _).alloc (Nat.le_refl _) _
  refine ⟨_, [r1, r2, r3], rfl, by simp [m1, m2, m3], hB, Blk.of w _ _ _ rfl, fun r hr => ?_⟩
  simp only [List.mem_cons, List.not_mem_nil, or_false] at hr
  rcases hr with rfl | rfl | rfl
  · exact b1.later hl
  · exact b2.later hl
  · exact b3.later hl
theorem overG_lt (P x y : Nat) : overG P x y < 18446744073709551616 := by have := mulM_lt x (invM y P).1 P; unfold overG; omega
end Go.Proofs.YtbpenkaficiodaaGreat
