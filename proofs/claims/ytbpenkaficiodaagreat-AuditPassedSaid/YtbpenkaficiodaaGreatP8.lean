/- Joined texts, part 8: contracts of the functions that the laws reach, and what is needed for them. -/
import Derived.Deep.OwnRows
import Derived.Laws.CopyOwn
import Derived.Deep.RegionHeld3
import Derived.Test.YtbpenkaficiodaaGreatP7
/- A row of a certificate holds: the reference's walk. -/
namespace Go.Proofs.YtbpenkaficiodaaGreat
open Go.RowKit

set_option maxRecDepth 100000 in
set_option maxHeartbeats 4000000 in
theorem holds_any (B : Option Addr) (cap : Nat) (rs : List RowV) (k : Nat) (r : RowV) (w : World) (hR : Rows3 w B cap rs) (hl : rs.length < 1000000) (hr : rs[k]? = some r) (hFl : r.F.l.length < 1000000) :
    Calls Tryz.prog 192 #[.slice B rs.length cap, .int .i64 (k : Int)] w fun e w' => e = .returned (.bool (holdsRow rs k r)) ∧ Below w.heap.size w w' := by
  have hkl : k < rs.length := (List.getElem?_eq_some_iff.1 hr).1
  obtain ⟨b, hb, h0, h1, h2⟩ := hR.cells k r hr
  obtain ⟨hF, hN, hA⟩ := hR.nums r (List.mem_of_getElem? hr)
  subst hb
  obtain ⟨⟨N, A, ⟨FA, Fc, F⟩⟩, rfl⟩ : ∃ x, r = x := ⟨_, rfl⟩
  dsimp only [NumV.val] at h0 h1 h2 hF hN hA hFl
  obtain ⟨nB, hnB⟩ : ∃ n, n = rs.length := ⟨_, rfl⟩
  obtain ⟨nF, hnF⟩ : ∃ n, n = F.length := ⟨_, rfl⟩
  obtain ⟨out, hout⟩ : ∃ s, s = holdsRow rs k ⟨N, A, ⟨FA, Fc, F⟩⟩ := ⟨_, rfl⟩
  have hki : (k : Int) < (nB : Int) := by omega
  rw [← hout, ← hnB]
  rw [← hnF] at h2
  have HnB := Lib.hid hnB
  have HnF := Lib.hid hnF
  have Hout := Lib.hid hout
  have HR := Lib.hid hR
  have HF := Lib.hid hF
  have hl' : nB < 1000000 := by omega
  have hFl' : nF < 1000000 := by omega
  clear hR hr hl hkl hnB hnF hout hF hFl
  have hb0 : Below w.heap.size w (w.alloc (.cells #[.int .u64 (N : Int), .int .u64 (A : Int), .slice FA nF Fc] 138)) := (Below.refl _ _).alloc (Nat.le_refl _) _
  have hg0 : Blk (w.alloc (.cells #[.int .u64 (N : Int), .int .u64 (A : Int), .slice FA nF Fc] 138)) w.heap.size 138 [.int .u64 (N : Int), .int .u64 (A : Int), .slice FA nF Fc] := Blk.of w _ _ _ rfl
  have Hb0 := Lib.hid hb0
  have Hg0 := Lib.hid hg0
  clear hb0 hg0
  by_cases c1 : N < 3
  · have e1 : decide ((N : Int) < 3) = true := decide_eq_true (by omega)
    have ho : out = false := by rw [Hout.out]; unfold holdsRow; dsimp only; rw [decide_eq_false (show ¬ 3 ≤ N by omega)]; simp
    subst ho
    go_enter Tryz.func192, Tryz.ntmps192
    go_wp2_with fail
    go_ret
    exact ⟨rfl, Hb0.out⟩
  have e1 : decide ((N : Int) < 3) = false := decide_eq_false (by omega)
  by_cases c2 : 4611686018427387904 < N
  · have e2 : decide ((4611686018427387904 : Int) < (N : Int)) = true := decide_eq_true (by omega)
    have ho : out = false := by rw [Hout.out]; unfold holdsRow; dsimp only; rw [decide_eq_false (show ¬ N ≤ 4611686018427387904 by omega)]; simp
    subst ho
    go_enter Tryz.func192, Tryz.ntmps192
    go_wp2_with fail
    go_ret
    exact ⟨rfl, Hb0.out⟩
  have e2 : decide ((4611686018427387904 : Int) < (N : Int)) = false := decide_eq_false (by omega)
  by_cases c3 : nF < 1
  · have e3 : decide ((nF : Int) < 1) = true := decide_eq_true (by omega)
    have ho : out = false := by rw [Hout.out]; unfold holdsRow; dsimp only; rw [decide_eq_false (show ¬ 1 ≤ F.length by rw [← HnF.out]; omega)]; simp
    subst ho
    go_enter Tryz.func192, Tryz.ntmps192
    go_wp2_with fail
    go_ret
    exact ⟨rfl, Hb0.out⟩
  have e3 : decide ((nF : Int) < 1) = false := decide_eq_false (by omega)
  by_cases c4 : 16 < nF
  · have e4 : decide ((16 : Int) < (nF : Int)) = true := decide_eq_true (by omega)
    have ho : out = false := by rw [Hout.out]; unfold holdsRow; dsimp only; rw [decide_eq_false (show ¬ F.length ≤ 16 by rw [← HnF.out]; omega)]; simp
    subst ho
    go_enter Tryz.func192, Tryz.ntmps192
    go_wp2_with fail
    go_ret
    exact ⟨rfl, Hb0.out⟩
  have e4 : decide ((16 : Int) < (nF : Int)) = false := decide_eq_false (by omega)
  have hout2 : out = facRest N A (aheadB rs k) none (N - 1) F := by
    rw [Hout.out]; unfold holdsRow; dsimp only
    rw [decide_eq_true (show 3 ≤ N by omega), decide_eq_true (show N ≤ 4611686018427387904 by omega), decide_eq_true (show 1 ≤ F.length by rw [← HnF.out]; omega), decide_eq_true (show F.length ≤ 16 by rw [← HnF.out]; omega)]
    simp
  have Hout2 := Lib.hid hout2
  have hsub : ((N : Int) - 1) = ((N - 1 : Nat) : Int) := by omega
  have Hsub := Lib.hid hsub
  have hN3 : 3 ≤ N := by omega
  have hN62 : N ≤ 4611686018427387904 := by omega
  clear hout2 hsub Hout c1 c2
  go_enter Tryz.func192, Tryz.ntmps192
  go_wp2_with fail
  obtain ⟨w0, hw0⟩ : ∃ w0, w0 = (w.alloc (.cells #[.int .u64 (N : Int), .int .u64 (A : Int), .slice FA nF Fc] 138)) := ⟨_, rfl⟩
  rw [← hw0] at Hb0 Hg0 ⊢
  have hgl := Hg0.out.lt
  clear hw0 h0 h1 h2
  go_loopw [6, 7] (fun lv iv wr => ∃ left i : Nat, lv = .int .u64 (left : Int) ∧ iv = .int .i64 (i : Int) ∧ i ≤ nF ∧ 0 < left ∧ left < 4611686018427387904 ∧ out = facRest N A (aheadB rs k) (prevO F i) left (F.drop i) ∧ Below w0.heap.size w0 wr) (fun _ iv _ => nF - (intOf iv).toNat)
  case atStart => exact ⟨N - 1, 0, by rw [Hsub.out], rfl, by omega, by omega, by omega, Hout2.out, Below.refl _ _⟩
  case round =>
    obtain ⟨left, i, rfl, rfl, hi, hl0, hl1, hfac, hbr⟩ := hrel
    have Hbr := Lib.hid (below_trans Hb0.out hbr)
    have Hbr0 := Lib.hid hbr
    have Hfac := Lib.hid hfac
    clear hfac
    have hg : Blk wr w.heap.size 138 [.int .u64 (N : Int), .int .u64 (A : Int), .slice FA nF Fc] := Hg0.out.below hbr hgl
    have k0 := hg.cell 0
    have k1 := hg.cell 1
    have k2 := hg.cell 2
    simp only [List.getElem?_cons_zero, List.getElem?_cons_succ] at k0 k1 k2
    clear hg hbr
    by_cases hil : i < nF
    case neg =>
      have d1 : decide ((i : Int) < (nF : Int)) = false := decide_eq_false (by omega)
      have hend : out = (decide (left = 1) && decide (powM A (N - 1) N = 1)) := by
        rw [Hfac.out, List.drop_eq_nil_of_le (by rw [← HnF.out]; omega), facRest]
      by_cases h1 : left = 1
      · have d2 : ((left : Int) == 1) = true := by rw [beq_iff_eq]; omega
        rw [decide_eq_true h1, Bool.true_and] at hend
        obtain ⟨pw, hpw⟩ : ∃ p, p = powM A (N - 1) N := ⟨_, rfl⟩
        rw [← hpw] at hend
        have hb : decide (pw = 1) = ((pw : Int) == 1) := by rw [Bool.eq_iff_iff]; simp; omega
        rw [hb] at hend
        have hcon := fun W => refPow_any A (N - 1) N W hA (by omega) hN
        rw [← hpw, ← Hsub.out] at hcon
        have Hcon := Lib.hid hcon
        have Hend := Lib.hid hend
        clear hpw hend hcon h1 hb
        go_wp2_with (go_at_call 73; refine (Hcon.out _).mono ?_; rintro e w' ⟨rfl, rfl⟩)
        go_ret
        exact ⟨by rw [Hend.out]; rfl, Hbr.out⟩
      · have d2 : ((left : Int) == 1) = false := by rw [beq_eq_false_iff_ne]; omega
        rw [decide_eq_false h1, Bool.false_and] at hend
        subst hend
        go_wp2_with fail
        go_ret
        exact ⟨rfl, Hbr.out⟩
    have d1 : decide ((i : Int) < (nF : Int)) = true := decide_eq_true (by omega)
    have hki2 : (i : Int) < (nF : Int) := by omega
    obtain ⟨f, hf⟩ : ∃ f, F[i]? = some f := ⟨_, List.getElem?_eq_getElem (by rw [← HnF.out]; exact hil)⟩
    obtain ⟨fa, hfa, hfc⟩ := HF.out.cells i f hf
    subst hfa
    have hfc := below_cell Hbr.out hfc
    have hfs := HF.out.small f (List.mem_of_getElem? hf)
    have hdr : F.drop i = f :: F.drop (i + 1) := by
      obtain ⟨h, he⟩ := List.getElem?_eq_some_iff.1 hf
      rw [← he]; exact List.drop_eq_getElem_cons h
    have hfac := Hfac.out
    rw [hdr] at hfac
    have Hfac2 := Lib.hid hfac
    have Hf := Lib.hid hf
    obtain ⟨ah, hah⟩ : ∃ a, a = aheadB rs k f := ⟨_, rfl⟩
    have hahc := fun W hb => ahead_any (some b) cap rs k f W (HR.out.below (w1 := W) hb) (by rw [← HnB.out]; exact hl') (by rw [← HnB.out]; omega) hfs
    rw [← hah, ← HnB.out] at hahc
    have Hahc := Lib.hid (hahc _ (Hbr.out))
    have Hah := Lib.hid hah
    clear hdr hfac hf hah hahc Hfac
    by_cases c5 : f < 2
    · have d3 : decide ((f : Int) < 2) = true := decide_eq_true (by omega)
      have ho : out = false := by rw [Hfac2.out]; refine fac_no ?_; unfold okF; rw [decide_eq_true c5]; simp
      subst ho
      go_wp2_with (go_at_call 179; refine Hahc.out.mono ?_; rintro e w' ⟨rfl, rfl⟩)
      go_ret
      exact ⟨rfl, Hbr.out⟩
    have d3 : decide ((f : Int) < 2) = false := decide_eq_false (by omega)
    by_cases c6 : i = 0
    · have d4 : decide ((0 : Int) < (i : Int)) = false := decide_eq_false (by omega)
      have d4n : decide (0 < i) = false := decide_eq_false (by omega)
      have Hpr : Hid (prevOk f (prevO F i) = true) := Lib.hid (by rw [c6, prevO_zero]; rfl)
      clear c6
      by_cases c7 : f = 2
      · have d6 : ((f : Int) != 2) = false := by rw [bne_eq_false_iff_eq]; omega
        have Hah2 : Hid ((decide (f = 2) || aheadB rs k f) = true) := Lib.hid (by rw [decide_eq_true c7]; rfl)
        clear c7
        by_cases c8 : left % f = 0
        · skip
          have hok : okF (aheadB rs k) (prevO F i) left f = true := by unfold okF; rw [decide_eq_false c5, Hpr.out, Hah2.out, decide_eq_true c8]; rfl
          have Hok := Lib.hid hok
          have e7 : (left : Int) % (f : Int) = 0 := by omega
          have d7 : ((left : Int) % (f : Int) != 0) = false := by rw [bne_eq_false_iff_eq]; exact e7
          clear hok e7
          go_wp2_with (go_at_call 179; refine Hahc.out.mono ?_; rintro e w' ⟨rfl, rfl⟩)
          clear d7
          go_loop [6] (fun lv => ∃ y m : Nat, lv = .int .u64 (y : Int) ∧ 0 < y ∧ y ≤ left ∧ y < 2 ^ m ∧ stripF f m y = stripF f 64 left) (fun lv => (intOf lv).toNat)
          case atStart => exact ⟨left, 64, rfl, hl0, Nat.le_refl _, by omega, rfl⟩
          case round =>
            obtain ⟨y, m, rfl, hy0, hyl, hym, hst⟩ := hrel
            have Hst := Lib.hid hst
            have Hym := Lib.hid hym
            clear hst hym
            by_cases hz : y % f = 0
            · obtain ⟨m', hm', hs', hlt', hpos'⟩ := strip_step (by omega) hy0 Hym.out hz
              have e8 : (y : Int) % (f : Int) = 0 := by omega
              have d8 : ((y : Int) % (f : Int) == 0) = true := by rw [beq_iff_eq]; exact e8
              have hdl : y / f < y := Nat.div_lt_self hy0 (by omega)
              have hst2 : stripF f m' (y / f) = stripF f 64 left := by rw [← hs']; exact Hst.out
              have Hst2 := Lib.hid hst2
              have Hlt := Lib.hid hlt'
              have hdi : (y : Int) / (f : Int) = ((y / f : Nat) : Int) := by simp
              have Hdi := Lib.hid hdi
              clear hm' hs' hlt' hz e8 hst2 hdi
              go_wp2_with fail
              go_round
              case rel => exact ⟨y / f, m', by rw [Hdi.out], hpos', by omega, Hlt.out, Hst2.out⟩
              case measure => simp [intOf]; rw [Hdi.out]; omega
            · have d8 : ((y : Int) % (f : Int) == 0) = false := by rw [beq_eq_false_iff_ne]; omega
              have hye : stripF f 64 left = y := by rw [← Hst.out]; exact strip_end hy0 Hym.out hz
              have Hye := Lib.hid hye
              obtain ⟨g, hg⟩ : ∃ g, g = (N - 1) / f := ⟨_, rfl⟩
              have hgb : g < 18446744073709551616 := by have := Nat.div_le_self (N - 1) f; omega
              have hqd : ((N : Int) - 1) / (f : Int) = (g : Int) := by rw [hg, show ((N : Int) - 1) = ((N - 1 : Nat) : Int) by omega]; simp
              have hqt : ((N : Int) - 1).tdiv (f : Int) = (g : Int) := by rw [Int.tdiv_eq_ediv_of_nonneg (by omega)]; exact hqd
              have hwn : IntKind.u64.wrap ((N : Int) - 1) = (N : Int) - 1 := by rw [IntKind.wrap_u64]; omega
              have hf0 : (f : Int) ≠ 0 := by omega
              obtain ⟨pw, hpw⟩ : ∃ p, p = powM A g N := ⟨_, rfl⟩
              have hcon := fun W => refPow_any A g N W hA hgb hN
              rw [← hpw] at hcon
              have Hg := Lib.hid hg
              have Hpw := Lib.hid hpw
              clear hye hz hg hpw
              by_cases h1 : pw = 1
              · have d9 : ((pw : Int) == 1) = true := by rw [beq_iff_eq]; omega
                have ho : out = false := by rw [Hfac2.out]; exact fac_pow (by rw [← Hg.out, ← Hpw.out]; exact h1)
                subst ho
                clear h1
                go_wp2_with fail
                go_quiet ((go_at_call 73; exact Calls.quiet_of_same (hcon _)))
                clear hqd hqt hwn hcon
                go_wp2_with fail
                go_ret
                exact ⟨rfl, below_drewN Hbr.out _⟩
              · have d9 : ((pw : Int) == 1) = false := by rw [beq_eq_false_iff_ne]; omega
                have hnx : out = facRest N A (aheadB rs k) (prevO F (i + 1)) y (F.drop (i + 1)) := by
                  rw [Hfac2.out, fac_yes Hok.out (by rw [← Hg.out, ← Hpw.out]; exact h1), Hye.out, prevO_succ, Hf.out]
                have Hnx := Lib.hid hnx
                clear h1 hnx
                go_wp2_with fail
                go_quiet ((go_at_call 73; exact Calls.quiet_of_same (hcon _)))
                clear hqd hqt hwn hcon
                go_wp2_with fail
                go_roundw
                case rel => exact ⟨y, i + 1, rfl, by go_num, by omega, by omega, by omega, Hnx.out, below_drewN Hbr0.out _⟩
                case measure => simp [intOf]; omega
        · have d7 : ((left : Int) % (f : Int) != 0) = true := by rw [bne_iff_ne]; omega
          have ho : out = false := by rw [Hfac2.out]; refine fac_no ?_; unfold okF; rw [decide_eq_false c8]; simp
          subst ho
          go_wp2_with (go_at_call 179; refine Hahc.out.mono ?_; rintro e w' ⟨rfl, rfl⟩)
          go_ret
          exact ⟨rfl, Hbr.out⟩
      · have d6 : ((f : Int) != 2) = true := by rw [bne_iff_ne]; omega
        cases ah with
        | false =>
          have ho : out = false := by rw [Hfac2.out]; refine fac_no ?_; unfold okF; rw [← Hah.out, decide_eq_false c7]; simp
          subst ho
          go_wp2_with (go_at_call 179; refine Hahc.out.mono ?_; rintro e w' ⟨rfl, rfl⟩)
          go_ret
          exact ⟨rfl, Hbr.out⟩
        | true =>
          have Hah2 : Hid ((decide (f = 2) || aheadB rs k f) = true) := Lib.hid (by rw [← Hah.out]; simp)
          clear c7
          by_cases c8 : left % f = 0
          · skip
            have hok : okF (aheadB rs k) (prevO F i) left f = true := by unfold okF; rw [decide_eq_false c5, Hpr.out, Hah2.out, decide_eq_true c8]; rfl
            have Hok := Lib.hid hok
            have e7 : (left : Int) % (f : Int) = 0 := by omega
            have d7 : ((left : Int) % (f : Int) != 0) = false := by rw [bne_eq_false_iff_eq]; exact e7
            clear hok e7
            go_wp2_with (go_at_call 179; refine Hahc.out.mono ?_; rintro e w' ⟨rfl, rfl⟩)
            clear d7
            go_loop [6] (fun lv => ∃ y m : Nat, lv = .int .u64 (y : Int) ∧ 0 < y ∧ y ≤ left ∧ y < 2 ^ m ∧ stripF f m y = stripF f 64 left) (fun lv => (intOf lv).toNat)
            case atStart => exact ⟨left, 64, rfl, hl0, Nat.le_refl _, by omega, rfl⟩
            case round =>
              obtain ⟨y, m, rfl, hy0, hyl, hym, hst⟩ := hrel
              have Hst := Lib.hid hst
              have Hym := Lib.hid hym
              clear hst hym
              by_cases hz : y % f = 0
              · obtain ⟨m', hm', hs', hlt', hpos'⟩ := strip_step (by omega) hy0 Hym.out hz
                have e8 : (y : Int) % (f : Int) = 0 := by omega
                have d8 : ((y : Int) % (f : Int) == 0) = true := by rw [beq_iff_eq]; exact e8
                have hdl : y / f < y := Nat.div_lt_self hy0 (by omega)
                have hst2 : stripF f m' (y / f) = stripF f 64 left := by rw [← hs']; exact Hst.out
                have Hst2 := Lib.hid hst2
                have Hlt := Lib.hid hlt'
                have hdi : (y : Int) / (f : Int) = ((y / f : Nat) : Int) := by simp
                have Hdi := Lib.hid hdi
                clear hm' hs' hlt' hz e8 hst2 hdi
                go_wp2_with fail
                go_round
                case rel => exact ⟨y / f, m', by rw [Hdi.out], hpos', by omega, Hlt.out, Hst2.out⟩
                case measure => simp [intOf]; rw [Hdi.out]; omega
              · have d8 : ((y : Int) % (f : Int) == 0) = false := by rw [beq_eq_false_iff_ne]; omega
                have hye : stripF f 64 left = y := by rw [← Hst.out]; exact strip_end hy0 Hym.out hz
                have Hye := Lib.hid hye
                obtain ⟨g, hg⟩ : ∃ g, g = (N - 1) / f := ⟨_, rfl⟩
                have hgb : g < 18446744073709551616 := by have := Nat.div_le_self (N - 1) f; omega
                have hqd : ((N : Int) - 1) / (f : Int) = (g : Int) := by rw [hg, show ((N : Int) - 1) = ((N - 1 : Nat) : Int) by omega]; simp
                have hqt : ((N : Int) - 1).tdiv (f : Int) = (g : Int) := by rw [Int.tdiv_eq_ediv_of_nonneg (by omega)]; exact hqd
                have hwn : IntKind.u64.wrap ((N : Int) - 1) = (N : Int) - 1 := by rw [IntKind.wrap_u64]; omega
                have hf0 : (f : Int) ≠ 0 := by omega
                obtain ⟨pw, hpw⟩ : ∃ p, p = powM A g N := ⟨_, rfl⟩
                have hcon := fun W => refPow_any A g N W hA hgb hN
                rw [← hpw] at hcon
                have Hg := Lib.hid hg
                have Hpw := Lib.hid hpw
                clear hye hz hg hpw
                by_cases h1 : pw = 1
                · have d9 : ((pw : Int) == 1) = true := by rw [beq_iff_eq]; omega
                  have ho : out = false := by rw [Hfac2.out]; exact fac_pow (by rw [← Hg.out, ← Hpw.out]; exact h1)
                  subst ho
                  clear h1
                  go_wp2_with fail
                  go_quiet ((go_at_call 73; exact Calls.quiet_of_same (hcon _)))
                  clear hqd hqt hwn hcon
                  go_wp2_with fail
                  go_ret
                  exact ⟨rfl, below_drewN Hbr.out _⟩
                · have d9 : ((pw : Int) == 1) = false := by rw [beq_eq_false_iff_ne]; omega
                  have hnx : out = facRest N A (aheadB rs k) (prevO F (i + 1)) y (F.drop (i + 1)) := by
                    rw [Hfac2.out, fac_yes Hok.out (by rw [← Hg.out, ← Hpw.out]; exact h1), Hye.out, prevO_succ, Hf.out]
                  have Hnx := Lib.hid hnx
                  clear h1 hnx
                  go_wp2_with fail
                  go_quiet ((go_at_call 73; exact Calls.quiet_of_same (hcon _)))
                  clear hqd hqt hwn hcon
                  go_wp2_with fail
                  go_roundw
                  case rel => exact ⟨y, i + 1, rfl, by go_num, by omega, by omega, by omega, Hnx.out, below_drewN Hbr0.out _⟩
                  case measure => simp [intOf]; omega
          · have d7 : ((left : Int) % (f : Int) != 0) = true := by rw [bne_iff_ne]; omega
            have ho : out = false := by rw [Hfac2.out]; refine fac_no ?_; unfold okF; rw [decide_eq_false c8]; simp
            subst ho
            go_wp2_with (go_at_call 179; refine Hahc.out.mono ?_; rintro e w' ⟨rfl, rfl⟩)
            go_ret
            exact ⟨rfl, Hbr.out⟩
    · have d4 : decide ((0 : Int) < (i : Int)) = true := decide_eq_true (by omega)
      obtain ⟨pf, hpf⟩ : ∃ p, F[i - 1]? = some p := ⟨_, List.getElem?_eq_getElem (by rw [← HnF.out]; omega)⟩
      obtain ⟨fa2, hfa2, hpc⟩ := HF.out.cells (i - 1) pf hpf
      obtain rfl : fa = fa2 := by injection hfa2
      have hpc := below_cell Hbr.out hpc
      have hprv : prevO F i = some pf := by rw [prevO, if_neg c6]; exact hpf
      have hti : ((i : Int) - 1).toNat = i - 1 := by omega
      have hi1 : (1 : Int) ≤ (i : Int) := by omega
      have Hprv := Lib.hid hprv
      clear hpf hfa2 hprv c6
      by_cases c9 : f ≤ pf
      · have d5 : decide ((f : Int) ≤ (pf : Int)) = true := decide_eq_true (by omega)
        have ho : out = false := by rw [Hfac2.out]; refine fac_no ?_; unfold okF; rw [Hprv.out, show prevOk f (some pf) = false from decide_eq_false (by omega)]; simp
        subst ho
        go_wp2_with (go_at_call 179; refine Hahc.out.mono ?_; rintro e w' ⟨rfl, rfl⟩)
        go_ret
        exact ⟨rfl, Hbr.out⟩
      · have d5 : decide ((f : Int) ≤ (pf : Int)) = false := decide_eq_false (by omega)
        have Hpr : Hid (prevOk f (prevO F i) = true) := Lib.hid (by rw [Hprv.out]; exact decide_eq_true (by omega))
        by_cases c7 : f = 2
        · have d6 : ((f : Int) != 2) = false := by rw [bne_eq_false_iff_eq]; omega
          have Hah2 : Hid ((decide (f = 2) || aheadB rs k f) = true) := Lib.hid (by rw [decide_eq_true c7]; rfl)
          clear c7
          by_cases c8 : left % f = 0
          · skip
            have hok : okF (aheadB rs k) (prevO F i) left f = true := by unfold okF; rw [decide_eq_false c5, Hpr.out, Hah2.out, decide_eq_true c8]; rfl
            have Hok := Lib.hid hok
            have e7 : (left : Int) % (f : Int) = 0 := by omega
            have d7 : ((left : Int) % (f : Int) != 0) = false := by rw [bne_eq_false_iff_eq]; exact e7
            clear hok e7
            go_wp2_with (go_at_call 179; refine Hahc.out.mono ?_; rintro e w' ⟨rfl, rfl⟩)
            clear d7
            go_loop [6] (fun lv => ∃ y m : Nat, lv = .int .u64 (y : Int) ∧ 0 < y ∧ y ≤ left ∧ y < 2 ^ m ∧ stripF f m y = stripF f 64 left) (fun lv => (intOf lv).toNat)
            case atStart => exact ⟨left, 64, rfl, hl0, Nat.le_refl _, by omega, rfl⟩
            case round =>
              obtain ⟨y, m, rfl, hy0, hyl, hym, hst⟩ := hrel
              have Hst := Lib.hid hst
              have Hym := Lib.hid hym
              clear hst hym
              by_cases hz : y % f = 0
              · obtain ⟨m', hm', hs', hlt', hpos'⟩ := strip_step (by omega) hy0 Hym.out hz
                have e8 : (y : Int) % (f : Int) = 0 := by omega
                have d8 : ((y : Int) % (f : Int) == 0) = true := by rw [beq_iff_eq]; exact e8
                have hdl : y / f < y := Nat.div_lt_self hy0 (by omega)
                have hst2 : stripF f m' (y / f) = stripF f 64 left := by rw [← hs']; exact Hst.out
                have Hst2 := Lib.hid hst2
                have Hlt := Lib.hid hlt'
                have hdi : (y : Int) / (f : Int) = ((y / f : Nat) : Int) := by simp
                have Hdi := Lib.hid hdi
                clear hm' hs' hlt' hz e8 hst2 hdi
                go_wp2_with fail
                go_round
                case rel => exact ⟨y / f, m', by rw [Hdi.out], hpos', by omega, Hlt.out, Hst2.out⟩
                case measure => simp [intOf]; rw [Hdi.out]; omega
              · have d8 : ((y : Int) % (f : Int) == 0) = false := by rw [beq_eq_false_iff_ne]; omega
                have hye : stripF f 64 left = y := by rw [← Hst.out]; exact strip_end hy0 Hym.out hz
                have Hye := Lib.hid hye
                obtain ⟨g, hg⟩ : ∃ g, g = (N - 1) / f := ⟨_, rfl⟩
                have hgb : g < 18446744073709551616 := by have := Nat.div_le_self (N - 1) f; omega
                have hqd : ((N : Int) - 1) / (f : Int) = (g : Int) := by rw [hg, show ((N : Int) - 1) = ((N - 1 : Nat) : Int) by omega]; simp
                have hqt : ((N : Int) - 1).tdiv (f : Int) = (g : Int) := by rw [Int.tdiv_eq_ediv_of_nonneg (by omega)]; exact hqd
                have hwn : IntKind.u64.wrap ((N : Int) - 1) = (N : Int) - 1 := by rw [IntKind.wrap_u64]; omega
                have hf0 : (f : Int) ≠ 0 := by omega
                obtain ⟨pw, hpw⟩ : ∃ p, p = powM A g N := ⟨_, rfl⟩
                have hcon := fun W => refPow_any A g N W hA hgb hN
                rw [← hpw] at hcon
                have Hg := Lib.hid hg
                have Hpw := Lib.hid hpw
                clear hye hz hg hpw
                by_cases h1 : pw = 1
                · have d9 : ((pw : Int) == 1) = true := by rw [beq_iff_eq]; omega
                  have ho : out = false := by rw [Hfac2.out]; exact fac_pow (by rw [← Hg.out, ← Hpw.out]; exact h1)
                  subst ho
                  clear h1
                  go_wp2_with fail
                  go_quiet ((go_at_call 73; exact Calls.quiet_of_same (hcon _)))
                  clear hqd hqt hwn hcon
                  go_wp2_with fail
                  go_ret
                  exact ⟨rfl, below_drewN Hbr.out _⟩
                · have d9 : ((pw : Int) == 1) = false := by rw [beq_eq_false_iff_ne]; omega
                  have hnx : out = facRest N A (aheadB rs k) (prevO F (i + 1)) y (F.drop (i + 1)) := by
                    rw [Hfac2.out, fac_yes Hok.out (by rw [← Hg.out, ← Hpw.out]; exact h1), Hye.out, prevO_succ, Hf.out]
                  have Hnx := Lib.hid hnx
                  clear h1 hnx
                  go_wp2_with fail
                  go_quiet ((go_at_call 73; exact Calls.quiet_of_same (hcon _)))
                  clear hqd hqt hwn hcon
                  go_wp2_with fail
                  go_roundw
                  case rel => exact ⟨y, i + 1, rfl, by go_num, by omega, by omega, by omega, Hnx.out, below_drewN Hbr0.out _⟩
                  case measure => simp [intOf]; omega
          · have d7 : ((left : Int) % (f : Int) != 0) = true := by rw [bne_iff_ne]; omega
            have ho : out = false := by rw [Hfac2.out]; refine fac_no ?_; unfold okF; rw [decide_eq_false c8]; simp
            subst ho
            go_wp2_with (go_at_call 179; refine Hahc.out.mono ?_; rintro e w' ⟨rfl, rfl⟩)
            go_ret
            exact ⟨rfl, Hbr.out⟩
        · have d6 : ((f : Int) != 2) = true := by rw [bne_iff_ne]; omega
          cases ah with
          | false =>
            have ho : out = false := by rw [Hfac2.out]; refine fac_no ?_; unfold okF; rw [← Hah.out, decide_eq_false c7]; simp
            subst ho
            go_wp2_with (go_at_call 179; refine Hahc.out.mono ?_; rintro e w' ⟨rfl, rfl⟩)
            go_ret
            exact ⟨rfl, Hbr.out⟩
          | true =>
            have Hah2 : Hid ((decide (f = 2) || aheadB rs k f) = true) := Lib.hid (by rw [← Hah.out]; simp)
            clear c7
            by_cases c8 : left % f = 0
            · skip
              have hok : okF (aheadB rs k) (prevO F i) left f = true := by unfold okF; rw [decide_eq_false c5, Hpr.out, Hah2.out, decide_eq_true c8]; rfl
              have Hok := Lib.hid hok
              have e7 : (left : Int) % (f : Int) = 0 := by omega
              have d7 : ((left : Int) % (f : Int) != 0) = false := by rw [bne_eq_false_iff_eq]; exact e7
              clear hok e7
              go_wp2_with (go_at_call 179; refine Hahc.out.mono ?_; rintro e w' ⟨rfl, rfl⟩)
              clear d7
              go_loop [6] (fun lv => ∃ y m : Nat, lv = .int .u64 (y : Int) ∧ 0 < y ∧ y ≤ left ∧ y < 2 ^ m ∧ stripF f m y = stripF f 64 left) (fun lv => (intOf lv).toNat)
              case atStart => exact ⟨left, 64, rfl, hl0, Nat.le_refl _, by omega, rfl⟩
              case round =>
                obtain ⟨y, m, rfl, hy0, hyl, hym, hst⟩ := hrel
                have Hst := Lib.hid hst
                have Hym := Lib.hid hym
                clear hst hym
                by_cases hz : y % f = 0
                · obtain ⟨m', hm', hs', hlt', hpos'⟩ := strip_step (by omega) hy0 Hym.out hz
                  have e8 : (y : Int) % (f : Int) = 0 := by omega
                  have d8 : ((y : Int) % (f : Int) == 0) = true := by rw [beq_iff_eq]; exact e8
                  have hdl : y / f < y := Nat.div_lt_self hy0 (by omega)
                  have hst2 : stripF f m' (y / f) = stripF f 64 left := by rw [← hs']; exact Hst.out
                  have Hst2 := Lib.hid hst2
                  have Hlt := Lib.hid hlt'
                  have hdi : (y : Int) / (f : Int) = ((y / f : Nat) : Int) := by simp
                  have Hdi := Lib.hid hdi
                  clear hm' hs' hlt' hz e8 hst2 hdi
                  go_wp2_with fail
                  go_round
                  case rel => exact ⟨y / f, m', by rw [Hdi.out], hpos', by omega, Hlt.out, Hst2.out⟩
                  case measure => simp [intOf]; rw [Hdi.out]; omega
                · have d8 : ((y : Int) % (f : Int) == 0) = false := by rw [beq_eq_false_iff_ne]; omega
                  have hye : stripF f 64 left = y := by rw [← Hst.out]; exact strip_end hy0 Hym.out hz
                  have Hye := Lib.hid hye
                  obtain ⟨g, hg⟩ : ∃ g, g = (N - 1) / f := ⟨_, rfl⟩
                  have hgb : g < 18446744073709551616 := by have := Nat.div_le_self (N - 1) f; omega
                  have hqd : ((N : Int) - 1) / (f : Int) = (g : Int) := by rw [hg, show ((N : Int) - 1) = ((N - 1 : Nat) : Int) by omega]; simp
                  have hqt : ((N : Int) - 1).tdiv (f : Int) = (g : Int) := by rw [Int.tdiv_eq_ediv_of_nonneg (by omega)]; exact hqd
                  have hwn : IntKind.u64.wrap ((N : Int) - 1) = (N : Int) - 1 := by rw [IntKind.wrap_u64]; omega
                  have hf0 : (f : Int) ≠ 0 := by omega
                  obtain ⟨pw, hpw⟩ : ∃ p, p = powM A g N := ⟨_, rfl⟩
                  have hcon := fun W => refPow_any A g N W hA hgb hN
                  rw [← hpw] at hcon
                  have Hg := Lib.hid hg
                  have Hpw := Lib.hid hpw
                  clear hye hz hg hpw
                  by_cases h1 : pw = 1
                  · have d9 : ((pw : Int) == 1) = true := by rw [beq_iff_eq]; omega
                    have ho : out = false := by rw [Hfac2.out]; exact fac_pow (by rw [← Hg.out, ← Hpw.out]; exact h1)
                    subst ho
                    clear h1
                    go_wp2_with fail
                    go_quiet ((go_at_call 73; exact Calls.quiet_of_same (hcon _)))
                    clear hqd hqt hwn hcon
                    go_wp2_with fail
                    go_ret
                    exact ⟨rfl, below_drewN Hbr.out _⟩
                  · have d9 : ((pw : Int) == 1) = false := by rw [beq_eq_false_iff_ne]; omega
                    have hnx : out = facRest N A (aheadB rs k) (prevO F (i + 1)) y (F.drop (i + 1)) := by
                      rw [Hfac2.out, fac_yes Hok.out (by rw [← Hg.out, ← Hpw.out]; exact h1), Hye.out, prevO_succ, Hf.out]
                    have Hnx := Lib.hid hnx
                    clear h1 hnx
                    go_wp2_with fail
                    go_quiet ((go_at_call 73; exact Calls.quiet_of_same (hcon _)))
                    clear hqd hqt hwn hcon
                    go_wp2_with fail
                    go_roundw
                    case rel => exact ⟨y, i + 1, rfl, by go_num, by omega, by omega, by omega, Hnx.out, below_drewN Hbr0.out _⟩
                    case measure => simp [intOf]; omega
            · have d7 : ((left : Int) % (f : Int) != 0) = true := by rw [bne_iff_ne]; omega
              have ho : out = false := by rw [Hfac2.out]; refine fac_no ?_; unfold okF; rw [decide_eq_false c8]; simp
              subst ho
              go_wp2_with (go_at_call 179; refine Hahc.out.mono ?_; rintro e w' ⟨rfl, rfl⟩)
              go_ret
              exact ⟨rfl, Hbr.out⟩
end Go.Proofs.YtbpenkaficiodaaGreat

/- Which group is right: the reference's walk. -/
namespace Go.Proofs.YtbpenkaficiodaaGreat
open Go.RowKit

def holdsUpto (rs : List RowV) (k : Nat) : Bool := (List.range k).all fun i => match rs[i]? with
  | none => true
  | some r => holdsRow rs i r
def holdsAll (rs : List RowV) : Bool := decide (rs.length ≤ 64) && holdsUpto rs rs.length
def provedB (n : Nat) (rs : List RowV) : Bool := holdsAll rs && (decide (n = 2) || aheadB rs rs.length n)
def rightG (P Q G H : Nat) (rs : List RowV) : Bool :=
  (decide (5 ≤ Q) && decide (Q < 2305843009213693952) && decide (P = 2 * Q + 1)) && (provedB P rs && provedB Q rs && inG P Q G && inG P Q H && !decide (G = 1) && !decide (H = 1) && !decide (G = H))
theorem holdsUpto_next {rs : List RowV} {k : Nat} {r : RowV} (h : rs[k]? = some r) (hk : holdsUpto rs k = true) (hr : holdsRow rs k r = true) : holdsUpto rs (k + 1) = true := by
  unfold holdsUpto at *
  rw [List.range_succ, List.all_append, hk]; simp [h, hr]
theorem holdsUpto_no {rs : List RowV} {k n : Nat} {r : RowV} (h : rs[k]? = some r) (hkn : k < n) (hr : holdsRow rs k r = false) : holdsUpto rs n = false := by
  unfold holdsUpto
  rw [List.all_eq_false]
  exact ⟨k, List.mem_range.2 hkn, by simp [h, hr]⟩

set_option maxRecDepth 100000 in
set_option maxHeartbeats 1000000 in
theorem holdsAll_any (B : Option Addr) (cap : Nat) (rs : List RowV) (w : World) (hR : Rows3 w B cap rs) (hl : rs.length < 1000000) (hFl : ∀ r ∈ rs, r.F.l.length < 1000000) :
    Calls Tryz.prog 178 #[.slice B rs.length cap] w fun e w' => e = .returned (.bool (holdsAll rs)) ∧ Below w.heap.size w w' := by
  have hcon := fun k r W hb hr => holds_any B cap rs k r W (hR.below (w1 := W) hb) hl hr (hFl r (List.mem_of_getElem? hr))
  obtain ⟨nB, hnB⟩ : ∃ n, n = rs.length := ⟨_, rfl⟩
  obtain ⟨out, hout⟩ : ∃ s, s = holdsAll rs := ⟨_, rfl⟩
  rw [← hnB] at hcon
  rw [← hout, ← hnB]
  rw [holdsAll, ← hnB] at hout
  have Hcon := Lib.hid hcon
  have HnB := Lib.hid hnB
  have Hout := Lib.hid hout
  have hl' : nB < 1000000 := by omega
  clear hcon hnB hout hR hFl hl
  by_cases h64 : 64 < nB
  · have d0 : decide ((64 : Int) < (nB : Int)) = true := decide_eq_true (by omega)
    have ho : out = false := by rw [Hout.out, decide_eq_false (show ¬ nB ≤ 64 by omega)]; rfl
    subst ho
    go_enter Tryz.func178, Tryz.ntmps178
    go_wp2_with fail
    go_ret
    exact ⟨rfl, Below.refl _ _⟩
  have d0 : decide ((64 : Int) < (nB : Int)) = false := decide_eq_false (by omega)
  have hout2 : out = holdsUpto rs nB := by rw [Hout.out, decide_eq_true (show nB ≤ 64 by omega)]; rfl
  have Hout2 := Lib.hid hout2
  clear hout2 Hout
  go_enter Tryz.func178, Tryz.ntmps178
  go_wp2_with fail
  go_loopw [3] (fun iv wr => ∃ k : Nat, iv = .int .i64 (k : Int) ∧ k ≤ nB ∧ holdsUpto rs k = true ∧ Below w.heap.size w wr) (fun iv _ => nB - (intOf iv).toNat)
  case atStart => exact ⟨0, rfl, by omega, by simp [holdsUpto], Below.refl _ _⟩
  case round =>
    obtain ⟨k, rfl, hk, hup, hbr⟩ := hrel
    have Hup := Lib.hid hup
    have Hbr := Lib.hid hbr
    clear hup hbr
    by_cases hkl : k < nB
    · have d1 : decide ((k : Int) < (nB : Int)) = true := decide_eq_true (by omega)
      have hki : (k : Int) < (nB : Int) := by omega
      obtain ⟨r, hr⟩ : ∃ r, rs[k]? = some r := ⟨_, List.getElem?_eq_getElem (by rw [← HnB.out]; omega)⟩
      have hc := Hcon.out k r wr Hbr.out hr
      cases hb : holdsRow rs k r with
      | false =>
        rw [hb] at hc
        have ho : out = false := by rw [Hout2.out]; exact holdsUpto_no hr hkl hb
        have Hc := Lib.hid hc
        subst ho
        clear hc hb hr
        go_wp2_with (go_at_call 192; refine Hc.out.mono ?_; rintro e w2 ⟨rfl, hb2⟩; have Hb2 := Lib.hid hb2; clear hb2)
        go_ret
        exact ⟨rfl, below_trans Hbr.out Hb2.out⟩
      | true =>
        rw [hb] at hc
        have hnx := holdsUpto_next hr Hup.out hb
        have Hnx := Lib.hid hnx
        have Hc := Lib.hid hc
        clear hc hb hr hnx
        go_wp2_with (go_at_call 192; refine Hc.out.mono ?_; rintro e w2 ⟨rfl, hb2⟩; have Hb2 := Lib.hid hb2; clear hb2)
        go_roundw
        case rel => exact ⟨k + 1, by go_num, by omega, Hnx.out, below_trans Hbr.out Hb2.out⟩
        case measure => simp [intOf]; omega
    · have d1 : decide ((k : Int) < (nB : Int)) = false := decide_eq_false (by omega)
      have ho : out = true := by rw [Hout2.out, show nB = k by omega, Hup.out]
      subst ho
      go_wp2_with fail
      go_ret
      exact ⟨rfl, Hbr.out⟩

set_option maxRecDepth 100000 in
set_option maxHeartbeats 1000000 in
theorem proved_any (n : Nat) (B : Option Addr) (cap : Nat) (rs : List RowV) (w : World) (hn : n < 18446744073709551616) (hR : Rows3 w B cap rs) (hl : rs.length < 1000000) (hFl : ∀ r ∈ rs, r.F.l.length < 1000000) :
    Calls Tryz.prog 150 #[.int .u64 (n : Int), .slice B rs.length cap] w fun e w' => e = .returned (.bool (provedB n rs)) ∧ Below w.heap.size w w' := by
  have hcon := holdsAll_any B cap rs w hR hl hFl
  have hcon2 := fun W hb => ahead_any B cap rs rs.length n W (hR.below (w1 := W) hb) hl (Nat.le_refl _) hn
  obtain ⟨nB, hnB⟩ : ∃ n, n = rs.length := ⟨_, rfl⟩
  obtain ⟨b1, hb1⟩ : ∃ b, b = holdsAll rs := ⟨_, rfl⟩
  obtain ⟨b2, hb2⟩ : ∃ b, b = aheadB rs rs.length n := ⟨_, rfl⟩
  rw [provedB, ← hb1, ← hb2, ← hnB]
  rw [← hb1, ← hnB] at hcon
  rw [← hb2, ← hnB] at hcon2
  have Hcon := Lib.hid hcon
  have Hcon2 := Lib.hid hcon2
  clear hcon hcon2 hnB hb1 hb2 hR hl hFl
  cases b1 with
  | false =>
    go_enter Tryz.func150, Tryz.ntmps150
    go_wp2_with (go_at_call 178; refine Hcon.out.mono ?_; rintro e w2 ⟨rfl, hb2⟩; have Hb2 := Lib.hid hb2; clear hb2)
    go_ret
    exact ⟨rfl, Hb2.out⟩
  | true =>
    by_cases h2 : n = 2
    · have d1 : ((n : Int) == 2) = true := by rw [beq_iff_eq]; omega
      rw [decide_eq_true h2]
      clear h2
      go_enter Tryz.func150, Tryz.ntmps150
      go_wp2_with (go_at_call 178; refine Hcon.out.mono ?_; rintro e w2 ⟨rfl, hb2⟩; have Hb2 := Lib.hid hb2; clear hb2)
      go_ret
      exact ⟨rfl, Hb2.out⟩
    · have d1 : ((n : Int) == 2) = false := by rw [beq_eq_false_iff_ne]; omega
      rw [decide_eq_false h2]
      clear h2
      go_enter Tryz.func150, Tryz.ntmps150
      go_wp2_with (first | (go_at_call 178; refine Hcon.out.mono ?_; rintro e w2 ⟨rfl, hb2⟩; have Hb2 := Lib.hid hb2; clear hb2) | (go_at_call 179; refine (Hcon2.out _ Hb2.out).mono ?_; rintro e w3 ⟨rfl, rfl⟩))
      go_ret
      exact ⟨by simp, Hb2.out⟩

set_option maxRecDepth 100000 in
set_option maxHeartbeats 2000000 in
theorem right_group (P Q G H : Nat) (B : Option Addr) (cap : Nat) (rs : List RowV) (w : World) (hP : P < 18446744073709551616) (hQ : Q < 18446744073709551616) (hG : G < 18446744073709551616) (hH : H < 18446744073709551616) (hR : Rows3 w B cap rs) (hl : rs.length < 1000000) (hFl : ∀ r ∈ rs, r.F.l.length < 1000000) :
    Calls Tryz.prog 88 #[gval P Q G H (.slice B rs.length cap)] w fun e w' => e = .returned (.bool (rightG P Q G H rs)) ∧ Below w.heap.size w w' := by
  have hc1 := fun W hb => proved_any P B cap rs W hP (hR.below (w1 := W) hb) hl hFl
  have hc2 := fun W hb => proved_any Q B cap rs W hQ (hR.below (w1 := W) hb) hl hFl
  obtain ⟨nB, hnB⟩ : ∃ n, n = rs.length := ⟨_, rfl⟩
  obtain ⟨R, hRv⟩ : ∃ R, R = Value.slice B nB cap := ⟨_, rfl⟩
  have hc3 := fun W => refIn_any P Q G H G R W hP hQ hG
  have hc4 := fun W => refIn_any P Q G H H R W hP hQ hH
  unfold gval at hc3 hc4 ⊢
  obtain ⟨b1, hb1⟩ : ∃ b, b = provedB P rs := ⟨_, rfl⟩
  obtain ⟨b2, hb2⟩ : ∃ b, b = provedB Q rs := ⟨_, rfl⟩
  obtain ⟨b3, hb3⟩ : ∃ b, b = inG P Q G := ⟨_, rfl⟩
  obtain ⟨b4, hb4⟩ : ∃ b, b = inG P Q H := ⟨_, rfl⟩
  rw [← hb1, ← hnB] at hc1
  rw [← hb2, ← hnB] at hc2
  rw [← hb3, hRv] at hc3
  rw [← hb4, hRv] at hc4
  rw [rightG, ← hb1, ← hb2, ← hb3, ← hb4, ← hnB]
  have H1 := Lib.hid hc1
  have H2 := Lib.hid hc2
  have H3 := Lib.hid hc3
  have H4 := Lib.hid hc4
  have hb0 : Below w.heap.size w (w.alloc (.cells #[.int .u64 (P : Int), .int .u64 (Q : Int), .int .u64 (G : Int), .int .u64 (H : Int), .slice B nB cap] 25)) := (Below.refl _ _).alloc (Nat.le_refl _) _
  have hg0 : Blk (w.alloc (.cells #[.int .u64 (P : Int), .int .u64 (Q : Int), .int .u64 (G : Int), .int .u64 (H : Int), .slice B nB cap] 25)) w.heap.size 25 (glist P Q G H (.slice B nB cap)) := Blk.of w _ _ _ rfl
  obtain ⟨w0, hw0⟩ : ∃ w0, w0 = (w.alloc (.cells #[.int .u64 (P : Int), .int .u64 (Q : Int), .int .u64 (G : Int), .int .u64 (H : Int), .slice B nB cap] 25)) := ⟨_, rfl⟩
  rw [← hw0] at hb0 hg0
  obtain ⟨g0, g1, g2, g3, g4⟩ := gcells hg0
  have Hb0 := Lib.hid hb0
  have Hg0 := Lib.hid hg0
  have Hw0 := Lib.hid hw0
  have hgl := hg0.lt
  clear hc1 hc2 hc3 hc4 hnB hRv hb1 hb2 hb3 hb4 hR hl hFl hb0 hg0 hw0
  by_cases c1 : Q < 5
  · have d1 : decide ((Q : Int) < 5) = true := decide_eq_true (by omega)
    rw [decide_eq_false (show ¬ 5 ≤ Q by omega)]
    go_enter Tryz.func88, Tryz.ntmps88
    go_wp2_with fail
    go_ret
    exact ⟨by simp, by rw [← Hw0.out]; exact Hb0.out⟩
  have d1 : decide ((Q : Int) < 5) = false := decide_eq_false (by omega)
  rw [decide_eq_true (show 5 ≤ Q by omega)]
  by_cases c2 : 2305843009213693952 ≤ Q
  · have d2 : decide ((2305843009213693952 : Int) ≤ (Q : Int)) = true := decide_eq_true (by omega)
    rw [decide_eq_false (show ¬ Q < 2305843009213693952 by omega)]
    go_enter Tryz.func88, Tryz.ntmps88
    go_wp2_with fail
    go_ret
    exact ⟨by simp, by rw [← Hw0.out]; exact Hb0.out⟩
  have d2 : decide ((2305843009213693952 : Int) ≤ (Q : Int)) = false := decide_eq_false (by omega)
  rw [decide_eq_true (show Q < 2305843009213693952 by omega)]
  by_cases c3 : P = 2 * Q + 1
  case neg =>
    have d3 : ((P : Int) != 2 * (Q : Int) + 1) = true := by rw [bne_iff_ne]; omega
    rw [decide_eq_false c3]
    clear c3
    go_enter Tryz.func88, Tryz.ntmps88
    go_wp2_with fail
    go_ret
    exact ⟨by simp, by rw [← Hw0.out]; exact Hb0.out⟩
  have d3 : ((P : Int) != 2 * (Q : Int) + 1) = false := by rw [bne_eq_false_iff_eq]; omega
  rw [decide_eq_true c3]
  clear c3
  cases b1 with
  | false =>
    go_enter Tryz.func88, Tryz.ntmps88
    go_wp2_with fail
    rw [← Hw0.out]
    go_wp2_with fail
    refine (H1.out _ Hb0.out).mono ?_
    rintro e w1 ⟨rfl, hb1⟩
    obtain ⟨g0, g1, g2, g3, g4⟩ := gcells (Hg0.out.below hb1 hgl)
    have Hb1 := Lib.hid (below_trans Hb0.out hb1)
    have Hg1 := Lib.hid (Hg0.out.below hb1 hgl)
    have hgl1 := Hg1.out.lt
    clear hb1
    go_wp2_with fail
    go_ret
    exact ⟨by simp, Hb1.out⟩
  | true =>
    cases b2 with
    | false =>
      go_enter Tryz.func88, Tryz.ntmps88
      go_wp2_with fail
      rw [← Hw0.out]
      go_wp2_with fail
      refine (H1.out _ Hb0.out).mono ?_
      rintro e w1 ⟨rfl, hb1⟩
      obtain ⟨g0, g1, g2, g3, g4⟩ := gcells (Hg0.out.below hb1 hgl)
      have Hb1 := Lib.hid (below_trans Hb0.out hb1)
      have Hg1 := Lib.hid (Hg0.out.below hb1 hgl)
      have hgl1 := Hg1.out.lt
      clear hb1
      go_wp2_with fail
      refine (H2.out _ Hb1.out).mono ?_
      rintro e w2 ⟨rfl, hb2⟩
      obtain ⟨g0, g1, g2, g3, g4⟩ := gcells (Hg1.out.below hb2 hgl1)
      have Hb2 := Lib.hid (below_trans Hb1.out hb2)
      have Hg2 := Lib.hid (Hg1.out.below hb2 hgl1)
      have hgl2 := Hg2.out.lt
      clear hb2
      go_wp2_with fail
      go_ret
      exact ⟨by simp, Hb2.out⟩
    | true =>
      cases b3 with
      | false =>
        go_enter Tryz.func88, Tryz.ntmps88
        go_wp2_with fail
        rw [← Hw0.out]
        go_wp2_with fail
        refine (H1.out _ Hb0.out).mono ?_
        rintro e w1 ⟨rfl, hb1⟩
        obtain ⟨g0, g1, g2, g3, g4⟩ := gcells (Hg0.out.below hb1 hgl)
        have Hb1 := Lib.hid (below_trans Hb0.out hb1)
        have Hg1 := Lib.hid (Hg0.out.below hb1 hgl)
        have hgl1 := Hg1.out.lt
        clear hb1
        go_wp2_with fail
        refine (H2.out _ Hb1.out).mono ?_
        rintro e w2 ⟨rfl, hb2⟩
        obtain ⟨g0, g1, g2, g3, g4⟩ := gcells (Hg1.out.below hb2 hgl1)
        have Hb2 := Lib.hid (below_trans Hb1.out hb2)
        have Hg2 := Lib.hid (Hg1.out.below hb2 hgl1)
        have hgl2 := Hg2.out.lt
        clear hb2
        go_wp2_with fail
        refine (H3.out _).mono ?_
        rintro e w3 ⟨rfl, hb3⟩
        obtain ⟨g0, g1, g2, g3, g4⟩ := gcells (Hg2.out.below hb3 hgl2)
        have Hb3 := Lib.hid (below_trans Hb2.out hb3)
        have Hg3 := Lib.hid (Hg2.out.below hb3 hgl2)
        have hgl3 := Hg3.out.lt
        clear hb3
        go_wp2_with fail
        go_ret
        exact ⟨by simp, Hb3.out⟩
      | true =>
        cases b4 with
        | false =>
          go_enter Tryz.func88, Tryz.ntmps88
          go_wp2_with fail
          rw [← Hw0.out]
          go_wp2_with fail
          refine (H1.out _ Hb0.out).mono ?_
          rintro e w1 ⟨rfl, hb1⟩
          obtain ⟨g0, g1, g2, g3, g4⟩ := gcells (Hg0.out.below hb1 hgl)
          have Hb1 := Lib.hid (below_trans Hb0.out hb1)
          have Hg1 := Lib.hid (Hg0.out.below hb1 hgl)
          have hgl1 := Hg1.out.lt
          clear hb1
          go_wp2_with fail
          refine (H2.out _ Hb1.out).mono ?_
          rintro e w2 ⟨rfl, hb2⟩
          obtain ⟨g0, g1, g2, g3, g4⟩ := gcells (Hg1.out.below hb2 hgl1)
          have Hb2 := Lib.hid (below_trans Hb1.out hb2)
          have Hg2 := Lib.hid (Hg1.out.below hb2 hgl1)
          have hgl2 := Hg2.out.lt
          clear hb2
          go_wp2_with fail
          refine (H3.out _).mono ?_
          rintro e w3 ⟨rfl, hb3⟩
          obtain ⟨g0, g1, g2, g3, g4⟩ := gcells (Hg2.out.below hb3 hgl2)
          have Hb3 := Lib.hid (below_trans Hb2.out hb3)
          have Hg3 := Lib.hid (Hg2.out.below hb3 hgl2)
          have hgl3 := Hg3.out.lt
          clear hb3
          go_wp2_with fail
          refine (H4.out _).mono ?_
          rintro e w4 ⟨rfl, hb4⟩
          obtain ⟨g0, g1, g2, g3, g4⟩ := gcells (Hg3.out.below hb4 hgl3)
          have Hb4 := Lib.hid (below_trans Hb3.out hb4)
          clear hb4
          go_wp2_with fail
          go_ret
          exact ⟨by simp, Hb4.out⟩
        | true =>
          by_cases c4 : G = 1
          · have d4 : ((G : Int) != 1) = false := by rw [bne_eq_false_iff_eq]; omega
            rw [decide_eq_true c4]
            clear c4
            go_enter Tryz.func88, Tryz.ntmps88
            go_wp2_with fail
            rw [← Hw0.out]
            go_wp2_with fail
            refine (H1.out _ Hb0.out).mono ?_
            rintro e w1 ⟨rfl, hb1⟩
            obtain ⟨g0, g1, g2, g3, g4⟩ := gcells (Hg0.out.below hb1 hgl)
            have Hb1 := Lib.hid (below_trans Hb0.out hb1)
            have Hg1 := Lib.hid (Hg0.out.below hb1 hgl)
            have hgl1 := Hg1.out.lt
            clear hb1
            go_wp2_with fail
            refine (H2.out _ Hb1.out).mono ?_
            rintro e w2 ⟨rfl, hb2⟩
            obtain ⟨g0, g1, g2, g3, g4⟩ := gcells (Hg1.out.below hb2 hgl1)
            have Hb2 := Lib.hid (below_trans Hb1.out hb2)
            have Hg2 := Lib.hid (Hg1.out.below hb2 hgl1)
            have hgl2 := Hg2.out.lt
            clear hb2
            go_wp2_with fail
            refine (H3.out _).mono ?_
            rintro e w3 ⟨rfl, hb3⟩
            obtain ⟨g0, g1, g2, g3, g4⟩ := gcells (Hg2.out.below hb3 hgl2)
            have Hb3 := Lib.hid (below_trans Hb2.out hb3)
            have Hg3 := Lib.hid (Hg2.out.below hb3 hgl2)
            have hgl3 := Hg3.out.lt
            clear hb3
            go_wp2_with fail
            refine (H4.out _).mono ?_
            rintro e w4 ⟨rfl, hb4⟩
            obtain ⟨g0, g1, g2, g3, g4⟩ := gcells (Hg3.out.below hb4 hgl3)
            have Hb4 := Lib.hid (below_trans Hb3.out hb4)
            clear hb4
            go_wp2_with fail
            go_ret
            exact ⟨by simp, Hb4.out⟩
          have d4 : ((G : Int) != 1) = true := by rw [bne_iff_ne]; omega
          rw [decide_eq_false c4]
          clear c4
          by_cases c5 : H = 1
          · have d5 : ((H : Int) != 1) = false := by rw [bne_eq_false_iff_eq]; omega
            rw [decide_eq_true c5]
            clear c5
            go_enter Tryz.func88, Tryz.ntmps88
            go_wp2_with fail
            rw [← Hw0.out]
            go_wp2_with fail
            refine (H1.out _ Hb0.out).mono ?_
            rintro e w1 ⟨rfl, hb1⟩
            obtain ⟨g0, g1, g2, g3, g4⟩ := gcells (Hg0.out.below hb1 hgl)
            have Hb1 := Lib.hid (below_trans Hb0.out hb1)
            have Hg1 := Lib.hid (Hg0.out.below hb1 hgl)
            have hgl1 := Hg1.out.lt
            clear hb1
            go_wp2_with fail
            refine (H2.out _ Hb1.out).mono ?_
            rintro e w2 ⟨rfl, hb2⟩
            obtain ⟨g0, g1, g2, g3, g4⟩ := gcells (Hg1.out.below hb2 hgl1)
            have Hb2 := Lib.hid (below_trans Hb1.out hb2)
            have Hg2 := Lib.hid (Hg1.out.below hb2 hgl1)
            have hgl2 := Hg2.out.lt
            clear hb2
            go_wp2_with fail
            refine (H3.out _).mono ?_
            rintro e w3 ⟨rfl, hb3⟩
            obtain ⟨g0, g1, g2, g3, g4⟩ := gcells (Hg2.out.below hb3 hgl2)
            have Hb3 := Lib.hid (below_trans Hb2.out hb3)
            have Hg3 := Lib.hid (Hg2.out.below hb3 hgl2)
            have hgl3 := Hg3.out.lt
            clear hb3
            go_wp2_with fail
            refine (H4.out _).mono ?_
            rintro e w4 ⟨rfl, hb4⟩
            obtain ⟨g0, g1, g2, g3, g4⟩ := gcells (Hg3.out.below hb4 hgl3)
            have Hb4 := Lib.hid (below_trans Hb3.out hb4)
            clear hb4
            go_wp2_with fail
            go_ret
            exact ⟨by simp, Hb4.out⟩
          have d5 : ((H : Int) != 1) = true := by rw [bne_iff_ne]; omega
          rw [decide_eq_false c5]
          clear c5
          by_cases c6 : G = H
          · have d6 : ((G : Int) != (H : Int)) = false := by rw [bne_eq_false_iff_eq]; omega
            rw [decide_eq_true c6]
            clear c6
            go_enter Tryz.func88, Tryz.ntmps88
            go_wp2_with fail
            rw [← Hw0.out]
            go_wp2_with fail
            refine (H1.out _ Hb0.out).mono ?_
            rintro e w1 ⟨rfl, hb1⟩
            obtain ⟨g0, g1, g2, g3, g4⟩ := gcells (Hg0.out.below hb1 hgl)
            have Hb1 := Lib.hid (below_trans Hb0.out hb1)
            have Hg1 := Lib.hid (Hg0.out.below hb1 hgl)
            have hgl1 := Hg1.out.lt
            clear hb1
            go_wp2_with fail
            refine (H2.out _ Hb1.out).mono ?_
            rintro e w2 ⟨rfl, hb2⟩
            obtain ⟨g0, g1, g2, g3, g4⟩ := gcells (Hg1.out.below hb2 hgl1)
            have Hb2 := Lib.hid (below_trans Hb1.out hb2)
            have Hg2 := Lib.hid (Hg1.out.below hb2 hgl1)
            have hgl2 := Hg2.out.lt
            clear hb2
            go_wp2_with fail
            refine (H3.out _).mono ?_
            rintro e w3 ⟨rfl, hb3⟩
            obtain ⟨g0, g1, g2, g3, g4⟩ := gcells (Hg2.out.below hb3 hgl2)
            have Hb3 := Lib.hid (below_trans Hb2.out hb3)
            have Hg3 := Lib.hid (Hg2.out.below hb3 hgl2)
            have hgl3 := Hg3.out.lt
            clear hb3
            go_wp2_with fail
            refine (H4.out _).mono ?_
            rintro e w4 ⟨rfl, hb4⟩
            obtain ⟨g0, g1, g2, g3, g4⟩ := gcells (Hg3.out.below hb4 hgl3)
            have Hb4 := Lib.hid (below_trans Hb3.out hb4)
            clear hb4
            go_wp2_with fail
            go_ret
            exact ⟨by simp, Hb4.out⟩
          have d6 : ((G : Int) != (H : Int)) = true := by rw [bne_iff_ne]; omega
          rw [decide_eq_false c6]
          clear c6
          go_enter Tryz.func88, Tryz.ntmps88
          go_wp2_with fail
          rw [← Hw0.out]
          go_wp2_with fail
          refine (H1.out _ Hb0.out).mono ?_
          rintro e w1 ⟨rfl, hb1⟩
          obtain ⟨g0, g1, g2, g3, g4⟩ := gcells (Hg0.out.below hb1 hgl)
          have Hb1 := Lib.hid (below_trans Hb0.out hb1)
          have Hg1 := Lib.hid (Hg0.out.below hb1 hgl)
          have hgl1 := Hg1.out.lt
          clear hb1
          go_wp2_with fail
          refine (H2.out _ Hb1.out).mono ?_
          rintro e w2 ⟨rfl, hb2⟩
          obtain ⟨g0, g1, g2, g3, g4⟩ := gcells (Hg1.out.below hb2 hgl1)
          have Hb2 := Lib.hid (below_trans Hb1.out hb2)
          have Hg2 := Lib.hid (Hg1.out.below hb2 hgl1)
          have hgl2 := Hg2.out.lt
          clear hb2
          go_wp2_with fail
          refine (H3.out _).mono ?_
          rintro e w3 ⟨rfl, hb3⟩
          obtain ⟨g0, g1, g2, g3, g4⟩ := gcells (Hg2.out.below hb3 hgl2)
          have Hb3 := Lib.hid (below_trans Hb2.out hb3)
          have Hg3 := Lib.hid (Hg2.out.below hb3 hgl2)
          have hgl3 := Hg3.out.lt
          clear hb3
          go_wp2_with fail
          refine (H4.out _).mono ?_
          rintro e w4 ⟨rfl, hb4⟩
          obtain ⟨g0, g1, g2, g3, g4⟩ := gcells (Hg3.out.below hb4 hgl3)
          have Hb4 := Lib.hid (below_trans Hb3.out hb4)
          clear hb4
          go_wp2_with fail
          go_ret
          exact ⟨by simp, Hb4.out⟩
end Go.Proofs.YtbpenkaficiodaaGreat

/- Which groups are asked: law05.Group; which claims are few: law06.Few. -/
namespace Go.Proofs.YtbpenkaficiodaaGreat
open Go.RowKit

def groupB (P Q G H : Nat) (rs : List RowV) : Bool := (decide (rs.length ≤ 80) && rs.all fun r => decide (r.F.l.length ≤ 40)) && rightG P Q G H rs

set_option maxRecDepth 100000 in
set_option maxHeartbeats 1000000 in
theorem group_any (P Q G H : Nat) (B : Option Addr) (cap : Nat) (rs : List RowV) (w : World) (hP : P < 18446744073709551616) (hQ : Q < 18446744073709551616) (hG : G < 18446744073709551616) (hH : H < 18446744073709551616) (hR : Rows3 w B cap rs) (hl : rs.length < 9223372036854775807) (hFl : ∀ r ∈ rs, r.F.l.length < 9223372036854775807) :
    Calls Tryz.prog 32 #[gval P Q G H (.slice B rs.length cap)] w fun e w' => e = .returned (.bool (groupB P Q G H rs)) ∧ Below w.heap.size w w' := by
  have hcon := fun W hb h1 h2 => right_group P Q G H B cap rs W hP hQ hG hH (hR.below (w1 := W) hb) h1 h2
  unfold gval at hcon ⊢
  obtain ⟨nB, hnB⟩ : ∃ n, n = rs.length := ⟨_, rfl⟩
  obtain ⟨out, hout⟩ : ∃ s, s = groupB P Q G H rs := ⟨_, rfl⟩
  rw [← hnB] at hcon
  rw [← hout, ← hnB]
  rw [groupB, ← hnB] at hout
  have hl' : nB < 9223372036854775807 := by omega
  have hb0 : Below w.heap.size w (w.alloc (.cells #[.int .u64 (P : Int), .int .u64 (Q : Int), .int .u64 (G : Int), .int .u64 (H : Int), .slice B nB cap] 25)) := (Below.refl _ _).alloc (Nat.le_refl _) _
  have hg0 : Blk (w.alloc (.cells #[.int .u64 (P : Int), .int .u64 (Q : Int), .int .u64 (G : Int), .int .u64 (H : Int), .slice B nB cap] 25)) w.heap.size 25 (glist P Q G H (.slice B nB cap)) := Blk.of w _ _ _ rfl
  obtain ⟨w0, hw0⟩ : ∃ w0, w0 = (w.alloc (.cells #[.int .u64 (P : Int), .int .u64 (Q : Int), .int .u64 (G : Int), .int .u64 (H : Int), .slice B nB cap] 25)) := ⟨_, rfl⟩
  rw [← hw0] at hb0 hg0
  obtain ⟨g0, g1, g2, g3, g4⟩ := gcells hg0
  have HR := Lib.hid (hR.below hb0)
  have Hcon := Lib.hid hcon
  have HnB := Lib.hid hnB
  have Hout := Lib.hid hout
  have Hb0 := Lib.hid hb0
  have Hg0 := Lib.hid hg0
  have Hw0 := Lib.hid hw0
  have HFl := Lib.hid hFl
  have hgl := hg0.lt
  clear hcon hnB hout hR hFl hl hb0 hg0 hw0
  by_cases h80 : 80 < nB
  · have d0 : decide ((80 : Int) < (nB : Int)) = true := decide_eq_true (by omega)
    have ho : out = false := by rw [Hout.out, decide_eq_false (show ¬ nB ≤ 80 by omega)]; simp
    subst ho
    go_enter Tryz.func32, Tryz.ntmps32
    go_wp2_with fail
    go_ret
    exact ⟨rfl, by rw [← Hw0.out]; exact Hb0.out⟩
  have d0 : decide ((80 : Int) < (nB : Int)) = false := decide_eq_false (by omega)
  have hout2 : out = ((rs.all fun r => decide (r.F.l.length ≤ 40)) && rightG P Q G H rs) := by rw [Hout.out, decide_eq_true (show nB ≤ 80 by omega)]; simp
  have Hout2 := Lib.hid hout2
  clear hout2 Hout
  go_enter Tryz.func32, Tryz.ntmps32
  go_wp2_with fail
  rw [← Hw0.out]
  go_wp2_with fail
  clear g0 g1 g2 g3 g4
  go_loopw [12] (fun iv wr => ∃ k : Nat, iv = .int .i64 (k : Int) ∧ k ≤ nB ∧ ((rs.take k).all fun r => decide (r.F.l.length ≤ 40)) = true ∧ Below w0.heap.size w0 wr) (fun iv _ => nB - (intOf iv).toNat)
  case atStart => exact ⟨0, rfl, by omega, by simp, Below.refl _ _⟩
  case round =>
    obtain ⟨k, rfl, hk, hup, hbr⟩ := hrel
    have Hup := Lib.hid hup
    have Hbr := Lib.hid hbr
    clear hup hbr
    by_cases hkl : k < nB
    · have d1 : decide ((k : Int) < (nB : Int)) = true := decide_eq_true (by omega)
      have hki : (k : Int) < (nB : Int) := by omega
      obtain ⟨r, hr⟩ : ∃ r, rs[k]? = some r := ⟨_, List.getElem?_eq_getElem (by rw [← HnB.out]; omega)⟩
      obtain ⟨b, hb, h0, h1, h2⟩ := HR.out.cells k r hr
      subst hb
      have h0 := below_cell Hbr.out h0
      have h1 := below_cell Hbr.out h1
      have h2 := below_cell Hbr.out h2
      have hmem := List.mem_of_getElem? hr
      have hfl := HFl.out r hmem
      rw [NumV.val] at h2
      obtain ⟨nF, hnF⟩ : ∃ n, n = r.F.l.length := ⟨_, rfl⟩
      rw [← hnF] at h2 hfl
      obtain ⟨N, hN⟩ : ∃ n, n = r.N := ⟨_, rfl⟩
      obtain ⟨A, hA⟩ : ∃ n, n = r.A := ⟨_, rfl⟩
      rw [← hN] at h0
      rw [← hA] at h1
      have hba := Lib.hid (Hbr.out.alloc Hbr.out.size (.cells #[.int .u64 (N : Int), .int .u64 (A : Int), .slice r.F.A nF r.F.cap] 138))
      by_cases h40 : 40 < nF
      · have d2 : decide ((40 : Int) < (nF : Int)) = true := decide_eq_true (by omega)
        have ho : out = false := by
          rw [Hout2.out, show (rs.all fun r => decide (r.F.l.length ≤ 40)) = false from List.all_eq_false.2 ⟨r, hmem, by simp; omega⟩]; rfl
        subst ho
        clear hr hmem hnF hN hA h40
        go_wp2_with fail
        go_ret
        exact ⟨rfl, below_trans Hb0.out hba.out⟩
      · have d2 : decide ((40 : Int) < (nF : Int)) = false := decide_eq_false (by omega)
        have hnx : ((rs.take (k + 1)).all fun r => decide (r.F.l.length ≤ 40)) = true := by
          rw [List.take_add_one, hr, List.all_append, Hup.out]; simp; omega
        have Hnx := Lib.hid hnx
        clear hr hmem hnF hN hA h40 hnx
        go_wp2_with fail
        go_roundw
        case rel => exact ⟨k + 1, by go_num, by omega, Hnx.out, hba.out⟩
        case measure => simp [intOf]; omega
    · have d1 : decide ((k : Int) < (nB : Int)) = false := decide_eq_false (by omega)
      have hall : (rs.all fun r => decide (r.F.l.length ≤ 40)) = true := by
        have := Hup.out
        rwa [List.take_of_length_le (by rw [← HnB.out]; omega)] at this
      have ho : out = rightG P Q G H rs := by rw [Hout2.out, hall]; rfl
      have hc := Hcon.out wr (below_trans Hb0.out Hbr.out) (by omega) (fun r hr => by have := List.all_eq_true.1 hall r hr; simp at this; omega)
      rw [← ho] at hc
      have Hc := Lib.hid hc
      obtain ⟨g0, g1, g2, g3, g4⟩ := gcells (Hg0.out.below Hbr.out hgl)
      clear hall ho hc
      go_wp2_with (go_at_call 88; refine Hc.out.mono ?_; rintro e w2 ⟨rfl, hb2⟩; have Hb2 := Lib.hid hb2; clear hb2)
      go_ret
      exact ⟨rfl, below_trans Hb0.out (below_trans Hbr.out Hb2.out)⟩

def fewC (T : List Nat) (rs ls : List NumV) : Bool := (decide (T.length ≤ 20) && decide (rs.length ≤ 20) && (rs.all fun r => decide (r.l.length ≤ 20))) && (ls.all fun r => decide (r.l.length ≤ 80))
theorem fewC_yes {T : List Nat} {rs ls : List NumV} (h : fewC T rs ls = true) : T.length ≤ 20 ∧ rs.length ≤ 20 ∧ (∀ r ∈ rs, r.l.length ≤ 20) ∧ (∀ r ∈ ls, r.l.length ≤ 80) := by
  unfold fewC at h
  simp only [Bool.and_eq_true, decide_eq_true_eq, List.all_eq_true] at h
  exact ⟨h.1.1.1, h.1.1.2, h.1.2, h.2⟩

end Go.Proofs.YtbpenkaficiodaaGreat

/- Of what is passed, is each so? The program's walk, for the two ways in which it is asked. -/
namespace Go.Proofs.YtbpenkaficiodaaGreat
open Go.RowKit Go.BigFrame

def allU (h : Nat → Nat → Bool) (k : Nat) : Bool := (List.range k).all fun i => h i 0 && h i 1 && h i 2
theorem allU_succ (h : Nat → Nat → Bool) (k : Nat) : allU h (k + 1) = (allU h k && (h k 0 && h k 1 && h k 2)) := by
  unfold allU
  rw [List.range_succ, List.all_append]
  simp
theorem allU_no {h : Nat → Nat → Bool} {k n j : Nat} (hk : k < n) (hj : j < 3) (hf : h k j = false) : allU h n = false := by
  unfold allU
  rw [List.all_eq_false]
  refine ⟨k, List.mem_range.2 hk, ?_⟩
  match j, hj with
  | 0, _ => simp [hf]
  | 1, _ => simp [hf]
  | 2, _ => simp [hf]
theorem allU_next {h : Nat → Nat → Bool} {k : Nat} (ha : allU h k = true) (hf : ∀ j, j < 3 → h k j = true) : allU h (k + 1) = true := by
  rw [allU_succ, ha, hf 0 (by omega), hf 1 (by omega), hf 2 (by omega)]; rfl
theorem pcells {w : World} {b : Nat} {x : PassedV} {t : TypeId} (h : Blk w b t x.list) : ∀ j, j < 3 → w.cell? ⟨b, 9 + j * 2, none⟩ = some (x.c j).val ∧ w.cell? ⟨b, 9 + j * 2 + 1, none⟩ = some (x.a j).val :=
  three_cases ⟨h.cell 9, h.cell 10⟩ ⟨h.cell 11, h.cell 12⟩ ⟨h.cell 13, h.cell 14⟩

set_option maxRecDepth 100000 in
set_option maxHeartbeats 4000000 in
theorem everyC_any (n : Nat) (A : Option Addr) (cap : Nat) (ls : List PassedV) (p0 p1 p2 p3 p4 : Nat) (h : Nat → Nat → Bool) (w : World) (hA : Passeds w A cap ls) (hl : ls.length < 1000000)
    (hcl : ∀ W i x, Below w.heap.size w W → ls[i]? = some x → i < n → ∀ j : Nat, j < 3 → Calls Tryz.prog 76 #[.int .i64 (i : Int), .int .i64 (j : Int), .agg #[.int .u64 (x.t.u j : Int), .int .u64 (x.t.w j : Int), .int .u64 (x.t.v j : Int)], .agg #[(x.c j).val, (x.a j).val], .pointer (some ⟨p0, 0, none⟩), .pointer (some ⟨p1, 0, none⟩), .pointer (some ⟨p2, 0, none⟩), .pointer (some ⟨p3, 0, none⟩), .pointer (some ⟨p4, 0, none⟩)] W fun e w' => e = .returned (.bool (h i j)) ∧ Below W.heap.size W w') :
    Calls Tryz.prog 75 #[.int .i64 (n : Int), .slice A ls.length cap, .func (.func 76) #[] #[.pointer (some ⟨p0, 0, none⟩), .pointer (some ⟨p1, 0, none⟩), .pointer (some ⟨p2, 0, none⟩), .pointer (some ⟨p3, 0, none⟩), .pointer (some ⟨p4, 0, none⟩)]] w fun e w' => e = .returned (.bool (decide (ls.length = n) && allU h n)) ∧ Below w.heap.size w w' := by
  obtain ⟨nl, hnl⟩ : ∃ s, s = (ls.length) := ⟨_, rfl⟩; obtain ⟨out, hout⟩ : ∃ s, s = (decide (ls.length = n) && allU h n) := ⟨_, rfl⟩
  rw [← hout, ← hnl]
  by_cases h1 : nl = n
  case neg =>
    have d1 : ((nl : Int) != (n : Int)) = true := by rw [bne_iff_ne]; omega
    have hr : out = false := by rw [hout, decide_eq_false (by rw [← hnl]; exact h1)]; rfl
    subst hr
    clear hout h1 hA hcl hnl
    go_enter Tryz.func75, Tryz.ntmps75
    go_wp2_with fail
    go_ret
    exact ⟨rfl, Below.refl _ _⟩
  subst h1
  have ho : out = allU h nl := by rw [hout, ← hnl, decide_eq_true rfl]; rfl
  have hl' : nl < 1000000 := by omega
  clear hout hl
  have Ho := Lib.hid ho; have HA := Lib.hid hA; have Hcl := Lib.hid hcl; have Hnl := Lib.hid hnl; clear ho hA hcl hnl
  go_enter Tryz.func75, Tryz.ntmps75
  go_wp2_with fail
  go_loopw [17] (fun kv wr => ∃ k : Nat, kv = .int .i64 (k : Int) ∧ k ≤ nl ∧ allU h k = true ∧ Below w.heap.size w wr) (fun kv _ => nl - (intOf kv).toNat)
  case atStart => exact ⟨0, rfl, by omega, rfl, Below.refl _ _⟩
  case round =>
    obtain ⟨k, rfl, hk, hak, hbr⟩ := hrel
    have Hak := Lib.hid hak; have Hbr := Lib.hid hbr; clear hak hbr
    by_cases hkl : k < nl
    · have d8 : decide ((k : Int) < (nl : Int)) = true := decide_eq_true (by omega)
      have hki : (k : Int) < (nl : Int) := by omega
      obtain ⟨x, hx⟩ : ∃ x, ls[k]? = some x := ⟨_, List.getElem?_eq_getElem (by rw [← Hnl.out]; exact hkl)⟩
      obtain ⟨b, hAb, q0, q1, q2, q3, q4, q5, q6, q7, q8, q9, q10, q11, q12, q13, q14⟩ := recs_15 (HA.out.below Hbr.out).recs (k := k) (by rw [List.getElem?_map, hx]; rfl)
      subst hAb
      have HX := Lib.hid (fun W j (hj : j < 3) hb => Hcl.out W k x hb hx hkl j hj)
      simp only [NumV.val] at q9 q10 q11 q12 q13 q14
      clear hx
      go_wp2_with fail
      obtain ⟨wx, hwx⟩ : ∃ z, z = wr.alloc (.cells #[.int .u64 (x.t.u 0 : Int), .int .u64 (x.t.w 0 : Int), .int .u64 (x.t.v 0 : Int), .int .u64 (x.t.u 1 : Int), .int .u64 (x.t.w 1 : Int), .int .u64 (x.t.v 1 : Int), .int .u64 (x.t.u 2 : Int), .int .u64 (x.t.w 2 : Int), .int .u64 (x.t.v 2 : Int), .slice (x.c 0).A (x.c 0).l.length (x.c 0).cap, .slice (x.a 0).A (x.a 0).l.length (x.a 0).cap, .slice (x.c 1).A (x.c 1).l.length (x.c 1).cap, .slice (x.a 1).A (x.a 1).l.length (x.a 1).cap, .slice (x.c 2).A (x.c 2).l.length (x.c 2).cap, .slice (x.a 2).A (x.a 2).l.length (x.a 2).cap] 45) := ⟨_, rfl⟩
      have hbx : Below wr.heap.size wr wx := by rw [hwx]; exact lat_alloc (Below.refl _ _) _
      have hx0 : Blk wx wr.heap.size 45 x.list := by rw [hwx]; exact Blk.of wr _ _ _ rfl
      rw [← hwx]
      clear q0 q1 q2 q3 q4 q5 q6 q7 q8 q9 q10 q11 q12 q13 q14 hwx
      have hbwx := below_trans Hbr.out hbx
      have Hx0 := Lib.hid hx0; have Hbwx := Lib.hid hbwx; clear hx0 hbwx
      clear hbx
      go_loopw [24] (fun jv wq => ∃ j : Nat, jv = .int .i64 (j : Int) ∧ j ≤ 3 ∧ (∀ i, i < j → h k i = true) ∧ Below wx.heap.size wx wq) (fun jv _ => 3 - (intOf jv).toNat)
      case atStart => exact ⟨0, rfl, by omega, by omega, Below.refl _ _⟩
      case round =>
        obtain ⟨j, rfl, hj, hej, hbj⟩ := hrel
        have Hej := Lib.hid hej; have Hbj := Lib.hid hbj; clear hej hbj
        by_cases hj3 : j < 3
        · have d9 : decide ((j : Int) < 3) = true := decide_eq_true (by omega)
          have hji : (j : Int) < 3 := by omega
          have hix := fun W => ix_tri x.t W j hj3
          go_wp2_with fail
          obtain ⟨wy, hwy⟩ : ∃ z, z = wr.alloc (.cells #[.int .u64 (x.t.u j : Int), .int .u64 (x.t.w j : Int), .int .u64 (x.t.v j : Int)] 38) := ⟨_, rfl⟩
          have hby : Below wx.heap.size wx wy := by rw [hwy]; exact lat_alloc Hbj.out _
          have hp : Blk wy wr.heap.size 38 [.int .u64 (x.t.u j : Int), .int .u64 (x.t.w j : Int), .int .u64 (x.t.v j : Int)] := by rw [hwy]; exact Blk.of wr _ _ _ rfl
          rw [← hwy]
          obtain ⟨p0, p1, p2⟩ := cells_3 hp
          obtain ⟨p3, p4⟩ := pcells (Hx0.out.below hby Hx0.out.lt) j hj3
          have l0 := Later.cell p0
          have l1 := Later.cell p1
          have l2 := Later.cell p2
          have l3 := Later.cell p3
          have l4 := Later.cell p4
          have hcc := fun W hb => HX.out W j hj3 (below_trans Hbwx.out (below_trans hby hb))
          obtain ⟨r, hr⟩ : ∃ r, r = h k j := ⟨_, rfl⟩
          rw [← hr] at hcc
          have Hcc := Lib.hid hcc; have Hby := Lib.hid hby; clear hcc hby
          clear hwy hp hix d9
          cases r with
          | false =>
            have ho : out = false := by rw [Ho.out]; exact allU_no hkl hj3 hr.symm
            subst ho
            clear hr
            (refine region_calm (by kernel_rfl) (by kernel_rfl) ?_; (repeat (go_big_quiet_step ((go_at_call 76; exact calm_of (Hcc.out _ (Later.below _)))))); refine wpQuiet_nil ?_; intro wq hw'; obtain ⟨pq, hpq⟩ := hw'; have hbq := pq.below; rw [← hpq] at hbq; clear hpq pq; try dsimp only)
            go_wp2_with fail
            go_ret
            exact ⟨rfl, below_trans Hbwx.out (below_trans Hby.out hbq)⟩
          | true =>
            have Hr := Lib.hid hr.symm
            clear hr
            (refine region_calm (by kernel_rfl) (by kernel_rfl) ?_; (repeat (go_big_quiet_step ((go_at_call 76; exact calm_of (Hcc.out _ (Later.below _)))))); refine wpQuiet_nil ?_; intro wq hw'; obtain ⟨pq, hpq⟩ := hw'; have hbq := pq.below; rw [← hpq] at hbq; clear hpq pq; try dsimp only)
            go_wp2_with fail
            go_roundw
            case rel => exact ⟨j + 1, by go_num, by omega, upto_next Hej.out Hr.out, below_trans Hby.out hbq⟩
            case measure => simp [intOf]; omega
        · obtain rfl : j = 3 := by omega
          have hnx := allU_next Hak.out Hej.out
          have Hnx := Lib.hid hnx; clear hnx
          have d9 : decide (((3 : Nat) : Int) < 3) = false := by decide
          go_wp2_with fail
          go_roundw
          case rel => exact ⟨k + 1, by go_num, by omega, Hnx.out, below_trans Hbwx.out Hbj.out⟩
          case measure => simp [intOf]; omega
    · obtain rfl : k = nl := by omega
      have d8 : decide ((k : Int) < (k : Int)) = false := decide_eq_false (by omega)
      have ho2 : out = true := by rw [Ho.out, Hak.out]
      subst ho2
      go_wp2_with fail
      go_ret
      exact ⟨rfl, Hbr.out⟩

set_option maxRecDepth 100000 in
set_option maxHeartbeats 4000000 in
theorem everyO_any (n : Nat) (A : Option Addr) (cap : Nat) (ls : List PassedV) (p0 p1 p2 p3 : Nat) (h : Nat → Nat → Bool) (w : World) (hA : Passeds w A cap ls) (hl : ls.length < 1000000)
    (hcl : ∀ W i x, Below w.heap.size w W → ls[i]? = some x → i < n → ∀ j : Nat, j < 3 → Calls Tryz.prog 82 #[.int .i64 (i : Int), .int .i64 (j : Int), .agg #[.int .u64 (x.t.u j : Int), .int .u64 (x.t.w j : Int), .int .u64 (x.t.v j : Int)], .agg #[(x.c j).val, (x.a j).val], .pointer (some ⟨p0, 0, none⟩), .pointer (some ⟨p1, 0, none⟩), .pointer (some ⟨p2, 0, none⟩), .pointer (some ⟨p3, 0, none⟩)] W fun e w' => e = .returned (.bool (h i j)) ∧ Below W.heap.size W w') :
    Calls Tryz.prog 75 #[.int .i64 (n : Int), .slice A ls.length cap, .func (.func 82) #[] #[.pointer (some ⟨p0, 0, none⟩), .pointer (some ⟨p1, 0, none⟩), .pointer (some ⟨p2, 0, none⟩), .pointer (some ⟨p3, 0, none⟩)]] w fun e w' => e = .returned (.bool (decide (ls.length = n) && allU h n)) ∧ Below w.heap.size w w' := by
  obtain ⟨nl, hnl⟩ : ∃ s, s = (ls.length) := ⟨_, rfl⟩; obtain ⟨out, hout⟩ : ∃ s, s = (decide (ls.length = n) && allU h n) := ⟨_, rfl⟩
  rw [← hout, ← hnl]
  by_cases h1 : nl = n
  case neg =>
    have d1 : ((nl : Int) != (n : Int)) = true := by rw [bne_iff_ne]; omega
    have hr : out = false := by rw [hout, decide_eq_false (by rw [← hnl]; exact h1)]; rfl
    subst hr
    clear hout h1 hA hcl hnl
    go_enter Tryz.func75, Tryz.ntmps75
    go_wp2_with fail
    go_ret
    exact ⟨rfl, Below.refl _ _⟩
  subst h1
  have ho : out = allU h nl := by rw [hout, ← hnl, decide_eq_true rfl]; rfl
  have hl' : nl < 1000000 := by omega
  clear hout hl
  have Ho := Lib.hid ho; have HA := Lib.hid hA; have Hcl := Lib.hid hcl; have Hnl := Lib.hid hnl; clear ho hA hcl hnl
  go_enter Tryz.func75, Tryz.ntmps75
  go_wp2_with fail
  go_loopw [17] (fun kv wr => ∃ k : Nat, kv = .int .i64 (k : Int) ∧ k ≤ nl ∧ allU h k = true ∧ Below w.heap.size w wr) (fun kv _ => nl - (intOf kv).toNat)
  case atStart => exact ⟨0, rfl, by omega, rfl, Below.refl _ _⟩
  case round =>
    obtain ⟨k, rfl, hk, hak, hbr⟩ := hrel
    have Hak := Lib.hid hak; have Hbr := Lib.hid hbr; clear hak hbr
    by_cases hkl : k < nl
    · have d8 : decide ((k : Int) < (nl : Int)) = true := decide_eq_true (by omega)
      have hki : (k : Int) < (nl : Int) := by omega
      obtain ⟨x, hx⟩ : ∃ x, ls[k]? = some x := ⟨_, List.getElem?_eq_getElem (by rw [← Hnl.out]; exact hkl)⟩
      obtain ⟨b, hAb, q0, q1, q2, q3, q4, q5, q6, q7, q8, q9, q10, q11, q12, q13, q14⟩ := recs_15 (HA.out.below Hbr.out).recs (k := k) (by rw [List.getElem?_map, hx]; rfl)
      subst hAb
      have HX := Lib.hid (fun W j (hj : j < 3) hb => Hcl.out W k x hb hx hkl j hj)
      simp only [NumV.val] at q9 q10 q11 q12 q13 q14
      clear hx
      go_wp2_with fail
      obtain ⟨wx, hwx⟩ : ∃ z, z = wr.alloc (.cells #[.int .u64 (x.t.u 0 : Int), .int .u64 (x.t.w 0 : Int), .int .u64 (x.t.v 0 : Int), .int .u64 (x.t.u 1 : Int), .int .u64 (x.t.w 1 : Int), .int .u64 (x.t.v 1 : Int), .int .u64 (x.t.u 2 : Int), .int .u64 (x.t.w 2 : Int), .int .u64 (x.t.v 2 : Int), .slice (x.c 0).A (x.c 0).l.length (x.c 0).cap, .slice (x.a 0).A (x.a 0).l.length (x.a 0).cap, .slice (x.c 1).A (x.c 1).l.length (x.c 1).cap, .slice (x.a 1).A (x.a 1).l.length (x.a 1).cap, .slice (x.c 2).A (x.c 2).l.length (x.c 2).cap, .slice (x.a 2).A (x.a 2).l.length (x.a 2).cap] 45) := ⟨_, rfl⟩
      have hbx : Below wr.heap.size wr wx := by rw [hwx]; exact lat_alloc (Below.refl _ _) _
      have hx0 : Blk wx wr.heap.size 45 x.list := by rw [hwx]; exact Blk.of wr _ _ _ rfl
      rw [← hwx]
      clear q0 q1 q2 q3 q4 q5 q6 q7 q8 q9 q10 q11 q12 q13 q14 hwx
      have hbwx := below_trans Hbr.out hbx
      have Hx0 := Lib.hid hx0; have Hbwx := Lib.hid hbwx; clear hx0 hbwx
      clear hbx
      go_loopw [24] (fun jv wq => ∃ j : Nat, jv = .int .i64 (j : Int) ∧ j ≤ 3 ∧ (∀ i, i < j → h k i = true) ∧ Below wx.heap.size wx wq) (fun jv _ => 3 - (intOf jv).toNat)
      case atStart => exact ⟨0, rfl, by omega, by omega, Below.refl _ _⟩
      case round =>
        obtain ⟨j, rfl, hj, hej, hbj⟩ := hrel
        have Hej := Lib.hid hej; have Hbj := Lib.hid hbj; clear hej hbj
        by_cases hj3 : j < 3
        · have d9 : decide ((j : Int) < 3) = true := decide_eq_true (by omega)
          have hji : (j : Int) < 3 := by omega
          have hix := fun W => ix_tri x.t W j hj3
          go_wp2_with fail
          obtain ⟨wy, hwy⟩ : ∃ z, z = wr.alloc (.cells #[.int .u64 (x.t.u j : Int), .int .u64 (x.t.w j : Int), .int .u64 (x.t.v j : Int)] 38) := ⟨_, rfl⟩
          have hby : Below wx.heap.size wx wy := by rw [hwy]; exact lat_alloc Hbj.out _
          have hp : Blk wy wr.heap.size 38 [.int .u64 (x.t.u j : Int), .int .u64 (x.t.w j : Int), .int .u64 (x.t.v j : Int)] := by rw [hwy]; exact Blk.of wr _ _ _ rfl
          rw [← hwy]
          obtain ⟨p0, p1, p2⟩ := cells_3 hp
          obtain ⟨p3, p4⟩ := pcells (Hx0.out.below hby Hx0.out.lt) j hj3
          have l0 := Later.cell p0
          have l1 := Later.cell p1
          have l2 := Later.cell p2
          have l3 := Later.cell p3
          have l4 := Later.cell p4
          have hcc := fun W hb => HX.out W j hj3 (below_trans Hbwx.out (below_trans hby hb))
          obtain ⟨r, hr⟩ : ∃ r, r = h k j := ⟨_, rfl⟩
          rw [← hr] at hcc
          have Hcc := Lib.hid hcc; have Hby := Lib.hid hby; clear hcc hby
          clear hwy hp hix d9
          cases r with
          | false =>
            have ho : out = false := by rw [Ho.out]; exact allU_no hkl hj3 hr.symm
            subst ho
            clear hr
            (refine region_calm (by kernel_rfl) (by kernel_rfl) ?_; (repeat (go_big_quiet_step ((go_at_call 82; exact calm_of (Hcc.out _ (Later.below _)))))); refine wpQuiet_nil ?_; intro wq hw'; obtain ⟨pq, hpq⟩ := hw'; have hbq := pq.below; rw [← hpq] at hbq; clear hpq pq; try dsimp only)
            go_wp2_with fail
            go_ret
            exact ⟨rfl, below_trans Hbwx.out (below_trans Hby.out hbq)⟩
          | true =>
            have Hr := Lib.hid hr.symm
            clear hr
            (refine region_calm (by kernel_rfl) (by kernel_rfl) ?_; (repeat (go_big_quiet_step ((go_at_call 82; exact calm_of (Hcc.out _ (Later.below _)))))); refine wpQuiet_nil ?_; intro wq hw'; obtain ⟨pq, hpq⟩ := hw'; have hbq := pq.below; rw [← hpq] at hbq; clear hpq pq; try dsimp only)
            go_wp2_with fail
            go_roundw
            case rel => exact ⟨j + 1, by go_num, by omega, upto_next Hej.out Hr.out, below_trans Hby.out hbq⟩
            case measure => simp [intOf]; omega
        · obtain rfl : j = 3 := by omega
          have hnx := allU_next Hak.out Hej.out
          have Hnx := Lib.hid hnx; clear hnx
          have d9 : decide (((3 : Nat) : Int) < 3) = false := by decide
          go_wp2_with fail
          go_roundw
          case rel => exact ⟨k + 1, by go_num, by omega, Hnx.out, below_trans Hbwx.out Hbj.out⟩
          case measure => simp [intOf]; omega
    · obtain rfl : k = nl := by omega
      have d8 : decide ((k : Int) < (k : Int)) = false := decide_eq_false (by omega)
      have ho2 : out = true := by rw [Ho.out, Hak.out]
      subst ho2
      go_wp2_with fail
      go_ret
      exact ⟨rfl, Hbr.out⟩
end Go.Proofs.YtbpenkaficiodaaGreat

namespace Go.Proofs.YtbpenkaficiodaaGreat
open Go.RowKit

theorem runs_add (c : St → List UInt8 → St) (a b : Nat) (l : List UInt8) (h : St) : runs c (a + b) l h = runs c b (l.drop (64 * a)) (runs c a l h) := by
  induction a generalizing l h with
  | zero => simp [runs]
  | succ a ih =>
    rw [show a + 1 + b = (a + b) + 1 by omega, runs, ih, runs, List.drop_drop]
    congr 2; omega
theorem runs_front (c : St → List UInt8 → St) (a : Nat) (l m : List UInt8) (h : St) (hl : 64 * a ≤ l.length) : runs c a (l ++ m) h = runs c a l h := by
  induction a generalizing l h with
  | zero => rfl
  | succ a ih =>
    rw [runs, runs, List.take_append_of_le_length (by omega), List.drop_append_of_le_length (by omega), ih _ _ (by rw [List.length_drop]; omega)]
/-- What is cut into blocks. -/
def padOf (l : List UInt8) : List UInt8 := l ++ [128] ++ List.replicate ((119 - l.length % 64) % 64) 0 ++ be 8 (8 * l.length)
theorem padOf_eq (l : List UInt8) : padOf l = l.take (64 * (l.length / 64)) ++ tailOf l := by
  have hr : (l.drop (64 * (l.length / 64))).length = l.length % 64 := by rw [List.length_drop]; omega
  simp only [tailOf, padOf, hr]
  rw [← List.append_assoc, ← List.append_assoc, ← List.append_assoc, List.take_append_drop]
theorem tailOf_length (l : List UInt8) : (tailOf l).length = l.length % 64 + 1 + (119 - l.length % 64) % 64 + 8 := by
  have hr : (l.drop (64 * (l.length / 64))).length = l.length % 64 := by rw [List.length_drop]; omega
  simp [tailOf, be_length, hr]; omega
theorem padOf_length (l : List UInt8) : (padOf l).length = 64 * (l.length / 64) + (tailOf l).length := by
  rw [padOf_eq, List.length_append, List.length_take]; omega
theorem sha_pad (l : List UInt8) : sha l = outOf (runs comp ((padOf l).length / 64) (padOf l) iv) := by
  have h1 : (padOf l).length / 64 = l.length / 64 + (tailOf l).length / 64 := by rw [padOf_length]; omega
  have h2 : (l.take (64 * (l.length / 64))).length = 64 * (l.length / 64) := by rw [List.length_take]; omega
  have h3 : runs comp (l.length / 64) l iv = runs comp (l.length / 64) (l.take (64 * (l.length / 64))) iv := by
    exact (congrArg (fun x => runs comp (l.length / 64) x iv) (List.take_append_drop (64 * (l.length / 64)) l)).symm.trans (runs_front _ _ _ _ _ (by rw [h2]; exact Nat.le_refl _))
  rw [sha, h1, runs_add, padOf_eq, runs_front _ _ _ _ _ (by rw [h2]; exact Nat.le_refl _), ← h3, List.drop_append, h2, List.drop_of_length_le (by rw [h2]; exact Nat.le_refl _)]
  simp

theorem ch_or (e f g : W32) : e &&& f ||| ~~~e &&& g = e &&& f ^^^ ~~~e &&& g := by
  ext i hi
  simp only [BitVec.getElem_or, BitVec.getElem_and, BitVec.getElem_xor, BitVec.getElem_not]
  cases e[i] <;> cases f[i] <;> cases g[i] <;> rfl
theorem maj_or (a b c : W32) : a &&& b ||| a &&& c ||| b &&& c = a &&& b ^^^ a &&& c ^^^ b &&& c := by
  ext i hi
  simp only [BitVec.getElem_or, BitVec.getElem_and, BitVec.getElem_xor]
  cases a[i] <;> cases b[i] <;> cases c[i] <;> rfl
theorem pword4 (s : List UInt8) (t : Nat) : pword s t 4 = BitVec.ofNat 32 (s.getD (4 * t) 0).toNat <<< 24 ||| BitVec.ofNat 32 (s.getD (4 * t + 1) 0).toNat <<< 16 ||| BitVec.ofNat 32 (s.getD (4 * t + 2) 0).toNat <<< 8 ||| BitVec.ofNat 32 (s.getD (4 * t + 3) 0).toNat := by
  simp only [pword, BitVec.shiftLeft_or_distrib, Nat.add_zero]
  simp [← BitVec.shiftLeft_add]

set_option maxRecDepth 100000 in
set_option maxHeartbeats 400000 in
theorem ks_any (w : World) :
    Calls Tryz.prog 197 #[] w fun e w' => e = .returned (.slice (some ⟨w.heap.size, 0, none⟩) 64 64) ∧ Blk w' w.heap.size 223 (kList.map v32) ∧ Below w.heap.size w w' := by
  go_enter Tryz.func197, Tryz.ntmps197
  go_wp2
  go_ret
  exact ⟨rfl, Blk.of _ _ _ _ (by kernel_rfl), (Below.refl _ _).alloc (Nat.le_refl _) _⟩

end Go.Proofs.YtbpenkaficiodaaGreat

namespace Go.Proofs.YtbpenkaficiodaaGreat
open Go.RowKit

theorem Tryz.underlying_u32s : Tryz.prog.underlying 243 = some (.slice 223) := by kernel_rfl
theorem Tryz.info_u32 : (Tryz.prog.info? 223).map (fun i => (i.zero, i.size, i.bytes)) = some (some (.int .u32 0), 1, 4) := by kernel_rfl
/-- What the sums' rounds read and leave: h (in place), K, the padded text. -/
structure Bs (x : World) (b0 g : Nat) (h : St) (p : List UInt8) : Prop where
  h : Blk x b0 223 h.cells
  k : Blk x (b0 + 1) 223 (kList.map v32)
  p : ∀ j, j < p.length → x.cell? ⟨g, j, none⟩ = some (.int .u8 ((p.getD j 0).toNat : Int))
theorem Bs.below {x y : World} {b0 g : Nat} {h : St} {p : List UInt8} (hb : Bs x b0 g h p) (hg : g < x.heap.size) (hy : Below x.heap.size x y) : Bs y b0 g h p :=
  ⟨hb.h.below hy hb.h.lt, hb.k.below hy hb.k.lt, fun j hj => (hy.cell (p := ⟨g, j, none⟩) hg).trans (hb.p j hj)⟩

/-- What a round of the reference's sums reads. -/
structure Rf (x : World) (V W kb : Nat) (w0 : World) (v : St) (l : List UInt8) : Prop where
  st : Blk x V 246 v.cells
  ws : Blk x W 223 (wArr l 64)
  ks : Blk x kb 223 (kList.map v32)
  below : Below V w0 x
theorem Rf.drewN {x : World} {V W kb : Nat} {w0 : World} {v : St} {l : List UInt8} (h : Rf x V W kb w0 v l) (n : Nat) : Rf (x.drewN n) V W kb w0 v l := ⟨h.st, h.ws, h.ks, below_drewN h.below n⟩
theorem Rf.cells {x : World} {V W kb : Nat} {w0 : World} {v : St} {l : List UInt8} (h : Rf x V W kb w0 v l) :
    x.cell? ⟨V, 0, none⟩ = some (v32 v.a) ∧ x.cell? ⟨V, 1, none⟩ = some (v32 v.b) ∧ x.cell? ⟨V, 2, none⟩ = some (v32 v.c) ∧ x.cell? ⟨V, 3, none⟩ = some (v32 v.d) ∧ x.cell? ⟨V, 4, none⟩ = some (v32 v.e) ∧ x.cell? ⟨V, 5, none⟩ = some (v32 v.f) ∧ x.cell? ⟨V, 6, none⟩ = some (v32 v.g) ∧ x.cell? ⟨V, 7, none⟩ = some (v32 v.h) :=
  ⟨h.st.cell 0, h.st.cell 1, h.st.cell 2, h.st.cell 3, h.st.cell 4, h.st.cell 5, h.st.cell 6, h.st.cell 7⟩
theorem Rf.word {x : World} {V W kb : Nat} {w0 : World} {v : St} {l : List UInt8} (h : Rf x V W kb w0 v l) (t : Nat) (ht : t < 64) : x.cell? ⟨W, t, none⟩ = some (v32 ((sch l 64).getD t 0)) := by
  rw [h.ws.cell, wArr_get l 64 t ht]
theorem Rf.put {x : World} {V W kb : Nat} {w0 : World} {v : St} {l : List UInt8} (h : Rf x V W kb w0 v l) (hW : W ≠ V) (hk : kb ≠ V) (n : St) :
    Rf ((((((((x.setCell ⟨V, 0, none⟩ (v32 n.a)).setCell ⟨V, 1, none⟩ (v32 n.b)).setCell ⟨V, 2, none⟩ (v32 n.c)).setCell ⟨V, 3, none⟩ (v32 n.d)).setCell ⟨V, 4, none⟩ (v32 n.e)).setCell ⟨V, 5, none⟩ (v32 n.f)).setCell ⟨V, 6, none⟩ (v32 n.g)).setCell ⟨V, 7, none⟩ (v32 n.h)) V W kb w0 n l :=
  ⟨(((((((h.st.set 0 _).set 1 _).set 2 _).set 3 _).set 4 _).set 5 _).set 6 _).set 7 _,
   (((((((h.ws.other hW _).other hW _).other hW _).other hW _).other hW _).other hW _).other hW _).other hW _,
   (((((((h.ks.other hk _).other hk _).other hk _).other hk _).other hk _).other hk _).other hk _).other hk _,
   below_set (below_set (below_set (below_set (below_set (below_set (below_set (below_set h.below (Nat.le_refl _) _ _) (Nat.le_refl _) _ _) (Nat.le_refl _) _ _) (Nat.le_refl _) _ _) (Nat.le_refl _) _ _) (Nat.le_refl _) _ _) (Nat.le_refl _) _ _) (Nat.le_refl _) _ _⟩
theorem kmap_get (t : Nat) (ht : t < 64) : (kList.map v32)[t]? = some (v32 (kList.getD t 0)) := by
  have : t < kList.length := by rw [kList_length]; exact ht
  simp [List.getD_eq_getElem?_getD, this]
theorem Rf.k {x : World} {V W kb : Nat} {w0 : World} {v : St} {l : List UInt8} (h : Rf x V W kb w0 v l) (t : Nat) (ht : t < 64) : x.cell? ⟨kb, t, none⟩ = some (v32 (kList.getD t 0)) := by
  rw [h.ks.cell, kmap_get t ht]


noncomputable def refBlocks : Code := nthLoop (Tryz.f188.body.getD .skip) 1
noncomputable def refSched : Code := nthLoop refBlocks 0
noncomputable def refRounds : Code := nthLoop refBlocks 1
noncomputable def refAdd : Code := nthLoop refBlocks 2
noncomputable def refOut : Code := nthLoop (Tryz.f188.body.getD .skip) 2
set_option maxRecDepth 1000000 in
set_option maxHeartbeats 4000000 in
theorem sched_loop (g cap j : Nat) (z : Int) (p q : List UInt8) (wo w0 : World) (Q : Exit → Act → World → Prop) (hz : z = ((64 * j : Nat) : Int)) (hgo : g < wo.heap.size) (hpl : p.length ≤ 1099511628000) (hj : 64 * j + 64 ≤ p.length)
    (hp : ∀ i, i < p.length → wo.cell? ⟨g, i, none⟩ = some (.int .u8 ((p.getD i 0).toNat : Int))) (hqget : ∀ i, i < 64 → q.getD i 0 = p.getD (64 * j + i) 0)
    (hA0 : Blk w0 wo.heap.size 223 (wArr q 0)) (hB0 : Below wo.heap.size wo w0) (x0 x1 x2 x3 x4 x9 x10 x11 x12 x13 x14 x15 x16 x17 x18 x19 x20 x21 x22 x23 x24 x25 x26 x27 x28 x29 x30 x31 x32 x33 x34 x35 x36 x37 x38 x39 x40 x41 x42 x43 x44 x45 x46 x47 x48 x49 x50 x51 x52 x53 x54 x55 x56 x57 x58 x59 x60 x61 x62 x63 x64 x65 x66 x67 x68 x69 x70 x71 x72 x73 x74 x75 x76 x77 x78 x79 x80 x81 x82 x83 x84 x85 x86 x87 x88 x89 x90 x91 x92 x93 x94 x95 x96 x97 x98 x99 x100 x101 x102 x103 x104 x105 x106 x107 x108 x109 x110 x111 x112 x113 x114 x115 x116 x117 x118 x119 x120 x121 x122 x123 x124 x125 x126 x127 x128 x129 x130 x131 x132 x133 x134 x135 x136 x137 x138 x139 x140 x141 x142 x143 x144 x145 x146 x147 x148 x149 x150 x151 x152 x153 x154 x155 x156 x157 x158 x159 x160 x161 x162 x163 x164 x165 x166 x167 x168 x169 x170 x171 x172 x173 x174 x175 x176 x177 x178 x179 x180 x181 x182 x183 x184 x185 x186 x187 x188 x189 x190 x191 x192 x193 x194 x195 x196 x197 x198 x199 x200 x201 x202 x203 x204 x205 x206 x207 x208 x209 x210 x211 x212 x213 x214 x215 x216 x217 x218 x219 x220 x221 x222 x223 x224 x225 x226 x227 x228 x229 x230 x231 x232 x233 x234 x235 x236 x237 x238 x239 x240 x241 x242 x243 x244 x245 x246 x247 x248 x249 x250 x251 x252 x253 x254 x255 x256 x257 x258 x259 x260 x261 x262 x263 x264 x265 x266 x267 : Value)
    (hexit : ∀ (u8 u9 u10 u11 u47 u48 u49 u50 u51 u52 u53 u54 u55 u56 u57 u58 u59 u60 u61 u62 u63 u64 u65 u66 u67 u68 u69 u70 u71 u72 u73 u74 u75 u76 u77 u78 u79 u80 u81 u82 u83 u84 u85 u86 u87 u88 u89 u90 u91 u92 u93 u94 u95 u96 u97 u98 u99 u100 u101 u102 u103 u104 u105 u106 u107 u108 u109 u110 u111 u112 u113 u114 u115 u116 u117 u118 u119 u120 u121 u122 u123 u124 u125 u126 u127 u128 u129 u130 : Value) (w' : World), Blk w' wo.heap.size 223 (wArr q 64) → Below wo.heap.size wo w' → Q (.exit 4) ⟨List.toArray (x0 :: x1 :: x2 :: x3 :: x4 :: .slice (some ⟨g, 0, none⟩) p.length cap :: .int .i64 z :: .slice (some ⟨wo.heap.size, 0, none⟩) 64 64 :: u8 :: u9 :: u10 :: u11 :: x12 :: x13 :: x14 :: x15 :: x16 :: x17 :: x18 :: x19 :: x20 :: x21 :: x22 :: x23 :: x24 :: x25 :: x26 :: x27 :: x28 :: x29 :: x30 :: x31 :: x32 :: x33 :: x34 :: x35 :: x36 :: x37 :: x38 :: x39 :: x40 :: x41 :: x42 :: x43 :: x44 :: x45 :: x46 :: u47 :: u48 :: u49 :: u50 :: u51 :: u52 :: u53 :: u54 :: u55 :: u56 :: u57 :: u58 :: u59 :: u60 :: u61 :: u62 :: u63 :: u64 :: u65 :: u66 :: u67 :: u68 :: u69 :: u70 :: u71 :: u72 :: u73 :: u74 :: u75 :: u76 :: u77 :: u78 :: u79 :: u80 :: u81 :: u82 :: u83 :: u84 :: u85 :: u86 :: u87 :: u88 :: u89 :: u90 :: u91 :: u92 :: u93 :: u94 :: u95 :: u96 :: u97 :: u98 :: u99 :: u100 :: u101 :: u102 :: u103 :: u104 :: u105 :: u106 :: u107 :: u108 :: u109 :: u110 :: u111 :: u112 :: u113 :: u114 :: u115 :: u116 :: u117 :: u118 :: u119 :: u120 :: u121 :: u122 :: u123 :: u124 :: u125 :: u126 :: u127 :: u128 :: u129 :: u130 :: x131 :: x132 :: x133 :: x134 :: x135 :: x136 :: x137 :: x138 :: x139 :: x140 :: x141 :: x142 :: x143 :: x144 :: x145 :: x146 :: x147 :: x148 :: x149 :: x150 :: x151 :: x152 :: x153 :: x154 :: x155 :: x156 :: x157 :: x158 :: x159 :: x160 :: x161 :: x162 :: x163 :: x164 :: x165 :: x166 :: x167 :: x168 :: x169 :: x170 :: x171 :: x172 :: x173 :: x174 :: x175 :: x176 :: x177 :: x178 :: x179 :: x180 :: x181 :: x182 :: x183 :: x184 :: x185 :: x186 :: x187 :: x188 :: x189 :: x190 :: x191 :: x192 :: x193 :: x194 :: x195 :: x196 :: x197 :: x198 :: x199 :: x200 :: x201 :: x202 :: x203 :: x204 :: x205 :: x206 :: x207 :: x208 :: x209 :: x210 :: x211 :: x212 :: x213 :: x214 :: x215 :: x216 :: x217 :: x218 :: x219 :: x220 :: x221 :: x222 :: x223 :: x224 :: x225 :: x226 :: x227 :: x228 :: x229 :: x230 :: x231 :: x232 :: x233 :: x234 :: x235 :: x236 :: x237 :: x238 :: x239 :: x240 :: x241 :: x242 :: x243 :: x244 :: x245 :: x246 :: x247 :: x248 :: x249 :: x250 :: x251 :: x252 :: x253 :: x254 :: x255 :: x256 :: x257 :: x258 :: x259 :: x260 :: x261 :: x262 :: x263 :: x264 :: x265 :: x266 :: x267 :: []), []⟩ w') :
    (Code.loop refSched).wp Tryz.prog Q ⟨List.toArray (x0 :: x1 :: x2 :: x3 :: x4 :: .slice (some ⟨g, 0, none⟩) p.length cap :: .int .i64 z :: .slice (some ⟨wo.heap.size, 0, none⟩) 64 64 :: .int .i64 0 :: x9 :: x10 :: x11 :: x12 :: x13 :: x14 :: x15 :: x16 :: x17 :: x18 :: x19 :: x20 :: x21 :: x22 :: x23 :: x24 :: x25 :: x26 :: x27 :: x28 :: x29 :: x30 :: x31 :: x32 :: x33 :: x34 :: x35 :: x36 :: x37 :: x38 :: x39 :: x40 :: x41 :: x42 :: x43 :: x44 :: x45 :: x46 :: x47 :: x48 :: x49 :: x50 :: x51 :: x52 :: x53 :: x54 :: x55 :: x56 :: x57 :: x58 :: x59 :: x60 :: x61 :: x62 :: x63 :: x64 :: x65 :: x66 :: x67 :: x68 :: x69 :: x70 :: x71 :: x72 :: x73 :: x74 :: x75 :: x76 :: x77 :: x78 :: x79 :: x80 :: x81 :: x82 :: x83 :: x84 :: x85 :: x86 :: x87 :: x88 :: x89 :: x90 :: x91 :: x92 :: x93 :: x94 :: x95 :: x96 :: x97 :: x98 :: x99 :: x100 :: x101 :: x102 :: x103 :: x104 :: x105 :: x106 :: x107 :: x108 :: x109 :: x110 :: x111 :: x112 :: x113 :: x114 :: x115 :: x116 :: x117 :: x118 :: x119 :: x120 :: x121 :: x122 :: x123 :: x124 :: x125 :: x126 :: x127 :: x128 :: x129 :: x130 :: x131 :: x132 :: x133 :: x134 :: x135 :: x136 :: x137 :: x138 :: x139 :: x140 :: x141 :: x142 :: x143 :: x144 :: x145 :: x146 :: x147 :: x148 :: x149 :: x150 :: x151 :: x152 :: x153 :: x154 :: x155 :: x156 :: x157 :: x158 :: x159 :: x160 :: x161 :: x162 :: x163 :: x164 :: x165 :: x166 :: x167 :: x168 :: x169 :: x170 :: x171 :: x172 :: x173 :: x174 :: x175 :: x176 :: x177 :: x178 :: x179 :: x180 :: x181 :: x182 :: x183 :: x184 :: x185 :: x186 :: x187 :: x188 :: x189 :: x190 :: x191 :: x192 :: x193 :: x194 :: x195 :: x196 :: x197 :: x198 :: x199 :: x200 :: x201 :: x202 :: x203 :: x204 :: x205 :: x206 :: x207 :: x208 :: x209 :: x210 :: x211 :: x212 :: x213 :: x214 :: x215 :: x216 :: x217 :: x218 :: x219 :: x220 :: x221 :: x222 :: x223 :: x224 :: x225 :: x226 :: x227 :: x228 :: x229 :: x230 :: x231 :: x232 :: x233 :: x234 :: x235 :: x236 :: x237 :: x238 :: x239 :: x240 :: x241 :: x242 :: x243 :: x244 :: x245 :: x246 :: x247 :: x248 :: x249 :: x250 :: x251 :: x252 :: x253 :: x254 :: x255 :: x256 :: x257 :: x258 :: x259 :: x260 :: x261 :: x262 :: x263 :: x264 :: x265 :: x266 :: x267 :: []), []⟩ w0 := by
  have Hexit := Lib.hid hexit
  have Hz := Lib.hid hz
  have Hp := Lib.hid hp
  have Hqget := Lib.hid hqget
  have HA0 := Lib.hid hA0
  have HB0 := Lib.hid hB0
  have hz0 : 0 ≤ z := by omega
  have hz1 : z ≤ 1099511628000 := by omega
  clear hexit hz hp hqget hA0 hB0
  conv => arg 2; arg 1; whnf
  go_loopw [8] (fun y wr => ∃ t : Nat, t ≤ 64 ∧ y = .int .i64 (t : Int) ∧ Blk wr wo.heap.size 223 (wArr q t) ∧ Below wo.heap.size wo wr) (fun y _ => (64 - intOf y).toNat)
  case atStart => exact ⟨0, by omega, rfl, HA0.out, HB0.out⟩
  case round =>
    obtain ⟨wt, rfl⟩ : ∃ wt : World, wt = wr := ⟨_, rfl⟩
    obtain ⟨t, ht, rfl, hA, hB⟩ := hrel
    have HA := Lib.hid hA
    have HB := Lib.hid hB
    clear hA hB HA0 HB0
    by_cases h64 : t < 64
    · have b64 : decide ((t : Int) < 64) = true := decide_eq_true (by omega)
      have c64 : (t : Int) < 64 := by omega
      have hz := wArr_zero q t h64
      have g0 : wt.cell? ⟨wo.heap.size, t, none⟩ = some (v32 0) := by rw [HA.out.cell, hz]
      have hfr := HA.out.frozen t
      by_cases h16 : t < 16
      · skip
        have hpt : ∀ i, i < p.length → wt.cell? ⟨g, i, none⟩ = some (.int .u8 ((p.getD i 0).toNat : Int)) := fun i hi => (HB.out.cell (p := ⟨g, i, none⟩) hgo).trans (Hp.out i hi)
        have b16 : decide ((t : Int) < 16) = true := decide_eq_true (by omega)
        obtain ⟨i0, hi0⟩ : ∃ i : Nat, i = 64 * j + 4 * t := ⟨_, rfl⟩
        have hip : i0 + 3 < p.length := by omega
        have e0 : wt.cell? ⟨g, i0, none⟩ = some (.int .u8 ((q.getD (4 * t) 0).toNat : Int)) := by
          rw [hpt i0 (by omega), Hqget.out (4 * t) (by omega), hi0]
        have e1 : wt.cell? ⟨g, i0 + 1, none⟩ = some (.int .u8 ((q.getD (4 * t + 1) 0).toNat : Int)) := by
          rw [hpt (i0 + 1) (by omega), Hqget.out (4 * t + 1) (by omega), hi0]; rfl
        have e2 : wt.cell? ⟨g, i0 + 2, none⟩ = some (.int .u8 ((q.getD (4 * t + 2) 0).toNat : Int)) := by
          rw [hpt (i0 + 2) (by omega), Hqget.out (4 * t + 2) (by omega), hi0]; rfl
        have e3 : wt.cell? ⟨g, i0 + 3, none⟩ = some (.int .u8 ((q.getD (4 * t + 3) 0).toNat : Int)) := by
          rw [hpt (i0 + 3) (by omega), Hqget.out (4 * t + 3) (by omega), hi0]; rfl
        have hset := HA.out.set t (v32 (wnext q t (sch q t)))
        rw [wArr_succ q t h64, show wnext q t (sch q t) = pword q t 4 by simp [wnext, h16], pword4] at hset
        generalize (q.getD (4 * t) 0).toNat = c0 at *
        generalize (q.getD (4 * t + 1) 0).toNat = c1 at *
        generalize (q.getD (4 * t + 2) 0).toNat = c2 at *
        generalize (q.getD (4 * t + 3) 0).toNat = c3 at *
        have Hset := Lib.hid hset
        have hrw : z + 4 * (t : Int) = (i0 : Int) := by have := Hz.out; omega
        have q1 : IntKind.i64.wrap ((i0 : Int) + 1) = (i0 : Int) + 1 := IntWalk.i64_in _ (by omega)
        have q2 : IntKind.i64.wrap ((i0 : Int) + 2) = (i0 : Int) + 2 := IntWalk.i64_in _ (by omega)
        have q3 : IntKind.i64.wrap ((i0 : Int) + 3) = (i0 : Int) + 3 := IntWalk.i64_in _ (by omega)
        have n1 : ((i0 : Int) + 1).toNat = i0 + 1 := by omega
        have n2 : ((i0 : Int) + 2).toNat = i0 + 2 := by omega
        have n3 : ((i0 : Int) + 3).toNat = i0 + 3 := by omega
        have k0 : (i0 : Int) < (p.length : Int) := by omega
        have k1 : (i0 : Int) + 1 < (p.length : Int) := by omega
        have k2 : (i0 : Int) + 2 < (p.length : Int) := by omega
        have k3 : (i0 : Int) + 3 < (p.length : Int) := by omega
        have j1 : (0 : Int) ≤ (i0 : Int) + 1 := by omega
        have j2 : (0 : Int) ≤ (i0 : Int) + 2 := by omega
        have j3 : (0 : Int) ≤ (i0 : Int) + 3 := by omega
        have rc := w32_wrap
        have r8 := w32_shl8
        have r16 := w32_shl16
        have r24 := w32_shl24
        have ro := w32_or
        clear hpt hset hz hi0
        go_wp2_with fail
        refine wp_region_still_tail 32 Tryz.mixed (by kernel_rfl) ?_
        simp only [List.take_succ_cons, List.take_zero, List.drop_succ_cons, List.drop_zero]
        repeat still_step
        refine wpStill_nil ?_
        clear rc r8 r16 r24 ro q1 q2 q3 n1 n2 n3 e0 e1 e2 e3
        go_wp2_with fail
        go_roundw
        case rel => exact ⟨t + 1, by omega, by go_num, Hset.out, below_set_drew HB.out (Nat.le_refl _) _ _⟩
        case measure => simp [intOf]; omega
      · skip
        have b16 : decide ((t : Int) < 16) = false := decide_eq_false (by omega)
        have hg : ∀ i, i < t → wt.cell? ⟨wo.heap.size, i, none⟩ = some (v32 ((sch q t).getD i 0)) := fun i hi => by rw [HA.out.cell, wArr_get q t i hi]
        have g15 := hg (t - 15) (by omega)
        have g2 := hg (t - 2) (by omega)
        have g16 := hg (t - 16) (by omega)
        have g7 := hg (t - 7) (by omega)
        obtain ⟨x15, e15⟩ : ∃ x, x = (sch q t).getD (t - 15) 0 := ⟨_, rfl⟩
        obtain ⟨x2, e2⟩ : ∃ x, x = (sch q t).getD (t - 2) 0 := ⟨_, rfl⟩
        obtain ⟨x16, e16⟩ : ∃ x, x = (sch q t).getD (t - 16) 0 := ⟨_, rfl⟩
        obtain ⟨x7, e7⟩ : ∃ x, x = (sch q t).getD (t - 7) 0 := ⟨_, rfl⟩
        have hval : wnext q t (sch q t) = x16 + (x15.rotateRight 7 ^^^ x15.rotateRight 18 ^^^ x15 >>> 3) + x7 + (x2.rotateRight 17 ^^^ x2.rotateRight 19 ^^^ x2 >>> 10) := by
          rw [e15, e2, e16, e7]; simp [wnext, h16, sg0, sg1]
        rw [← e15] at g15
        rw [← e2] at g2
        rw [← e16] at g16
        rw [← e7] at g7
        have Hval := Lib.hid hval
        have u15 : ((t : Int) - 15).toNat = t - 15 := by omega
        have u2 : ((t : Int) - 2).toNat = t - 2 := by omega
        have u16 : ((t : Int) - 16).toNat = t - 16 := by omega
        have u7 : ((t : Int) - 7).toNat = t - 7 := by omega
        have q16 : IntKind.i64.wrap ((t : Int) - 16) = (t : Int) - 16 := IntWalk.i64_in _ (by omega)
        have q7 : IntKind.i64.wrap ((t : Int) - 7) = (t : Int) - 7 := IntWalk.i64_in _ (by omega)
        have d16 : (16 : Int) ≤ (t : Int) := by omega
        have d7 : (7 : Int) ≤ (t : Int) := by omega
        have k16 : (t : Int) - 16 < 64 := by omega
        have k7 : (t : Int) - 7 < 64 := by omega
        have j16 : 0 ≤ (t : Int) - 16 := by omega
        have j7 : 0 ≤ (t : Int) - 7 := by omega
        have rx := w32_xor
        have ra := w32_add
        have r3 := w32_shr3
        have r10 := w32_shr10
        clear hg hval e15 e2 e16 e7 hz
        go_wp2_with fail
        refine region_quiet_tail (fun w' => ∃ n, w' = wt.drewN n) 32 Tryz.mixed (by kernel_rfl) ⟨1, rfl⟩ ?_
        simp only [List.take_succ_cons, List.take_zero, List.drop_succ_cons, List.drop_zero]
        repeat (quiet_step (fail))
        quiet_step ((exact Calls.quiet_of (rturn_any 7 _ _ rfl _ (by omega) (by omega))))
        repeat (quiet_step (fail))
        quiet_step ((exact Calls.quiet_of (rturn_any 18 _ _ rfl _ (by omega) (by omega))))
        repeat (quiet_step (fail))
        quiet_step ((exact Calls.quiet_of (rturn_any 17 _ _ rfl _ (by omega) (by omega))))
        repeat (quiet_step (fail))
        quiet_step ((exact Calls.quiet_of (rturn_any 19 _ _ rfl _ (by omega) (by omega))))
        repeat (quiet_step (fail))
        refine wpQuiet_nil ?_
        rintro w' ⟨nq, rfl⟩
        have hset' := ((HA.out.drewN nq).set t (v32 (wnext q t (sch q t))))
        rw [wArr_succ q t h64, Hval.out] at hset'
        have hb' : Below wo.heap.size wo (wt.drewN nq) := below_drewN HB.out nq
        have g0' : (wt.drewN nq).cell? ⟨wo.heap.size, t, none⟩ = some (v32 0) := g0
        have hfr' : (wt.drewN nq).frozen? ⟨wo.heap.size, t, none⟩ = false := hfr
        have Hset' := Lib.hid hset'
        have Hb' := Lib.hid hb'
        clear g16 g7 g0 hfr HA HB g15 g2 hset' hb' rx ra r3 r10 q16 q7
        generalize wt.drewN nq = wq at *
        go_wp2_with fail
        go_roundw
        case rel => exact ⟨t + 1, by omega, by go_num, Hset'.out, below_set Hb'.out (Nat.le_refl _) _ _⟩
        case measure => simp [intOf]; omega
    · have b64 : decide ((t : Int) < 64) = false := decide_eq_false (by omega)
      have hA : Blk wt wo.heap.size 223 (wArr q 64) := by rw [← show t = 64 from by omega]; exact HA.out
      go_wp2_with fail
      exact Hexit.out _ _ _ _ _ _ _ _ _ _ _ _ _ _ _ _ _ _ _ _ _ _ _ _ _ _ _ _ _ _ _ _ _ _ _ _ _ _ _ _ _ _ _ _ _ _ _ _ _ _ _ _ _ _ _ _ _ _ _ _ _ _ _ _ _ _ _ _ _ _ _ _ _ _ _ _ _ _ _ _ _ _ _ _ _ _ _ _ _ hA HB.out

end Go.Proofs.YtbpenkaficiodaaGreat

namespace Go.Proofs.YtbpenkaficiodaaGreat
open Go.RowKit
set_option maxRecDepth 1000000 in
set_option maxHeartbeats 4000000 in
theorem rounds_loop (V W kb : Nat) (wb w0 : World) (R : St) (q : List UInt8) (Q : Exit → Act → World → Prop) (hWV : W ≠ V) (hkV : kb ≠ V) (h0 : Rf w0 V W kb wb R q) (x0 x1 x2 x3 x5 x6 x8 x9 x10 x11 x14 x15 x16 x17 x18 x19 x20 x21 x22 x23 x24 x25 x26 x27 x28 x29 x30 x31 x32 x33 x34 x35 x36 x37 x38 x39 x40 x41 x42 x43 x44 x45 x46 x47 x48 x49 x50 x51 x52 x53 x54 x55 x56 x57 x58 x59 x60 x61 x62 x63 x64 x65 x66 x67 x68 x69 x70 x71 x72 x73 x74 x75 x76 x77 x78 x79 x80 x81 x82 x83 x84 x85 x86 x87 x88 x89 x90 x91 x92 x93 x94 x95 x96 x97 x98 x99 x100 x101 x102 x103 x104 x105 x106 x107 x108 x109 x110 x111 x112 x113 x114 x115 x116 x117 x118 x119 x120 x121 x122 x123 x124 x125 x126 x127 x128 x129 x130 x131 x132 x133 x134 x135 x136 x137 x138 x139 x140 x141 x142 x143 x144 x145 x146 x147 x148 x149 x150 x151 x152 x153 x154 x155 x156 x157 x158 x159 x160 x161 x162 x163 x164 x165 x166 x167 x168 x169 x170 x171 x172 x173 x174 x175 x176 x177 x178 x179 x180 x181 x182 x183 x184 x185 x186 x187 x188 x189 x190 x191 x192 x193 x194 x195 x196 x197 x198 x199 x200 x201 x202 x203 x204 x205 x206 x207 x208 x209 x210 x211 x212 x213 x214 x215 x216 x217 x218 x219 x220 x221 x222 x223 x224 x225 x226 x227 x228 x229 x230 x231 x232 x233 x234 x235 x236 x237 x238 x239 x240 x241 x242 x243 x244 x245 x246 x247 x248 x249 x250 x251 x252 x253 x254 x255 x256 x257 x258 x259 x260 x261 x262 x263 x264 x265 x266 x267 : Value)
    (hexit : ∀ (u13 u14 u15 u16 u17 u156 u157 u158 u159 u160 u161 u162 u163 u164 u165 u166 u167 u168 u169 u170 u171 u172 u173 u174 u175 u176 u177 u178 u179 u180 u181 u182 u183 u184 u185 u186 u187 u188 u189 u190 u191 u192 u193 u194 u195 u196 u197 u198 u199 u200 u201 u202 u203 u204 u205 u206 u207 u208 u209 u210 u211 u212 u213 u214 u215 u216 u217 u218 u219 u220 u221 u222 u223 u224 u225 u226 u227 u228 u229 u230 u231 u232 u233 u234 u235 u236 u237 u238 u239 : Value) (w' : World), Rf w' V W kb wb (rnds (sch q 64) R 64) q → Q (.exit 6) ⟨List.toArray (x0 :: x1 :: x2 :: x3 :: .slice (some ⟨kb, 0, none⟩) 64 64 :: x5 :: x6 :: .slice (some ⟨W, 0, none⟩) 64 64 :: x8 :: x9 :: x10 :: x11 :: .pointer (some ⟨V, 0, none⟩) :: u13 :: u14 :: u15 :: u16 :: u17 :: x18 :: x19 :: x20 :: x21 :: x22 :: x23 :: x24 :: x25 :: x26 :: x27 :: x28 :: x29 :: x30 :: x31 :: x32 :: x33 :: x34 :: x35 :: x36 :: x37 :: x38 :: x39 :: x40 :: x41 :: x42 :: x43 :: x44 :: x45 :: x46 :: x47 :: x48 :: x49 :: x50 :: x51 :: x52 :: x53 :: x54 :: x55 :: x56 :: x57 :: x58 :: x59 :: x60 :: x61 :: x62 :: x63 :: x64 :: x65 :: x66 :: x67 :: x68 :: x69 :: x70 :: x71 :: x72 :: x73 :: x74 :: x75 :: x76 :: x77 :: x78 :: x79 :: x80 :: x81 :: x82 :: x83 :: x84 :: x85 :: x86 :: x87 :: x88 :: x89 :: x90 :: x91 :: x92 :: x93 :: x94 :: x95 :: x96 :: x97 :: x98 :: x99 :: x100 :: x101 :: x102 :: x103 :: x104 :: x105 :: x106 :: x107 :: x108 :: x109 :: x110 :: x111 :: x112 :: x113 :: x114 :: x115 :: x116 :: x117 :: x118 :: x119 :: x120 :: x121 :: x122 :: x123 :: x124 :: x125 :: x126 :: x127 :: x128 :: x129 :: x130 :: x131 :: x132 :: x133 :: x134 :: x135 :: x136 :: x137 :: x138 :: x139 :: x140 :: x141 :: x142 :: x143 :: x144 :: x145 :: x146 :: x147 :: x148 :: x149 :: x150 :: x151 :: x152 :: x153 :: x154 :: x155 :: u156 :: u157 :: u158 :: u159 :: u160 :: u161 :: u162 :: u163 :: u164 :: u165 :: u166 :: u167 :: u168 :: u169 :: u170 :: u171 :: u172 :: u173 :: u174 :: u175 :: u176 :: u177 :: u178 :: u179 :: u180 :: u181 :: u182 :: u183 :: u184 :: u185 :: u186 :: u187 :: u188 :: u189 :: u190 :: u191 :: u192 :: u193 :: u194 :: u195 :: u196 :: u197 :: u198 :: u199 :: u200 :: u201 :: u202 :: u203 :: u204 :: u205 :: u206 :: u207 :: u208 :: u209 :: u210 :: u211 :: u212 :: u213 :: u214 :: u215 :: u216 :: u217 :: u218 :: u219 :: u220 :: u221 :: u222 :: u223 :: u224 :: u225 :: u226 :: u227 :: u228 :: u229 :: u230 :: u231 :: u232 :: u233 :: u234 :: u235 :: u236 :: u237 :: u238 :: u239 :: x240 :: x241 :: x242 :: x243 :: x244 :: x245 :: x246 :: x247 :: x248 :: x249 :: x250 :: x251 :: x252 :: x253 :: x254 :: x255 :: x256 :: x257 :: x258 :: x259 :: x260 :: x261 :: x262 :: x263 :: x264 :: x265 :: x266 :: x267 :: []), []⟩ w') :
    (Code.loop refRounds).wp Tryz.prog Q ⟨List.toArray (x0 :: x1 :: x2 :: x3 :: .slice (some ⟨kb, 0, none⟩) 64 64 :: x5 :: x6 :: .slice (some ⟨W, 0, none⟩) 64 64 :: x8 :: x9 :: x10 :: x11 :: .pointer (some ⟨V, 0, none⟩) :: .int .i64 0 :: x14 :: x15 :: x16 :: x17 :: x18 :: x19 :: x20 :: x21 :: x22 :: x23 :: x24 :: x25 :: x26 :: x27 :: x28 :: x29 :: x30 :: x31 :: x32 :: x33 :: x34 :: x35 :: x36 :: x37 :: x38 :: x39 :: x40 :: x41 :: x42 :: x43 :: x44 :: x45 :: x46 :: x47 :: x48 :: x49 :: x50 :: x51 :: x52 :: x53 :: x54 :: x55 :: x56 :: x57 :: x58 :: x59 :: x60 :: x61 :: x62 :: x63 :: x64 :: x65 :: x66 :: x67 :: x68 :: x69 :: x70 :: x71 :: x72 :: x73 :: x74 :: x75 :: x76 :: x77 :: x78 :: x79 :: x80 :: x81 :: x82 :: x83 :: x84 :: x85 :: x86 :: x87 :: x88 :: x89 :: x90 :: x91 :: x92 :: x93 :: x94 :: x95 :: x96 :: x97 :: x98 :: x99 :: x100 :: x101 :: x102 :: x103 :: x104 :: x105 :: x106 :: x107 :: x108 :: x109 :: x110 :: x111 :: x112 :: x113 :: x114 :: x115 :: x116 :: x117 :: x118 :: x119 :: x120 :: x121 :: x122 :: x123 :: x124 :: x125 :: x126 :: x127 :: x128 :: x129 :: x130 :: x131 :: x132 :: x133 :: x134 :: x135 :: x136 :: x137 :: x138 :: x139 :: x140 :: x141 :: x142 :: x143 :: x144 :: x145 :: x146 :: x147 :: x148 :: x149 :: x150 :: x151 :: x152 :: x153 :: x154 :: x155 :: x156 :: x157 :: x158 :: x159 :: x160 :: x161 :: x162 :: x163 :: x164 :: x165 :: x166 :: x167 :: x168 :: x169 :: x170 :: x171 :: x172 :: x173 :: x174 :: x175 :: x176 :: x177 :: x178 :: x179 :: x180 :: x181 :: x182 :: x183 :: x184 :: x185 :: x186 :: x187 :: x188 :: x189 :: x190 :: x191 :: x192 :: x193 :: x194 :: x195 :: x196 :: x197 :: x198 :: x199 :: x200 :: x201 :: x202 :: x203 :: x204 :: x205 :: x206 :: x207 :: x208 :: x209 :: x210 :: x211 :: x212 :: x213 :: x214 :: x215 :: x216 :: x217 :: x218 :: x219 :: x220 :: x221 :: x222 :: x223 :: x224 :: x225 :: x226 :: x227 :: x228 :: x229 :: x230 :: x231 :: x232 :: x233 :: x234 :: x235 :: x236 :: x237 :: x238 :: x239 :: x240 :: x241 :: x242 :: x243 :: x244 :: x245 :: x246 :: x247 :: x248 :: x249 :: x250 :: x251 :: x252 :: x253 :: x254 :: x255 :: x256 :: x257 :: x258 :: x259 :: x260 :: x261 :: x262 :: x263 :: x264 :: x265 :: x266 :: x267 :: []), []⟩ w0 := by
  have Hexit := Lib.hid hexit
  have H0 := Lib.hid h0
  clear hexit h0
  conv => arg 2; arg 1; whnf
  go_loopw [13] (fun y x => ∃ r : Nat, r ≤ 64 ∧ y = .int .i64 (r : Int) ∧ Rf x V W kb wb (rnds (sch q 64) R r) q) (fun y _ => (64 - intOf y).toNat)
  case atStart => exact ⟨0, by omega, rfl, H0.out⟩
  case round =>
    obtain ⟨x, rfl⟩ : ∃ x : World, x = wr := ⟨_, rfl⟩
    obtain ⟨r, hr, rfl, hRr⟩ := hrel
    clear H0
    by_cases r64 : r < 64
    · skip
      have b64' : decide ((r : Int) < 64) = true := decide_eq_true (by omega)
      have c64' : (r : Int) < 64 := by omega
      obtain ⟨v, hv⟩ : ∃ v, v = rnds (sch q 64) R r := ⟨_, rfl⟩
      rw [← hv] at hRr
      have hnext : rnds (sch q 64) R (r + 1) = rnd v (kList.getD r 0) ((sch q 64).getD r 0) := by rw [hv]; rfl
      have Hnext := Lib.hid hnext
      have HRr := Lib.hid hRr
      clear hv hnext hRr
      obtain ⟨kr, hkr⟩ : ∃ k, k = kList.getD r 0 := ⟨_, rfl⟩
      obtain ⟨wd, hwd⟩ : ∃ k, k = (sch q 64).getD r 0 := ⟨_, rfl⟩
      have Hkr := Lib.hid hkr
      have Hwd := Lib.hid hwd
      clear hkr hwd
      obtain ⟨f0, f1, f2, f3, f4, f5, f6, f7⟩ := HRr.out.cells
      have fw := HRr.out.word r r64
      have fk := HRr.out.k r r64
      rw [← Hkr.out] at fk
      rw [← Hwd.out] at fw
      have rx := w32_xor
      have rn := w32_and
      have rr := w32_or
      have ra := w32_add
      have ro := w32_not
      go_wp2_with fail
      refine wp_region_quiet_lit (by kernel_rfl) (by kernel_rfl) ?_
      repeat (quiet_step (fail))
      quiet_step ((exact Calls.quiet_of (rturn_any 6 _ _ rfl _ (by omega) (by omega))))
      repeat (quiet_step (fail))
      quiet_step ((exact Calls.quiet_of (rturn_any 11 _ _ rfl _ (by omega) (by omega))))
      repeat (quiet_step (fail))
      quiet_step ((exact Calls.quiet_of (rturn_any 25 _ _ rfl _ (by omega) (by omega))))
      repeat (quiet_step (fail))
      refine wpQuiet_nil ?_
      intro _ hw'
      obtain ⟨nq2, hw''⟩ := hw'
      subst hw''
      have HR3 := Lib.hid (HRr.out.drewN nq2)
      clear HRr f0 f1 f2 f3 f4 f5 f6 f7 fk fw
      generalize x.drewN nq2 = x3 at *
      obtain ⟨f0, f1, f2, f3, f4, f5, f6, f7⟩ := HR3.out.cells
      have hone : v.h + (v.e.rotateRight 6 ^^^ v.e.rotateRight 11 ^^^ v.e.rotateRight 25) + (v.e &&& v.f ||| ~~~v.e &&& v.g) + kr + wd = one v kr wd := by rw [ch_or]; rfl
      rw [hone]
      generalize ho1 : one v kr wd = o1 at *
      have Ho1 := Lib.hid ho1
      clear ho1
      go_wp2_with fail
      refine wp_region_quiet_lit (by kernel_rfl) (by kernel_rfl) ?_
      repeat (quiet_step (fail))
      quiet_step ((exact Calls.quiet_of (rturn_any 2 _ _ rfl _ (by omega) (by omega))))
      repeat (quiet_step (fail))
      quiet_step ((exact Calls.quiet_of (rturn_any 13 _ _ rfl _ (by omega) (by omega))))
      repeat (quiet_step (fail))
      quiet_step ((exact Calls.quiet_of (rturn_any 22 _ _ rfl _ (by omega) (by omega))))
      repeat (quiet_step (fail))
      refine wpQuiet_nil ?_
      intro _ hw'
      obtain ⟨nq3, hw''⟩ := hw'
      subst hw''
      have HR4 := Lib.hid (HR3.out.drewN nq3)
      clear HR3 f0 f1 f2 f3 f4 f5 f6 f7
      generalize x3.drewN nq3 = x4 at *
      obtain ⟨f0, f1, f2, f3, f4, f5, f6, f7⟩ := HR4.out.cells
      have z0 := HR4.out.st.frozen
      have htwo : (v.a.rotateRight 2 ^^^ v.a.rotateRight 13 ^^^ v.a.rotateRight 22) + (v.a &&& v.b ||| v.a &&& v.c ||| v.b &&& v.c) = two v := by rw [maj_or]; rfl
      rw [htwo]
      generalize ho2 : two v = o2 at *
      have Ho2 := Lib.hid ho2
      clear ho2
      have hrn : rnds (sch q 64) R (r + 1) = ⟨o1 + o2, v.a, v.b, v.c, v.d + o1, v.e, v.f, v.g⟩ := by
        rw [Hnext.out, ← Hkr.out, ← Hwd.out, rnd, Ho1.out, Ho2.out]
      have Hrn := Lib.hid hrn
      clear hrn
      have hput := HR4.out.put hWV hkV ⟨o1 + o2, v.a, v.b, v.c, v.d + o1, v.e, v.f, v.g⟩
      have Hput := Lib.hid hput
      clear hput
      go_wp2_with fail
      go_roundw
      case rel => exact ⟨r + 1, by omega, by go_num, by rw [Hrn.out]; exact Hput.out⟩
      case measure => simp [intOf]; omega
    · skip
      have hr64 : r = 64 := by omega
      rw [hr64] at hRr
      have HRr := Lib.hid hRr
      have b64' : decide ((r : Int) < 64) = false := decide_eq_false (by omega)
      clear hr64 hRr
      go_wp2_with fail
      exact Hexit.out _ _ _ _ _ _ _ _ _ _ _ _ _ _ _ _ _ _ _ _ _ _ _ _ _ _ _ _ _ _ _ _ _ _ _ _ _ _ _ _ _ _ _ _ _ _ _ _ _ _ _ _ _ _ _ _ _ _ _ _ _ _ _ _ _ _ _ _ _ _ _ _ _ _ _ _ _ _ _ _ _ _ _ _ _ _ _ _ _ _ HRr.out

end Go.Proofs.YtbpenkaficiodaaGreat
