/- Joined texts, part 6: contracts of the functions that the laws reach, and what is needed for them. -/
import Derived.Test.YtinlciofhegciaaGreatM5
/- Certificates: rows that are only read; which numbers stand in them. -/
namespace Go.Proofs.YtinlciofhegciaaGreat
open Go.RowKit

/-- A row of a certificate. -/
structure RowV where
  N : Nat
  A : Nat
  F : NumV
/-- The slice of rows at B: read only. -/
structure Rows3 (w : World) (B : Option Addr) (cap : Nat) (rs : List RowV) : Prop where
  len : rs.length ≤ cap
  cells : ∀ (i : Nat) (r : RowV), rs[i]? = some r → ∃ b, B = some b ∧ w.cell? (b.add (i * 3)) = some (.int .u64 (r.N : Int)) ∧ w.cell? ⟨(b.add (i * 3)).block, (b.add (i * 3)).off + 1, none⟩ = some (.int .u64 (r.A : Int)) ∧ w.cell? ⟨(b.add (i * 3)).block, (b.add (i * 3)).off + 2, none⟩ = some r.F.val
  nums : ∀ r ∈ rs, Nums w r.F.A r.F.cap r.F.l ∧ r.N < 18446744073709551616 ∧ r.A < 18446744073709551616
theorem Rows3.below {w w1 : World} {B : Option Addr} {cap : Nat} {rs : List RowV} (h : Rows3 w B cap rs) (hb : Below w.heap.size w w1) : Rows3 w1 B cap rs :=
  ⟨h.len, fun i x hx => let ⟨a, ha, h0, h1, h2⟩ := h.cells i x hx; ⟨a, ha, below_cell hb h0, below_cell hb h1, below_cell hb h2⟩, fun r hr => ⟨((h.nums r hr).1).below hb, (h.nums r hr).2⟩⟩

def aheadB (rs : List RowV) (n f : Nat) : Bool := (rs.take n).any fun r => decide (r.N = f)

set_option maxRecDepth 100000 in
set_option maxHeartbeats 1000000 in
theorem ahead_any (B : Option Addr) (cap : Nat) (rs : List RowV) (n f : Nat) (w : World) (hR : Rows3 w B cap rs) (hl : rs.length < 1000000) (hn : n ≤ rs.length) (hf : f < 18446744073709551616) :
    Calls Tryz.prog 68 #[.slice B rs.length cap, .int .i64 (n : Int), .int .u64 (f : Int)] w fun e w' => e = .returned (.bool (aheadB rs n f)) ∧ w = w' := by
  obtain ⟨nB, hnB⟩ : ∃ n, n = rs.length := ⟨_, rfl⟩
  obtain ⟨out, hout⟩ : ∃ s, s = aheadB rs n f := ⟨_, rfl⟩
  rw [← hout, ← hnB]
  have HR := Lib.hid hR
  have HnB := Lib.hid hnB
  have Hout := Lib.hid hout
  have hl' : nB < 1000000 := by omega
  have hn' : n ≤ nB := by omega
  clear hR hl hn hnB hout
  go_enter Tryz.func68, Tryz.ntmps68
  go_wp2_with fail
  go_loop [7] (fun iv => ∃ k : Nat, iv = .int .i64 (k : Int) ∧ k ≤ n ∧ aheadB rs k f = false) (fun iv => n - (intOf iv).toNat)
  case atStart => exact ⟨0, rfl, by omega, by simp [aheadB]⟩
  case round =>
    obtain ⟨k, rfl, hk, hno⟩ := hrel
    have Hno := Lib.hid hno
    clear hno
    by_cases hkl : k < n
    · have d1 : decide ((k : Int) < (n : Int)) = true := decide_eq_true (by omega)
      have hki : (k : Int) < (nB : Int) := by omega
      obtain ⟨r, hr⟩ : ∃ r, rs[k]? = some r := ⟨_, List.getElem?_eq_getElem (by rw [← HnB.out]; omega)⟩
      obtain ⟨b, hb, h0, h1, h2⟩ := HR.out.cells k r hr
      subst hb
      have hnx : aheadB rs (k + 1) f = decide (r.N = f) := by
        have := Hno.out
        unfold aheadB at *
        rw [List.take_add_one, hr, List.any_append, this]; simp
      by_cases hrf : r.N = f
      · have d2 : ((r.N : Int) == (f : Int)) = true := by rw [beq_iff_eq]; omega
        have ho : out = true := by
          rw [Hout.out]
          unfold aheadB
          rw [List.any_eq_true]
          exact ⟨r, List.mem_of_getElem? (by rw [List.getElem?_take, if_pos hkl]; exact hr), decide_eq_true hrf⟩
        subst ho
        clear hnx hr
        go_wp2_with fail
        go_ret
        exact ⟨rfl, rfl⟩
      · have d2 : ((r.N : Int) == (f : Int)) = false := by rw [beq_eq_false_iff_ne]; omega
        rw [decide_eq_false hrf] at hnx
        have Hnx := Lib.hid hnx
        clear hnx hr
        go_wp2_with fail
        go_round
        case rel => exact ⟨k + 1, by go_num, by omega, Hnx.out⟩
        case measure => simp [intOf]; omega
    · have d1 : decide ((k : Int) < (n : Int)) = false := decide_eq_false (by omega)
      have ho : out = false := by rw [Hout.out, show n = k by omega, Hno.out]
      subst ho
      go_wp2_with fail
      go_ret
      exact ⟨rfl, rfl⟩
end Go.Proofs.YtinlciofhegciaaGreat

/- A row of a certificate holds: plain. -/
namespace Go.Proofs.YtinlciofhegciaaGreat
open Go.RowKit

/-- As often as f is in x it is taken out. -/
def stripF (f : Nat) : Nat → Nat → Nat
  | 0, x => x
  | k + 1, x => if x % f = 0 then stripF f k (x / f) else x
def prevOk (f : Nat) : Option Nat → Bool
  | none => true
  | some p => decide (p < f)
def okF (ah : Nat → Bool) (prev : Option Nat) (left f : Nat) : Bool :=
  !decide (f < 2) && prevOk f prev && (decide (f = 2) || ah f) && decide (left % f = 0)
def facRest (N A : Nat) (ah : Nat → Bool) : Option Nat → Nat → List Nat → Bool
  | _, left, [] => decide (left = 1) && decide (powM A (N - 1) N = 1)
  | prev, left, f :: fs => if okF ah prev left f = false then false else if powM A ((N - 1) / f) N = 1 then false else facRest N A ah (some f) (stripF f 64 left) fs
def holdsRow (rs : List RowV) (k : Nat) (r : RowV) : Bool :=
  decide (3 ≤ r.N) && decide (r.N ≤ 4611686018427387904) && decide (1 ≤ r.F.l.length) && decide (r.F.l.length ≤ 16) && facRest r.N r.A (aheadB rs k) none (r.N - 1) r.F.l
def prevO (F : List Nat) (i : Nat) : Option Nat := if i = 0 then none else F[i - 1]?
theorem prevO_zero (F : List Nat) : prevO F 0 = none := rfl
theorem prevO_succ (F : List Nat) (i : Nat) : prevO F (i + 1) = F[i]? := rfl
theorem fac_no {N A : Nat} {ah : Nat → Bool} {prev : Option Nat} {left f : Nat} {fs : List Nat} (h : okF ah prev left f = false) : facRest N A ah prev left (f :: fs) = false := by
  rw [facRest, if_pos h]
theorem fac_pow {N A : Nat} {ah : Nat → Bool} {prev : Option Nat} {left f : Nat} {fs : List Nat} (h2 : powM A ((N - 1) / f) N = 1) : facRest N A ah prev left (f :: fs) = false := by
  rw [facRest, if_pos h2]; split <;> rfl
theorem fac_yes {N A : Nat} {ah : Nat → Bool} {prev : Option Nat} {left f : Nat} {fs : List Nat} (h : okF ah prev left f = true) (h2 : powM A ((N - 1) / f) N ≠ 1) : facRest N A ah prev left (f :: fs) = facRest N A ah (some f) (stripF f 64 left) fs := by
  rw [facRest, if_neg (by rw [h]; simp), if_neg h2]
theorem strip_step {f m y : Nat} (hf : 2 ≤ f) (hy : 0 < y) (hm : y < 2 ^ m) (h : y % f = 0) : ∃ m', m = m' + 1 ∧ stripF f m y = stripF f m' (y / f) ∧ y / f < 2 ^ m' ∧ 0 < y / f := by
  cases m with
  | zero => simp at hm; omega
  | succ m =>
    refine ⟨m, rfl, by rw [stripF, if_pos h], ?_, ?_⟩
    · rw [Nat.div_lt_iff_lt_mul (by omega)]
      have : 2 ^ m * 2 ≤ 2 ^ m * f := Nat.mul_le_mul_left _ hf
      rw [Nat.pow_succ] at hm
      omega
    · exact Nat.div_pos (Nat.le_of_dvd hy (Nat.dvd_of_mod_eq_zero h)) (by omega)
theorem strip_end {f m y : Nat} (hy : 0 < y) (hm : y < 2 ^ m) (h : y % f ≠ 0) : stripF f m y = y := by
  cases m with
  | zero => rfl
  | succ m => rw [stripF, if_neg h]
theorem strip_le {f : Nat} (k x : Nat) : stripF f k x ≤ x := by
  induction k generalizing x with
  | zero => exact Nat.le_refl _
  | succ k ih =>
    unfold stripF
    split
    · exact Nat.le_trans (ih _) (Nat.div_le_self _ _)
    · exact Nat.le_refl _
end Go.Proofs.YtinlciofhegciaaGreat

/- A row of a certificate holds: the reference's walk. -/
namespace Go.Proofs.YtinlciofhegciaaGreat
open Go.RowKit

set_option maxRecDepth 100000 in
set_option maxHeartbeats 4000000 in
theorem holds_any (B : Option Addr) (cap : Nat) (rs : List RowV) (k : Nat) (r : RowV) (w : World) (hR : Rows3 w B cap rs) (hl : rs.length < 1000000) (hr : rs[k]? = some r) (hFl : r.F.l.length < 1000000) :
    Calls Tryz.prog 83 #[.slice B rs.length cap, .int .i64 (k : Int)] w fun e w' => e = .returned (.bool (holdsRow rs k r)) ∧ Below w.heap.size w w' := by
  have hkl : k < rs.length := (List.getElem?_eq_some_iff.1 hr).1
  obtain ⟨b, hb, h0, h1, h2⟩ := hR.cells k r hr
  obtain ⟨hF, hN, hA⟩ := hR.nums r (List.mem_of_getElem? hr)
  subst hb
  obtain ⟨⟨N, A, ⟨FA, Fc, F⟩⟩, rfl⟩ : ∃ x, r = x := ⟨_, rfl⟩
  dsimp only [NumV.val] at h0 h1 h2 hF hN hA hFl
  obtain ⟨nB, hnB⟩ : ∃ n, n = rs.length := ⟨_, rfl⟩
  obtain ⟨nF, hnF⟩ : ∃ n, n = F.length := ⟨_, rfl⟩
  obtain ⟨out, hout⟩ : ∃ s, s = holdsRow rs k ⟨N, A, ⟨FA, Fc, F⟩⟩ := ⟨_, rfl⟩
  have hki : (k : Int) < (nB : Int) := by omega
  rw [← hout, ← hnB]
  rw [← hnF] at h2
  have HnB := Lib.hid hnB
  have HnF := Lib.hid hnF
  have Hout := Lib.hid hout
  have HR := Lib.hid hR
  have HF := Lib.hid hF
  have hl' : nB < 1000000 := by omega
  have hFl' : nF < 1000000 := by omega
  clear hR hr hl hkl hnB hnF hout hF hFl
  have hb0 : Below w.heap.size w (w.alloc (.cells #[.int .u64 (N : Int), .int .u64 (A : Int), .slice FA nF Fc] 70)) := (Below.refl _ _).alloc (Nat.le_refl _) _
  have hg0 : Blk (w.alloc (.cells #[.int .u64 (N : Int), .int .u64 (A : Int), .slice FA nF Fc] 70)) w.heap.size 70 [.int .u64 (N : Int), .int .u64 (A : Int), .slice FA nF Fc] := Blk.of w _ _ _ rfl
  have Hb0 := Lib.hid hb0
  have Hg0 := Lib.hid hg0
  clear hb0 hg0
  by_cases c1 : N < 3
  · have e1 : decide ((N : Int) < 3) = true := decide_eq_true (by omega)
    have ho : out = false := by rw [Hout.out]; unfold holdsRow; dsimp only; rw [decide_eq_false (show ¬ 3 ≤ N by omega)]; simp
    subst ho
    go_enter Tryz.func83, Tryz.ntmps83
    go_wp2_with fail
    go_ret
    exact ⟨rfl, Hb0.out⟩
  have e1 : decide ((N : Int) < 3) = false := decide_eq_false (by omega)
  by_cases c2 : 4611686018427387904 < N
  · have e2 : decide ((4611686018427387904 : Int) < (N : Int)) = true := decide_eq_true (by omega)
    have ho : out = false := by rw [Hout.out]; unfold holdsRow; dsimp only; rw [decide_eq_false (show ¬ N ≤ 4611686018427387904 by omega)]; simp
    subst ho
    go_enter Tryz.func83, Tryz.ntmps83
    go_wp2_with fail
    go_ret
    exact ⟨rfl, Hb0.out⟩
  have e2 : decide ((4611686018427387904 : Int) < (N : Int)) = false := decide_eq_false (by omega)
  by_cases c3 : nF < 1
  · have e3 : decide ((nF : Int) < 1) = true := decide_eq_true (by omega)
    have ho : out = false := by rw [Hout.out]; unfold holdsRow; dsimp only; rw [decide_eq_false (show ¬ 1 ≤ F.length by rw [← HnF.out]; omega)]; simp
    subst ho
    go_enter Tryz.func83, Tryz.ntmps83
    go_wp2_with fail
    go_ret
    exact ⟨rfl, Hb0.out⟩
  have e3 : decide ((nF : Int) < 1) = false := decide_eq_false (by omega)
  by_cases c4 : 16 < nF
  · have e4 : decide ((16 : Int) < (nF : Int)) = true := decide_eq_true (by omega)
    have ho : out = false := by rw [Hout.out]; unfold holdsRow; dsimp only; rw [decide_eq_false (show ¬ F.length ≤ 16 by rw [← HnF.out]; omega)]; simp
    subst ho
    go_enter Tryz.func83, Tryz.ntmps83
    go_wp2_with fail
    go_ret
    exact ⟨rfl, Hb0.out⟩
  have e4 : decide ((16 : Int) < (nF : Int)) = false := decide_eq_false (by omega)
  have hout2 : out = facRest N A (aheadB rs k) none (N - 1) F := by
    rw [Hout.out]; unfold holdsRow; dsimp only
    rw [decide_eq_true (show 3 ≤ N by omega), decide_eq_true (show N ≤ 4611686018427387904 by omega), decide_eq_true (show 1 ≤ F.length by rw [← HnF.out]; omega), decide_eq_true (show F.length ≤ 16 by rw [← HnF.out]; omega)]
    simp
  have Hout2 := Lib.hid hout2
  have hsub : ((N : Int) - 1) = ((N - 1 : Nat) : Int) := by omega
  have Hsub := Lib.hid hsub
  have hN3 : 3 ≤ N := by omega
  have hN62 : N ≤ 4611686018427387904 := by omega
  clear hout2 hsub Hout c1 c2
  go_enter Tryz.func83, Tryz.ntmps83
  go_wp2_with fail
  obtain ⟨w0, hw0⟩ : ∃ w0, w0 = (w.alloc (.cells #[.int .u64 (N : Int), .int .u64 (A : Int), .slice FA nF Fc] 70)) := ⟨_, rfl⟩
  rw [← hw0] at Hb0 Hg0 ⊢
  have hgl := Hg0.out.lt
  clear hw0 h0 h1 h2
  go_loopw [6, 7] (fun lv iv wr => ∃ left i : Nat, lv = .int .u64 (left : Int) ∧ iv = .int .i64 (i : Int) ∧ i ≤ nF ∧ 0 < left ∧ left < 4611686018427387904 ∧ out = facRest N A (aheadB rs k) (prevO F i) left (F.drop i) ∧ Below w0.heap.size w0 wr) (fun _ iv _ => nF - (intOf iv).toNat)
  case atStart => exact ⟨N - 1, 0, by rw [Hsub.out], rfl, by omega, by omega, by omega, Hout2.out, Below.refl _ _⟩
  case round =>
    obtain ⟨left, i, rfl, rfl, hi, hl0, hl1, hfac, hbr⟩ := hrel
    have Hbr := Lib.hid (below_trans Hb0.out hbr)
    have Hbr0 := Lib.hid hbr
    have Hfac := Lib.hid hfac
    clear hfac
    have hg : Blk wr w.heap.size 70 [.int .u64 (N : Int), .int .u64 (A : Int), .slice FA nF Fc] := Hg0.out.below hbr hgl
    have k0 := hg.cell 0
    have k1 := hg.cell 1
    have k2 := hg.cell 2
    simp only [List.getElem?_cons_zero, List.getElem?_cons_succ] at k0 k1 k2
    clear hg hbr
    by_cases hil : i < nF
    case neg =>
      have d1 : decide ((i : Int) < (nF : Int)) = false := decide_eq_false (by omega)
      have hend : out = (decide (left = 1) && decide (powM A (N - 1) N = 1)) := by
        rw [Hfac.out, List.drop_eq_nil_of_le (by rw [← HnF.out]; omega), facRest]
      by_cases h1 : left = 1
      · have d2 : ((left : Int) == 1) = true := by rw [beq_iff_eq]; omega
        rw [decide_eq_true h1, Bool.true_and] at hend
        obtain ⟨pw, hpw⟩ : ∃ p, p = powM A (N - 1) N := ⟨_, rfl⟩
        rw [← hpw] at hend
        have hb : decide (pw = 1) = ((pw : Int) == 1) := by rw [Bool.eq_iff_iff]; simp; omega
        rw [hb] at hend
        have hcon := fun W => refPow_any A (N - 1) N W hA (by omega) hN
        rw [← hpw, ← Hsub.out] at hcon
        have Hcon := Lib.hid hcon
        have Hend := Lib.hid hend
        clear hpw hend hcon h1 hb
        go_wp2_with (go_at_call 42; refine (Hcon.out _).mono ?_; rintro e w' ⟨rfl, rfl⟩)
        go_ret
        exact ⟨by rw [Hend.out]; rfl, Hbr.out⟩
      · have d2 : ((left : Int) == 1) = false := by rw [beq_eq_false_iff_ne]; omega
        rw [decide_eq_false h1, Bool.false_and] at hend
        subst hend
        go_wp2_with fail
        go_ret
        exact ⟨rfl, Hbr.out⟩
    have d1 : decide ((i : Int) < (nF : Int)) = true := decide_eq_true (by omega)
    have hki2 : (i : Int) < (nF : Int) := by omega
    obtain ⟨f, hf⟩ : ∃ f, F[i]? = some f := ⟨_, List.getElem?_eq_getElem (by rw [← HnF.out]; exact hil)⟩
    obtain ⟨fa, hfa, hfc⟩ := HF.out.cells i f hf
    subst hfa
    have hfc := below_cell Hbr.out hfc
    have hfs := HF.out.small f (List.mem_of_getElem? hf)
    have hdr : F.drop i = f :: F.drop (i + 1) := by
      obtain ⟨h, he⟩ := List.getElem?_eq_some_iff.1 hf
      rw [← he]; exact List.drop_eq_getElem_cons h
    have hfac := Hfac.out
    rw [hdr] at hfac
    have Hfac2 := Lib.hid hfac
    have Hf := Lib.hid hf
    obtain ⟨ah, hah⟩ : ∃ a, a = aheadB rs k f := ⟨_, rfl⟩
    have hahc := fun W hb => ahead_any (some b) cap rs k f W (HR.out.below (w1 := W) hb) (by rw [← HnB.out]; exact hl') (by rw [← HnB.out]; omega) hfs
    rw [← hah, ← HnB.out] at hahc
    have Hahc := Lib.hid (hahc _ (Hbr.out))
    have Hah := Lib.hid hah
    clear hdr hfac hf hah hahc Hfac
    by_cases c5 : f < 2
    · have d3 : decide ((f : Int) < 2) = true := decide_eq_true (by omega)
      have ho : out = false := by rw [Hfac2.out]; refine fac_no ?_; unfold okF; rw [decide_eq_true c5]; simp
      subst ho
      go_wp2_with (go_at_call 68; refine Hahc.out.mono ?_; rintro e w' ⟨rfl, rfl⟩)
      go_ret
      exact ⟨rfl, Hbr.out⟩
    have d3 : decide ((f : Int) < 2) = false := decide_eq_false (by omega)
    by_cases c6 : i = 0
    · have d4 : decide ((0 : Int) < (i : Int)) = false := decide_eq_false (by omega)
      have d4n : decide (0 < i) = false := decide_eq_false (by omega)
      have Hpr : Hid (prevOk f (prevO F i) = true) := Lib.hid (by rw [c6, prevO_zero]; rfl)
      clear c6
      by_cases c7 : f = 2
      · have d6 : ((f : Int) != 2) = false := by rw [bne_eq_false_iff_eq]; omega
        have Hah2 : Hid ((decide (f = 2) || aheadB rs k f) = true) := Lib.hid (by rw [decide_eq_true c7]; rfl)
        clear c7
        by_cases c8 : left % f = 0
        · skip
          have hok : okF (aheadB rs k) (prevO F i) left f = true := by unfold okF; rw [decide_eq_false c5, Hpr.out, Hah2.out, decide_eq_true c8]; rfl
          have Hok := Lib.hid hok
          have e7 : (left : Int) % (f : Int) = 0 := by omega
          have d7 : ((left : Int) % (f : Int) != 0) = false := by rw [bne_eq_false_iff_eq]; exact e7
          clear hok e7
          go_wp2_with (go_at_call 68; refine Hahc.out.mono ?_; rintro e w' ⟨rfl, rfl⟩)
          clear d7
          go_loop [6] (fun lv => ∃ y m : Nat, lv = .int .u64 (y : Int) ∧ 0 < y ∧ y ≤ left ∧ y < 2 ^ m ∧ stripF f m y = stripF f 64 left) (fun lv => (intOf lv).toNat)
          case atStart => exact ⟨left, 64, rfl, hl0, Nat.le_refl _, by omega, rfl⟩
          case round =>
            obtain ⟨y, m, rfl, hy0, hyl, hym, hst⟩ := hrel
            have Hst := Lib.hid hst
            have Hym := Lib.hid hym
            clear hst hym
            by_cases hz : y % f = 0
            · obtain ⟨m', hm', hs', hlt', hpos'⟩ := strip_step (by omega) hy0 Hym.out hz
              have e8 : (y : Int) % (f : Int) = 0 := by omega
              have d8 : ((y : Int) % (f : Int) == 0) = true := by rw [beq_iff_eq]; exact e8
              have hdl : y / f < y := Nat.div_lt_self hy0 (by omega)
              have hst2 : stripF f m' (y / f) = stripF f 64 left := by rw [← hs']; exact Hst.out
              have Hst2 := Lib.hid hst2
              have Hlt := Lib.hid hlt'
              have hdi : (y : Int) / (f : Int) = ((y / f : Nat) : Int) := by simp
              have Hdi := Lib.hid hdi
              clear hm' hs' hlt' hz e8 hst2 hdi
              go_wp2_with fail
              go_round
              case rel => exact ⟨y / f, m', by rw [Hdi.out], hpos', by omega, Hlt.out, Hst2.out⟩
              case measure => simp [intOf]; rw [Hdi.out]; omega
            · have d8 : ((y : Int) % (f : Int) == 0) = false := by rw [beq_eq_false_iff_ne]; omega
              have hye : stripF f 64 left = y := by rw [← Hst.out]; exact strip_end hy0 Hym.out hz
              have Hye := Lib.hid hye
              obtain ⟨g, hg⟩ : ∃ g, g = (N - 1) / f := ⟨_, rfl⟩
              have hgb : g < 18446744073709551616 := by have := Nat.div_le_self (N - 1) f; omega
              have hqd : ((N : Int) - 1) / (f : Int) = (g : Int) := by rw [hg, show ((N : Int) - 1) = ((N - 1 : Nat) : Int) by omega]; simp
              have hqt : ((N : Int) - 1).tdiv (f : Int) = (g : Int) := by rw [Int.tdiv_eq_ediv_of_nonneg (by omega)]; exact hqd
              have hwn : IntKind.u64.wrap ((N : Int) - 1) = (N : Int) - 1 := by rw [IntKind.wrap_u64]; omega
              have hf0 : (f : Int) ≠ 0 := by omega
              obtain ⟨pw, hpw⟩ : ∃ p, p = powM A g N := ⟨_, rfl⟩
              have hcon := fun W => refPow_any A g N W hA hgb hN
              rw [← hpw] at hcon
              have Hg := Lib.hid hg
              have Hpw := Lib.hid hpw
              clear hye hz hg hpw
              by_cases h1 : pw = 1
              · have d9 : ((pw : Int) == 1) = true := by rw [beq_iff_eq]; omega
                have ho : out = false := by rw [Hfac2.out]; exact fac_pow (by rw [← Hg.out, ← Hpw.out]; exact h1)
                subst ho
                clear h1
                go_wp2_with fail
                go_quiet ((go_at_call 42; exact Calls.quiet_of_same (hcon _)))
                clear hqd hqt hwn hcon
                go_wp2_with fail
                go_ret
                exact ⟨rfl, below_drewN Hbr.out _⟩
              · have d9 : ((pw : Int) == 1) = false := by rw [beq_eq_false_iff_ne]; omega
                have hnx : out = facRest N A (aheadB rs k) (prevO F (i + 1)) y (F.drop (i + 1)) := by
                  rw [Hfac2.out, fac_yes Hok.out (by rw [← Hg.out, ← Hpw.out]; exact h1), Hye.out, prevO_succ, Hf.out]
                have Hnx := Lib.hid hnx
                clear h1 hnx
                go_wp2_with fail
                go_quiet ((go_at_call 42; exact Calls.quiet_of_same (hcon _)))
                clear hqd hqt hwn hcon
                go_wp2_with fail
                go_roundw
                case rel => exact ⟨y, i + 1, rfl, by go_num, by omega, by omega, by omega, Hnx.out, below_drewN Hbr0.out _⟩
                case measure => simp [intOf]; omega
        · have d7 : ((left : Int) % (f : Int) != 0) = true := by rw [bne_iff_ne]; omega
          have ho : out = false := by rw [Hfac2.out]; refine fac_no ?_; unfold okF; rw [decide_eq_false c8]; simp
          subst ho
          go_wp2_with (go_at_call 68; refine Hahc.out.mono ?_; rintro e w' ⟨rfl, rfl⟩)
          go_ret
          exact ⟨rfl, Hbr.out⟩
      · have d6 : ((f : Int) != 2) = true := by rw [bne_iff_ne]; omega
        cases ah with
        | false =>
          have ho : out = false := by rw [Hfac2.out]; refine fac_no ?_; unfold okF; rw [← Hah.out, decide_eq_false c7]; simp
          subst ho
          go_wp2_with (go_at_call 68; refine Hahc.out.mono ?_; rintro e w' ⟨rfl, rfl⟩)
          go_ret
          exact ⟨rfl, Hbr.out⟩
        | true =>
          have Hah2 : Hid ((decide (f = 2) || aheadB rs k f) = true) := Lib.hid (by rw [← Hah.out]; simp)
          clear c7
          by_cases c8 : left % f = 0
          · skip
            have hok : okF (aheadB rs k) (prevO F i) left f = true := by unfold okF; rw [decide_eq_false c5, Hpr.out, Hah2.out, decide_eq_true c8]; rfl
            have Hok := Lib.hid hok
            have e7 : (left : Int) % (f : Int) = 0 := by omega
            have d7 : ((left : Int) % (f : Int) != 0) = false := by rw [bne_eq_false_iff_eq]; exact e7
            clear hok e7
            go_wp2_with (go_at_call 68; refine Hahc.out.mono ?_; rintro e w' ⟨rfl, rfl⟩)
            clear d7
            go_loop [6] (fun lv => ∃ y m : Nat, lv = .int .u64 (y : Int) ∧ 0 < y ∧ y ≤ left ∧ y < 2 ^ m ∧ stripF f m y = stripF f 64 left) (fun lv => (intOf lv).toNat)
            case atStart => exact ⟨left, 64, rfl, hl0, Nat.le_refl _, by omega, rfl⟩
            case round =>
              obtain ⟨y, m, rfl, hy0, hyl, hym, hst⟩ := hrel
              have Hst := Lib.hid hst
              have Hym := Lib.hid hym
              clear hst hym
              by_cases hz : y % f = 0
              · obtain ⟨m', hm', hs', hlt', hpos'⟩ := strip_step (by omega) hy0 Hym.out hz
                have e8 : (y : Int) % (f : Int) = 0 := by omega
                have d8 : ((y : Int) % (f : Int) == 0) = true := by rw [beq_iff_eq]; exact e8
                have hdl : y / f < y := Nat.div_lt_self hy0 (by omega)
                have hst2 : stripF f m' (y / f) = stripF f 64 left := by rw [← hs']; exact Hst.out
                have Hst2 := Lib.hid hst2
                have Hlt := Lib.hid hlt'
                have hdi : (y : Int) / (f : Int) = ((y / f : Nat) : Int) := by simp
                have Hdi := Lib.hid hdi
                clear hm' hs' hlt' hz e8 hst2 hdi
                go_wp2_with fail
                go_round
                case rel => exact ⟨y / f, m', by rw [Hdi.out], hpos', by omega, Hlt.out, Hst2.out⟩
                case measure => simp [intOf]; rw [Hdi.out]; omega
              · have d8 : ((y : Int) % (f : Int) == 0) = false := by rw [beq_eq_false_iff_ne]; omega
                have hye : stripF f 64 left = y := by rw [← Hst.out]; exact strip_end hy0 Hym.out hz
                have Hye := Lib.hid hye
                obtain ⟨g, hg⟩ : ∃ g, g = (N - 1) / f := ⟨_, rfl⟩
                have hgb : g < 18446744073709551616 := by have := Nat.div_le_self (N - 1) f; omega
                have hqd : ((N : Int) - 1) / (f : Int) = (g : Int) := by rw [hg, show ((N : Int) - 1) = ((N - 1 : Nat) : Int) by omega]; simp
                have hqt : ((N : Int) - 1).tdiv (f : Int) = (g : Int) := by rw [Int.tdiv_eq_ediv_of_nonneg (by omega)]; exact hqd
                have hwn : IntKind.u64.wrap ((N : Int) - 1) = (N : Int) - 1 := by rw [IntKind.wrap_u64]; omega
                have hf0 : (f : Int) ≠ 0 := by omega
                obtain ⟨pw, hpw⟩ : ∃ p, p = powM A g N := ⟨_, rfl⟩
                have hcon := fun W => refPow_any A g N W hA hgb hN
                rw [← hpw] at hcon
                have Hg := Lib.hid hg
                have Hpw := Lib.hid hpw
                clear hye hz hg hpw
                by_cases h1 : pw = 1
                · have d9 : ((pw : Int) == 1) = true := by rw [beq_iff_eq]; omega
                  have ho : out = false := by rw [Hfac2.out]; exact fac_pow (by rw [← Hg.out, ← Hpw.out]; exact h1)
                  subst ho
                  clear h1
                  go_wp2_with fail
                  go_quiet ((go_at_call 42; exact Calls.quiet_of_same (hcon _)))
                  clear hqd hqt hwn hcon
                  go_wp2_with fail
                  go_ret
                  exact ⟨rfl, below_drewN Hbr.out _⟩
                · have d9 : ((pw : Int) == 1) = false := by rw [beq_eq_false_iff_ne]; omega
                  have hnx : out = facRest N A (aheadB rs k) (prevO F (i + 1)) y (F.drop (i + 1)) := by
                    rw [Hfac2.out, fac_yes Hok.out (by rw [← Hg.out, ← Hpw.out]; exact h1), Hye.out, prevO_succ, Hf.out]
                  have Hnx := Lib.hid hnx
                  clear h1 hnx
                  go_wp2_with fail
                  go_quiet ((go_at_call 42; exact Calls.quiet_of_same (hcon _)))
                  clear hqd hqt hwn hcon
                  go_wp2_with fail
                  go_roundw
                  case rel => exact ⟨y, i + 1, rfl, by go_num, by omega, by omega, by omega, Hnx.out, below_drewN Hbr0.out _⟩
                  case measure => simp [intOf]; omega
          · have d7 : ((left : Int) % (f : Int) != 0) = true := by rw [bne_iff_ne]; omega
            have ho : out = false := by rw [Hfac2.out]; refine fac_no ?_; unfold okF; rw [decide_eq_false c8]; simp
            subst ho
            go_wp2_with (go_at_call 68; refine Hahc.out.mono ?_; rintro e w' ⟨rfl, rfl⟩)
            go_ret
            exact ⟨rfl, Hbr.out⟩
    · have d4 : decide ((0 : Int) < (i : Int)) = true := decide_eq_true (by omega)
      obtain ⟨pf, hpf⟩ : ∃ p, F[i - 1]? = some p := ⟨_, List.getElem?_eq_getElem (by rw [← HnF.out]; omega)⟩
      obtain ⟨fa2, hfa2, hpc⟩ := HF.out.cells (i - 1) pf hpf
      obtain rfl : fa = fa2 := by injection hfa2
      have hpc := below_cell Hbr.out hpc
      have hprv : prevO F i = some pf := by rw [prevO, if_neg c6]; exact hpf
      have hti : ((i : Int) - 1).toNat = i - 1 := by omega
      have hi1 : (1 : Int) ≤ (i : Int) := by omega
      have Hprv := Lib.hid hprv
      clear hpf hfa2 hprv c6
      by_cases c9 : f ≤ pf
      · have d5 : decide ((f : Int) ≤ (pf : Int)) = true := decide_eq_true (by omega)
        have ho : out = false := by rw [Hfac2.out]; refine fac_no ?_; unfold okF; rw [Hprv.out, show prevOk f (some pf) = false from decide_eq_false (by omega)]; simp
        subst ho
        go_wp2_with (go_at_call 68; refine Hahc.out.mono ?_; rintro e w' ⟨rfl, rfl⟩)
        go_ret
        exact ⟨rfl, Hbr.out⟩
      · have d5 : decide ((f : Int) ≤ (pf : Int)) = false := decide_eq_false (by omega)
        have Hpr : Hid (prevOk f (prevO F i) = true) := Lib.hid (by rw [Hprv.out]; exact decide_eq_true (by omega))
        by_cases c7 : f = 2
        · have d6 : ((f : Int) != 2) = false := by rw [bne_eq_false_iff_eq]; omega
          have Hah2 : Hid ((decide (f = 2) || aheadB rs k f) = true) := Lib.hid (by rw [decide_eq_true c7]; rfl)
          clear c7
          by_cases c8 : left % f = 0
          · skip
            have hok : okF (aheadB rs k) (prevO F i) left f = true := by unfold okF; rw [decide_eq_false c5, Hpr.out, Hah2.out, decide_eq_true c8]; rfl
            have Hok := Lib.hid hok
            have e7 : (left : Int) % (f : Int) = 0 := by omega
            have d7 : ((left : Int) % (f : Int) != 0) = false := by rw [bne_eq_false_iff_eq]; exact e7
            clear hok e7
            go_wp2_with (go_at_call 68; refine Hahc.out.mono ?_; rintro e w' ⟨rfl, rfl⟩)
            clear d7
            go_loop [6] (fun lv => ∃ y m : Nat, lv = .int .u64 (y : Int) ∧ 0 < y ∧ y ≤ left ∧ y < 2 ^ m ∧ stripF f m y = stripF f 64 left) (fun lv => (intOf lv).toNat)
            case atStart => exact ⟨left, 64, rfl, hl0, Nat.le_refl _, by omega, rfl⟩
            case round =>
              obtain ⟨y, m, rfl, hy0, hyl, hym, hst⟩ := hrel
              have Hst := Lib.hid hst
              have Hym := Lib.hid hym
              clear hst hym
              by_cases hz : y % f = 0
              · obtain ⟨m', hm', hs', hlt', hpos'⟩ := strip_step (by omega) hy0 Hym.out hz
                have e8 : (y : Int) % (f : Int) = 0 := by omega
                have d8 : ((y : Int) % (f : Int) == 0) = true := by rw [beq_iff_eq]; exact e8
                have hdl : y / f < y := Nat.div_lt_self hy0 (by omega)
                have hst2 : stripF f m' (y / f) = stripF f 64 left := by rw [← hs']; exact Hst.out
                have Hst2 := Lib.hid hst2
                have Hlt := Lib.hid hlt'
                have hdi : (y : Int) / (f : Int) = ((y / f : Nat) : Int) := by simp
                have Hdi := Lib.hid hdi
                clear hm' hs' hlt' hz e8 hst2 hdi
                go_wp2_with fail
                go_round
                case rel => exact ⟨y / f, m', by rw [Hdi.out], hpos', by omega, Hlt.out, Hst2.out⟩
                case measure => simp [intOf]; rw [Hdi.out]; omega
              · have d8 : ((y : Int) % (f : Int) == 0) = false := by rw [beq_eq_false_iff_ne]; omega
                have hye : stripF f 64 left = y := by rw [← Hst.out]; exact strip_end hy0 Hym.out hz
                have Hye := Lib.hid hye
                obtain ⟨g, hg⟩ : ∃ g, g = (N - 1) / f := ⟨_, rfl⟩
                have hgb : g < 18446744073709551616 := by have := Nat.div_le_self (N - 1) f; omega
                have hqd : ((N : Int) - 1) / (f : Int) = (g : Int) := by rw [hg, show ((N : Int) - 1) = ((N - 1 : Nat) : Int) by omega]; simp
                have hqt : ((N : Int) - 1).tdiv (f : Int) = (g : Int) := by rw [Int.tdiv_eq_ediv_of_nonneg (by omega)]; exact hqd
                have hwn : IntKind.u64.wrap ((N : Int) - 1) = (N : Int) - 1 := by rw [IntKind.wrap_u64]; omega
                have hf0 : (f : Int) ≠ 0 := by omega
                obtain ⟨pw, hpw⟩ : ∃ p, p = powM A g N := ⟨_, rfl⟩
                have hcon := fun W => refPow_any A g N W hA hgb hN
                rw [← hpw] at hcon
                have Hg := Lib.hid hg
                have Hpw := Lib.hid hpw
                clear hye hz hg hpw
                by_cases h1 : pw = 1
                · have d9 : ((pw : Int) == 1) = true := by rw [beq_iff_eq]; omega
                  have ho : out = false := by rw [Hfac2.out]; exact fac_pow (by rw [← Hg.out, ← Hpw.out]; exact h1)
                  subst ho
                  clear h1
                  go_wp2_with fail
                  go_quiet ((go_at_call 42; exact Calls.quiet_of_same (hcon _)))
                  clear hqd hqt hwn hcon
                  go_wp2_with fail
                  go_ret
                  exact ⟨rfl, below_drewN Hbr.out _⟩
                · have d9 : ((pw : Int) == 1) = false := by rw [beq_eq_false_iff_ne]; omega
                  have hnx : out = facRest N A (aheadB rs k) (prevO F (i + 1)) y (F.drop (i + 1)) := by
                    rw [Hfac2.out, fac_yes Hok.out (by rw [← Hg.out, ← Hpw.out]; exact h1), Hye.out, prevO_succ, Hf.out]
                  have Hnx := Lib.hid hnx
                  clear h1 hnx
                  go_wp2_with fail
                  go_quiet ((go_at_call 42; exact Calls.quiet_of_same (hcon _)))
                  clear hqd hqt hwn hcon
                  go_wp2_with fail
                  go_roundw
                  case rel => exact ⟨y, i + 1, rfl, by go_num, by omega, by omega, by omega, Hnx.out, below_drewN Hbr0.out _⟩
                  case measure => simp [intOf]; omega
          · have d7 : ((left : Int) % (f : Int) != 0) = true := by rw [bne_iff_ne]; omega
            have ho : out = false := by rw [Hfac2.out]; refine fac_no ?_; unfold okF; rw [decide_eq_false c8]; simp
            subst ho
            go_wp2_with (go_at_call 68; refine Hahc.out.mono ?_; rintro e w' ⟨rfl, rfl⟩)
            go_ret
            exact ⟨rfl, Hbr.out⟩
        · have d6 : ((f : Int) != 2) = true := by rw [bne_iff_ne]; omega
          cases ah with
          | false =>
            have ho : out = false := by rw [Hfac2.out]; refine fac_no ?_; unfold okF; rw [← Hah.out, decide_eq_false c7]; simp
            subst ho
            go_wp2_with (go_at_call 68; refine Hahc.out.mono ?_; rintro e w' ⟨rfl, rfl⟩)
            go_ret
            exact ⟨rfl, Hbr.out⟩
          | true =>
            have Hah2 : Hid ((decide (f = 2) || aheadB rs k f) = true) := Lib.hid (by rw [← Hah.out]; simp)
            clear c7
            by_cases c8 : left % f = 0
            · skip
              have hok : okF (aheadB rs k) (prevO F i) left f = true := by unfold okF; rw [decide_eq_false c5, Hpr.out, Hah2.out, decide_eq_true c8]; rfl
              have Hok := Lib.hid hok
              have e7 : (left : Int) % (f : Int) = 0 := by omega
              have d7 : ((left : Int) % (f : Int) != 0) = false := by rw [bne_eq_false_iff_eq]; exact e7
              clear hok e7
              go_wp2_with (go_at_call 68; refine Hahc.out.mono ?_; rintro e w' ⟨rfl, rfl⟩)
              clear d7
              go_loop [6] (fun lv => ∃ y m : Nat, lv = .int .u64 (y : Int) ∧ 0 < y ∧ y ≤ left ∧ y < 2 ^ m ∧ stripF f m y = stripF f 64 left) (fun lv => (intOf lv).toNat)
              case atStart => exact ⟨left, 64, rfl, hl0, Nat.le_refl _, by omega, rfl⟩
              case round =>
                obtain ⟨y, m, rfl, hy0, hyl, hym, hst⟩ := hrel
                have Hst := Lib.hid hst
                have Hym := Lib.hid hym
                clear hst hym
                by_cases hz : y % f = 0
                · obtain ⟨m', hm', hs', hlt', hpos'⟩ := strip_step (by omega) hy0 Hym.out hz
                  have e8 : (y : Int) % (f : Int) = 0 := by omega
                  have d8 : ((y : Int) % (f : Int) == 0) = true := by rw [beq_iff_eq]; exact e8
                  have hdl : y / f < y := Nat.div_lt_self hy0 (by omega)
                  have hst2 : stripF f m' (y / f) = stripF f 64 left := by rw [← hs']; exact Hst.out
                  have Hst2 := Lib.hid hst2
                  have Hlt := Lib.hid hlt'
                  have hdi : (y : Int) / (f : Int) = ((y / f : Nat) : Int) := by simp
                  have Hdi := Lib.hid hdi
                  clear hm' hs' hlt' hz e8 hst2 hdi
                  go_wp2_with fail
                  go_round
                  case rel => exact ⟨y / f, m', by rw [Hdi.out], hpos', by omega, Hlt.out, Hst2.out⟩
                  case measure => simp [intOf]; rw [Hdi.out]; omega
                · have d8 : ((y : Int) % (f : Int) == 0) = false := by rw [beq_eq_false_iff_ne]; omega
                  have hye : stripF f 64 left = y := by rw [← Hst.out]; exact strip_end hy0 Hym.out hz
                  have Hye := Lib.hid hye
                  obtain ⟨g, hg⟩ : ∃ g, g = (N - 1) / f := ⟨_, rfl⟩
                  have hgb : g < 18446744073709551616 := by have := Nat.div_le_self (N - 1) f; omega
                  have hqd : ((N : Int) - 1) / (f : Int) = (g : Int) := by rw [hg, show ((N : Int) - 1) = ((N - 1 : Nat) : Int) by omega]; simp
                  have hqt : ((N : Int) - 1).tdiv (f : Int) = (g : Int) := by rw [Int.tdiv_eq_ediv_of_nonneg (by omega)]; exact hqd
                  have hwn : IntKind.u64.wrap ((N : Int) - 1) = (N : Int) - 1 := by rw [IntKind.wrap_u64]; omega
                  have hf0 : (f : Int) ≠ 0 := by omega
                  obtain ⟨pw, hpw⟩ : ∃ p, p = powM A g N := ⟨_, rfl⟩
                  have hcon := fun W => refPow_any A g N W hA hgb hN
                  rw [← hpw] at hcon
                  have Hg := Lib.hid hg
                  have Hpw := Lib.hid hpw
                  clear hye hz hg hpw
                  by_cases h1 : pw = 1
                  · have d9 : ((pw : Int) == 1) = true := by rw [beq_iff_eq]; omega
                    have ho : out = false := by rw [Hfac2.out]; exact fac_pow (by rw [← Hg.out, ← Hpw.out]; exact h1)
                    subst ho
                    clear h1
                    go_wp2_with fail
                    go_quiet ((go_at_call 42; exact Calls.quiet_of_same (hcon _)))
                    clear hqd hqt hwn hcon
                    go_wp2_with fail
                    go_ret
                    exact ⟨rfl, below_drewN Hbr.out _⟩
                  · have d9 : ((pw : Int) == 1) = false := by rw [beq_eq_false_iff_ne]; omega
                    have hnx : out = facRest N A (aheadB rs k) (prevO F (i + 1)) y (F.drop (i + 1)) := by
                      rw [Hfac2.out, fac_yes Hok.out (by rw [← Hg.out, ← Hpw.out]; exact h1), Hye.out, prevO_succ, Hf.out]
                    have Hnx := Lib.hid hnx
                    clear h1 hnx
                    go_wp2_with fail
                    go_quiet ((go_at_call 42; exact Calls.quiet_of_same (hcon _)))
                    clear hqd hqt hwn hcon
                    go_wp2_with fail
                    go_roundw
                    case rel => exact ⟨y, i + 1, rfl, by go_num, by omega, by omega, by omega, Hnx.out, below_drewN Hbr0.out _⟩
                    case measure => simp [intOf]; omega
            · have d7 : ((left : Int) % (f : Int) != 0) = true := by rw [bne_iff_ne]; omega
              have ho : out = false := by rw [Hfac2.out]; refine fac_no ?_; unfold okF; rw [decide_eq_false c8]; simp
              subst ho
              go_wp2_with (go_at_call 68; refine Hahc.out.mono ?_; rintro e w' ⟨rfl, rfl⟩)
              go_ret
              exact ⟨rfl, Hbr.out⟩
end Go.Proofs.YtinlciofhegciaaGreat

/- Which group is right: the reference's walk. -/
namespace Go.Proofs.YtinlciofhegciaaGreat
open Go.RowKit

def holdsUpto (rs : List RowV) (k : Nat) : Bool := (List.range k).all fun i => match rs[i]? with
  | none => true
  | some r => holdsRow rs i r
def holdsAll (rs : List RowV) : Bool := decide (rs.length ≤ 64) && holdsUpto rs rs.length
def provedB (n : Nat) (rs : List RowV) : Bool := holdsAll rs && (decide (n = 2) || aheadB rs rs.length n)
def rightG (P Q G H : Nat) (rs : List RowV) : Bool :=
  (decide (5 ≤ Q) && decide (Q < 2305843009213693952) && decide (P = 2 * Q + 1)) && (provedB P rs && provedB Q rs && inG P Q G && inG P Q H && !decide (G = 1) && !decide (H = 1) && !decide (G = H))
theorem holdsUpto_next {rs : List RowV} {k : Nat} {r : RowV} (h : rs[k]? = some r) (hk : holdsUpto rs k = true) (hr : holdsRow rs k r = true) : holdsUpto rs (k + 1) = true := by
  unfold holdsUpto at *
  rw [List.range_succ, List.all_append, hk]; simp [h, hr]
theorem holdsUpto_no {rs : List RowV} {k n : Nat} {r : RowV} (h : rs[k]? = some r) (hkn : k < n) (hr : holdsRow rs k r = false) : holdsUpto rs n = false := by
  unfold holdsUpto
  rw [List.all_eq_false]
  exact ⟨k, List.mem_range.2 hkn, by simp [h, hr]⟩

set_option maxRecDepth 100000 in
set_option maxHeartbeats 1000000 in
theorem holdsAll_any (B : Option Addr) (cap : Nat) (rs : List RowV) (w : World) (hR : Rows3 w B cap rs) (hl : rs.length < 1000000) (hFl : ∀ r ∈ rs, r.F.l.length < 1000000) :
    Calls Tryz.prog 67 #[.slice B rs.length cap] w fun e w' => e = .returned (.bool (holdsAll rs)) ∧ Below w.heap.size w w' := by
  have hcon := fun k r W hb hr => holds_any B cap rs k r W (hR.below (w1 := W) hb) hl hr (hFl r (List.mem_of_getElem? hr))
  obtain ⟨nB, hnB⟩ : ∃ n, n = rs.length := ⟨_, rfl⟩
  obtain ⟨out, hout⟩ : ∃ s, s = holdsAll rs := ⟨_, rfl⟩
  rw [← hnB] at hcon
  rw [← hout, ← hnB]
  rw [holdsAll, ← hnB] at hout
  have Hcon := Lib.hid hcon
  have HnB := Lib.hid hnB
  have Hout := Lib.hid hout
  have hl' : nB < 1000000 := by omega
  clear hcon hnB hout hR hFl hl
  by_cases h64 : 64 < nB
  · have d0 : decide ((64 : Int) < (nB : Int)) = true := decide_eq_true (by omega)
    have ho : out = false := by rw [Hout.out, decide_eq_false (show ¬ nB ≤ 64 by omega)]; rfl
    subst ho
    go_enter Tryz.func67, Tryz.ntmps67
    go_wp2_with fail
    go_ret
    exact ⟨rfl, Below.refl _ _⟩
  have d0 : decide ((64 : Int) < (nB : Int)) = false := decide_eq_false (by omega)
  have hout2 : out = holdsUpto rs nB := by rw [Hout.out, decide_eq_true (show nB ≤ 64 by omega)]; rfl
  have Hout2 := Lib.hid hout2
  clear hout2 Hout
  go_enter Tryz.func67, Tryz.ntmps67
  go_wp2_with fail
  go_loopw [3] (fun iv wr => ∃ k : Nat, iv = .int .i64 (k : Int) ∧ k ≤ nB ∧ holdsUpto rs k = true ∧ Below w.heap.size w wr) (fun iv _ => nB - (intOf iv).toNat)
  case atStart => exact ⟨0, rfl, by omega, by simp [holdsUpto], Below.refl _ _⟩
  case round =>
    obtain ⟨k, rfl, hk, hup, hbr⟩ := hrel
    have Hup := Lib.hid hup
    have Hbr := Lib.hid hbr
    clear hup hbr
    by_cases hkl : k < nB
    · have d1 : decide ((k : Int) < (nB : Int)) = true := decide_eq_true (by omega)
      have hki : (k : Int) < (nB : Int) := by omega
      obtain ⟨r, hr⟩ : ∃ r, rs[k]? = some r := ⟨_, List.getElem?_eq_getElem (by rw [← HnB.out]; omega)⟩
      have hc := Hcon.out k r wr Hbr.out hr
      cases hb : holdsRow rs k r with
      | false =>
        rw [hb] at hc
        have ho : out = false := by rw [Hout2.out]; exact holdsUpto_no hr hkl hb
        have Hc := Lib.hid hc
        subst ho
        clear hc hb hr
        go_wp2_with (go_at_call 83; refine Hc.out.mono ?_; rintro e w2 ⟨rfl, hb2⟩; have Hb2 := Lib.hid hb2; clear hb2)
        go_ret
        exact ⟨rfl, below_trans Hbr.out Hb2.out⟩
      | true =>
        rw [hb] at hc
        have hnx := holdsUpto_next hr Hup.out hb
        have Hnx := Lib.hid hnx
        have Hc := Lib.hid hc
        clear hc hb hr hnx
        go_wp2_with (go_at_call 83; refine Hc.out.mono ?_; rintro e w2 ⟨rfl, hb2⟩; have Hb2 := Lib.hid hb2; clear hb2)
        go_roundw
        case rel => exact ⟨k + 1, by go_num, by omega, Hnx.out, below_trans Hbr.out Hb2.out⟩
        case measure => simp [intOf]; omega
    · have d1 : decide ((k : Int) < (nB : Int)) = false := decide_eq_false (by omega)
      have ho : out = true := by rw [Hout2.out, show nB = k by omega, Hup.out]
      subst ho
      go_wp2_with fail
      go_ret
      exact ⟨rfl, Hbr.out⟩

set_option maxRecDepth 100000 in
set_option maxHeartbeats 1000000 in
theorem proved_any (n : Nat) (B : Option Addr) (cap : Nat) (rs : List RowV) (w : World) (hn : n < 18446744073709551616) (hR : Rows3 w B cap rs) (hl : rs.length < 1000000) (hFl : ∀ r ∈ rs, r.F.l.length < 1000000) :
    Calls Tryz.prog 48 #[.int .u64 (n : Int), .slice B rs.length cap] w fun e w' => e = .returned (.bool (provedB n rs)) ∧ Below w.heap.size w w' := by
  have hcon := holdsAll_any B cap rs w hR hl hFl
  have hcon2 := fun W hb => ahead_any B cap rs rs.length n W (hR.below (w1 := W) hb) hl (Nat.le_refl _) hn
  obtain ⟨nB, hnB⟩ : ∃ n, n = rs.length := ⟨_, rfl⟩
  obtain ⟨b1, hb1⟩ : ∃ b, b = holdsAll rs := ⟨_, rfl⟩
  obtain ⟨b2, hb2⟩ : ∃ b, b = aheadB rs rs.length n := ⟨_, rfl⟩
  rw [provedB, ← hb1, ← hb2, ← hnB]
  rw [← hb1, ← hnB] at hcon
  rw [← hb2, ← hnB] at hcon2
  have Hcon := Lib.hid hcon
  have Hcon2 := Lib.hid hcon2
  clear hcon hcon2 hnB hb1 hb2 hR hl hFl
  cases b1 with
  | false =>
    go_enter Tryz.func48, Tryz.ntmps48
    go_wp2_with (go_at_call 67; refine Hcon.out.mono ?_; rintro e w2 ⟨rfl, hb2⟩; have Hb2 := Lib.hid hb2; clear hb2)
    go_ret
    exact ⟨rfl, Hb2.out⟩
  | true =>
    by_cases h2 : n = 2
    · have d1 : ((n : Int) == 2) = true := by rw [beq_iff_eq]; omega
      rw [decide_eq_true h2]
      clear h2
      go_enter Tryz.func48, Tryz.ntmps48
      go_wp2_with (go_at_call 67; refine Hcon.out.mono ?_; rintro e w2 ⟨rfl, hb2⟩; have Hb2 := Lib.hid hb2; clear hb2)
      go_ret
      exact ⟨rfl, Hb2.out⟩
    · have d1 : ((n : Int) == 2) = false := by rw [beq_eq_false_iff_ne]; omega
      rw [decide_eq_false h2]
      clear h2
      go_enter Tryz.func48, Tryz.ntmps48
      go_wp2_with (first | (go_at_call 67; refine Hcon.out.mono ?_; rintro e w2 ⟨rfl, hb2⟩; have Hb2 := Lib.hid hb2; clear hb2) | (go_at_call 68; refine (Hcon2.out _ Hb2.out).mono ?_; rintro e w3 ⟨rfl, rfl⟩))
      go_ret
      exact ⟨by simp, Hb2.out⟩

set_option maxRecDepth 100000 in
set_option maxHeartbeats 2000000 in
theorem right_group (P Q G H : Nat) (B : Option Addr) (cap : Nat) (rs : List RowV) (w : World) (hP : P < 18446744073709551616) (hQ : Q < 18446744073709551616) (hG : G < 18446744073709551616) (hH : H < 18446744073709551616) (hR : Rows3 w B cap rs) (hl : rs.length < 1000000) (hFl : ∀ r ∈ rs, r.F.l.length < 1000000) :
    Calls Tryz.prog 32 #[gval P Q G H (.slice B rs.length cap)] w fun e w' => e = .returned (.bool (rightG P Q G H rs)) ∧ Below w.heap.size w w' := by
  have hc1 := fun W hb => proved_any P B cap rs W hP (hR.below (w1 := W) hb) hl hFl
  have hc2 := fun W hb => proved_any Q B cap rs W hQ (hR.below (w1 := W) hb) hl hFl
  obtain ⟨nB, hnB⟩ : ∃ n, n = rs.length := ⟨_, rfl⟩
  obtain ⟨R, hRv⟩ : ∃ R, R = Value.slice B nB cap := ⟨_, rfl⟩
  have hc3 := fun W => refIn_any P Q G H G R W hP hQ hG
  have hc4 := fun W => refIn_any P Q G H H R W hP hQ hH
  unfold gval at hc3 hc4 ⊢
  obtain ⟨b1, hb1⟩ : ∃ b, b = provedB P rs := ⟨_, rfl⟩
  obtain ⟨b2, hb2⟩ : ∃ b, b = provedB Q rs := ⟨_, rfl⟩
  obtain ⟨b3, hb3⟩ : ∃ b, b = inG P Q G := ⟨_, rfl⟩
  obtain ⟨b4, hb4⟩ : ∃ b, b = inG P Q H := ⟨_, rfl⟩
  rw [← hb1, ← hnB] at hc1
  rw [← hb2, ← hnB] at hc2
  rw [← hb3, hRv] at hc3
  rw [← hb4, hRv] at hc4
  rw [rightG, ← hb1, ← hb2, ← hb3, ← hb4, ← hnB]
  have H1 := Lib.hid hc1
  have H2 := Lib.hid hc2
  have H3 := Lib.hid hc3
  have H4 := Lib.hid hc4
  have hb0 : Below w.heap.size w (w.alloc (.cells #[.int .u64 (P : Int), .int .u64 (Q : Int), .int .u64 (G : Int), .int .u64 (H : Int), .slice B nB cap] 25)) := (Below.refl _ _).alloc (Nat.le_refl _) _
  have hg0 : Blk (w.alloc (.cells #[.int .u64 (P : Int), .int .u64 (Q : Int), .int .u64 (G : Int), .int .u64 (H : Int), .slice B nB cap] 25)) w.heap.size 25 (glist P Q G H (.slice B nB cap)) := Blk.of w _ _ _ rfl
  obtain ⟨w0, hw0⟩ : ∃ w0, w0 = (w.alloc (.cells #[.int .u64 (P : Int), .int .u64 (Q : Int), .int .u64 (G : Int), .int .u64 (H : Int), .slice B nB cap] 25)) := ⟨_, rfl⟩
  rw [← hw0] at hb0 hg0
  obtain ⟨g0, g1, g2, g3, g4⟩ := gcells hg0
  have Hb0 := Lib.hid hb0
  have Hg0 := Lib.hid hg0
  have Hw0 := Lib.hid hw0
  have hgl := hg0.lt
  clear hc1 hc2 hc3 hc4 hnB hRv hb1 hb2 hb3 hb4 hR hl hFl hb0 hg0 hw0
  by_cases c1 : Q < 5
  · have d1 : decide ((Q : Int) < 5) = true := decide_eq_true (by omega)
    rw [decide_eq_false (show ¬ 5 ≤ Q by omega)]
    go_enter Tryz.func32, Tryz.ntmps32
    go_wp2_with fail
    go_ret
    exact ⟨by simp, by rw [← Hw0.out]; exact Hb0.out⟩
  have d1 : decide ((Q : Int) < 5) = false := decide_eq_false (by omega)
  rw [decide_eq_true (show 5 ≤ Q by omega)]
  by_cases c2 : 2305843009213693952 ≤ Q
  · have d2 : decide ((2305843009213693952 : Int) ≤ (Q : Int)) = true := decide_eq_true (by omega)
    rw [decide_eq_false (show ¬ Q < 2305843009213693952 by omega)]
    go_enter Tryz.func32, Tryz.ntmps32
    go_wp2_with fail
    go_ret
    exact ⟨by simp, by rw [← Hw0.out]; exact Hb0.out⟩
  have d2 : decide ((2305843009213693952 : Int) ≤ (Q : Int)) = false := decide_eq_false (by omega)
  rw [decide_eq_true (show Q < 2305843009213693952 by omega)]
  by_cases c3 : P = 2 * Q + 1
  case neg =>
    have d3 : ((P : Int) != 2 * (Q : Int) + 1) = true := by rw [bne_iff_ne]; omega
    rw [decide_eq_false c3]
    clear c3
    go_enter Tryz.func32, Tryz.ntmps32
    go_wp2_with fail
    go_ret
    exact ⟨by simp, by rw [← Hw0.out]; exact Hb0.out⟩
  have d3 : ((P : Int) != 2 * (Q : Int) + 1) = false := by rw [bne_eq_false_iff_eq]; omega
  rw [decide_eq_true c3]
  clear c3
  cases b1 with
  | false =>
    go_enter Tryz.func32, Tryz.ntmps32
    go_wp2_with fail
    rw [← Hw0.out]
    go_wp2_with fail
    refine (H1.out _ Hb0.out).mono ?_
    rintro e w1 ⟨rfl, hb1⟩
    obtain ⟨g0, g1, g2, g3, g4⟩ := gcells (Hg0.out.below hb1 hgl)
    have Hb1 := Lib.hid (below_trans Hb0.out hb1)
    have Hg1 := Lib.hid (Hg0.out.below hb1 hgl)
    have hgl1 := Hg1.out.lt
    clear hb1
    go_wp2_with fail
    go_ret
    exact ⟨by simp, Hb1.out⟩
  | true =>
    cases b2 with
    | false =>
      go_enter Tryz.func32, Tryz.ntmps32
      go_wp2_with fail
      rw [← Hw0.out]
      go_wp2_with fail
      refine (H1.out _ Hb0.out).mono ?_
      rintro e w1 ⟨rfl, hb1⟩
      obtain ⟨g0, g1, g2, g3, g4⟩ := gcells (Hg0.out.below hb1 hgl)
      have Hb1 := Lib.hid (below_trans Hb0.out hb1)
      have Hg1 := Lib.hid (Hg0.out.below hb1 hgl)
      have hgl1 := Hg1.out.lt
      clear hb1
      go_wp2_with fail
      refine (H2.out _ Hb1.out).mono ?_
      rintro e w2 ⟨rfl, hb2⟩
      obtain ⟨g0, g1, g2, g3, g4⟩ := gcells (Hg1.out.below hb2 hgl1)
      have Hb2 := Lib.hid (below_trans Hb1.out hb2)
      have Hg2 := Lib.hid (Hg1.out.below hb2 hgl1)
      have hgl2 := Hg2.out.lt
      clear hb2
      go_wp2_with fail
      go_ret
      exact ⟨by simp, Hb2.out⟩
    | true =>
      cases b3 with
      | false =>
        go_enter Tryz.func32, Tryz.ntmps32
        go_wp2_with fail
        rw [← Hw0.out]
        go_wp2_with fail
        refine (H1.out _ Hb0.out).mono ?_
        rintro e w1 ⟨rfl, hb1⟩
        obtain ⟨g0, g1, g2, g3, g4⟩ := gcells (Hg0.out.below hb1 hgl)
        have Hb1 := Lib.hid (below_trans Hb0.out hb1)
        have Hg1 := Lib.hid (Hg0.out.below hb1 hgl)
        have hgl1 := Hg1.out.lt
        clear hb1
        go_wp2_with fail
        refine (H2.out _ Hb1.out).mono ?_
        rintro e w2 ⟨rfl, hb2⟩
        obtain ⟨g0, g1, g2, g3, g4⟩ := gcells (Hg1.out.below hb2 hgl1)
        have Hb2 := Lib.hid (below_trans Hb1.out hb2)
        have Hg2 := Lib.hid (Hg1.out.below hb2 hgl1)
        have hgl2 := Hg2.out.lt
        clear hb2
        go_wp2_with fail
        refine (H3.out _).mono ?_
        rintro e w3 ⟨rfl, hb3⟩
        obtain ⟨g0, g1, g2, g3, g4⟩ := gcells (Hg2.out.below hb3 hgl2)
        have Hb3 := Lib.hid (below_trans Hb2.out hb3)
        have Hg3 := Lib.hid (Hg2.out.below hb3 hgl2)
        have hgl3 := Hg3.out.lt
        clear hb3
        go_wp2_with fail
        go_ret
        exact ⟨by simp, Hb3.out⟩
      | true =>
        cases b4 with
        | false =>
          go_enter Tryz.func32, Tryz.ntmps32
          go_wp2_with fail
          rw [← Hw0.out]
          go_wp2_with fail
          refine (H1.out _ Hb0.out).mono ?_
          rintro e w1 ⟨rfl, hb1⟩
          obtain ⟨g0, g1, g2, g3, g4⟩ := gcells (Hg0.out.below hb1 hgl)
          have Hb1 := Lib.hid (below_trans Hb0.out hb1)
          have Hg1 := Lib.hid (Hg0.out.below hb1 hgl)
          have hgl1 := Hg1.out.lt
          clear hb1
          go_wp2_with fail
          refine (H2.out _ Hb1.out).mono ?_
          rintro e w2 ⟨rfl, hb2⟩
          obtain ⟨g0, g1, g2, g3, g4⟩ := gcells (Hg1.out.below hb2 hgl1)
          have Hb2 := Lib.hid (below_trans Hb1.out hb2)
          have Hg2 := Lib.hid (Hg1.out.below hb2 hgl1)
          have hgl2 := Hg2.out.lt
          clear hb2
          go_wp2_with fail
          refine (H3.out _).mono ?_
          rintro e w3 ⟨rfl, hb3⟩
          obtain ⟨g0, g1, g2, g3, g4⟩ := gcells (Hg2.out.below hb3 hgl2)
          have Hb3 := Lib.hid (below_trans Hb2.out hb3)
          have Hg3 := Lib.hid (Hg2.out.below hb3 hgl2)
          have hgl3 := Hg3.out.lt
          clear hb3
          go_wp2_with fail
          refine (H4.out _).mono ?_
          rintro e w4 ⟨rfl, hb4⟩
          obtain ⟨g0, g1, g2, g3, g4⟩ := gcells (Hg3.out.below hb4 hgl3)
          have Hb4 := Lib.hid (below_trans Hb3.out hb4)
          clear hb4
          go_wp2_with fail
          go_ret
          exact ⟨by simp, Hb4.out⟩
        | true =>
          by_cases c4 : G = 1
          · have d4 : ((G : Int) != 1) = false := by rw [bne_eq_false_iff_eq]; omega
            rw [decide_eq_true c4]
            clear c4
            go_enter Tryz.func32, Tryz.ntmps32
            go_wp2_with fail
            rw [← Hw0.out]
            go_wp2_with fail
            refine (H1.out _ Hb0.out).mono ?_
            rintro e w1 ⟨rfl, hb1⟩
            obtain ⟨g0, g1, g2, g3, g4⟩ := gcells (Hg0.out.below hb1 hgl)
            have Hb1 := Lib.hid (below_trans Hb0.out hb1)
            have Hg1 := Lib.hid (Hg0.out.below hb1 hgl)
            have hgl1 := Hg1.out.lt
            clear hb1
            go_wp2_with fail
            refine (H2.out _ Hb1.out).mono ?_
            rintro e w2 ⟨rfl, hb2⟩
            obtain ⟨g0, g1, g2, g3, g4⟩ := gcells (Hg1.out.below hb2 hgl1)
            have Hb2 := Lib.hid (below_trans Hb1.out hb2)
            have Hg2 := Lib.hid (Hg1.out.below hb2 hgl1)
            have hgl2 := Hg2.out.lt
            clear hb2
            go_wp2_with fail
            refine (H3.out _).mono ?_
            rintro e w3 ⟨rfl, hb3⟩
            obtain ⟨g0, g1, g2, g3, g4⟩ := gcells (Hg2.out.below hb3 hgl2)
            have Hb3 := Lib.hid (below_trans Hb2.out hb3)
            have Hg3 := Lib.hid (Hg2.out.below hb3 hgl2)
            have hgl3 := Hg3.out.lt
            clear hb3
            go_wp2_with fail
            refine (H4.out _).mono ?_
            rintro e w4 ⟨rfl, hb4⟩
            obtain ⟨g0, g1, g2, g3, g4⟩ := gcells (Hg3.out.below hb4 hgl3)
            have Hb4 := Lib.hid (below_trans Hb3.out hb4)
            clear hb4
            go_wp2_with fail
            go_ret
            exact ⟨by simp, Hb4.out⟩
          have d4 : ((G : Int) != 1) = true := by rw [bne_iff_ne]; omega
          rw [decide_eq_false c4]
          clear c4
          by_cases c5 : H = 1
          · have d5 : ((H : Int) != 1) = false := by rw [bne_eq_false_iff_eq]; omega
            rw [decide_eq_true c5]
            clear c5
            go_enter Tryz.func32, Tryz.ntmps32
            go_wp2_with fail
            rw [← Hw0.out]
            go_wp2_with fail
            refine (H1.out _ Hb0.out).mono ?_
            rintro e w1 ⟨rfl, hb1⟩
            obtain ⟨g0, g1, g2, g3, g4⟩ := gcells (Hg0.out.below hb1 hgl)
            have Hb1 := Lib.hid (below_trans Hb0.out hb1)
            have Hg1 := Lib.hid (Hg0.out.below hb1 hgl)
            have hgl1 := Hg1.out.lt
            clear hb1
            go_wp2_with fail
            refine (H2.out _ Hb1.out).mono ?_
            rintro e w2 ⟨rfl, hb2⟩
            obtain ⟨g0, g1, g2, g3, g4⟩ := gcells (Hg1.out.below hb2 hgl1)
            have Hb2 := Lib.hid (below_trans Hb1.out hb2)
            have Hg2 := Lib.hid (Hg1.out.below hb2 hgl1)
            have hgl2 := Hg2.out.lt
            clear hb2
            go_wp2_with fail
            refine (H3.out _).mono ?_
            rintro e w3 ⟨rfl, hb3⟩
            obtain ⟨g0, g1, g2, g3, g4⟩ := gcells (Hg2.out.below hb3 hgl2)
            have Hb3 := Lib.hid (below_trans Hb2.out hb3)
            have Hg3 := Lib.hid (Hg2.out.below hb3 hgl2)
            have hgl3 := Hg3.out.lt
            clear hb3
            go_wp2_with fail
            refine (H4.out _).mono ?_
            rintro e w4 ⟨rfl, hb4⟩
            obtain ⟨g0, g1, g2, g3, g4⟩ := gcells (Hg3.out.below hb4 hgl3)
            have Hb4 := Lib.hid (below_trans Hb3.out hb4)
            clear hb4
            go_wp2_with fail
            go_ret
            exact ⟨by simp, Hb4.out⟩
          have d5 : ((H : Int) != 1) = true := by rw [bne_iff_ne]; omega
          rw [decide_eq_false c5]
          clear c5
          by_cases c6 : G = H
          · have d6 : ((G : Int) != (H : Int)) = false := by rw [bne_eq_false_iff_eq]; omega
            rw [decide_eq_true c6]
            clear c6
            go_enter Tryz.func32, Tryz.ntmps32
            go_wp2_with fail
            rw [← Hw0.out]
            go_wp2_with fail
            refine (H1.out _ Hb0.out).mono ?_
            rintro e w1 ⟨rfl, hb1⟩
            obtain ⟨g0, g1, g2, g3, g4⟩ := gcells (Hg0.out.below hb1 hgl)
            have Hb1 := Lib.hid (below_trans Hb0.out hb1)
            have Hg1 := Lib.hid (Hg0.out.below hb1 hgl)
            have hgl1 := Hg1.out.lt
            clear hb1
            go_wp2_with fail
            refine (H2.out _ Hb1.out).mono ?_
            rintro e w2 ⟨rfl, hb2⟩
            obtain ⟨g0, g1, g2, g3, g4⟩ := gcells (Hg1.out.below hb2 hgl1)
            have Hb2 := Lib.hid (below_trans Hb1.out hb2)
            have Hg2 := Lib.hid (Hg1.out.below hb2 hgl1)
            have hgl2 := Hg2.out.lt
            clear hb2
            go_wp2_with fail
            refine (H3.out _).mono ?_
            rintro e w3 ⟨rfl, hb3⟩
            obtain ⟨g0, g1, g2, g3, g4⟩ := gcells (Hg2.out.below hb3 hgl2)
            have Hb3 := Lib.hid (below_trans Hb2.out hb3)
            have Hg3 := Lib.hid (Hg2.out.below hb3 hgl2)
            have hgl3 := Hg3.out.lt
            clear hb3
            go_wp2_with fail
            refine (H4.out _).mono ?_
            rintro e w4 ⟨rfl, hb4⟩
            obtain ⟨g0, g1, g2, g3, g4⟩ := gcells (Hg3.out.below hb4 hgl3)
            have Hb4 := Lib.hid (below_trans Hb3.out hb4)
            clear hb4
            go_wp2_with fail
            go_ret
            exact ⟨by simp, Hb4.out⟩
          have d6 : ((G : Int) != (H : Int)) = true := by rw [bne_iff_ne]; omega
          rw [decide_eq_false c6]
          clear c6
          go_enter Tryz.func32, Tryz.ntmps32
          go_wp2_with fail
          rw [← Hw0.out]
          go_wp2_with fail
          refine (H1.out _ Hb0.out).mono ?_
          rintro e w1 ⟨rfl, hb1⟩
          obtain ⟨g0, g1, g2, g3, g4⟩ := gcells (Hg0.out.below hb1 hgl)
          have Hb1 := Lib.hid (below_trans Hb0.out hb1)
          have Hg1 := Lib.hid (Hg0.out.below hb1 hgl)
          have hgl1 := Hg1.out.lt
          clear hb1
          go_wp2_with fail
          refine (H2.out _ Hb1.out).mono ?_
          rintro e w2 ⟨rfl, hb2⟩
          obtain ⟨g0, g1, g2, g3, g4⟩ := gcells (Hg1.out.below hb2 hgl1)
          have Hb2 := Lib.hid (below_trans Hb1.out hb2)
          have Hg2 := Lib.hid (Hg1.out.below hb2 hgl1)
          have hgl2 := Hg2.out.lt
          clear hb2
          go_wp2_with fail
          refine (H3.out _).mono ?_
          rintro e w3 ⟨rfl, hb3⟩
          obtain ⟨g0, g1, g2, g3, g4⟩ := gcells (Hg2.out.below hb3 hgl2)
          have Hb3 := Lib.hid (below_trans Hb2.out hb3)
          have Hg3 := Lib.hid (Hg2.out.below hb3 hgl2)
          have hgl3 := Hg3.out.lt
          clear hb3
          go_wp2_with fail
          refine (H4.out _).mono ?_
          rintro e w4 ⟨rfl, hb4⟩
          obtain ⟨g0, g1, g2, g3, g4⟩ := gcells (Hg3.out.below hb4 hgl3)
          have Hb4 := Lib.hid (below_trans Hb3.out hb4)
          clear hb4
          go_wp2_with fail
          go_ret
          exact ⟨by simp, Hb4.out⟩
end Go.Proofs.YtinlciofhegciaaGreat

/- Which groups are asked: law05.Group; which claims are few: law06.Few. -/
namespace Go.Proofs.YtinlciofhegciaaGreat
open Go.RowKit

def groupB (P Q G H : Nat) (rs : List RowV) : Bool := (decide (rs.length ≤ 80) && rs.all fun r => decide (r.F.l.length ≤ 40)) && rightG P Q G H rs

set_option maxRecDepth 100000 in
set_option maxHeartbeats 1000000 in
theorem group_any (P Q G H : Nat) (B : Option Addr) (cap : Nat) (rs : List RowV) (w : World) (hP : P < 18446744073709551616) (hQ : Q < 18446744073709551616) (hG : G < 18446744073709551616) (hH : H < 18446744073709551616) (hR : Rows3 w B cap rs) (hl : rs.length < 9223372036854775807) (hFl : ∀ r ∈ rs, r.F.l.length < 9223372036854775807) :
    Calls Tryz.prog 8 #[gval P Q G H (.slice B rs.length cap)] w fun e w' => e = .returned (.bool (groupB P Q G H rs)) ∧ Below w.heap.size w w' := by
  have hcon := fun W hb h1 h2 => right_group P Q G H B cap rs W hP hQ hG hH (hR.below (w1 := W) hb) h1 h2
  unfold gval at hcon ⊢
  obtain ⟨nB, hnB⟩ : ∃ n, n = rs.length := ⟨_, rfl⟩
  obtain ⟨out, hout⟩ : ∃ s, s = groupB P Q G H rs := ⟨_, rfl⟩
  rw [← hnB] at hcon
  rw [← hout, ← hnB]
  rw [groupB, ← hnB] at hout
  have hl' : nB < 9223372036854775807 := by omega
  have hb0 : Below w.heap.size w (w.alloc (.cells #[.int .u64 (P : Int), .int .u64 (Q : Int), .int .u64 (G : Int), .int .u64 (H : Int), .slice B nB cap] 25)) := (Below.refl _ _).alloc (Nat.le_refl _) _
  have hg0 : Blk (w.alloc (.cells #[.int .u64 (P : Int), .int .u64 (Q : Int), .int .u64 (G : Int), .int .u64 (H : Int), .slice B nB cap] 25)) w.heap.size 25 (glist P Q G H (.slice B nB cap)) := Blk.of w _ _ _ rfl
  obtain ⟨w0, hw0⟩ : ∃ w0, w0 = (w.alloc (.cells #[.int .u64 (P : Int), .int .u64 (Q : Int), .int .u64 (G : Int), .int .u64 (H : Int), .slice B nB cap] 25)) := ⟨_, rfl⟩
  rw [← hw0] at hb0 hg0
  obtain ⟨g0, g1, g2, g3, g4⟩ := gcells hg0
  have HR := Lib.hid (hR.below hb0)
  have Hcon := Lib.hid hcon
  have HnB := Lib.hid hnB
  have Hout := Lib.hid hout
  have Hb0 := Lib.hid hb0
  have Hg0 := Lib.hid hg0
  have Hw0 := Lib.hid hw0
  have HFl := Lib.hid hFl
  have hgl := hg0.lt
  clear hcon hnB hout hR hFl hl hb0 hg0 hw0
  by_cases h80 : 80 < nB
  · have d0 : decide ((80 : Int) < (nB : Int)) = true := decide_eq_true (by omega)
    have ho : out = false := by rw [Hout.out, decide_eq_false (show ¬ nB ≤ 80 by omega)]; simp
    subst ho
    go_enter Tryz.func8, Tryz.ntmps8
    go_wp2_with fail
    go_ret
    exact ⟨rfl, by rw [← Hw0.out]; exact Hb0.out⟩
  have d0 : decide ((80 : Int) < (nB : Int)) = false := decide_eq_false (by omega)
  have hout2 : out = ((rs.all fun r => decide (r.F.l.length ≤ 40)) && rightG P Q G H rs) := by rw [Hout.out, decide_eq_true (show nB ≤ 80 by omega)]; simp
  have Hout2 := Lib.hid hout2
  clear hout2 Hout
  go_enter Tryz.func8, Tryz.ntmps8
  go_wp2_with fail
  rw [← Hw0.out]
  go_wp2_with fail
  clear g0 g1 g2 g3 g4
  go_loopw [12] (fun iv wr => ∃ k : Nat, iv = .int .i64 (k : Int) ∧ k ≤ nB ∧ ((rs.take k).all fun r => decide (r.F.l.length ≤ 40)) = true ∧ Below w0.heap.size w0 wr) (fun iv _ => nB - (intOf iv).toNat)
  case atStart => exact ⟨0, rfl, by omega, by simp, Below.refl _ _⟩
  case round =>
    obtain ⟨k, rfl, hk, hup, hbr⟩ := hrel
    have Hup := Lib.hid hup
    have Hbr := Lib.hid hbr
    clear hup hbr
    by_cases hkl : k < nB
    · have d1 : decide ((k : Int) < (nB : Int)) = true := decide_eq_true (by omega)
      have hki : (k : Int) < (nB : Int) := by omega
      obtain ⟨r, hr⟩ : ∃ r, rs[k]? = some r := ⟨_, List.getElem?_eq_getElem (by rw [← HnB.out]; omega)⟩
      obtain ⟨b, hb, h0, h1, h2⟩ := HR.out.cells k r hr
      subst hb
      have h0 := below_cell Hbr.out h0
      have h1 := below_cell Hbr.out h1
      have h2 := below_cell Hbr.out h2
      have hmem := List.mem_of_getElem? hr
      have hfl := HFl.out r hmem
      rw [NumV.val] at h2
      obtain ⟨nF, hnF⟩ : ∃ n, n = r.F.l.length := ⟨_, rfl⟩
      rw [← hnF] at h2 hfl
      obtain ⟨N, hN⟩ : ∃ n, n = r.N := ⟨_, rfl⟩
      obtain ⟨A, hA⟩ : ∃ n, n = r.A := ⟨_, rfl⟩
      rw [← hN] at h0
      rw [← hA] at h1
      have hba := Lib.hid (Hbr.out.alloc Hbr.out.size (.cells #[.int .u64 (N : Int), .int .u64 (A : Int), .slice r.F.A nF r.F.cap] 70))
      by_cases h40 : 40 < nF
      · have d2 : decide ((40 : Int) < (nF : Int)) = true := decide_eq_true (by omega)
        have ho : out = false := by
          rw [Hout2.out, show (rs.all fun r => decide (r.F.l.length ≤ 40)) = false from List.all_eq_false.2 ⟨r, hmem, by simp; omega⟩]; rfl
        subst ho
        clear hr hmem hnF hN hA h40
        go_wp2_with fail
        go_ret
        exact ⟨rfl, below_trans Hb0.out hba.out⟩
      · have d2 : decide ((40 : Int) < (nF : Int)) = false := decide_eq_false (by omega)
        have hnx : ((rs.take (k + 1)).all fun r => decide (r.F.l.length ≤ 40)) = true := by
          rw [List.take_add_one, hr, List.all_append, Hup.out]; simp; omega
        have Hnx := Lib.hid hnx
        clear hr hmem hnF hN hA h40 hnx
        go_wp2_with fail
        go_roundw
        case rel => exact ⟨k + 1, by go_num, by omega, Hnx.out, hba.out⟩
        case measure => simp [intOf]; omega
    · have d1 : decide ((k : Int) < (nB : Int)) = false := decide_eq_false (by omega)
      have hall : (rs.all fun r => decide (r.F.l.length ≤ 40)) = true := by
        have := Hup.out
        rwa [List.take_of_length_le (by rw [← HnB.out]; omega)] at this
      have ho : out = rightG P Q G H rs := by rw [Hout2.out, hall]; rfl
      have hc := Hcon.out wr (below_trans Hb0.out Hbr.out) (by omega) (fun r hr => by have := List.all_eq_true.1 hall r hr; simp at this; omega)
      rw [← ho] at hc
      have Hc := Lib.hid hc
      obtain ⟨g0, g1, g2, g3, g4⟩ := gcells (Hg0.out.below Hbr.out hgl)
      clear hall ho hc
      go_wp2_with (go_at_call 32; refine Hc.out.mono ?_; rintro e w2 ⟨rfl, hb2⟩; have Hb2 := Lib.hid hb2; clear hb2)
      go_ret
      exact ⟨rfl, below_trans Hb0.out (below_trans Hbr.out Hb2.out)⟩

def fewC (T : List Nat) (rs ls : List NumV) : Bool := (decide (T.length ≤ 20) && decide (rs.length ≤ 20) && (rs.all fun r => decide (r.l.length ≤ 20))) && (ls.all fun r => decide (r.l.length ≤ 80))
theorem fewC_yes {T : List Nat} {rs ls : List NumV} (h : fewC T rs ls = true) : T.length ≤ 20 ∧ rs.length ≤ 20 ∧ (∀ r ∈ rs, r.l.length ≤ 20) ∧ (∀ r ∈ ls, r.l.length ≤ 80) := by
  unfold fewC at h
  simp only [Bool.and_eq_true, decide_eq_true_eq, List.all_eq_true] at h
  exact ⟨h.1.1.1, h.1.1.2, h.1.2, h.2⟩

set_option maxRecDepth 100000 in
set_option maxHeartbeats 1000000 in
theorem few_claim (A : Option Addr) (capT : Nat) (T : List Nat) (B : Option Addr) (capB : Nat) (rs : List NumV) (D : Option Addr) (capD : Nat) (ls : List NumV) (w : World) (hR : Grid w B capB rs) (hL : Grid w D capD ls)
    (hTl : T.length < 9223372036854775807) (hRl : rs.length < 9223372036854775807) (hLl : ls.length < 9223372036854775807) (hrl : ∀ r ∈ rs, r.l.length < 9223372036854775807) (hll : ∀ r ∈ ls, r.l.length < 9223372036854775807) :
    Calls Tryz.prog 9 #[cval A capT T.length B capB rs.length, .slice D ls.length capD] w fun e w' => e = .returned (.bool (fewC T rs ls)) ∧ Below w.heap.size w w' := by
  unfold cval
  obtain ⟨nT, hnT⟩ : ∃ n, n = T.length := ⟨_, rfl⟩
  obtain ⟨nB, hnB⟩ : ∃ n, n = rs.length := ⟨_, rfl⟩
  obtain ⟨nD, hnD⟩ : ∃ n, n = ls.length := ⟨_, rfl⟩
  obtain ⟨out, hout⟩ : ∃ s, s = fewC T rs ls := ⟨_, rfl⟩
  rw [← hout, ← hnT, ← hnB, ← hnD]
  rw [fewC, ← hnT, ← hnB] at hout
  have hb0 : Below w.heap.size w (w.alloc (.cells #[.slice A nT capT, .slice B nB capB] 29)) := (Below.refl _ _).alloc (Nat.le_refl _) _
  have hc0 : Blk (w.alloc (.cells #[.slice A nT capT, .slice B nB capB] 29)) w.heap.size 29 [.slice A nT capT, .slice B nB capB] := Blk.of w _ _ _ rfl
  obtain ⟨w0, hw0⟩ : ∃ w0, w0 = (w.alloc (.cells #[.slice A nT capT, .slice B nB capB] 29)) := ⟨_, rfl⟩
  rw [← hw0] at hb0 hc0
  obtain ⟨f0, f1⟩ := two_cells hc0
  have HR := Lib.hid (hR.below hb0)
  have HL := Lib.hid (hL.below hb0)
  have HnB := Lib.hid hnB
  have HnD := Lib.hid hnD
  have Hout := Lib.hid hout
  have Hb0 := Lib.hid hb0
  have Hw0 := Lib.hid hw0
  have Hrl := Lib.hid hrl
  have Hll := Lib.hid hll
  have h1' : nT < 9223372036854775807 := by omega
  have h2' : nB < 9223372036854775807 := by omega
  have h3' : nD < 9223372036854775807 := by omega
  clear hnT hnB hnD hout hR hL hb0 hc0 hw0 hrl hll hTl hRl hLl
  by_cases c1 : 20 < nT
  · have d1 : decide ((20 : Int) < (nT : Int)) = true := decide_eq_true (by omega)
    have ho : out = false := by rw [Hout.out, decide_eq_false (show ¬ nT ≤ 20 by omega)]; simp
    subst ho
    go_enter Tryz.func9, Tryz.ntmps9
    go_wp2_with fail
    go_ret
    exact ⟨rfl, by rw [← Hw0.out]; exact Hb0.out⟩
  have d1 : decide ((20 : Int) < (nT : Int)) = false := decide_eq_false (by omega)
  by_cases c2 : 20 < nB
  · have d2 : decide ((20 : Int) < (nB : Int)) = true := decide_eq_true (by omega)
    have ho : out = false := by rw [Hout.out, decide_eq_false (show ¬ nB ≤ 20 by omega)]; simp
    subst ho
    go_enter Tryz.func9, Tryz.ntmps9
    go_wp2_with fail
    go_ret
    exact ⟨rfl, by rw [← Hw0.out]; exact Hb0.out⟩
  have d2 : decide ((20 : Int) < (nB : Int)) = false := decide_eq_false (by omega)
  have hout2 : out = ((rs.all fun r => decide (r.l.length ≤ 20)) && (ls.all fun r => decide (r.l.length ≤ 80))) := by rw [Hout.out, decide_eq_true (show nT ≤ 20 by omega), decide_eq_true (show nB ≤ 20 by omega)]; simp
  have Hout2 := Lib.hid hout2
  clear hout2 Hout
  go_enter Tryz.func9, Tryz.ntmps9
  go_wp2_with fail
  rw [← Hw0.out]
  go_wp2_with fail
  go_loop [22] (fun iv => ∃ k : Nat, iv = .int .i64 (k : Int) ∧ k ≤ nB ∧ ((rs.take k).all fun r => decide (r.l.length ≤ 20)) = true) (fun iv => nB - (intOf iv).toNat)
  case atStart => exact ⟨0, rfl, by omega, by simp⟩
  case round =>
    obtain ⟨k, rfl, hk, hup⟩ := hrel
    have Hup := Lib.hid hup
    clear hup
    by_cases hkl : k < nB
    · have d3 : decide ((k : Int) < (nB : Int)) = true := decide_eq_true (by omega)
      have hki : (k : Int) < (nB : Int) := by omega
      obtain ⟨r, hr⟩ : ∃ r, rs[k]? = some r := ⟨_, List.getElem?_eq_getElem (by rw [← HnB.out]; omega)⟩
      obtain ⟨b, hb, h0⟩ := HR.out.cells k r hr
      subst hb
      have hmem := List.mem_of_getElem? hr
      have hfl := Hrl.out r hmem
      rw [NumV.val] at h0
      obtain ⟨nF, hnF⟩ : ∃ n, n = r.l.length := ⟨_, rfl⟩
      rw [← hnF] at h0 hfl
      by_cases h40 : 20 < nF
      · have d4 : decide ((20 : Int) < (nF : Int)) = true := decide_eq_true (by omega)
        have ho : out = false := by
          rw [Hout2.out, show (rs.all fun r => decide (r.l.length ≤ 20)) = false from List.all_eq_false.2 ⟨r, hmem, by simp; omega⟩]; rfl
        subst ho
        clear hr hmem hnF h40
        go_wp2_with fail
        go_ret
        exact ⟨rfl, Hb0.out⟩
      · have d4 : decide ((20 : Int) < (nF : Int)) = false := decide_eq_false (by omega)
        have hnx : ((rs.take (k + 1)).all fun r => decide (r.l.length ≤ 20)) = true := by
          rw [List.take_add_one, hr, List.all_append, Hup.out]; simp; omega
        have Hnx := Lib.hid hnx
        clear hr hmem hnF h40 hnx
        go_wp2_with fail
        go_round
        case rel => exact ⟨k + 1, by go_num, by omega, Hnx.out⟩
        case measure => simp [intOf]; omega
    · have d3 : decide ((k : Int) < (nB : Int)) = false := decide_eq_false (by omega)
      have hall : (rs.all fun r => decide (r.l.length ≤ 20)) = true := by
        have := Hup.out
        rwa [List.take_of_length_le (by rw [← HnB.out]; omega)] at this
      have hout3 : out = (ls.all fun r => decide (r.l.length ≤ 80)) := by rw [Hout2.out, hall]; rfl
      have Hout3 := Lib.hid hout3
      clear hall hout3
      go_wp2_with fail
      go_loop [32] (fun iv => ∃ k : Nat, iv = .int .i64 (k : Int) ∧ k ≤ nD ∧ ((ls.take k).all fun r => decide (r.l.length ≤ 80)) = true) (fun iv => nD - (intOf iv).toNat)
      case atStart => exact ⟨0, rfl, by omega, by simp⟩
      case round =>
        obtain ⟨m, rfl, hm, hup2⟩ := hrel
        have Hup2 := Lib.hid hup2
        clear hup2
        by_cases hml : m < nD
        · have d5 : decide ((m : Int) < (nD : Int)) = true := decide_eq_true (by omega)
          have hki : (m : Int) < (nD : Int) := by omega
          obtain ⟨r, hr⟩ : ∃ r, ls[m]? = some r := ⟨_, List.getElem?_eq_getElem (by rw [← HnD.out]; omega)⟩
          obtain ⟨b, hb, h0⟩ := HL.out.cells m r hr
          subst hb
          have hmem := List.mem_of_getElem? hr
          have hfl := Hll.out r hmem
          rw [NumV.val] at h0
          obtain ⟨nF, hnF⟩ : ∃ n, n = r.l.length := ⟨_, rfl⟩
          rw [← hnF] at h0 hfl
          by_cases h40 : 80 < nF
          · have d6 : decide ((80 : Int) < (nF : Int)) = true := decide_eq_true (by omega)
            have ho : out = false := by
              rw [Hout3.out]; exact List.all_eq_false.2 ⟨r, hmem, by simp; omega⟩
            subst ho
            clear hr hmem hnF h40
            go_wp2_with fail
            go_ret
            exact ⟨rfl, Hb0.out⟩
          · have d6 : decide ((80 : Int) < (nF : Int)) = false := decide_eq_false (by omega)
            have hnx : ((ls.take (m + 1)).all fun r => decide (r.l.length ≤ 80)) = true := by
              rw [List.take_add_one, hr, List.all_append, Hup2.out]; simp; omega
            have Hnx := Lib.hid hnx
            clear hr hmem hnF h40 hnx
            go_wp2_with fail
            go_round
            case rel => exact ⟨m + 1, by go_num, by omega, Hnx.out⟩
            case measure => simp [intOf]; omega
        · have d5 : decide ((m : Int) < (nD : Int)) = false := decide_eq_false (by omega)
          have ho : out = true := by
            have := Hup2.out
            rw [List.take_of_length_le (by rw [← HnD.out]; omega)] at this
            rw [Hout3.out, this]
          subst ho
          go_wp2_with fail
          go_ret
          exact ⟨rfl, Hb0.out⟩
end Go.Proofs.YtinlciofhegciaaGreat

/- What is proved of a claim that holds is accepted: plain. -/
namespace Go.Proofs.YtinlciofhegciaaGreat
open Go.RowKit

theorem mm {a b c d P : Nat} (h1 : a % P = b % P) (h2 : c % P = d % P) : (a * c) % P = (b * d) % P := by rw [Nat.mul_mod a, Nat.mul_mod b, h1, h2]
theorem mp {a b P : Nat} (h : a % P = b % P) (n : Nat) : a ^ n % P = b ^ n % P := by rw [Nat.pow_mod a, Nat.pow_mod b, h]
theorem mod2 (a P : Nat) : a % P % P = a % P := Nat.mod_mod a P
/-- An exponent counts modulo the order. -/
theorem pow_red {b Q P : Nat} (hb : b ^ Q % P = 1 % P) (a : Nat) : b ^ a % P = b ^ (a % Q) % P := by
  conv => lhs; rw [← Nat.div_add_mod a Q, Nat.pow_add, Nat.pow_mul]
  have h1 : (b ^ Q) ^ (a / Q) % P = 1 % P := by rw [mp hb, Nat.one_pow]
  have := mm h1 (rfl : b ^ (a % Q) % P = b ^ (a % Q) % P)
  rwa [Nat.one_mul] at this
theorem pow_same {b Q P a c : Nat} (hb : b ^ Q % P = 1 % P) (h : a % Q = c % Q) : b ^ a % P = b ^ c % P := by rw [pow_red hb a, pow_red hb c, h]
theorem pow_ord {b Q P : Nat} (hb : b ^ Q % P = 1 % P) (n : Nat) : (b ^ n) ^ Q % P = 1 % P := by
  rw [← Nat.pow_mul, Nat.mul_comm, Nat.pow_mul, mp hb, Nat.one_pow]
theorem expG_mod {P Q b e : Nat} (hr : rightB P = true) : expG P Q b e % P = b ^ (e % Q) % P := by rw [expG, powM_yes hr, mod2]
theorem ans_exp {P Q b d w E : Nat} (hq : rightB Q = true) (hb : b ^ Q % P = 1 % P) : b ^ (addM d (mulM E w Q) Q % Q) % P = (b ^ (d % Q) * (b ^ (w % Q)) ^ E) % P := by
  rw [← Nat.pow_mul, ← Nat.pow_add]
  apply pow_same hb
  rw [addM_yes hq, mulM_yes hq]
  have h1 : (E * w) % Q % Q = (w % Q * E) % Q := by rw [mod2, Nat.mul_comm E w]; exact mm (mod2 w Q).symm rfl
  have h2 : d % Q = d % Q % Q := (mod2 d Q).symm
  rw [mod2, mod2, Nat.add_mod d, Nat.add_mod (d % Q) (w % Q * E), ← h2, h1]
/-- A row's image of the answers is the image of the draws times a power of the image of the exponents. -/
theorem img_hom {P Q E : Nat} (hr : rightB P = true) (hq : rightB Q = true) : ∀ (row D V : List Nat), (∀ b ∈ row, b ^ Q % P = 1 % P) → V.length = D.length → ∀ (x y v : Nat), x % P = (y * v ^ E) % P →
    (row.zip (ansL Q E V D)).foldl (imgStep P Q) x % P = ((row.zip D).foldl (imgStep P Q) y * ((row.zip V).foldl (imgStep P Q) v) ^ E) % P
  | [], D, V, _, _, x, y, v, h => by simpa using h
  | b :: row, [], [], _, _, x, y, v, h => by simpa [ansL] using h
  | b :: row, d :: D, [], _, hl, _, _, _, _ => by simp at hl
  | b :: row, [], w :: V, _, hl, _, _, _, _ => by simp at hl
  | b :: row, d :: D, w :: V, hb, hl, x, y, v, h => by
    have hb0 := hb b (by simp)
    show (((row.zip (ansL Q E V D)).foldl (imgStep P Q) (mulM x (expG P Q b (addM d (mulM E w Q) Q)) P)) % P) = _
    show _ = (((row.zip D).foldl (imgStep P Q) (mulM y (expG P Q b d) P)) * ((row.zip V).foldl (imgStep P Q) (mulM v (expG P Q b w) P)) ^ E) % P
    refine img_hom hr hq row D V (fun c hc => hb c (List.mem_cons_of_mem _ hc)) (by simpa using hl) _ _ _ ?_
    rw [mulM_yes hr, mulM_yes hr, mulM_yes hr, mod2]
    have e1 : (x * expG P Q b (addM d (mulM E w Q) Q)) % P = ((y * v ^ E) * (b ^ (d % Q) * (b ^ (w % Q)) ^ E)) % P := mm h (by rw [expG_mod hr, ans_exp hq hb0])
    rw [e1]
    have e2 : (y * expG P Q b d % P * (v * expG P Q b w % P) ^ E) % P = (y * b ^ (d % Q) * (v * b ^ (w % Q)) ^ E) % P := by
      refine mm ?_ (mp ?_ E)
      · rw [mod2]; exact mm rfl (expG_mod hr)
      · rw [mod2]; exact mm rfl (expG_mod hr)
    rw [e2, Nat.mul_pow]
    congr 1
    simp only [Nat.mul_assoc, Nat.mul_comm, Nat.mul_left_comm]
/-- A row's image is an element. -/
theorem img_ord {P Q : Nat} (hr : rightB P = true) : ∀ (row V : List Nat), (∀ b ∈ row, b ^ Q % P = 1 % P) → ∀ (x : Nat), x ^ Q % P = 1 % P → ((row.zip V).foldl (imgStep P Q) x) ^ Q % P = 1 % P
  | [], _, _, x, h => by simpa using h
  | b :: row, [], _, x, h => by simpa using h
  | b :: row, w :: V, hb, x, h => by
    show ((row.zip V).foldl (imgStep P Q) (mulM x (expG P Q b w) P)) ^ Q % P = _
    refine img_ord hr row V (fun c hc => hb c (List.mem_cons_of_mem _ hc)) _ ?_
    rw [mulM_yes hr, mp (mod2 _ P), Nat.mul_pow]
    have := mm h (show (expG P Q b w) ^ Q % P = 1 % P by rw [mp (expG_mod hr), pow_ord (hb b (by simp))])
    rwa [Nat.mul_one] at this
theorem img_lt {P Q : Nat} (hr : rightB P = true) : ∀ (row V : List Nat) (x : Nat), x < P → (row.zip V).foldl (imgStep P Q) x < P
  | [], _, x, h => by simpa using h
  | b :: row, [], x, h => by simpa using h
  | b :: row, w :: V, x, h => img_lt hr row V _ (mulM_lt_P hr)
theorem inG_of {P Q x : Nat} (hr : rightB P = true) (hq : 0 < Q) (h : x ^ Q % P = 1 % P) (hx : x < P) : inG P Q x = true := by
  have hm := rightB_yes hr
  have h1 : 1 % P = 1 := Nat.mod_eq_of_lt (by omega)
  unfold inG
  rw [powM_yes hr, h, h1]
  have h0 : 0 < x := by
    rcases Nat.eq_zero_or_pos x with h0 | h0
    · rw [h0, Nat.zero_pow hq, Nat.zero_mod, h1] at h; cases h
    · exact h0
  simp [h0, hx]
theorem inG_pow {P Q x : Nat} (hr : rightB P = true) (h : inG P Q x = true) : x ^ Q % P = 1 % P ∧ x < P ∧ 0 < x := by
  have hm := rightB_yes hr
  unfold inG at h
  rw [powM_yes hr] at h
  simp only [Bool.and_eq_true, decide_eq_true_eq] at h
  exact ⟨by rw [h.2, Nat.mod_eq_of_lt (by omega)], h.1.2, h.1.1⟩
theorem outs_no {P Q : Nat} {r : List Nat} (h : outs P Q r = false) : ∀ b ∈ r, inG P Q b = true := by
  intro b hb
  unfold outs at h
  have := List.any_eq_false.1 h b hb
  simpa using this

/-- The claim that holds for V: what is proved of it is accepted. -/
theorem made_accepted {label : List UInt8} {P Q G H : Nat} {T : List Nat} {rs : List NumV} {V D t z : List Nat} (hr : rightB P = true) (hq : rightB Q = true)
    (hp : proveO label P Q G H T (rs.map (·.l)) V D = some (t, z)) (hh : holdsO T (imgO P Q T (rs.map (·.l)) V) = true) : acceptB label P Q G H T (rs.map (·.l)) t z = true := by
  have hq2 := rightB_yes hq
  have hP2 := rightB_yes hr
  unfold proveO at hp
  cases hi : imgO P Q T (rs.map (·.l)) D with
  | none => rw [hi] at hp; cases hp
  | some t' =>
    rw [hi] at hp
    cases ha : ansO Q (chal label P Q G H T (rs.map (·.l)) t') V D with
    | none => simp only [ha] at hp; cases hp
    | some z' =>
      simp only [ha, Option.some.injEq, Prod.mk.injEq] at hp
      obtain ⟨rfl, rfl⟩ := hp
      obtain ⟨E, hE⟩ : ∃ E, E = chal label P Q G H T (rs.map (·.l)) t' := ⟨_, rfl⟩
      rw [← hE] at ha
      -- the lengths
      have hlen : V.length = D.length ∧ z' = ansL Q E V D := by
        unfold ansO at ha
        split at ha
        · cases ha
        · rename_i h; injection ha with ha; exact ⟨Decidable.byContradiction h, ha.symm⟩
      obtain ⟨hvd, rfl⟩ := hlen
      cases hv : imgO P Q T (rs.map (·.l)) V with
      | none => rw [hv] at hh; simp [holdsO] at hh
      | some T' =>
        rw [hv] at hh
        have hT : T' = T := by simpa [holdsO] using hh
        subst hT
        obtain ⟨s, hs⟩ : ∃ s, s = sizeC P Q T' (rs.map (·.l)) := ⟨_, rfl⟩
        have hsD : ¬(sizeC P Q T' (rs.map (·.l)) = 0 ∨ D.length ≠ sizeC P Q T' (rs.map (·.l))) := fun h => by rw [imgO_none h] at hi; cases hi
        rw [imgO_some hsD] at hi
        injection hi with hi
        have hsV : ¬(sizeC P Q T' (rs.map (·.l)) = 0 ∨ V.length ≠ sizeC P Q T' (rs.map (·.l))) := fun h => by rw [imgO_none h] at hv; cases hv
        rw [imgO_some hsV] at hv
        injection hv with hv
        have hzl : (ansL Q E V D).length = V.length := by rw [ansL, List.length_map, List.length_zip]; omega
        have hsz : ¬(sizeC P Q T' (rs.map (·.l)) = 0 ∨ (ansL Q E V D).length ≠ sizeC P Q T' (rs.map (·.l))) := by rw [hzl]; exact hsV
        have hs0 : s ≠ 0 := by rw [hs]; exact fun h => hsD (.inl h)
        obtain ⟨hrT, _, _, _, hrow⟩ := sizeC_pos hs hs0
        unfold acceptB
        rw [imgO_some hsz, ← hE]
        have htl : t'.length = T'.length := by rw [← hi, List.length_map, List.length_map]; exact hrT
        simp only [htl, decide_true, Bool.true_and]
        unfold accUpto
        rw [List.all_eq_true]
        intro j hj
        have hj := List.mem_range.1 hj
        obtain ⟨r, hr'⟩ : ∃ r, rs[j]? = some r := ⟨_, List.getElem?_eq_getElem (by omega)⟩
        have hin := outs_no (hrow r (List.mem_of_getElem? hr')).2
        have hbq : ∀ b ∈ r.l, b ^ Q % P = 1 % P := fun b hb => (inG_pow hr (hin b hb)).1
        have e1 : ((rs.map (·.l)).map (imgRow P Q (ansL Q E V D))).getD j 0 = imgRow P Q (ansL Q E V D) r.l := by simp [List.getD, hr']
        have e2 : T'.getD j 0 = imgRow P Q V r.l := by rw [← hv]; simp [List.getD, hr']
        have e3 : t'.getD j 0 = imgRow P Q D r.l := by rw [← hi]; simp [List.getD, hr']
        rw [e1, e2, e3]
        have h1 : (1 : Nat) ^ Q % P = 1 % P := by rw [Nat.one_pow]
        have hD : inG P Q (imgRow P Q D r.l) = true := inG_of hr (by omega) (img_ord hr r.l D hbq 1 h1) (img_lt hr r.l D 1 (by omega))
        have hVo : (imgRow P Q V r.l) ^ Q % P = 1 % P := img_ord hr r.l V hbq 1 h1
        have hz := img_hom (E := E) hr hq r.l D V hbq hvd 1 1 1 (by simp)
        unfold accAt
        rw [hD, Bool.true_and]
        refine decide_eq_true ?_
        rw [mulM_yes hr]
        have h2 : imgRow P Q (ansL Q E V D) r.l < P := img_lt hr r.l _ 1 (by omega)
        rw [← Nat.mod_eq_of_lt h2]
        refine Eq.trans hz (mm rfl ?_)
        rw [expG_mod hr, ← pow_red hVo]
        rfl
theorem ans_bound {Q E : Nat} {V D z : List Nat} (h : ansO Q E V D = some z) : (∀ x ∈ z, x < 18446744073709551616) ∧ z.length = D.length := by
  unfold ansO at h
  split at h
  · cases h
  · rename_i hl
    injection h with h
    subst h
    refine ⟨fun x hx => ?_, by rw [ansL, List.length_map, List.length_zip]; omega⟩
    obtain ⟨p, _, rfl⟩ := List.mem_map.1 hx
    have := addM_lt p.2 (mulM E p.1 Q) Q
    omega
theorem proved_bounds {label : List UInt8} {P Q G H : Nat} {T : List Nat} {rs : List NumV} {V D t z : List Nat} (hp : proveO label P Q G H T (rs.map (·.l)) V D = some (t, z)) :
    (∀ x ∈ t, x < 18446744073709551616) ∧ (∀ x ∈ z, x < 18446744073709551616) ∧ t.length ≤ 10000 ∧ z.length ≤ 10000 := by
  unfold proveO at hp
  cases hi : imgO P Q T (rs.map (·.l)) D with
  | none => rw [hi] at hp; cases hp
  | some t' =>
    rw [hi] at hp
    cases ha : ansO Q (chal label P Q G H T (rs.map (·.l)) t') V D with
    | none => simp only [ha] at hp; cases hp
    | some z' =>
      simp only [ha, Option.some.injEq, Prod.mk.injEq] at hp
      obtain ⟨rfl, rfl⟩ := hp
      obtain ⟨h1, _, h3⟩ := img_bound hi
      obtain ⟨h4, h5⟩ := ans_bound ha
      refine ⟨h1, h4, by omega, ?_⟩
      have hsD : ¬(sizeC P Q T (rs.map (·.l)) = 0 ∨ D.length ≠ sizeC P Q T (rs.map (·.l))) := fun h => by rw [imgO_none h] at hi; cases hi
      obtain ⟨s, hs⟩ : ∃ s, s = sizeC P Q T (rs.map (·.l)) := ⟨_, rfl⟩
      obtain ⟨_, _, _, h6, _⟩ := sizeC_pos hs (by omega)
      omega
theorem group_yes {P Q G H : Nat} {rs : List RowV} (h : groupB P Q G H rs = true) : 5 ≤ Q ∧ Q < 2305843009213693952 ∧ P = 2 * Q + 1 ∧ rightB P = true ∧ rightB Q = true := by
  unfold groupB rightG at h
  simp only [Bool.and_eq_true, decide_eq_true_eq] at h
  obtain ⟨_, ⟨⟨h1, h2⟩, h3⟩, _⟩ := h
  exact ⟨h1, h2, h3, by simp [rightB]; omega, by simp [rightB]; omega⟩
end Go.Proofs.YtinlciofhegciaaGreat

/- Claims of keys and of shares: both walks. -/
namespace Go.Proofs.YtinlciofhegciaaGreat
open Go.RowKit

/-- A claim that is handed back. -/
def OutClaim (T : List Nat) (L : List (List Nat)) (e : Ending) (w' : World) : Prop :=
  ∃ A cT B cB rs, e = .returned (cval A cT T.length B cB rs.length) ∧ Nums w' A cT T ∧ Grid w' B cB rs ∧ rs.map (·.l) = L
theorem Blk.at_new (w : World) (n : Nat) (T : TypeId) (cs : Array Value) (l : List Value) (h : n = w.heap.size) (hl : cs.toList = l) : Blk (w.alloc (.cells cs T)) n T l := by subst h; exact Blk.of w T cs l hl
theorem blk_add (b i : Nat) : (⟨b, 0, none⟩ : Addr).add i = ⟨b, i, none⟩ := by unfold Addr.add; split <;> simp_all
theorem Nums.of_blk {w : World} {b : Nat} {T : TypeId} {l : List Nat} (h : Blk w b T (l.map fun (x : Nat) => .int .u64 (x : Int))) (hs : ∀ x ∈ l, x < 18446744073709551616) : Nums w (some ⟨b, 0, none⟩) l.length l :=
  ⟨Nat.le_refl _, fun i x hx => ⟨_, rfl, by rw [blk_add, h.cell, List.getElem?_map, hx]; rfl⟩, hs⟩
theorem Grid.of_blk {w : World} {b : Nat} {T : TypeId} {rs : List NumV} (h : Blk w b T (rs.map NumV.val)) (hn : ∀ r ∈ rs, Nums w r.A r.cap r.l) : Grid w (some ⟨b, 0, none⟩) rs.length rs :=
  ⟨Nat.le_refl _, fun i r hr => ⟨_, rfl, by rw [blk_add, h.cell, List.getElem?_map, hr]; rfl⟩, hn⟩

set_option maxRecDepth 100000 in
set_option maxHeartbeats 1000000 in
theorem keeps_any (P Q G H x : Nat) (R : Value) (w : World) (hG : G < 18446744073709551616) (hx : x < 18446744073709551616) :
    Calls Tryz.prog 18 #[gval P Q G H R, .int .u64 (x : Int)] w fun e w' => OutClaim [x] [[G]] e w' ∧ Below w.heap.size w w' := by
  unfold gval
  go_enter Tryz.func18, Tryz.ntmps18
  go_wp2_with fail
  obtain ⟨w1, hw1⟩ : ∃ w1, w1 = w.alloc (.cells #[.int .u64 (P : Int), .int .u64 (Q : Int), .int .u64 (G : Int), .int .u64 (H : Int), R] 25) := ⟨_, rfl⟩
  rw [← hw1]
  have hs1 : w1.heap.size = w.heap.size + 1 := by rw [hw1]; simp
  have hb1 : Below w.heap.size w w1 := by rw [hw1]; exact (Below.refl _ _).alloc (Nat.le_refl _) _
  obtain ⟨w2, hw2⟩ : ∃ w2, w2 = w1.alloc (.cells #[.slice (some ⟨w.heap.size + 1 + 1, 0, none⟩) 1 1, .slice (some ⟨w.heap.size + 1 + 1 + 1 + 1, 0, none⟩) 1 1] 29) := ⟨_, rfl⟩
  rw [← hw2]
  have hs2 : w2.heap.size = w.heap.size + 1 + 1 := by rw [hw2]; simp [hs1]
  have hb2 : Below w.heap.size w w2 := by rw [hw2]; exact hb1.alloc (by omega) _
  have hk2 : Blk w2 (w.heap.size + 1) 29 [.slice (some ⟨w.heap.size + 1 + 1, 0, none⟩) 1 1, .slice (some ⟨w.heap.size + 1 + 1 + 1 + 1, 0, none⟩) 1 1] := by rw [hw2]; exact Blk.at_new _ _ _ _ _ hs1.symm rfl
  obtain ⟨w3, hw3⟩ : ∃ w3, w3 = w2.alloc (.cells #[.int .u64 (x : Int)] 22) := ⟨_, rfl⟩
  rw [← hw3]
  have l3 : ∀ {b : Nat} {T : TypeId} {cs : List Value}, Blk w2 b T cs → Blk w3 b T cs := fun h => by rw [hw3]; exact h.alloc _
  have hs3 : w3.heap.size = w.heap.size + 1 + 1 + 1 := by rw [hw3]; simp [hs2]
  have hb3 : Below w.heap.size w w3 := by rw [hw3]; exact hb2.alloc (by omega) _
  have hk3 : Blk w3 (w.heap.size + 1 + 1) 22 ([x].map fun (x : Nat) => .int .u64 (x : Int)) := by rw [hw3]; exact Blk.at_new _ _ _ _ _ hs2.symm rfl
  have hk23 := l3 hk2
  obtain ⟨w4, hw4⟩ : ∃ w4, w4 = w3.alloc (.cells #[.int .u64 (G : Int)] 22) := ⟨_, rfl⟩
  rw [← hw4]
  have l4 : ∀ {b : Nat} {T : TypeId} {cs : List Value}, Blk w3 b T cs → Blk w4 b T cs := fun h => by rw [hw4]; exact h.alloc _
  have hs4 : w4.heap.size = w.heap.size + 1 + 1 + 1 + 1 := by rw [hw4]; simp [hs3]
  have hb4 : Below w.heap.size w w4 := by rw [hw4]; exact hb3.alloc (by omega) _
  have hk4 : Blk w4 (w.heap.size + 1 + 1 + 1) 22 ([G].map fun (x : Nat) => .int .u64 (x : Int)) := by rw [hw4]; exact Blk.at_new _ _ _ _ _ hs3.symm rfl
  have hk34 := l4 hk3
  have hk24 := l4 hk23
  obtain ⟨w5, hw5⟩ : ∃ w5, w5 = w4.alloc (.cells #[.slice (some ⟨w.heap.size + 1 + 1 + 1, 0, none⟩) 1 1] 26) := ⟨_, rfl⟩
  rw [← hw5]
  have l5 : ∀ {b : Nat} {T : TypeId} {cs : List Value}, Blk w4 b T cs → Blk w5 b T cs := fun h => by rw [hw5]; exact h.alloc _
  have hb5 : Below w.heap.size w w5 := by rw [hw5]; exact hb4.alloc (by omega) _
  have hk5 : Blk w5 (w.heap.size + 1 + 1 + 1 + 1) 26 ([⟨some ⟨w.heap.size + 1 + 1 + 1, 0, none⟩, 1, [G]⟩].map NumV.val) := by rw [hw5]; exact Blk.at_new _ _ _ _ _ hs4.symm rfl
  have hk45 := l5 hk4
  have hk35 := l5 hk34
  have hk25 := l5 hk24
  obtain ⟨k0, k1⟩ := two_cells hk25
  have hN := Nums.of_blk hk35 (by simp [hx])
  have hN2 := Nums.of_blk hk45 (by simp [hG])
  have hGr := Grid.of_blk hk5 (by simp; exact hN2)
  have HN := Lib.hid hN
  have HGr := Lib.hid hGr
  have Hb5 := Lib.hid hb5
  clear l3 l4 l5 hw1 hs1 hb1 hw2 hs2 hb2 hk2 hw3 hs3 hb3 hk3 hk23 hw4 hs4 hb4 hk4 hk34 hk24 hw5 hb5 hk5 hk45 hk35 hk25 hN hN2 hGr
  exact bodyPost_ret (v := .agg #[.slice (some ⟨w.heap.size + 1 + 1, 0, none⟩) 1 1, .slice (some ⟨w.heap.size + 1 + 1 + 1 + 1, 0, none⟩) 1 1]) (by simp [results, Tryz.results18, go_sem, k0, k1]) rfl ⟨⟨_, _, _, _, _, rfl, HN.out, HGr.out, rfl⟩, Hb5.out⟩

set_option maxRecDepth 100000 in
set_option maxHeartbeats 1000000 in
theorem refKeeps_any (P Q G H x : Nat) (R : Value) (w : World) (hG : G < 18446744073709551616) (hx : x < 18446744073709551616) :
    Calls Tryz.prog 19 #[gval P Q G H R, .int .u64 (x : Int)] w fun e w' => OutClaim [x] [[G]] e w' ∧ Below w.heap.size w w' := by
  unfold gval
  go_enter Tryz.func19, Tryz.ntmps19
  go_wp2_with fail
  obtain ⟨w1, hw1⟩ : ∃ w1, w1 = w.alloc (.cells #[.int .u64 (P : Int), .int .u64 (Q : Int), .int .u64 (G : Int), .int .u64 (H : Int), R] 25) := ⟨_, rfl⟩
  rw [← hw1]
  have hs1 : w1.heap.size = w.heap.size + 1 := by rw [hw1]; simp
  have hb1 : Below w.heap.size w w1 := by rw [hw1]; exact (Below.refl _ _).alloc (Nat.le_refl _) _
  obtain ⟨w2, hw2⟩ : ∃ w2, w2 = w1.alloc (.cells #[.slice (some ⟨w.heap.size + 1 + 1, 0, none⟩) 1 1, .slice (some ⟨w.heap.size + 1 + 1 + 1 + 1, 0, none⟩) 1 1] 29) := ⟨_, rfl⟩
  rw [← hw2]
  have hs2 : w2.heap.size = w.heap.size + 1 + 1 := by rw [hw2]; simp [hs1]
  have hb2 : Below w.heap.size w w2 := by rw [hw2]; exact hb1.alloc (by omega) _
  have hk2 : Blk w2 (w.heap.size + 1) 29 [.slice (some ⟨w.heap.size + 1 + 1, 0, none⟩) 1 1, .slice (some ⟨w.heap.size + 1 + 1 + 1 + 1, 0, none⟩) 1 1] := by rw [hw2]; exact Blk.at_new _ _ _ _ _ hs1.symm rfl
  obtain ⟨w3, hw3⟩ : ∃ w3, w3 = w2.alloc (.cells #[.int .u64 (x : Int)] 22) := ⟨_, rfl⟩
  rw [← hw3]
  have l3 : ∀ {b : Nat} {T : TypeId} {cs : List Value}, Blk w2 b T cs → Blk w3 b T cs := fun h => by rw [hw3]; exact h.alloc _
  have hs3 : w3.heap.size = w.heap.size + 1 + 1 + 1 := by rw [hw3]; simp [hs2]
  have hb3 : Below w.heap.size w w3 := by rw [hw3]; exact hb2.alloc (by omega) _
  have hk3 : Blk w3 (w.heap.size + 1 + 1) 22 ([x].map fun (x : Nat) => .int .u64 (x : Int)) := by rw [hw3]; exact Blk.at_new _ _ _ _ _ hs2.symm rfl
  have hk23 := l3 hk2
  obtain ⟨w4, hw4⟩ : ∃ w4, w4 = w3.alloc (.cells #[.int .u64 (G : Int)] 22) := ⟨_, rfl⟩
  rw [← hw4]
  have l4 : ∀ {b : Nat} {T : TypeId} {cs : List Value}, Blk w3 b T cs → Blk w4 b T cs := fun h => by rw [hw4]; exact h.alloc _
  have hs4 : w4.heap.size = w.heap.size + 1 + 1 + 1 + 1 := by rw [hw4]; simp [hs3]
  have hb4 : Below w.heap.size w w4 := by rw [hw4]; exact hb3.alloc (by omega) _
  have hk4 : Blk w4 (w.heap.size + 1 + 1 + 1) 22 ([G].map fun (x : Nat) => .int .u64 (x : Int)) := by rw [hw4]; exact Blk.at_new _ _ _ _ _ hs3.symm rfl
  have hk34 := l4 hk3
  have hk24 := l4 hk23
  obtain ⟨w5, hw5⟩ : ∃ w5, w5 = w4.alloc (.cells #[.slice (some ⟨w.heap.size + 1 + 1 + 1, 0, none⟩) 1 1] 26) := ⟨_, rfl⟩
  rw [← hw5]
  have l5 : ∀ {b : Nat} {T : TypeId} {cs : List Value}, Blk w4 b T cs → Blk w5 b T cs := fun h => by rw [hw5]; exact h.alloc _
  have hb5 : Below w.heap.size w w5 := by rw [hw5]; exact hb4.alloc (by omega) _
  have hk5 : Blk w5 (w.heap.size + 1 + 1 + 1 + 1) 26 ([⟨some ⟨w.heap.size + 1 + 1 + 1, 0, none⟩, 1, [G]⟩].map NumV.val) := by rw [hw5]; exact Blk.at_new _ _ _ _ _ hs4.symm rfl
  have hk45 := l5 hk4
  have hk35 := l5 hk34
  have hk25 := l5 hk24
  obtain ⟨k0, k1⟩ := two_cells hk25
  have hN := Nums.of_blk hk35 (by simp [hx])
  have hN2 := Nums.of_blk hk45 (by simp [hG])
  have hGr := Grid.of_blk hk5 (by simp; exact hN2)
  have HN := Lib.hid hN
  have HGr := Lib.hid hGr
  have Hb5 := Lib.hid hb5
  clear l3 l4 l5 hw1 hs1 hb1 hw2 hs2 hb2 hk2 hw3 hs3 hb3 hk3 hk23 hw4 hs4 hb4 hk4 hk34 hk24 hw5 hb5 hk5 hk45 hk35 hk25 hN hN2 hGr
  exact bodyPost_ret (v := .agg #[.slice (some ⟨w.heap.size + 1 + 1, 0, none⟩) 1 1, .slice (some ⟨w.heap.size + 1 + 1 + 1 + 1, 0, none⟩) 1 1]) (by simp [results, Tryz.results19, go_sem, k0, k1]) rfl ⟨⟨_, _, _, _, _, rfl, HN.out, HGr.out, rfl⟩, Hb5.out⟩
end Go.Proofs.YtinlciofhegciaaGreat

/- Claims of shares: both walks. -/
namespace Go.Proofs.YtinlciofhegciaaGreat
open Go.RowKit

set_option maxRecDepth 100000 in
set_option maxHeartbeats 2000000 in
theorem shares_any (P Q G H x U V s : Nat) (R : Value) (w : World) (hG : G < 18446744073709551616) (hx : x < 18446744073709551616) (hU : U < 18446744073709551616) (hs : s < 18446744073709551616) :
    Calls Tryz.prog 22 #[gval P Q G H R, .int .u64 (x : Int), .agg #[.int .u64 (U : Int), .int .u64 (V : Int)], .int .u64 (s : Int)] w fun e w' => OutClaim [x, s] [[G], [U]] e w' ∧ Below w.heap.size w w' := by
  unfold gval
  go_enter Tryz.func22, Tryz.ntmps22
  go_wp2_with fail
  obtain ⟨w1, hw1⟩ : ∃ w1, w1 = w.alloc (.cells #[.int .u64 (P : Int), .int .u64 (Q : Int), .int .u64 (G : Int), .int .u64 (H : Int), R] 25) := ⟨_, rfl⟩
  rw [← hw1]
  have hs1 : w1.heap.size = w.heap.size + 1 := by rw [hw1]; simp
  have hb1 : Below w.heap.size w w1 := by rw [hw1]; exact (Below.refl _ _).alloc (Nat.le_refl _) _
  have l1 : ∀ {b : Nat} {T : TypeId} {cs : List Value}, Blk w b T cs → Blk w1 b T cs := fun h => by rw [hw1]; exact h.alloc _
  have hk1 : Blk w1 (w.heap.size) 25 (glist P Q G H R) := by rw [hw1]; exact Blk.at_new _ _ _ _ _ rfl rfl
  obtain ⟨w2, hw2⟩ : ∃ w2, w2 = w1.alloc (.cells #[.int .u64 (U : Int), .int .u64 (V : Int)] 44) := ⟨_, rfl⟩
  rw [← hw2]
  have hs2 : w2.heap.size = w.heap.size + 1 + 1 := by rw [hw2]; simp [hs1]
  have hb2 : Below w.heap.size w w2 := by rw [hw2]; exact hb1.alloc (by omega) _
  have l2 : ∀ {b : Nat} {T : TypeId} {cs : List Value}, Blk w1 b T cs → Blk w2 b T cs := fun h => by rw [hw2]; exact h.alloc _
  have hk2 : Blk w2 (w.heap.size + 1) 44 [.int .u64 (U : Int), .int .u64 (V : Int)] := by rw [hw2]; exact Blk.at_new _ _ _ _ _ hs1.symm rfl
  obtain ⟨w3, hw3⟩ : ∃ w3, w3 = w2.alloc (.cells #[.slice (some ⟨w.heap.size + 1 + 1 + 1, 0, none⟩) 2 2, .slice (some ⟨w.heap.size + 1 + 1 + 1 + 1 + 1 + 1, 0, none⟩) 2 2] 29) := ⟨_, rfl⟩
  rw [← hw3]
  have hs3 : w3.heap.size = w.heap.size + 1 + 1 + 1 := by rw [hw3]; simp [hs2]
  have hb3 : Below w.heap.size w w3 := by rw [hw3]; exact hb2.alloc (by omega) _
  have l3 : ∀ {b : Nat} {T : TypeId} {cs : List Value}, Blk w2 b T cs → Blk w3 b T cs := fun h => by rw [hw3]; exact h.alloc _
  have hk3 : Blk w3 (w.heap.size + 1 + 1) 29 [.slice (some ⟨w.heap.size + 1 + 1 + 1, 0, none⟩) 2 2, .slice (some ⟨w.heap.size + 1 + 1 + 1 + 1 + 1 + 1, 0, none⟩) 2 2] := by rw [hw3]; exact Blk.at_new _ _ _ _ _ hs2.symm rfl
  obtain ⟨w4, hw4⟩ : ∃ w4, w4 = w3.alloc (.cells #[.int .u64 (x : Int), .int .u64 (s : Int)] 22) := ⟨_, rfl⟩
  rw [← hw4]
  have hs4 : w4.heap.size = w.heap.size + 1 + 1 + 1 + 1 := by rw [hw4]; simp [hs3]
  have hb4 : Below w.heap.size w w4 := by rw [hw4]; exact hb3.alloc (by omega) _
  have l4 : ∀ {b : Nat} {T : TypeId} {cs : List Value}, Blk w3 b T cs → Blk w4 b T cs := fun h => by rw [hw4]; exact h.alloc _
  have hk4 : Blk w4 (w.heap.size + 1 + 1 + 1) 22 ([x, s].map fun (x : Nat) => .int .u64 (x : Int)) := by rw [hw4]; exact Blk.at_new _ _ _ _ _ hs3.symm rfl
  obtain ⟨w5, hw5⟩ : ∃ w5, w5 = w4.alloc (.cells #[.int .u64 (G : Int)] 22) := ⟨_, rfl⟩
  rw [← hw5]
  have hs5 : w5.heap.size = w.heap.size + 1 + 1 + 1 + 1 + 1 := by rw [hw5]; simp [hs4]
  have hb5 : Below w.heap.size w w5 := by rw [hw5]; exact hb4.alloc (by omega) _
  have l5 : ∀ {b : Nat} {T : TypeId} {cs : List Value}, Blk w4 b T cs → Blk w5 b T cs := fun h => by rw [hw5]; exact h.alloc _
  have hk5 : Blk w5 (w.heap.size + 1 + 1 + 1 + 1) 22 ([G].map fun (x : Nat) => .int .u64 (x : Int)) := by rw [hw5]; exact Blk.at_new _ _ _ _ _ hs4.symm rfl
  obtain ⟨w6, hw6⟩ : ∃ w6, w6 = w5.alloc (.cells #[.int .u64 (U : Int)] 22) := ⟨_, rfl⟩
  rw [← hw6]
  have hs6 : w6.heap.size = w.heap.size + 1 + 1 + 1 + 1 + 1 + 1 := by rw [hw6]; simp [hs5]
  have hb6 : Below w.heap.size w w6 := by rw [hw6]; exact hb5.alloc (by omega) _
  have l6 : ∀ {b : Nat} {T : TypeId} {cs : List Value}, Blk w5 b T cs → Blk w6 b T cs := fun h => by rw [hw6]; exact h.alloc _
  have hk6 : Blk w6 (w.heap.size + 1 + 1 + 1 + 1 + 1) 22 ([U].map fun (x : Nat) => .int .u64 (x : Int)) := by rw [hw6]; exact Blk.at_new _ _ _ _ _ hs5.symm rfl
  obtain ⟨w7, hw7⟩ : ∃ w7, w7 = w6.alloc (.cells #[.slice (some ⟨w.heap.size + 1 + 1 + 1 + 1, 0, none⟩) 1 1, .slice (some ⟨w.heap.size + 1 + 1 + 1 + 1 + 1, 0, none⟩) 1 1] 26) := ⟨_, rfl⟩
  rw [← hw7]
  have hs7 : w7.heap.size = w.heap.size + 1 + 1 + 1 + 1 + 1 + 1 + 1 := by rw [hw7]; simp [hs6]
  have hb7 : Below w.heap.size w w7 := by rw [hw7]; exact hb6.alloc (by omega) _
  have l7 : ∀ {b : Nat} {T : TypeId} {cs : List Value}, Blk w6 b T cs → Blk w7 b T cs := fun h => by rw [hw7]; exact h.alloc _
  have hk7 : Blk w7 (w.heap.size + 1 + 1 + 1 + 1 + 1 + 1) 26 ([⟨some ⟨w.heap.size + 1 + 1 + 1 + 1, 0, none⟩, 1, [G]⟩, ⟨some ⟨w.heap.size + 1 + 1 + 1 + 1 + 1, 0, none⟩, 1, [U]⟩].map NumV.val) := by rw [hw7]; exact Blk.at_new _ _ _ _ _ hs6.symm rfl
  have kf1 := l7 (l6 (l5 (l4 (l3 (l2 (hk1))))))
  have kf2 := l7 (l6 (l5 (l4 (l3 (hk2)))))
  have kf3 := l7 (l6 (l5 (l4 (hk3))))
  have kf4 := l7 (l6 (l5 (hk4)))
  have kf5 := l7 (l6 (hk5))
  have kf6 := l7 (hk6)
  have kf7 := hk7
  clear hw1 hs1 l1 hk1 hw2 hs2 l2 hk2 hw3 hs3 l3 hk3 hw4 hs4 l4 hk4 hw5 hs5 l5 hk5 hw6 hs6 l6 hk6 hw7 hs7 l7 hk7 hb1 hb2 hb3 hb4 hb5 hb6
  obtain ⟨k0, k1⟩ := two_cells kf3
  have hN := Nums.of_blk kf4 (by simp [hx, hs])
  have hN2 := Nums.of_blk kf5 (by simp [hG])
  have hN3 := Nums.of_blk kf6 (by simp [hU])
  have hGr := Grid.of_blk kf7 (by
    simp only [List.mem_cons, List.not_mem_nil, or_false]
    rintro r (rfl | rfl)
    · exact hN2
    · exact hN3)
  have HN := Lib.hid hN
  have HGr := Lib.hid hGr
  have Hb7 := Lib.hid hb7
  clear kf1 kf2 kf3 kf4 kf5 kf6 kf7 hN hN2 hN3 hGr hb7
  exact bodyPost_ret (v := .agg #[.slice (some ⟨w.heap.size + 1 + 1 + 1, 0, none⟩) 2 2, .slice (some ⟨w.heap.size + 1 + 1 + 1 + 1 + 1 + 1, 0, none⟩) 2 2]) (by simp [results, Tryz.results22, go_sem, k0, k1]) rfl ⟨⟨_, _, _, _, _, rfl, HN.out, HGr.out, rfl⟩, Hb7.out⟩

set_option maxRecDepth 100000 in
set_option maxHeartbeats 2000000 in
theorem refShares_any (P Q G H x U V s : Nat) (R : Value) (w : World) (hG : G < 18446744073709551616) (hx : x < 18446744073709551616) (hU : U < 18446744073709551616) (hs : s < 18446744073709551616) :
    Calls Tryz.prog 23 #[gval P Q G H R, .int .u64 (x : Int), .agg #[.int .u64 (U : Int), .int .u64 (V : Int)], .int .u64 (s : Int)] w fun e w' => OutClaim [x, s] [[G], [U]] e w' ∧ Below w.heap.size w w' := by
  unfold gval
  go_enter Tryz.func23, Tryz.ntmps23
  go_wp2_with fail
  obtain ⟨w1, hw1⟩ : ∃ w1, w1 = w.alloc (.cells #[.int .u64 (P : Int), .int .u64 (Q : Int), .int .u64 (G : Int), .int .u64 (H : Int), R] 25) := ⟨_, rfl⟩
  rw [← hw1]
  have hs1 : w1.heap.size = w.heap.size + 1 := by rw [hw1]; simp
  have hb1 : Below w.heap.size w w1 := by rw [hw1]; exact (Below.refl _ _).alloc (Nat.le_refl _) _
  have l1 : ∀ {b : Nat} {T : TypeId} {cs : List Value}, Blk w b T cs → Blk w1 b T cs := fun h => by rw [hw1]; exact h.alloc _
  have hk1 : Blk w1 (w.heap.size) 25 (glist P Q G H R) := by rw [hw1]; exact Blk.at_new _ _ _ _ _ rfl rfl
  obtain ⟨w2, hw2⟩ : ∃ w2, w2 = w1.alloc (.cells #[.int .u64 (U : Int), .int .u64 (V : Int)] 44) := ⟨_, rfl⟩
  rw [← hw2]
  have hs2 : w2.heap.size = w.heap.size + 1 + 1 := by rw [hw2]; simp [hs1]
  have hb2 : Below w.heap.size w w2 := by rw [hw2]; exact hb1.alloc (by omega) _
  have l2 : ∀ {b : Nat} {T : TypeId} {cs : List Value}, Blk w1 b T cs → Blk w2 b T cs := fun h => by rw [hw2]; exact h.alloc _
  have hk2 : Blk w2 (w.heap.size + 1) 44 [.int .u64 (U : Int), .int .u64 (V : Int)] := by rw [hw2]; exact Blk.at_new _ _ _ _ _ hs1.symm rfl
  obtain ⟨w3, hw3⟩ : ∃ w3, w3 = w2.alloc (.cells #[.slice (some ⟨w.heap.size + 1 + 1 + 1, 0, none⟩) 2 2, .slice (some ⟨w.heap.size + 1 + 1 + 1 + 1 + 1 + 1, 0, none⟩) 2 2] 29) := ⟨_, rfl⟩
  rw [← hw3]
  have hs3 : w3.heap.size = w.heap.size + 1 + 1 + 1 := by rw [hw3]; simp [hs2]
  have hb3 : Below w.heap.size w w3 := by rw [hw3]; exact hb2.alloc (by omega) _
  have l3 : ∀ {b : Nat} {T : TypeId} {cs : List Value}, Blk w2 b T cs → Blk w3 b T cs := fun h => by rw [hw3]; exact h.alloc _
  have hk3 : Blk w3 (w.heap.size + 1 + 1) 29 [.slice (some ⟨w.heap.size + 1 + 1 + 1, 0, none⟩) 2 2, .slice (some ⟨w.heap.size + 1 + 1 + 1 + 1 + 1 + 1, 0, none⟩) 2 2] := by rw [hw3]; exact Blk.at_new _ _ _ _ _ hs2.symm rfl
  obtain ⟨w4, hw4⟩ : ∃ w4, w4 = w3.alloc (.cells #[.int .u64 (x : Int), .int .u64 (s : Int)] 22) := ⟨_, rfl⟩
  rw [← hw4]
  have hs4 : w4.heap.size = w.heap.size + 1 + 1 + 1 + 1 := by rw [hw4]; simp [hs3]
  have hb4 : Below w.heap.size w w4 := by rw [hw4]; exact hb3.alloc (by omega) _
  have l4 : ∀ {b : Nat} {T : TypeId} {cs : List Value}, Blk w3 b T cs → Blk w4 b T cs := fun h => by rw [hw4]; exact h.alloc _
  have hk4 : Blk w4 (w.heap.size + 1 + 1 + 1) 22 ([x, s].map fun (x : Nat) => .int .u64 (x : Int)) := by rw [hw4]; exact Blk.at_new _ _ _ _ _ hs3.symm rfl
  obtain ⟨w5, hw5⟩ : ∃ w5, w5 = w4.alloc (.cells #[.int .u64 (G : Int)] 22) := ⟨_, rfl⟩
  rw [← hw5]
  have hs5 : w5.heap.size = w.heap.size + 1 + 1 + 1 + 1 + 1 := by rw [hw5]; simp [hs4]
  have hb5 : Below w.heap.size w w5 := by rw [hw5]; exact hb4.alloc (by omega) _
  have l5 : ∀ {b : Nat} {T : TypeId} {cs : List Value}, Blk w4 b T cs → Blk w5 b T cs := fun h => by rw [hw5]; exact h.alloc _
  have hk5 : Blk w5 (w.heap.size + 1 + 1 + 1 + 1) 22 ([G].map fun (x : Nat) => .int .u64 (x : Int)) := by rw [hw5]; exact Blk.at_new _ _ _ _ _ hs4.symm rfl
  obtain ⟨w6, hw6⟩ : ∃ w6, w6 = w5.alloc (.cells #[.int .u64 (U : Int)] 22) := ⟨_, rfl⟩
  rw [← hw6]
  have hs6 : w6.heap.size = w.heap.size + 1 + 1 + 1 + 1 + 1 + 1 := by rw [hw6]; simp [hs5]
  have hb6 : Below w.heap.size w w6 := by rw [hw6]; exact hb5.alloc (by omega) _
  have l6 : ∀ {b : Nat} {T : TypeId} {cs : List Value}, Blk w5 b T cs → Blk w6 b T cs := fun h => by rw [hw6]; exact h.alloc _
  have hk6 : Blk w6 (w.heap.size + 1 + 1 + 1 + 1 + 1) 22 ([U].map fun (x : Nat) => .int .u64 (x : Int)) := by rw [hw6]; exact Blk.at_new _ _ _ _ _ hs5.symm rfl
  obtain ⟨w7, hw7⟩ : ∃ w7, w7 = w6.alloc (.cells #[.slice (some ⟨w.heap.size + 1 + 1 + 1 + 1, 0, none⟩) 1 1, .slice (some ⟨w.heap.size + 1 + 1 + 1 + 1 + 1, 0, none⟩) 1 1] 26) := ⟨_, rfl⟩
  rw [← hw7]
  have hs7 : w7.heap.size = w.heap.size + 1 + 1 + 1 + 1 + 1 + 1 + 1 := by rw [hw7]; simp [hs6]
  have hb7 : Below w.heap.size w w7 := by rw [hw7]; exact hb6.alloc (by omega) _
  have l7 : ∀ {b : Nat} {T : TypeId} {cs : List Value}, Blk w6 b T cs → Blk w7 b T cs := fun h => by rw [hw7]; exact h.alloc _
  have hk7 : Blk w7 (w.heap.size + 1 + 1 + 1 + 1 + 1 + 1) 26 ([⟨some ⟨w.heap.size + 1 + 1 + 1 + 1, 0, none⟩, 1, [G]⟩, ⟨some ⟨w.heap.size + 1 + 1 + 1 + 1 + 1, 0, none⟩, 1, [U]⟩].map NumV.val) := by rw [hw7]; exact Blk.at_new _ _ _ _ _ hs6.symm rfl
  have kf1 := l7 (l6 (l5 (l4 (l3 (l2 (hk1))))))
  have kf2 := l7 (l6 (l5 (l4 (l3 (hk2)))))
  have kf3 := l7 (l6 (l5 (l4 (hk3))))
  have kf4 := l7 (l6 (l5 (hk4)))
  have kf5 := l7 (l6 (hk5))
  have kf6 := l7 (hk6)
  have kf7 := hk7
  clear hw1 hs1 l1 hk1 hw2 hs2 l2 hk2 hw3 hs3 l3 hk3 hw4 hs4 l4 hk4 hw5 hs5 l5 hk5 hw6 hs6 l6 hk6 hw7 hs7 l7 hk7 hb1 hb2 hb3 hb4 hb5 hb6
  obtain ⟨k0, k1⟩ := two_cells kf3
  have hN := Nums.of_blk kf4 (by simp [hx, hs])
  have hN2 := Nums.of_blk kf5 (by simp [hG])
  have hN3 := Nums.of_blk kf6 (by simp [hU])
  have hGr := Grid.of_blk kf7 (by
    simp only [List.mem_cons, List.not_mem_nil, or_false]
    rintro r (rfl | rfl)
    · exact hN2
    · exact hN3)
  have HN := Lib.hid hN
  have HGr := Lib.hid hGr
  have Hb7 := Lib.hid hb7
  clear kf1 kf2 kf3 kf4 kf5 kf6 kf7 hN hN2 hN3 hGr hb7
  exact bodyPost_ret (v := .agg #[.slice (some ⟨w.heap.size + 1 + 1 + 1, 0, none⟩) 2 2, .slice (some ⟨w.heap.size + 1 + 1 + 1 + 1 + 1 + 1, 0, none⟩) 2 2]) (by simp [results, Tryz.results23, go_sem, k0, k1]) rfl ⟨⟨_, _, _, _, _, rfl, HN.out, HGr.out, rfl⟩, Hb7.out⟩
end Go.Proofs.YtinlciofhegciaaGreat
