/- Joined texts, part 12: contracts of the functions that the laws reach, and what is needed for them. -/
import Derived.Test.YtbpenkaficiodaaGreatP11
/- Is a letter believed? The program's walk. -/
namespace Go.Proofs.YtbpenkaficiodaaGreat
open Go.RowKit Go.BigFrame

/-- Is a letter believed? -/
def letterB (label : List UInt8) (P Q G H : Nat) (x : BoxV) (C Z : List Nat) : Bool := boxIn P Q x && acceptB (label ++ tLetter) P Q G H [x.u 0, x.u 1, x.u 2] [[G, 1, 1], [1, G, 1], [1, 1, G]] C Z

set_option maxRecDepth 100000 in
set_option maxHeartbeats 4000000 in
theorem letter_any (P Q G H : Nat) (R : Value) (label : List UInt8) (x : BoxV) (C Z : NumV) (w : World) (hP : P < 18446744073709551616) (hQ : Q < 18446744073709551616) (hG : G < 18446744073709551616) (hH : H < 18446744073709551616) (hPr : rightB P = true) (hQ2 : 2 ≤ Q) (hx : x.ok) (hC : Nums w C.A C.cap C.l) (hZ : Nums w Z.A Z.cap Z.l) (hCl : C.l.length ≤ 10000) (hZl : Z.l.length ≤ 10000) (hl : label.length ≤ 100000) :
    Calls Tryz.prog 27 #[.agg #[.int .u64 (P : Int), .int .u64 (Q : Int), .int .u64 (G : Int), .int .u64 (H : Int), R], .string (str label), .agg #[.int .u64 (x.u 0 : Int), .int .u64 (x.v 0 : Int), .int .u64 (x.u 1 : Int), .int .u64 (x.v 1 : Int), .int .u64 (x.u 2 : Int), .int .u64 (x.v 2 : Int), C.val, Z.val]] w fun e w' => e = .returned (.bool (letterB label P Q G H x C.l Z.l)) ∧ Below w.heap.size w w' := by
  have hin := fun z W (hz : z < 18446744073709551616) => in_any P Q G H z R W hP hQ hz
  have hkn := fun W => knows_claim P Q G H x R W hG hx
  have hac := fun W u hb hu => accept_claim P Q G H R (label ++ tLetter) [x.u 0, x.u 1, x.u 2] [[G, 1, 1], [1, G, 1], [1, 1, G]] C Z u W hP hQ hG hH hPr hQ2 hu (hC.below (w1 := W) hb) (hZ.below hb) (by simp [tLetter]; omega) (by simp) (by simp) (by simp) hCl hZl
  have hst : ∀ W, (Op.stringOp .add (str label) { data := #[47, 108, 101, 116, 116, 101, 114] }).run Tryz.prog W = .ok (.string (str (label ++ tLetter))) W := fun W => str_add Tryz.prog label tLetter (by simp [tLetter]; omega) W
  unfold gval at hin
  obtain ⟨out, hout⟩ : ∃ s, s = (letterB label P Q G H x C.l Z.l) := ⟨_, rfl⟩; obtain ⟨acc, hacc⟩ : ∃ s, s = (acceptB (label ++ tLetter) P Q G H [x.u 0, x.u 1, x.u 2] [[G, 1, 1], [1, G, 1], [1, 1, G]] C.l Z.l) := ⟨_, rfl⟩
  rw [← hacc] at hac
  have hout2 : out = (boxIn P Q x && acc) := by rw [hout, hacc]; rfl
  rw [← hout]
  obtain ⟨CA, Cc, Cl⟩ := C
  obtain ⟨ZA, Zc, Zl⟩ := Z
  simp only [NumV.val] at hac ⊢
  obtain ⟨nC, hnC⟩ : ∃ s, s = (Cl.length) := ⟨_, rfl⟩; obtain ⟨nZ, hnZ⟩ : ∃ s, s = (Zl.length) := ⟨_, rfl⟩
  rw [← hnC, ← hnZ] at hac
  rw [← hnC, ← hnZ]
  obtain ⟨w0, hw0⟩ : ∃ z, z = ((w.alloc (.cells #[.int .u64 (P : Int), .int .u64 (Q : Int), .int .u64 (G : Int), .int .u64 (H : Int), R] 25)).alloc (.cells #[.int .u64 (x.u 0 : Int), .int .u64 (x.v 0 : Int), .int .u64 (x.u 1 : Int), .int .u64 (x.v 1 : Int), .int .u64 (x.u 2 : Int), .int .u64 (x.v 2 : Int), .slice CA nC Cc, .slice ZA nZ Zc] 65)) := ⟨_, rfl⟩
  have hw0b : Below w.heap.size w w0 := by rw [hw0]; exact lat_alloc (lat_alloc (Below.refl _ _) _) _
  have hg : Blk w0 (w.heap.size) 25 [.int .u64 (P : Int), .int .u64 (Q : Int), .int .u64 (G : Int), .int .u64 (H : Int), R] := by rw [hw0]; exact ((Blk.of w _ _ _ rfl).alloc _)
  have hlt : Blk w0 (w.heap.size + 1) 65 [.int .u64 (x.u 0 : Int), .int .u64 (x.v 0 : Int), .int .u64 (x.u 1 : Int), .int .u64 (x.v 1 : Int), .int .u64 (x.u 2 : Int), .int .u64 (x.v 2 : Int), .slice CA nC Cc, .slice ZA nZ Zc] := by rw [hw0]; exact (Blk.at_new _ _ _ _ _ (by simp) rfl)
  obtain ⟨k0, k1, k2, k3, k4, k5, k6, k7⟩ := cells_8 hlt
  have Hin := Lib.hid hin; have Hkn := Lib.hid hkn; have Hac := Lib.hid hac; have Hw0 := Lib.hid hw0; have Hw0b := Lib.hid hw0b; have Hg := Lib.hid hg; have Hlt := Lib.hid hlt; have Hout2 := Lib.hid hout2; clear hin hkn hac hw0 hw0b hg hlt hout2
  clear hout hacc hnC hnZ hC hZ hCl hZl
  go_enter Tryz.func27, Tryz.ntmps27
  go_wp2_with fail
  rw [← Hw0.out]
  clear k0 k1 k2 k3 k4 k5 k6 k7
  go_loopw [11] (fun jv wq => ∃ j : Nat, jv = .int .i64 (j : Int) ∧ j ≤ 3 ∧ (∀ i, i < j → inG P Q (x.u i) = true ∧ inG P Q (x.v i) = true) ∧ Below w0.heap.size w0 wq) (fun jv _ => 3 - (intOf jv).toNat)
  case atStart => exact ⟨0, rfl, by omega, by omega, Below.refl _ _⟩
  case round =>
    obtain ⟨j, rfl, hj, hej, hbj⟩ := hrel
    have Hej := Lib.hid hej; have Hbj := Lib.hid hbj; clear hej hbj
    by_cases hj3 : j < 3
    · have d9 : decide ((j : Int) < 3) = true := decide_eq_true (by omega)
      have hji : (j : Int) < 3 := by omega
      have hix := fun W => ix_boxV x W j hj3
      have g0 := fun o => (gcells ((Hg.out.below Hbj.out Hg.out.lt).alloc o)).1
      have g1 := fun o => (gcells ((Hg.out.below Hbj.out Hg.out.lt).alloc o)).2.1
      have g2 := fun o => (gcells ((Hg.out.below Hbj.out Hg.out.lt).alloc o)).2.2.1
      have g3 := fun o => (gcells ((Hg.out.below Hbj.out Hg.out.lt).alloc o)).2.2.2.1
      have g4 := fun o => (gcells ((Hg.out.below Hbj.out Hg.out.lt).alloc o)).2.2.2.2
      have hp : Blk (wr.alloc (.cells #[.int .u64 (x.u j : Int), .int .u64 (x.v j : Int)] 61)) wr.heap.size 61 [.int .u64 (x.u j : Int), .int .u64 (x.v j : Int)] := Blk.of wr _ _ _ rfl
      have hbz : Below w0.heap.size w0 (wr.alloc (.cells #[.int .u64 (x.u j : Int), .int .u64 (x.v j : Int)] 61)) := lat_alloc Hbj.out _
      have h1 := fun W => Hin.out (x.u j) W (hx j hj3).1
      have h2 := fun W => Hin.out (x.v j) W (hx j hj3).2
      obtain ⟨r1, hr1⟩ : ∃ s, s = (inG P Q (x.u j)) := ⟨_, rfl⟩; obtain ⟨r2, hr2⟩ : ∃ s, s = (inG P Q (x.v j)) := ⟨_, rfl⟩
      rw [← hr1] at h1
      rw [← hr2] at h2
      have hno : (r1 && r2) = false → out = false := fun h => by rw [Hout2.out, boxIn_no hj3 (by rw [← hr1, ← hr2]; exact h)]; rfl
      have hye : r1 = true → r2 = true → ∀ i, i < j + 1 → inG P Q (x.u i) = true ∧ inG P Q (x.v i) = true := fun a b => upto_next (p := fun i => inG P Q (x.u i) = true ∧ inG P Q (x.v i) = true) Hej.out ⟨by rw [← hr1]; exact a, by rw [← hr2]; exact b⟩
      have H1 := Lib.hid h1; have H2 := Lib.hid h2; have Hno := Lib.hid hno; have Hye := Lib.hid hye; have Hp := Lib.hid hp; have Hbz := Lib.hid hbz; clear h1 h2 hno hye hp hbz
      clear hr1 hr2
      cases r1 with
      | false =>
        have ho := Hno.out rfl
        subst ho
        go_wp2_with (first | (go_at_call 77; refine (H1.out _).mono ?_; rintro e w3 ⟨rfl, hb3⟩; have Hb3 := Lib.hid hb3; clear hb3) | fail)
        go_ret
        exact ⟨rfl, below_trans Hw0b.out (below_trans Hbz.out Hb3.out)⟩
      | true =>
        cases r2 with
        | false =>
          have ho := Hno.out rfl
          subst ho
          go_wp2_with (first | (go_at_call 77; with_reducible refine (H1.out _).mono ?_; rintro e w3 ⟨rfl, hb3⟩; obtain ⟨g0, g1, g2, g3, g4⟩ := gcells (Hg.out.below (below_trans Hbz.out hb3) Hg.out.lt); obtain ⟨p0, p1⟩ := cells_2 (Hp.out.below hb3 Hp.out.lt); have Hb3 := Lib.hid hb3; clear hb3) | (go_at_call 77; with_reducible refine (H2.out _).mono ?_; rintro e w4 ⟨rfl, hb4⟩; have Hb4 := Lib.hid hb4; clear hb4) | fail)
          go_ret
          exact ⟨rfl, below_trans Hw0b.out (below_trans Hbz.out (below_trans Hb3.out Hb4.out))⟩
        | true =>
          have hyf := Hye.out rfl rfl
          have Hyf := Lib.hid hyf; clear hyf
          go_wp2_with (first | (go_at_call 77; with_reducible refine (H1.out _).mono ?_; rintro e w3 ⟨rfl, hb3⟩; obtain ⟨g0, g1, g2, g3, g4⟩ := gcells (Hg.out.below (below_trans Hbz.out hb3) Hg.out.lt); obtain ⟨p0, p1⟩ := cells_2 (Hp.out.below hb3 Hp.out.lt); have Hb3 := Lib.hid hb3; clear hb3) | (go_at_call 77; with_reducible refine (H2.out _).mono ?_; rintro e w4 ⟨rfl, hb4⟩; have Hb4 := Lib.hid hb4; clear hb4) | fail)
          go_roundw
          case rel => exact ⟨j + 1, by go_num, by omega, Hyf.out, below_trans Hbz.out (below_trans Hb3.out Hb4.out)⟩
          case measure => simp [intOf]; omega
    · obtain rfl : j = 3 := by omega
      have d9 : decide (((3 : Nat) : Int) < 3) = false := by decide
      obtain ⟨g0, g1, g2, g3, g4⟩ := gcells (Hg.out.below Hbj.out Hg.out.lt)
      obtain ⟨k0, k1, k2, k3, k4, k5, k6, k7⟩ := cells_8 (Hlt.out.below Hbj.out Hlt.out.lt)
      have ho : out = acc := by rw [Hout2.out, boxIn_yes.2 Hej.out]; rfl
      subst ho
      go_wp2_with fail
      have l0 := Later.cell g0
      have l1 := Later.cell g1
      have l2 := Later.cell g2
      have l3 := Later.cell g3
      have l4 := Later.cell g4
      have l5 := Later.cell k0
      have l6 := Later.cell k1
      have l7 := Later.cell k2
      have l8 := Later.cell k3
      have l9 := Later.cell k4
      have l10 := Later.cell k5
      have l11 := Later.cell k6
      have l12 := Later.cell k7
      clear g0 g1 g2 g3 g4 k0 k1 k2 k3 k4 k5 k6 k7
      refine region_loose [(33, ClaimV [x.u 0, x.u 1, x.u 2] [[G, 1, 1], [1, G, 1], [1, 1, G]]), (36, fun u _ => u = .bool out)]
        (Know.stable_cons (fun _ _ _ h hl => h.later hl) (Know.stable_cons (fun _ _ _ h _ => h) Know.stable_nil)) (by kernel_rfl) (by kernel_rfl) ?_
      (repeat (first | (refine loose_skip (by rfl) ?_; simp only [Act.put, List.setIfInBounds_toArray, List.set_cons_zero, List.set_cons_succ]) | (refine loose_plain (by rfl) (by rfl) (by rfl) (fun Kc hKc => ?_); go_big_quiet_op; refine hKc _ ?_; clear hKc Kc)))
      refine loose_call 33 (f := 85) (args := #[.agg #[.int .u64 (P : Int), .int .u64 (Q : Int), .int .u64 (G : Int), .int .u64 (H : Int), R], .agg #[.int .u64 (x.u 0 : Int), .int .u64 (x.v 0 : Int), .int .u64 (x.u 1 : Int), .int .u64 (x.v 1 : Int), .int .u64 (x.u 2 : Int), .int .u64 (x.v 2 : Int)]]) (fun w => by go_simp; try rfl) (by rfl) (by rfl) (by rfl) (fun wk hl hd => Hkn.out wk) ?_
      intro u wk hlk hu
      simp only [Act.put, List.setIfInBounds_toArray, List.set_cons_zero, List.set_cons_succ]
      (repeat (first | (refine loose_skip (by rfl) ?_; simp only [Act.put, List.setIfInBounds_toArray, List.set_cons_zero, List.set_cons_succ]) | (refine loose_plain (by rfl) (by rfl) (by rfl) (fun Kc hKc => ?_); go_big_quiet_op; refine hKc _ ?_; clear hKc Kc)))
      refine loose_fix 36 (.bool out) (f := 78) (args := #[.agg #[.int .u64 (P : Int), .int .u64 (Q : Int), .int .u64 (G : Int), .int .u64 (H : Int), R], .string (str (label ++ tLetter)), u, .agg #[.slice CA nC Cc, .slice ZA nZ Zc]]) (fun w => by go_simp; try rfl) (by rfl) (by rfl) (by rfl) (fun _ _ => Iff.rfl) (fun wk hl hd => Hac.out wk u (below_trans Hw0b.out (below_trans Hbj.out hl)) (hd 33 (by decide) _ (.inl ⟨rfl, rfl⟩))) ?_
      simp only [Act.put, List.setIfInBounds_toArray, List.set_cons_zero, List.set_cons_succ]
      (repeat (first | (refine loose_skip (by rfl) ?_; simp only [Act.put, List.setIfInBounds_toArray, List.set_cons_zero, List.set_cons_succ]) | (refine loose_plain (by rfl) (by rfl) (by rfl) (fun Kc hKc => ?_); go_big_quiet_op; refine hKc _ ?_; clear hKc Kc)))
      refine loose_nil ?_
      intro wq hbq _
      have Hbq := Lib.hid (show Below wr.heap.size wr wq from hbq)
      clear hbq hu hlk
      go_wp2_with fail
      go_ret
      exact ⟨rfl, below_trans Hw0b.out (below_trans Hbj.out Hbq.out)⟩
end Go.Proofs.YtbpenkaficiodaaGreat

/- The same numbers? The reference's walk. -/
namespace Go.Proofs.YtbpenkaficiodaaGreat
open Go.RowKit

theorem same_take {k : Nat} {a b : List Nat} {x : Nat} (ha : a[k]? = some x) (hb : b[k]? = some x) (h : a.take k = b.take k) : a.take (k + 1) = b.take (k + 1) := by
  rw [List.take_add_one, List.take_add_one, h, ha, hb]

set_option maxRecDepth 100000 in
set_option maxHeartbeats 1000000 in
theorem refSame_any (X : Option Addr) (capX : Nat) (V : List Nat) (Y : Option Addr) (capY : Nat) (D : List Nat) (w : World) (hX : Nums w X capX V) (hY : Nums w Y capY D) (hXl : V.length < 1000000) (hYl : D.length < 1000000) :
    Calls Tryz.prog 56 #[.slice X V.length capX, .slice Y D.length capY] w fun e w' => e = .returned (.bool (decide (V = D))) ∧ ∃ n, w' = w.drewN n := by
  obtain ⟨nX, hnX⟩ : ∃ n, n = V.length := ⟨_, rfl⟩
  obtain ⟨nY, hnY⟩ : ∃ n, n = D.length := ⟨_, rfl⟩
  obtain ⟨res, hres⟩ : ∃ s, s = decide (V = D) := ⟨_, rfl⟩
  rw [← hnX, ← hnY, ← hres]
  by_cases h1 : nX = nY
  case neg =>
    have d1 : ((nX : Int) != (nY : Int)) = true := by rw [bne_iff_ne]; omega
    have hr : res = false := by rw [hres]; exact decide_eq_false (fun h => h1 (by rw [hnX, hnY, h]))
    subst hr
    clear hres h1 hX hY hnX hnY
    go_enter Tryz.func56, Tryz.ntmps56
    go_wp2_with fail
    go_ret
    exact ⟨rfl, 0, rfl⟩
  subst h1
  have Hres := Lib.hid hres
  have HX0 := Lib.hid hX
  have HY0 := Lib.hid hY
  have HnX := Lib.hid hnX
  have HnY := Lib.hid hnY
  have hXl' : nX < 1000000 := by omega
  clear hres hX hY hnX hnY hXl hYl
  go_enter Tryz.func56, Tryz.ntmps56
  go_wp2_with fail
  go_loopw [5] (fun kv wr => ∃ k : Nat, kv = .int .i64 (k : Int) ∧ k ≤ nX ∧ V.take k = D.take k ∧ ∃ n, wr = w.drewN n) (fun kv _ => nX - (intOf kv).toNat)
  case atStart => exact ⟨0, rfl, by omega, by simp, 0, rfl⟩
  case round =>
    obtain ⟨k, rfl, hk, htk, n, rfl⟩ := hrel
    have Htk := Lib.hid htk
    clear htk
    by_cases hkl : k < nX
    · have d8 : decide ((k : Int) < (nX : Int)) = true := decide_eq_true (by omega)
      have hki : (k : Int) < (nX : Int) := by omega
      obtain ⟨x, hx⟩ : ∃ x, V[k]? = some x := ⟨_, List.getElem?_eq_getElem (by rw [← HnX.out]; exact hkl)⟩
      obtain ⟨ax, hAx, hxc⟩ := HX0.out.cells k x hx
      subst hAx
      obtain ⟨y, hy⟩ : ∃ y, D[k]? = some y := ⟨_, List.getElem?_eq_getElem (by rw [← HnY.out]; exact hkl)⟩
      obtain ⟨ay, hAy, hyc⟩ := HY0.out.cells k y hy
      subst hAy
      by_cases hxy : x = y
      · subst hxy
        have hnx := same_take hx hy Htk.out
        have Hnx := Lib.hid hnx
        clear hx hy hnx
        go_wp2_with fail
        go_quiet (fail)
        go_wp2_with fail
        go_roundw
        case rel => exact ⟨k + 1, by go_num, by omega, Hnx.out, n + nq, rfl⟩
        case measure => simp [intOf]; omega
      · have d9 : ((x : Int) != (y : Int)) = true := by rw [bne_iff_ne]; omega
        have hr : res = false := by
          rw [Hres.out]
          refine decide_eq_false (fun h => hxy ?_)
          rw [h, hy] at hx
          injection hx with hx
          exact hx.symm
        subst hr
        clear hx hy hxy
        go_wp2_with fail
        go_quiet (fail)
        go_wp2_with fail
        go_ret
        exact ⟨rfl, n + nq, World.drewN_drewN _ _ _⟩
    · have d8 : decide ((k : Int) < (nX : Int)) = false := decide_eq_false (by omega)
      have hr : res = true := by
        have h := Htk.out
        rw [List.take_of_length_le (by rw [← HnX.out]; omega), List.take_of_length_le (by rw [← HnY.out]; omega)] at h
        rw [Hres.out]; exact decide_eq_true h
      subst hr
      go_wp2_with fail
      go_ret
      exact ⟨rfl, _, rfl⟩
end Go.Proofs.YtbpenkaficiodaaGreat

/- Does a claim hold? The reference's walk. -/
namespace Go.Proofs.YtbpenkaficiodaaGreat
open Go.RowKit

def holdsO (T : List Nat) (res : Option (List Nat)) : Bool := match res with
  | none => false
  | some l => decide (l = T)

end Go.Proofs.YtbpenkaficiodaaGreat

/- What is proved of a claim that holds is accepted: plain. -/
namespace Go.Proofs.YtbpenkaficiodaaGreat
open Go.RowKit

theorem mm {a b c d P : Nat} (h1 : a % P = b % P) (h2 : c % P = d % P) : (a * c) % P = (b * d) % P := by rw [Nat.mul_mod a, Nat.mul_mod b, h1, h2]
theorem mp {a b P : Nat} (h : a % P = b % P) (n : Nat) : a ^ n % P = b ^ n % P := by rw [Nat.pow_mod a, Nat.pow_mod b, h]
theorem mod2 (a P : Nat) : a % P % P = a % P := Nat.mod_mod a P
/-- An exponent counts modulo the order. -/
theorem pow_red {b Q P : Nat} (hb : b ^ Q % P = 1 % P) (a : Nat) : b ^ a % P = b ^ (a % Q) % P := by
  conv => lhs; rw [← Nat.div_add_mod a Q, Nat.pow_add, Nat.pow_mul]
  have h1 : (b ^ Q) ^ (a / Q) % P = 1 % P := by rw [mp hb, Nat.one_pow]
  have := mm h1 (rfl : b ^ (a % Q) % P = b ^ (a % Q) % P)
  rwa [Nat.one_mul] at this
theorem pow_same {b Q P a c : Nat} (hb : b ^ Q % P = 1 % P) (h : a % Q = c % Q) : b ^ a % P = b ^ c % P := by rw [pow_red hb a, pow_red hb c, h]
theorem pow_ord {b Q P : Nat} (hb : b ^ Q % P = 1 % P) (n : Nat) : (b ^ n) ^ Q % P = 1 % P := by
  rw [← Nat.pow_mul, Nat.mul_comm, Nat.pow_mul, mp hb, Nat.one_pow]
theorem expG_mod {P Q b e : Nat} (hr : rightB P = true) : expG P Q b e % P = b ^ (e % Q) % P := by rw [expG, powM_yes hr, mod2]
theorem ans_exp {P Q b d w E : Nat} (hq : rightB Q = true) (hb : b ^ Q % P = 1 % P) : b ^ (addM d (mulM E w Q) Q % Q) % P = (b ^ (d % Q) * (b ^ (w % Q)) ^ E) % P := by
  rw [← Nat.pow_mul, ← Nat.pow_add]
  apply pow_same hb
  rw [addM_yes hq, mulM_yes hq]
  have h1 : (E * w) % Q % Q = (w % Q * E) % Q := by rw [mod2, Nat.mul_comm E w]; exact mm (mod2 w Q).symm rfl
  have h2 : d % Q = d % Q % Q := (mod2 d Q).symm
  rw [mod2, mod2, Nat.add_mod d, Nat.add_mod (d % Q) (w % Q * E), ← h2, h1]
/-- A row's image of the answers is the image of the draws times a power of the image of the exponents. -/
theorem img_hom {P Q E : Nat} (hr : rightB P = true) (hq : rightB Q = true) : ∀ (row D V : List Nat), (∀ b ∈ row, b ^ Q % P = 1 % P) → V.length = D.length → ∀ (x y v : Nat), x % P = (y * v ^ E) % P →
    (row.zip (ansL Q E V D)).foldl (imgStep P Q) x % P = ((row.zip D).foldl (imgStep P Q) y * ((row.zip V).foldl (imgStep P Q) v) ^ E) % P
  | [], D, V, _, _, x, y, v, h => by simpa using h
  | b :: row, [], [], _, _, x, y, v, h => by simpa [ansL] using h
  | b :: row, d :: D, [], _, hl, _, _, _, _ => by simp at hl
  | b :: row, [], w :: V, _, hl, _, _, _, _ => by simp at hl
  | b :: row, d :: D, w :: V, hb, hl, x, y, v, h => by
    have hb0 := hb b (by simp)
    show (((row.zip (ansL Q E V D)).foldl (imgStep P Q) (mulM x (expG P Q b (addM d (mulM E w Q) Q)) P)) % P) = _
    show _ = (((row.zip D).foldl (imgStep P Q) (mulM y (expG P Q b d) P)) * ((row.zip V).foldl (imgStep P Q) (mulM v (expG P Q b w) P)) ^ E) % P
    refine img_hom hr hq row D V (fun c hc => hb c (List.mem_cons_of_mem _ hc)) (by simpa using hl) _ _ _ ?_
    rw [mulM_yes hr, mulM_yes hr, mulM_yes hr, mod2]
    have e1 : (x * expG P Q b (addM d (mulM E w Q) Q)) % P = ((y * v ^ E) * (b ^ (d % Q) * (b ^ (w % Q)) ^ E)) % P := mm h (by rw [expG_mod hr, ans_exp hq hb0])
    rw [e1]
    have e2 : (y * expG P Q b d % P * (v * expG P Q b w % P) ^ E) % P = (y * b ^ (d % Q) * (v * b ^ (w % Q)) ^ E) % P := by
      refine mm ?_ (mp ?_ E)
      · rw [mod2]; exact mm rfl (expG_mod hr)
      · rw [mod2]; exact mm rfl (expG_mod hr)
    rw [e2, Nat.mul_pow]
    congr 1
    simp only [Nat.mul_assoc, Nat.mul_comm, Nat.mul_left_comm]
/-- A row's image is an element. -/
theorem img_ord {P Q : Nat} (hr : rightB P = true) : ∀ (row V : List Nat), (∀ b ∈ row, b ^ Q % P = 1 % P) → ∀ (x : Nat), x ^ Q % P = 1 % P → ((row.zip V).foldl (imgStep P Q) x) ^ Q % P = 1 % P
  | [], _, _, x, h => by simpa using h
  | b :: row, [], _, x, h => by simpa using h
  | b :: row, w :: V, hb, x, h => by
    show ((row.zip V).foldl (imgStep P Q) (mulM x (expG P Q b w) P)) ^ Q % P = _
    refine img_ord hr row V (fun c hc => hb c (List.mem_cons_of_mem _ hc)) _ ?_
    rw [mulM_yes hr, mp (mod2 _ P), Nat.mul_pow]
    have := mm h (show (expG P Q b w) ^ Q % P = 1 % P by rw [mp (expG_mod hr), pow_ord (hb b (by simp))])
    rwa [Nat.mul_one] at this
theorem img_lt {P Q : Nat} (hr : rightB P = true) : ∀ (row V : List Nat) (x : Nat), x < P → (row.zip V).foldl (imgStep P Q) x < P
  | [], _, x, h => by simpa using h
  | b :: row, [], x, h => by simpa using h
  | b :: row, w :: V, x, h => img_lt hr row V _ (mulM_lt_P hr)
theorem inG_of {P Q x : Nat} (hr : rightB P = true) (hq : 0 < Q) (h : x ^ Q % P = 1 % P) (hx : x < P) : inG P Q x = true := by
  have hm := rightB_yes hr
  have h1 : 1 % P = 1 := Nat.mod_eq_of_lt (by omega)
  unfold inG
  rw [powM_yes hr, h, h1]
  have h0 : 0 < x := by
    rcases Nat.eq_zero_or_pos x with h0 | h0
    · rw [h0, Nat.zero_pow hq, Nat.zero_mod, h1] at h; cases h
    · exact h0
  simp [h0, hx]
theorem inG_pow {P Q x : Nat} (hr : rightB P = true) (h : inG P Q x = true) : x ^ Q % P = 1 % P ∧ x < P ∧ 0 < x := by
  have hm := rightB_yes hr
  unfold inG at h
  rw [powM_yes hr] at h
  simp only [Bool.and_eq_true, decide_eq_true_eq] at h
  exact ⟨by rw [h.2, Nat.mod_eq_of_lt (by omega)], h.1.2, h.1.1⟩
theorem outs_no {P Q : Nat} {r : List Nat} (h : outs P Q r = false) : ∀ b ∈ r, inG P Q b = true := by
  intro b hb
  unfold outs at h
  have := List.any_eq_false.1 h b hb
  simpa using this

/-- The claim that holds for V: what is proved of it is accepted. -/
theorem made_accepted {label : List UInt8} {P Q G H : Nat} {T : List Nat} {rs : List NumV} {V D t z : List Nat} (hr : rightB P = true) (hq : rightB Q = true)
    (hp : proveO label P Q G H T (rs.map (·.l)) V D = some (t, z)) (hh : holdsO T (imgO P Q T (rs.map (·.l)) V) = true) : acceptB label P Q G H T (rs.map (·.l)) t z = true := by
  have hq2 := rightB_yes hq
  have hP2 := rightB_yes hr
  unfold proveO at hp
  cases hi : imgO P Q T (rs.map (·.l)) D with
  | none => rw [hi] at hp; cases hp
  | some t' =>
    rw [hi] at hp
    cases ha : ansO Q (chal label P Q G H T (rs.map (·.l)) t') V D with
    | none => simp only [ha] at hp; cases hp
    | some z' =>
      simp only [ha, Option.some.injEq, Prod.mk.injEq] at hp
      obtain ⟨rfl, rfl⟩ := hp
      obtain ⟨E, hE⟩ : ∃ E, E = chal label P Q G H T (rs.map (·.l)) t' := ⟨_, rfl⟩
      rw [← hE] at ha
      -- the lengths
      have hlen : V.length = D.length ∧ z' = ansL Q E V D := by
        unfold ansO at ha
        split at ha
        · cases ha
        · rename_i h; injection ha with ha; exact ⟨Decidable.byContradiction h, ha.symm⟩
      obtain ⟨hvd, rfl⟩ := hlen
      cases hv : imgO P Q T (rs.map (·.l)) V with
      | none => rw [hv] at hh; simp [holdsO] at hh
      | some T' =>
        rw [hv] at hh
        have hT : T' = T := by simpa [holdsO] using hh
        subst hT
        obtain ⟨s, hs⟩ : ∃ s, s = sizeC P Q T' (rs.map (·.l)) := ⟨_, rfl⟩
        have hsD : ¬(sizeC P Q T' (rs.map (·.l)) = 0 ∨ D.length ≠ sizeC P Q T' (rs.map (·.l))) := fun h => by rw [imgO_none h] at hi; cases hi
        rw [imgO_some hsD] at hi
        injection hi with hi
        have hsV : ¬(sizeC P Q T' (rs.map (·.l)) = 0 ∨ V.length ≠ sizeC P Q T' (rs.map (·.l))) := fun h => by rw [imgO_none h] at hv; cases hv
        rw [imgO_some hsV] at hv
        injection hv with hv
        have hzl : (ansL Q E V D).length = V.length := by rw [ansL, List.length_map, List.length_zip]; omega
        have hsz : ¬(sizeC P Q T' (rs.map (·.l)) = 0 ∨ (ansL Q E V D).length ≠ sizeC P Q T' (rs.map (·.l))) := by rw [hzl]; exact hsV
        have hs0 : s ≠ 0 := by rw [hs]; exact fun h => hsD (.inl h)
        obtain ⟨hrT, _, _, _, hrow⟩ := sizeC_pos hs hs0
        unfold acceptB
        rw [imgO_some hsz, ← hE]
        have htl : t'.length = T'.length := by rw [← hi, List.length_map, List.length_map]; exact hrT
        simp only [htl, decide_true, Bool.true_and]
        unfold accUpto
        rw [List.all_eq_true]
        intro j hj
        have hj := List.mem_range.1 hj
        obtain ⟨r, hr'⟩ : ∃ r, rs[j]? = some r := ⟨_, List.getElem?_eq_getElem (by omega)⟩
        have hin := outs_no (hrow r (List.mem_of_getElem? hr')).2
        have hbq : ∀ b ∈ r.l, b ^ Q % P = 1 % P := fun b hb => (inG_pow hr (hin b hb)).1
        have e1 : ((rs.map (·.l)).map (imgRow P Q (ansL Q E V D))).getD j 0 = imgRow P Q (ansL Q E V D) r.l := by simp [List.getD, hr']
        have e2 : T'.getD j 0 = imgRow P Q V r.l := by rw [← hv]; simp [List.getD, hr']
        have e3 : t'.getD j 0 = imgRow P Q D r.l := by rw [← hi]; simp [List.getD, hr']
        rw [e1, e2, e3]
        have h1 : (1 : Nat) ^ Q % P = 1 % P := by rw [Nat.one_pow]
        have hD : inG P Q (imgRow P Q D r.l) = true := inG_of hr (by omega) (img_ord hr r.l D hbq 1 h1) (img_lt hr r.l D 1 (by omega))
        have hVo : (imgRow P Q V r.l) ^ Q % P = 1 % P := img_ord hr r.l V hbq 1 h1
        have hz := img_hom (E := E) hr hq r.l D V hbq hvd 1 1 1 (by simp)
        unfold accAt
        rw [hD, Bool.true_and]
        refine decide_eq_true ?_
        rw [mulM_yes hr]
        have h2 : imgRow P Q (ansL Q E V D) r.l < P := img_lt hr r.l _ 1 (by omega)
        rw [← Nat.mod_eq_of_lt h2]
        refine Eq.trans hz (mm rfl ?_)
        rw [expG_mod hr, ← pow_red hVo]
        rfl
theorem ans_bound {Q E : Nat} {V D z : List Nat} (h : ansO Q E V D = some z) : (∀ x ∈ z, x < 18446744073709551616) ∧ z.length = D.length := by
  unfold ansO at h
  split at h
  · cases h
  · rename_i hl
    injection h with h
    subst h
    refine ⟨fun x hx => ?_, by rw [ansL, List.length_map, List.length_zip]; omega⟩
    obtain ⟨p, _, rfl⟩ := List.mem_map.1 hx
    have := addM_lt p.2 (mulM E p.1 Q) Q
    omega
theorem proved_bounds {label : List UInt8} {P Q G H : Nat} {T : List Nat} {rs : List NumV} {V D t z : List Nat} (hp : proveO label P Q G H T (rs.map (·.l)) V D = some (t, z)) :
    (∀ x ∈ t, x < 18446744073709551616) ∧ (∀ x ∈ z, x < 18446744073709551616) ∧ t.length ≤ 10000 ∧ z.length ≤ 10000 := by
  unfold proveO at hp
  cases hi : imgO P Q T (rs.map (·.l)) D with
  | none => rw [hi] at hp; cases hp
  | some t' =>
    rw [hi] at hp
    cases ha : ansO Q (chal label P Q G H T (rs.map (·.l)) t') V D with
    | none => simp only [ha] at hp; cases hp
    | some z' =>
      simp only [ha, Option.some.injEq, Prod.mk.injEq] at hp
      obtain ⟨rfl, rfl⟩ := hp
      obtain ⟨h1, _, h3⟩ := img_bound hi
      obtain ⟨h4, h5⟩ := ans_bound ha
      refine ⟨h1, h4, by omega, ?_⟩
      have hsD : ¬(sizeC P Q T (rs.map (·.l)) = 0 ∨ D.length ≠ sizeC P Q T (rs.map (·.l))) := fun h => by rw [imgO_none h] at hi; cases hi
      obtain ⟨s, hs⟩ : ∃ s, s = sizeC P Q T (rs.map (·.l)) := ⟨_, rfl⟩
      obtain ⟨_, _, _, h6, _⟩ := sizeC_pos hs (by omega)
      omega
theorem group_yes {P Q G H : Nat} {rs : List RowV} (h : groupB P Q G H rs = true) : 5 ≤ Q ∧ Q < 2305843009213693952 ∧ P = 2 * Q + 1 ∧ rightB P = true ∧ rightB Q = true := by
  unfold groupB rightG at h
  simp only [Bool.and_eq_true, decide_eq_true_eq] at h
  obtain ⟨_, ⟨⟨h1, h2⟩, h3⟩, _⟩ := h
  exact ⟨h1, h2, h3, by simp [rightB]; omega, by simp [rightB]; omega⟩
end Go.Proofs.YtbpenkaficiodaaGreat

/- What divides: the inverse that Euclid's way finds. Plain. -/
namespace Go.Proofs.YtbpenkaficiodaaGreat

theorem subM_int {a b m : Nat} (hr : rightB m = true) : ∃ k : Int, ((subM a b m : Nat) : Int) = a - b + k * m := by
  have hm := rightB_yes hr
  rw [subM_yes hr]
  have h1 := Nat.div_add_mod a m
  have h2 := Nat.div_add_mod b m
  have h3 := Nat.div_add_mod (a % m + m - b % m) m
  have hb : b % m < m := Nat.mod_lt _ (by omega)
  refine ⟨((b / m : Nat) : Int) - (a / m : Nat) + 1 - ((a % m + m - b % m) / m : Nat), ?_⟩
  have e1 : ((m : Int) * (a / m : Nat)) + (a % m : Nat) = a := by exact_mod_cast h1
  have e2 : ((m : Int) * (b / m : Nat)) + (b % m : Nat) = b := by exact_mod_cast h2
  have e3 : ((m : Int) * ((a % m + m - b % m) / m : Nat)) + ((a % m + m - b % m) % m : Nat) = (a % m : Nat) + m - (b % m : Nat) := by
    have : ((a % m + m - b % m : Nat) : Int) = (a % m : Nat) + m - (b % m : Nat) := by omega
    rw [← this]; exact_mod_cast h3
  generalize ((a % m + m - b % m) % m : Nat) = s at *
  generalize ((a % m + m - b % m) / m : Nat) = t at *
  generalize (a / m : Nat) = u at *
  generalize (b / m : Nat) = v at *
  generalize (a % m : Nat) = x at *
  generalize (b % m : Nat) = y at *
  clear h1 h2 h3
  grind
theorem step_int {S q is was a now before m k1 k2 k3 r : Int} (h1 : was * a = before + k1 * m) (h2 : is * a = now + k2 * m) (h3 : S = was - q * is + k3 * m) (h4 : before = q * now + r) : S * a = r + (k1 - q * k2 + k3 * a) * m := by
  grind
theorem invL_law (m a : Nat) (hr : rightB m = true) : ∀ now before was is : Nat, (∃ k : Int, (was : Int) * a = before + k * m) → (∃ k : Int, (is : Int) * a = now + k * m) →
    (∃ k : Int, ((invL m before now was is).2 : Int) * a = (invL m before now was is).1 + k * m) ∧ (invL m before now was is).1 = Nat.gcd before now := by
  intro now
  induction now using Nat.strongRecOn with
  | _ now ih =>
    intro before was is h1 h2
    by_cases h0 : now = 0
    · subst h0
      rw [invL_zero]
      exact ⟨h1, by simp⟩
    · rw [invL_step _ _ _ _ _ h0]
      obtain ⟨k1, h1⟩ := h1
      obtain ⟨k2, h2⟩ := h2
      have h4 := Nat.div_add_mod before now
      have h5 : (before : Int) = (before / now : Nat) * now + (before % now : Nat) := by
        have : (before : Int) = ((now * (before / now) + before % now : Nat) : Int) := by rw [h4]
        rw [this]; push_cast; rw [Int.mul_comm]
      obtain ⟨k3, h3⟩ := subM_int (a := was) (b := before / now * is % m) hr
      have h6 : ((before / now * is % m : Nat) : Int) = (before / now : Nat) * is - (m : Int) * ((before / now * is / m : Nat) : Int) := by
        have := Nat.div_add_mod (before / now * is) m
        have h7 : (((m * (before / now * is / m) + before / now * is % m : Nat)) : Int) = ((before / now * is : Nat) : Int) := by rw [this]
        push_cast at h7 ⊢
        omega
      have h8 : ((subM was (before / now * is % m) m : Nat) : Int) = was - ((before / now : Nat) : Int) * is + (k3 + ((before / now * is / m : Nat) : Int)) * m := by
        rw [h3, h6, Int.add_mul]
        generalize ((before / now * is / m : Nat) : Int) = z
        rw [Int.mul_comm (m : Int) z]
        omega
      have hs := step_int h1 h2 h8 h5
      obtain ⟨r1, r2⟩ := ih (before % now) (Nat.mod_lt _ (Nat.pos_of_ne_zero h0)) now is (subM was (before / now * is % m) m) ⟨k2, h2⟩ ⟨_, hs⟩
      refine ⟨r1, ?_⟩
      rw [r2, Nat.gcd_comm now, ← Nat.gcd_rec, Nat.gcd_comm]
/-- Where a number and the modulus have nothing in common, the inverse is found. -/
theorem invM_law {a P : Nat} (hr : rightB P = true) (hg : Nat.gcd P a = 1) : a * (invM a P).1 % P = 1 % P := by
  have hm := rightB_yes hr
  have h0 : ∃ k : Int, ((0 : Nat) : Int) * (a : Int) = (P : Nat) + k * P := ⟨-1, by omega⟩
  have h1 : ∃ k : Int, ((1 : Nat) : Int) * (a : Int) = ((a % P : Nat) : Int) + k * P := by
    refine ⟨((a / P : Nat) : Int), ?_⟩
    have := Nat.div_add_mod a P
    have h7 : (((P * (a / P) + a % P : Nat)) : Int) = (a : Int) := by rw [this]
    push_cast at h7 ⊢
    rw [Int.mul_comm ((a : Int) / P)]
    omega
  obtain ⟨⟨k, hk⟩, h2⟩ := invL_law P a hr (a % P) P 0 1 h0 h1
  have h3 : (invL P P (a % P) 0 1).1 = 1 := by
    rw [h2, ← hg, Nat.gcd_comm P (a % P), ← Nat.gcd_rec]
  unfold invM
  rw [if_pos hr, if_pos h3]
  rw [h3] at hk
  show a * (invL P P (a % P) 0 1).2 % P = 1 % P
  generalize (invL P P (a % P) 0 1).2 = v at hk
  have h4 : ((a * v : Nat) : Int) = 1 + k * P := by push_cast; rw [Int.mul_comm]; exact_mod_cast hk
  have h5 : ((a * v % P : Nat) : Int) = ((1 % P : Nat) : Int) := by
    rw [Int.natCast_emod, h4, Int.add_mul_emod_self_right]
    rfl
  exact_mod_cast h5
theorem coprime_of {a P Q : Nat} (hP : 2 ≤ P) (hQ : 0 < Q) (h : a ^ Q % P = 1 % P) : Nat.gcd P a = 1 := by
  have hs : a ∣ a ^ Q := by
    obtain ⟨n, rfl⟩ : ∃ n, Q = n + 1 := ⟨Q - 1, by omega⟩
    rw [Nat.pow_succ]; exact Nat.dvd_mul_left _ _
  have h1 : Nat.gcd P a ∣ a ^ Q := Nat.dvd_trans (Nat.gcd_dvd_right P a) hs
  have h2 : Nat.gcd P a ∣ P := Nat.gcd_dvd_left P a
  have h3 : 1 % P = 1 := Nat.mod_eq_of_lt (by omega)
  rw [h3] at h
  have h4 := Nat.div_add_mod (a ^ Q) P
  rw [h] at h4
  have h5 : Nat.gcd P a ∣ P * (a ^ Q / P) := Nat.dvd_trans h2 (Nat.dvd_mul_right _ _)
  rw [← h4] at h1
  have h6 := (Nat.dvd_add_right h5).1 h1
  exact Nat.dvd_one.1 h6
/-- Of an element, the inverse is found. -/
theorem inv_elem {P Q y : Nat} (hr : rightB P = true) (hQ : 0 < Q) (h : y ^ Q % P = 1 % P) : y * (invM y P).1 % P = 1 % P :=
  invM_law hr (coprime_of (rightB_yes hr).1 hQ h)
theorem inv_uniq {P a b u : Nat} (ha : u * a % P = 1 % P) (hb : u * b % P = 1 % P) : a % P = b % P := by
  have h1 : a * (u * b) % P = a * 1 % P := mm rfl hb
  have h2 : u * a * b % P = 1 * b % P := mm ha rfl
  rw [Nat.mul_one] at h1
  rw [Nat.one_mul] at h2
  rw [← h1, ← h2]
  congr 1
  rw [← Nat.mul_assoc, Nat.mul_comm a u]
theorem inv_pow {P Q y : Nat} (hr : rightB P = true) (hQ : 0 < Q) (h : y ^ Q % P = 1 % P) (n : Nat) : (invM (y ^ n) P).1 % P = (invM y P).1 ^ n % P := by
  refine inv_uniq (u := y ^ n) (inv_elem hr hQ (pow_ord h n)) ?_
  rw [← Nat.mul_pow, mp (inv_elem hr hQ h), Nat.one_pow]
theorem inv_ord {P Q y : Nat} (hr : rightB P = true) (hQ : 0 < Q) (h : y ^ Q % P = 1 % P) : (invM y P).1 ^ Q % P = 1 % P := by
  have h1 := mp (inv_elem hr hQ h) Q
  rw [Nat.mul_pow, Nat.one_pow] at h1
  have h2 := mm h (rfl : (invM y P).1 ^ Q % P = (invM y P).1 ^ Q % P)
  rw [Nat.one_mul] at h2
  rw [← h2, h1]
/-- A claim of elements, of what they give for V, is good. -/
theorem good_claim {label : List UInt8} {P Q G H n : Nat} {T : List Nat} {L : List (List Nat)} {V D : List Nat} (hr : rightB P = true) (hq : rightB Q = true) (hL : 1 ≤ L.length) (hL2 : L.length ≤ 64) (hrow : ∀ l ∈ L, l.length = n ∧ ∀ b ∈ l, inG P Q b = true) (hn : 1 ≤ n) (hn2 : n ≤ 64)
    (hV : V.length = n) (hD : D.length = n) (hT : T = L.map (imgRow P Q V)) : holdsO T (imgO P Q T L V) = true ∧ ∃ t z, proveO label P Q G H T L V D = some (t, z) := by
  have hq2 := rightB_yes hq
  have hP2 := rightB_yes hr
  have hTi : outs P Q T = false := by
    unfold outs
    rw [List.any_eq_false]
    intro x hx
    rw [hT] at hx
    obtain ⟨l, hl, rfl⟩ := List.mem_map.1 hx
    have hb : ∀ b ∈ l, b ^ Q % P = 1 % P := fun b hb => (inG_pow hr ((hrow l hl).2 b hb)).1
    have h1 : (1 : Nat) ^ Q % P = 1 % P := by rw [Nat.one_pow]
    have := inG_of hr (by omega) (img_ord hr l V hb 1 h1) (img_lt hr l V 1 (by omega))
    unfold imgRow
    simp [this]
  have hs : sizeC P Q T L = n := by
    have hTl : T.length = L.length := by rw [hT, List.length_map]
    have hh : n = (L.headD []).length := by
      cases L with
      | nil => simp at hL
      | cons a l => exact ((hrow a (by simp)).1).symm
    rw [sizeC_rows (by omega) hTi hh, if_pos]
    rw [List.all_eq_true]
    intro l hl
    have ho : outs P Q l = false := by
      unfold outs
      rw [List.any_eq_false]
      intro b hb
      simp [(hrow l hl).2 b hb]
    unfold rowOk
    simp [(hrow l hl).1, ho, hn2]
  have hi : imgO P Q T L V = some (L.map (imgRow P Q V)) := imgO_some (by omega)
  have hi2 : imgO P Q T L D = some (L.map (imgRow P Q D)) := imgO_some (by omega)
  refine ⟨by rw [hi, ← hT]; simp [holdsO], ?_⟩
  unfold proveO ansO
  rw [hi2]
  simp only [hV, hD, ne_eq, not_true, if_false]
  exact ⟨_, _, rfl⟩
end Go.Proofs.YtbpenkaficiodaaGreat

/- Of what was made by a secret and draws, what is claimed holds: plain. -/
namespace Go.Proofs.YtbpenkaficiodaaGreat

theorem expG_lt_P {P Q b e : Nat} (hr : rightB P = true) : expG P Q b e < P := by
  rw [expG, powM_yes hr]; exact Nat.mod_lt _ (by have := rightB_yes hr; omega)
theorem overG_lt_P {P x y : Nat} (hr : rightB P = true) : overG P x y < P := mulM_lt_P hr
theorem one_lt_P {P : Nat} (hr : rightB P = true) : 1 < P := by have := rightB_yes hr; omega
theorem mul_one_l {P e : Nat} (hr : rightB P = true) (he : e < P) : mulM 1 e P = e := by rw [mulM_yes hr, Nat.one_mul, Nat.mod_eq_of_lt he]
theorem againU_one {P Q G r : Nat} (hr : rightB P = true) : againU P Q G 1 r = expG P Q G r := by
  rw [againU, prod_two hr (one_lt_P hr), mul_one_l hr (expG_lt_P hr)]
theorem againV_of {P Q key n r : Nat} (hr : rightB P = true) (hn : n < P) : againV P Q key n r = mulM n (expG P Q key r) P := by
  rw [againV, prod_two hr hn]
theorem elem_exp {P Q b e : Nat} (hr : rightB P = true) (hb : b ^ Q % P = 1 % P) : (expG P Q b e) ^ Q % P = 1 % P := by
  rw [expG, powM_yes hr, ← Nat.pow_mod]; exact pow_ord hb _
theorem elem_mul {P Q a b : Nat} (hr : rightB P = true) (ha : a ^ Q % P = 1 % P) (hb : b ^ Q % P = 1 % P) : (mulM a b P) ^ Q % P = 1 % P := by
  rw [mulM_yes hr, ← Nat.pow_mod, Nat.mul_pow]
  have := mm ha hb
  rwa [Nat.one_mul] at this
theorem elem_over {P Q a b : Nat} (hr : rightB P = true) (hQ : 0 < Q) (ha : a ^ Q % P = 1 % P) (hb : b ^ Q % P = 1 % P) : (overG P a b) ^ Q % P = 1 % P :=
  elem_mul hr ha (inv_ord hr hQ hb)
theorem invM_mod {P a : Nat} : invM (a % P) P = invM a P := by unfold invM; rw [Nat.mod_mod]
theorem over_one {P e : Nat} (hr : rightB P = true) (he : e < P) : overG P e 1 = e := by
  have h := inv_elem hr (Q := 1) (y := 1) (by omega) (by simp)
  rw [Nat.one_mul] at h
  rw [overG, mulM_yes hr]
  have := mm (rfl : e % P = e % P) h
  rw [Nat.mul_one] at this
  rw [this, Nat.mod_eq_of_lt he]
theorem cross_eq {P Q U V x z r : Nat} (hr : rightB P = true) (hQ : 0 < Q) (hU : U ^ Q % P = 1 % P) (hV : V ^ Q % P = 1 % P) :
    overG P (crossV P Q U V x z r) V = mulM (mulM 1 (expG P Q (overG P 1 U) x) P) (expG P Q z r) P := by
  have hb := inv_elem hr hQ hV
  have hc : (invM (expG P Q U x) P).1 % P = (invM U P).1 ^ (x % Q) % P := by
    rw [expG, powM_yes hr, invM_mod]
    exact inv_pow hr hQ hU _
  obtain ⟨T, hT⟩ : ∃ T, T = expG P Q z r := ⟨_, rfl⟩
  rw [crossV, prod_two hr (overG_lt_P hr), ← hT]
  rw [overG, overG, mulM_yes hr, mulM_yes hr, mulM_yes hr, mulM_yes hr, mulM_yes hr, overG, mulM_yes hr, Nat.one_mul, Nat.one_mul]
  rw [expG, powM_yes hr] at hc
  rw [expG, powM_yes hr, expG, powM_yes hr, mod2, ← Nat.pow_mod]
  generalize (invM (U ^ (x % Q) % P) P).1 = C at hc ⊢
  generalize (invM U P).1 ^ (x % Q) = A at hc ⊢
  generalize (invM V P).1 = B at hb ⊢
  rw [Nat.mod_mul_mod, Nat.mod_mul_mod]
  have h1 : (V * C % P * T) * B % P = V * B * (C * T) % P := by
    rw [Nat.mul_assoc, Nat.mod_mul_mod]
    congr 1
    rw [Nat.mul_assoc, Nat.mul_assoc, Nat.mul_comm B, Nat.mul_assoc]
  rw [h1]
  have h2 := mm hb (mm hc (rfl : T % P = T % P))
  rw [Nat.one_mul] at h2
  exact h2
theorem img_first {P Q b e : Nat} (hr : rightB P = true) : imgStep P Q 1 (b, e) = expG P Q b e := by
  show mulM 1 (expG P Q b e) P = _
  exact mul_one_l hr (expG_lt_P hr)
theorem img_skip {P Q x e : Nat} (hr : rightB P = true) (hx : x < P) : imgStep P Q x (1, e) = x := step_one hr hx
theorem keeps_eq {P Q G x : Nat} (hr : rightB P = true) : [expG P Q G x] = [[G]].map (imgRow P Q [x]) := by
  simp only [List.map_cons, List.map_nil, imgRow, List.zip_cons_cons, List.zip_nil_right, List.foldl_cons, List.foldl_nil, img_first hr]
theorem expG_1 {P Q e : Nat} (hr : rightB P = true) : expG P Q 1 e = 1 := by rw [expG, powM_yes hr, Nat.one_pow, Nat.mod_eq_of_lt (one_lt_P hr)]
theorem knows_eq {P Q G r0 r1 r2 : Nat} (hr : rightB P = true) : [againU P Q G 1 r0, againU P Q G 1 r1, againU P Q G 1 r2] = [[G, 1, 1], [1, G, 1], [1, 1, G]].map (imgRow P Q [r0, r1, r2]) := by
  simp only [List.map_cons, List.map_nil, imgRow, List.zip_cons_cons, List.zip_nil_right, List.foldl_cons, List.foldl_nil, img_first hr, img_skip hr (expG_lt_P hr), img_skip hr (one_lt_P hr), expG_1 hr, againU_one hr]
theorem shares_eq {P Q G U x : Nat} (hr : rightB P = true) : [expG P Q G x, expG P Q U x] = [[G], [U]].map (imgRow P Q [x]) := by
  simp only [List.map_cons, List.map_nil, imgRow, List.zip_cons_cons, List.zip_nil_right, List.foldl_cons, List.foldl_nil, img_first hr]
theorem crosses_eq {P Q G U V x z r : Nat} (hr : rightB P = true) (hQ : 0 < Q) (hU : U ^ Q % P = 1 % P) (hV : V ^ Q % P = 1 % P) :
    [expG P Q G x, overG P (againU P Q G 1 r) 1, overG P (crossV P Q U V x z r) V] = [[G, 1], [1, G], [overG P 1 U, z]].map (imgRow P Q [x, r]) := by
  rw [cross_eq hr hQ hU hV, againU_one hr, over_one hr (expG_lt_P hr)]
  simp only [List.map_cons, List.map_nil, imgRow, List.zip_cons_cons, List.zip_nil_right, List.foldl_cons, List.foldl_nil, img_first hr, img_skip hr (expG_lt_P hr), img_skip hr (one_lt_P hr), expG_1 hr]
  simp only [imgStep, mul_one_l hr (expG_lt_P hr)]
theorem one_elem {P Q : Nat} (hr : rightB P = true) (hQ : 0 < Q) : inG P Q 1 = true := inG_of hr hQ (by rw [Nat.one_pow]) (one_lt_P hr)
end Go.Proofs.YtbpenkaficiodaaGreat

/- Letters that were made are believed: plain. -/
namespace Go.Proofs.YtbpenkaficiodaaGreat

theorem drawsL_three (seed : List UInt8) (Q b : Nat) : drawsL seed Q b 3 = [drawN seed Q b, drawN seed Q (b + 1), drawN seed Q (b + 2)] := rfl
theorem inG_exp {P Q b e : Nat} (hr : rightB P = true) (hq : 0 < Q) (hb : inG P Q b = true) : inG P Q (expG P Q b e) = true := inG_of hr hq (elem_exp hr (inG_pow hr hb).1) (expG_lt_P hr)
theorem inG_mul {P Q a b : Nat} (hr : rightB P = true) (hq : 0 < Q) (ha : inG P Q a = true) (hb : inG P Q b = true) : inG P Q (mulM a b P) = true := inG_of hr hq (elem_mul hr (inG_pow hr ha).1 (inG_pow hr hb).1) (mulM_lt_P hr)
theorem inG_againV {P Q key m r : Nat} (hr : rightB P = true) (hq : 0 < Q) (hk : inG P Q key = true) (hm : inG P Q m = true) : inG P Q (againV P Q key m r) = true := by
  rw [againV_of hr (inG_pow hr hm).2.1]
  exact inG_mul hr hq hm (inG_exp hr hq hk)
theorem noteBox_in {P Q G y : Nat} {n : Nat → Nat} {seed : List UInt8} {b : Nat} (hr : rightB P = true) (hq : 0 < Q) (hG : inG P Q G = true) (hy : inG P Q y = true) (hn : ∀ j, j < 3 → inG P Q (layN P Q (n j)) = true) : boxIn P Q (noteBox P Q G y n seed b) = true :=
  boxIn_yes.2 fun j hj => ⟨inG_exp hr hq hG, inG_againV hr hq hy (hn j hj)⟩
theorem letter_made {P Q G H y : Nat} {n : Nat → Nat} {seed label : List UInt8} {b : Nat} (hr : rightB P = true) (hq : rightB Q = true) (hG : inG P Q G = true) (hy : inG P Q y = true) (hn : ∀ j, j < 3 → inG P Q (layN P Q (n j)) = true) :
    ∃ tc tz, letterO label P Q G H (noteBox P Q G y n seed b) seed b = some (tc, tz) ∧ letterB label P Q G H (noteBox P Q G y n seed b) tc tz = true := by
  have hQ := rightB_yes hq
  have h1 := one_elem (P := P) (Q := Q) hr (by omega)
  have hT : [(noteBox P Q G y n seed b).u 0, (noteBox P Q G y n seed b).u 1, (noteBox P Q G y n seed b).u 2] = [[G, 1, 1], [1, G, 1], [1, 1, G]].map (imgRow P Q (drawsL seed Q b 3)) := by
    have h := knows_eq (P := P) (Q := Q) (G := G) (r0 := drawN seed Q b) (r1 := drawN seed Q (b + 1)) (r2 := drawN seed Q (b + 2)) hr
    rw [againU_one hr, againU_one hr, againU_one hr] at h
    rw [drawsL_three]
    exact h
  obtain ⟨hh, t, z, hp⟩ := good_claim (label := label ++ tLetter) (P := P) (Q := Q) (G := G) (H := H) (n := 3) (T := [(noteBox P Q G y n seed b).u 0, (noteBox P Q G y n seed b).u 1, (noteBox P Q G y n seed b).u 2]) (L := [[G, 1, 1], [1, G, 1], [1, 1, G]]) (V := drawsL seed Q b 3) (D := drawsL seed Q (b + 3) 3) hr hq (by simp) (by simp)
    (by intro l hl; simp only [List.mem_cons, List.not_mem_nil, or_false] at hl; rcases hl with rfl | rfl | rfl <;> refine ⟨rfl, ?_⟩ <;> intro c hc <;> simp only [List.mem_cons, List.not_mem_nil, or_false] at hc <;> rcases hc with rfl | rfl | rfl <;> assumption) (by omega) (by omega) (drawsL_len _ _ _ _) (drawsL_len _ _ _ _) hT
  refine ⟨t, z, hp, ?_⟩
  have hm := made_accepted (rs := [⟨none, 0, [G, 1, 1]⟩, ⟨none, 0, [1, G, 1]⟩, ⟨none, 0, [1, 1, G]⟩]) hr hq hp hh
  unfold letterB
  rw [noteBox_in hr (by omega) hG hy hn]
  exact hm
theorem img_nil (P Q : Nat) (T : List Nat) (L : List (List Nat)) : imgO P Q T L [] = none := by
  unfold imgO
  by_cases h : sizeC P Q T L = 0
  · simp [h]
  · simp [Ne.symm h]
theorem letter_bare {label : List UInt8} {P Q G H : Nat} {x : BoxV} : letterB label P Q G H x [] [] = false := by
  unfold letterB acceptB
  rw [img_nil]
  simp
end Go.Proofs.YtbpenkaficiodaaGreat

/- Chapter 12's awake: a letter that was made is believed, one without a proof isn't. -/
namespace Go.Proofs.YtbpenkaficiodaaGreat
open Go.RowKit Go.BigFrame

def n123 (j : Nat) : Nat := j + 1
theorem small_lay : ∀ j, j < 3 → inG 2027 1013 (layN 2027 1013 (n123 j)) = true := three_cases (by decide +kernel) (by decide +kernel) (by decide +kernel)
theorem small_in : inG 2027 1013 4 = true ∧ inG 2027 1013 64 = true ∧ inG 2027 1013 9 = true := by decide +kernel

set_option maxRecDepth 100000 in
set_option maxHeartbeats 4000000 in
theorem awake12_any (w : World) : Calls Tryz.prog 16 #[] w fun e w' => e = .returned (.bool true) ∧ Below w.heap.size w w' := by
  obtain ⟨tc, tz, hpr, hac⟩ := letter_made (H := 9) (label := [97]) (n := n123) (seed := [115]) (b := 0) (P := 2027) (Q := 1013) (G := 4) (y := 64) (by decide) (by decide) small_in.1 small_in.2.1 small_lay
  obtain ⟨b1, b2, b3, b4⟩ := proved_bounds (rs := [⟨none, 0, [4, 1, 1]⟩, ⟨none, 0, [1, 4, 1]⟩, ⟨none, 0, [1, 1, 4]⟩]) hpr
  have hxo := noteBox_ok (P := 2027) (Q := 1013) (G := 4) (y := 64) (n := n123) (seed := [115]) (b := 0) (by omega)
  have hwr := fun A n c W => write_yes 2027 1013 4 9 64 0 A n c [97] n123 [115] tc tz W (by omega) (by omega) (by omega) (by omega) (by omega) (by decide) (by decide) (by omega) (by omega) (by omega) (by omega) (by simp) (by simp) hpr
  have hlt := fun R C Z W h1 h2 h3 h4 => letter_any 2027 1013 4 9 R [97] (noteBox 2027 1013 4 64 n123 [115] 0) C Z W (by omega) (by omega) (by omega) (by omega) (by decide) (by omega) hxo h1 h2 h3 h4 (by simp)
  obtain ⟨x, hx⟩ : ∃ s, s = (noteBox 2027 1013 4 64 n123 [115] 0) := ⟨_, rfl⟩
  rw [← hx] at hwr hlt hac
  simp only [BoxV.list, List.cons_append, List.nil_append] at hwr
  have hrow := fun (W : World) (B : Nat) (v : Value) (h : Row W B 22 1 v tc.length (u64s tc)) => nums_of_row h b1
  have hrow2 := fun (W : World) (B : Nat) (v : Value) (h : Row W B 22 1 v tz.length (u64s tz)) => nums_of_row h b2
  have hwr : ∀ A n c W, Calls Tryz.prog 70 #[.agg #[.int .u64 2027, .int .u64 1013, .int .u64 4, .int .u64 9, .slice A n c], .string { data := #[97] }, .int .u64 64, .agg #[.int .u64 1, .int .u64 2, .int .u64 3], .string { data := #[115] }, .int .i64 0] W fun e w' =>
      (∃ v1 v2, e = .returned (.tuple #[.agg #[.int .u64 (x.u 0 : Int), .int .u64 (x.v 0 : Int), .int .u64 (x.u 1 : Int), .int .u64 (x.v 1 : Int), .int .u64 (x.u 2 : Int), .int .u64 (x.v 2 : Int), v1, v2], .bool true]) ∧ Row w' W.heap.size 22 1 v1 tc.length (u64s tc) ∧ Row w' W.heap.size 22 1 v2 tz.length (u64s tz)) ∧ Below W.heap.size W w' := hwr
  have hlt : ∀ (R : Value) (C Z : NumV) (W : World), Nums W C.A C.cap C.l → Nums W Z.A Z.cap Z.l → C.l.length ≤ 10000 → Z.l.length ≤ 10000 → Calls Tryz.prog 27 #[.agg #[.int .u64 2027, .int .u64 1013, .int .u64 4, .int .u64 9, R], .string { data := #[97] }, .agg #[.int .u64 (x.u 0 : Int), .int .u64 (x.v 0 : Int), .int .u64 (x.u 1 : Int), .int .u64 (x.v 1 : Int), .int .u64 (x.u 2 : Int), .int .u64 (x.v 2 : Int), .slice C.A C.l.length C.cap, .slice Z.A Z.l.length Z.cap]] W fun e w' => e = .returned (.bool (letterB [97] 2027 1013 4 9 x C.l Z.l)) ∧ Below W.heap.size W w' := hlt
  clear hpr hxo hx
  have B3 := Lib.hid b3
  have B4 := Lib.hid b4
  have Hwr := Lib.hid hwr; have Hlt := Lib.hid hlt; have Hac := Lib.hid hac; clear hwr hlt hac
  have Hrow := Lib.hid hrow; have Hrow2 := Lib.hid hrow2
  clear b1 b2 b3 b4 hrow hrow2
  go_enter Tryz.func16, Tryz.ntmps16
  go_wp2_with (first | (go_at_call 72; refine (small_any _).mono ?_; rintro e w1 ⟨⟨RA, rn, rc, rfl⟩, hb1⟩; have Hb1 := Lib.hid hb1; clear hb1; unfold gval) | fail)
  obtain ⟨w2, hw2⟩ : ∃ z, z = w1.alloc (.cells #[.int .u64 2027, .int .u64 1013, .int .u64 4, .int .u64 9, .slice RA rn rc] 25) := ⟨_, rfl⟩
  have hg2 : Blk w2 w1.heap.size 25 [.int .u64 2027, .int .u64 1013, .int .u64 4, .int .u64 9, .slice RA rn rc] := by rw [hw2]; exact Blk.of w1 _ _ _ rfl
  have hb2 : Below w.heap.size w w2 := by rw [hw2]; exact lat_alloc Hb1.out _
  rw [← hw2]
  have Hw2 := Lib.hid hw2; have Hg2 := Lib.hid hg2; have Hb2 := Lib.hid hb2; clear hw2 hg2 hb2
  refine (Hwr.out RA rn rc w2).mono ?_
  rintro e w3 ⟨⟨v1, v2, rfl, hr1, hr2⟩, hb3⟩
  obtain ⟨V1, d1, rfl, hN1⟩ := Hrow.out _ _ _ hr1
  obtain ⟨V2, d2, rfl, hN2⟩ := Hrow2.out _ _ _ hr2
  obtain ⟨w4, hw4⟩ : ∃ z, z = w3.alloc (.cells #[.int .u64 (x.u 0 : Int), .int .u64 (x.v 0 : Int), .int .u64 (x.u 1 : Int), .int .u64 (x.v 1 : Int), .int .u64 (x.u 2 : Int), .int .u64 (x.v 2 : Int), .slice V1 tc.length d1, .slice V2 tz.length d2] 65) := ⟨_, rfl⟩
  have hl4 : Blk w4 w3.heap.size 65 [.int .u64 (x.u 0 : Int), .int .u64 (x.v 0 : Int), .int .u64 (x.u 1 : Int), .int .u64 (x.v 1 : Int), .int .u64 (x.u 2 : Int), .int .u64 (x.v 2 : Int), .slice V1 tc.length d1, .slice V2 tz.length d2] := by rw [hw4]; exact Blk.of w3 _ _ _ rfl
  have hb34 : Below w3.heap.size w3 w4 := by rw [hw4]; exact lat_alloc (Below.refl _ _) _
  have hb4 := below_trans Hb2.out (below_trans hb3 hb34)
  have hl1 := Hlt.out (.slice RA rn rc) ⟨V1, d1, tc⟩ ⟨V2, d2, tz⟩
  have hl2 := Hlt.out (.slice RA rn rc) ⟨none, 0, []⟩ ⟨none, 0, []⟩
  rw [show letterB [97] 2027 1013 4 9 x (NumV.mk V1 d1 tc).l (NumV.mk V2 d2 tz).l = true from Hac.out] at hl1
  rw [show letterB [97] 2027 1013 4 9 x (NumV.mk none 0 []).l (NumV.mk none 0 []).l = false from letter_bare] at hl2
  have hl1' := fun W (hb : Below w4.heap.size w4 W) => hl1 W (hN1.below (below_trans hb34 hb)) (hN2.below (below_trans hb34 hb)) B3.out B4.out
  have hl2' := fun W => hl2 W (Nums.nil W none 0) (Nums.nil W none 0) (by simp) (by simp)
  have hg4 := Hg2.out.below (below_trans hb3 hb34) Hg2.out.lt
  have hgo := fun o => cells_5 ((Hg2.out.below hb3 Hg2.out.lt).alloc o)
  have g0 := fun o => (hgo o).1
  have g1 := fun o => (hgo o).2.1
  have g2 := fun o => (hgo o).2.2.1
  have g3 := fun o => (hgo o).2.2.2.1
  have g4 := fun o => (hgo o).2.2.2.2
  have Hw4 := Lib.hid hw4; have Hl4 := Lib.hid hl4; have Hb4 := Lib.hid hb4; have Hl1' := Lib.hid hl1'; have Hl2' := Lib.hid hl2'; have Hg4 := Lib.hid hg4; clear hw4 hl4 hb4 hl1' hl2' hg4
  clear hl1 hl2 hN1 hN2 hr1 hr2 hb3 hb34 hgo
  go_wp2_with (first | (go_at_call 27; rw [← Hw4.out]; with_reducible refine (Hl1'.out _ (Below.refl _ _)).mono ?_; rintro e w5 ⟨rfl, hb5⟩; obtain ⟨g0, g1, g2, g3, g4⟩ := cells_5 (Hg4.out.below hb5 Hg4.out.lt); obtain ⟨k0, k1, k2, k3, k4, k5, k6, k7⟩ := cells_8 (Hl4.out.below hb5 Hl4.out.lt); have Hb5 := Lib.hid hb5; clear hb5) | (go_at_call 27; refine (Hl2'.out _).mono ?_; rintro e w6 ⟨rfl, hb6⟩; have Hb6 := Lib.hid hb6; clear hb6) | fail)
  go_ret
  exact ⟨rfl, below_trans Hb4.out (below_trans Hb5.out Hb6.out)⟩
end Go.Proofs.YtbpenkaficiodaaGreat

/- Which crossings and openings are believed is the document's: the law's walk. -/
namespace Go.Proofs.YtbpenkaficiodaaGreat
open Go.RowKit Go.BigFrame

set_option maxRecDepth 100000 in
theorem ix_proofs (c a : Nat → NumV) (w : World) : ∀ j : Nat, j < 3 → (Instr.index 43 (.agg #[.slice (c 0).A (c 0).l.length (c 0).cap, .slice (a 0).A (a 0).l.length (a 0).cap, .slice (c 1).A (c 1).l.length (c 1).cap, .slice (a 1).A (a 1).l.length (a 1).cap, .slice (c 2).A (c 2).l.length (c 2).cap, .slice (a 2).A (a 2).l.length (a 2).cap]) (.int .i64 (j : Int))).run Tryz.prog w = .ok (.agg #[.slice (c j).A (c j).l.length (c j).cap, .slice (a j).A (a j).l.length (a j).cap]) w :=
  three_cases (by kernel_rfl) (by kernel_rfl) (by kernel_rfl)
theorem tcells {w : World} {b : Nat} {x : PassedV} {t : TypeId} (h : Blk w b t x.list) : ∀ j, j < 3 → w.cell? ⟨b, j * 3, none⟩ = some (.int .u64 (x.t.u j : Int)) ∧ w.cell? ⟨b, j * 3 + 1, none⟩ = some (.int .u64 (x.t.w j : Int)) ∧ w.cell? ⟨b, j * 3 + 2, none⟩ = some (.int .u64 (x.t.v j : Int)) :=
  three_cases ⟨h.cell 0, h.cell 1, h.cell 2⟩ ⟨h.cell 3, h.cell 4, h.cell 5⟩ ⟨h.cell 6, h.cell 7, h.cell 8⟩
theorem fitB_yes {P Q G H : Nat} {rs : List RowV} {label seed : List UInt8} {y : Nat} (h : fitB P Q G H rs label seed y = true) : groupB P Q G H rs = true ∧ label.length ≤ 100 ∧ seed.length ≤ 100 ∧ inG P Q y = true := by
  unfold fitB at h
  simp only [Bool.and_eq_true, decide_eq_true_eq] at h
  exact ⟨h.1.1.1, h.1.1.2, h.1.2, h.2⟩

set_option maxRecDepth 100000 in
set_option maxHeartbeats 8000000 in
theorem passed_walk (P Q G H x y : Nat) (F : Int) (RB : Option Addr) (capR : Nat) (rs : List RowV) (label seed : List UInt8) (A : Option Addr) (cap : Nat) (rows : List TriV) (B : Option Addr) (capB : Nat) (ls : List PassedV) (w : World) (hP : P < 18446744073709551616) (hQ : Q < 18446744073709551616) (hG : G < 18446744073709551616) (hH : H < 18446744073709551616) (hx : x < 18446744073709551616) (hy : y < 18446744073709551616)
    (hR : Rows3 w RB capR rs) (hRl : rs.length < 9223372036854775807) (hFl : ∀ r ∈ rs, r.F.l.length < 9223372036854775807) (hA : Tris w A cap rows) (hB : Passeds w B capB ls) (hAl : rows.length < 9223372036854775807) (hBl : ls.length < 9223372036854775807) :
    Calls Tryz.prog 3 #[.agg #[.int .u64 (P : Int), .int .u64 (Q : Int), .int .u64 (G : Int), .int .u64 (H : Int), .slice RB rs.length capR], .agg #[.string (str label), .string (str seed), .int .u64 (x : Int), .int .u64 (y : Int), .int .i64 F], .agg #[.slice A rows.length cap, .slice B ls.length capB]] w fun e w' => e = .returned (.bool true) ∧ Below w.heap.size w w' := by
  have hfit := fun W hb => fit12_any P Q G H x y F RB capR rs label seed W hP hQ hG hH hy (hR.below (w1 := W) hb) hRl hFl
  obtain ⟨rn, hrn⟩ : ∃ s, s = rs.length := ⟨_, rfl⟩
  rw [← hrn] at hfit ⊢
  have hsp := fun W hb h4 => split_any P Q G H (.slice RB rn capR) A cap rows W hP hQ h4 (hA.below (w1 := W) hb)
  have hin := fun z W (hz : z < 18446744073709551616) => refIn_any P Q G H z (.slice RB rn capR) W hP hQ hz
  have hke := fun W h2 => refKey_any P Q G H x (.slice RB rn capR) W hP hQ h2 hG hx
  have hkl : expG P Q G x < 18446744073709551616 := expG_lt hP
  have hcr := fun W hb h1 h2 h3 h4 h5 h6 => crossing_any P Q G H (expG P Q G x) y (.slice RB rn capR) label A cap rows B capB ls W hP hQ hG hH hkl hy h1 h2 (hA.below (w1 := W) hb) (hB.below hb) h3 h4 h5 h6
  have hcr2 := fun W hb h2 h3 h4 h5 h6 => refCrossing_any P Q G H (expG P Q G x) y (.slice RB rn capR) label A cap rows B capB ls W hP hQ hG hH hkl hy h2 (hA.below (w1 := W) hb) (hB.below hb) h3 h4 h5 h6
  have hop := fun W hb A' c' bs (hbx : Boxes W A' c' bs) h1 h2 h3 h4 h5 h6 => opening_any P Q G H (expG P Q G x) (.slice RB rn capR) label A' c' bs B capB ls W hP hQ hG hH hkl h1 h2 hbx (hB.below (w1 := W) hb) h3 h4 h5 h6
  have hop2 := fun W hb A' c' bs (hbx : Boxes W A' c' bs) h2 h3 h4 h5 h6 => refOpening_any P Q G H (expG P Q G x) (.slice RB rn capR) label A' c' bs B capB ls W hP hQ hG hH hkl h2 hbx (hB.below (w1 := W) hb) h3 h4 h5 h6
  unfold gval at hin hke
  obtain ⟨nA, hnA⟩ : ∃ s, s = (rows.length) := ⟨_, rfl⟩; obtain ⟨nB, hnB⟩ : ∃ s, s = (ls.length) := ⟨_, rfl⟩; obtain ⟨key, hkey⟩ : ∃ s, s = (expG P Q G x) := ⟨_, rfl⟩
  rw [← hnA] at hsp hcr hcr2
  rw [← hnB] at hcr hcr2 hop hop2
  rw [← hkey] at hke hcr hcr2 hop hop2
  rw [← hnA, ← hnB]
  have hnA' : nA < 9223372036854775807 := by omega
  have hnB' : nB < 9223372036854775807 := by omega
  obtain ⟨w0, hw0⟩ : ∃ z, z = (((w.alloc (.cells #[.int .u64 (P : Int), .int .u64 (Q : Int), .int .u64 (G : Int), .int .u64 (H : Int), .slice RB rn capR] 25)).alloc (.cells #[.string (str label), .string (str seed), .int .u64 (x : Int), .int .u64 (y : Int), .int .i64 F] 27)).alloc (.cells #[.slice A nA cap, .slice B nB capB] 31)) := ⟨_, rfl⟩
  have hw0b : Below w.heap.size w w0 := by rw [hw0]; exact lat_alloc (lat_alloc (lat_alloc (Below.refl _ _) _) _) _
  have hg : Blk w0 (w.heap.size) 25 [.int .u64 (P : Int), .int .u64 (Q : Int), .int .u64 (G : Int), .int .u64 (H : Int), .slice RB rn capR] := by rw [hw0]; exact (((Blk.of w _ _ _ rfl).alloc _).alloc _)
  have hs : Blk w0 (w.heap.size + 1) 27 [.string (str label), .string (str seed), .int .u64 (x : Int), .int .u64 (y : Int), .int .i64 F] := by rw [hw0]; exact ((Blk.at_new _ _ _ _ _ (by simp) rfl).alloc _)
  have hh : Blk w0 (w.heap.size + 1 + 1) 31 [.slice A nA cap, .slice B nB capB] := by rw [hw0]; exact (Blk.at_new _ _ _ _ _ (by simp) rfl)
  have hf : ∀ W, Below w0.heap.size w0 W → (W.cell? ⟨w.heap.size, 0, none⟩ = some (.int .u64 (P : Int)) ∧ W.cell? ⟨w.heap.size, 1, none⟩ = some (.int .u64 (Q : Int)) ∧ W.cell? ⟨w.heap.size, 2, none⟩ = some (.int .u64 (G : Int)) ∧ W.cell? ⟨w.heap.size, 3, none⟩ = some (.int .u64 (H : Int)) ∧ W.cell? ⟨w.heap.size, 4, none⟩ = some (.slice RB rn capR)) ∧
      (W.cell? ⟨w.heap.size + 1, 0, none⟩ = some (.string (str label)) ∧ W.cell? ⟨w.heap.size + 1, 1, none⟩ = some (.string (str seed)) ∧ W.cell? ⟨w.heap.size + 1, 2, none⟩ = some (.int .u64 (x : Int)) ∧ W.cell? ⟨w.heap.size + 1, 3, none⟩ = some (.int .u64 (y : Int)) ∧ W.cell? ⟨w.heap.size + 1, 4, none⟩ = some (.int .i64 F)) ∧
      (W.cell? ⟨w.heap.size + 1 + 1, 0, none⟩ = some (.slice A nA cap) ∧ W.cell? ⟨w.heap.size + 1 + 1, 1, none⟩ = some (.slice B nB capB)) := fun W hb => ⟨cells_5 (hg.below hb hg.lt), cells_5 (hs.below hb hs.lt), cells_2 (hh.below hb hh.lt)⟩
  have hrows := hA.small
  have Hrows := Lib.hid hrows; have Hfit := Lib.hid hfit; have Hsp := Lib.hid hsp; have Hin := Lib.hid hin; have Hke := Lib.hid hke; have Hcr := Lib.hid hcr; have Hcr2 := Lib.hid hcr2; have Hop := Lib.hid hop; have Hop2 := Lib.hid hop2; have Hw0 := Lib.hid hw0; have Hw0b := Lib.hid hw0b; have Hf := Lib.hid hf; have HnA := Lib.hid hnA; have HnB := Lib.hid hnB; have HB := Lib.hid hB; clear hrows hfit hsp hin hke hcr hcr2 hop hop2 hw0 hw0b hf hnA hnB hB
  clear hg hs hh hkl hkey hrn hR hRl hFl hA hAl hBl
  go_enter Tryz.func3, Tryz.ntmps3
  go_wp2_with fail
  rw [← Hw0.out]
  refine (awake12_any _).mono ?_
  rintro e w1 ⟨rfl, hb1⟩
  obtain ⟨⟨g0, g1, g2, g3, g4⟩, ⟨s0, s1, s2, s3, s4⟩, ⟨q0, q1⟩⟩ := Hf.out w1 hb1
  have Hb1 := Lib.hid hb1; clear hb1
  go_wp2_with fail
  refine (Hfit.out w1 (below_trans Hw0b.out Hb1.out)).mono ?_
  rintro e w2 ⟨rfl, hb2⟩
  have hb02 := below_trans Hb1.out hb2
  obtain ⟨⟨g0, g1, g2, g3, g4⟩, ⟨s0, s1, s2, s3, s4⟩, ⟨q0, q1⟩⟩ := Hf.out w2 hb02
  have Hb02 := Lib.hid hb02; clear hb02
  clear hb2
  cases hfb : fitB P Q G H rs label seed y with
  | false =>
    go_wp2_with fail
    go_ret
    exact ⟨rfl, below_trans Hw0b.out Hb02.out⟩
  | true =>
    obtain ⟨hgb, hll, _, _⟩ := fitB_yes hfb
    obtain ⟨hQ5, hQm, hPQ, hrP, hrQ⟩ := group_yes hgb
    have Hgb := Lib.hid hgb; have Hll := Lib.hid hll; have HrP := Lib.hid hrP; have HPQ := Lib.hid hPQ; have HrQ := Lib.hid hrQ; have HQm := Lib.hid hQm; clear hgb hll hrP hPQ hrQ hQm
    clear hfb
    by_cases h4 : nA ≤ 4
    case neg =>
      have d1 : decide ((4 : Int) < (nA : Int)) = true := decide_eq_true (by omega)
      go_wp2_with fail
      go_ret
      exact ⟨rfl, below_trans Hw0b.out Hb02.out⟩
    have d1 : decide ((4 : Int) < (nA : Int)) = false := decide_eq_false (by omega)
    by_cases h5 : nB ≤ 4
    case neg =>
      have d2 : decide ((4 : Int) < (nB : Int)) = true := decide_eq_true (by omega)
      go_wp2_with fail
      go_ret
      exact ⟨rfl, below_trans Hw0b.out Hb02.out⟩
    have d2 : decide ((4 : Int) < (nB : Int)) = false := decide_eq_false (by omega)
    go_wp2_with fail
    refine (Hsp.out w2 (below_trans Hw0b.out Hb02.out) (by omega)).mono ?_
    rintro e w3 ⟨hos, hb3⟩
    have hb03 := below_trans Hb02.out hb3
    have Hb03 := Lib.hid hb03; clear hb03
    clear hb3
    unfold OutSplit at hos
    by_cases hall : rows.all (rowIn P Q) = true
    case neg =>
      rw [if_neg hall] at hos
      subst hos
      clear hall
      go_wp2_with fail
      go_ret
      exact ⟨rfl, below_trans Hw0b.out Hb03.out⟩
    rw [if_pos hall] at hos
    obtain ⟨v, rfl, hrow⟩ := hos
    obtain ⟨SA, sc, rfl, hbx⟩ := boxes_of_row (bs := rows.map toBox) (by rw [List.length_map]; exact hrow) (by
      intro b hb
      obtain ⟨a, ha, rfl⟩ := List.mem_map.1 hb
      exact fun j hj => ⟨(Hrows.out a ha j hj).1, (Hrows.out a ha j hj).2.2⟩)
    rw [List.length_map, ← HnA.out]
    obtain ⟨⟨g0, g1, g2, g3, g4⟩, ⟨s0, s1, s2, s3, s4⟩, ⟨q0, q1⟩⟩ := Hf.out w3 Hb03.out
    have Hbx := Lib.hid hbx; clear hbx
    clear hrow hall
    go_wp2_with fail
    go_loopw [44] (fun kv wr => ∃ k : Nat, kv = .int .i64 (k : Int) ∧ k ≤ nB ∧ (∀ i z, i < k → ls[i]? = some z → ∀ j, j < 3 → (z.c j).l.length ≤ 80 ∧ (z.a j).l.length ≤ 80) ∧ Below w3.heap.size w3 wr) (fun kv _ => nB - (intOf kv).toNat)
    case atStart => exact ⟨0, rfl, by omega, by omega, Below.refl _ _⟩
    case round =>
      obtain ⟨k, rfl, hk, hak, hbr⟩ := hrel
      have Hak := Lib.hid hak; have Hbr := Lib.hid hbr; clear hak hbr
      by_cases hkl : k < nB
      · have d8 : decide ((k : Int) < (nB : Int)) = true := decide_eq_true (by omega)
        have hki : (k : Int) < (nB : Int) := by omega
        obtain ⟨z, hz⟩ : ∃ z, ls[k]? = some z := ⟨_, List.getElem?_eq_getElem (by rw [← HnB.out]; exact hkl)⟩
        have hzs := HB.out.small z (List.mem_of_getElem? hz)
        obtain ⟨b, hAb, q0, q1, q2, q3, q4, q5, q6, q7, q8, q9, q10, q11, q12, q13, q14⟩ := recs_15 (HB.out.below (below_trans Hw0b.out (below_trans Hb03.out Hbr.out))).recs (k := k) (by rw [List.getElem?_map, hz]; rfl)
        subst hAb
        simp only [NumV.val] at q9 q10 q11 q12 q13 q14
        have Hz := Lib.hid hz; have Hzs := Lib.hid hzs; clear hz hzs
        go_wp2_with fail
        obtain ⟨wx, hwx⟩ : ∃ q, q = wr.alloc (.cells #[.int .u64 (z.t.u 0 : Int), .int .u64 (z.t.w 0 : Int), .int .u64 (z.t.v 0 : Int), .int .u64 (z.t.u 1 : Int), .int .u64 (z.t.w 1 : Int), .int .u64 (z.t.v 1 : Int), .int .u64 (z.t.u 2 : Int), .int .u64 (z.t.w 2 : Int), .int .u64 (z.t.v 2 : Int), .slice (z.c 0).A (z.c 0).l.length (z.c 0).cap, .slice (z.a 0).A (z.a 0).l.length (z.a 0).cap, .slice (z.c 1).A (z.c 1).l.length (z.c 1).cap, .slice (z.a 1).A (z.a 1).l.length (z.a 1).cap, .slice (z.c 2).A (z.c 2).l.length (z.c 2).cap, .slice (z.a 2).A (z.a 2).l.length (z.a 2).cap] 45) := ⟨_, rfl⟩
        have hbx3 : Below w3.heap.size w3 wx := by rw [hwx]; exact lat_alloc Hbr.out _
        have hx0 : Blk wx wr.heap.size 45 z.list := by rw [hwx]; exact Blk.of wr _ _ _ rfl
        rw [← hwx]
        clear q0 q1 q2 q3 q4 q5 q6 q7 q8 q9 q10 q11 q12 q13 q14 hwx
        have Hx0 := Lib.hid hx0; have Hbx3 := Lib.hid hbx3; clear hx0 hbx3
        go_loopw [50] (fun jv wq => ∃ j : Nat, jv = .int .i64 (j : Int) ∧ j ≤ 3 ∧ (∀ i, i < j → (z.c i).l.length ≤ 80 ∧ (z.a i).l.length ≤ 80) ∧ Below wx.heap.size wx wq) (fun jv _ => 3 - (intOf jv).toNat)
        case atStart => exact ⟨0, rfl, by omega, by omega, Below.refl _ _⟩
        case round =>
          obtain ⟨j, rfl, hj, hej, hbj⟩ := hrel
          have Hej := Lib.hid hej; have Hbj := Lib.hid hbj; clear hej hbj
          by_cases hj3 : j < 3
          · have d9 : decide ((j : Int) < 3) = true := decide_eq_true (by omega)
            have hji : (j : Int) < 3 := by omega
            have hix := fun W => ix_proofs z.c z.a W j hj3
            go_wp2_with fail
            obtain ⟨wy, hwy⟩ : ∃ q, q = wr.alloc (.cells #[.slice (z.c j).A (z.c j).l.length (z.c j).cap, .slice (z.a j).A (z.a j).l.length (z.a j).cap] 42) := ⟨_, rfl⟩
            have hby : Below wx.heap.size wx wy := by rw [hwy]; exact lat_alloc Hbj.out _
            have hp : Blk wy wr.heap.size 42 [.slice (z.c j).A (z.c j).l.length (z.c j).cap, .slice (z.a j).A (z.a j).l.length (z.a j).cap] := by rw [hwy]; exact Blk.of wr _ _ _ rfl
            rw [← hwy]
            obtain ⟨p0, p1⟩ := cells_2 hp
            obtain ⟨y0, y1, y2⟩ := tcells (Hx0.out.below hby Hx0.out.lt) j hj3
            obtain ⟨⟨g0, g1, g2, g3, g4⟩, _, _⟩ := Hf.out wy (below_trans Hb03.out (below_trans Hbx3.out hby))
            have l0 := Later.cell p0
            have l1 := Later.cell p1
            have l2 := Later.cell y0
            have l3 := Later.cell y1
            have l4 := Later.cell y2
            have l5 := Later.cell g0
            have l6 := Later.cell g1
            have l7 := Later.cell g2
            have l8 := Later.cell g3
            have l9 := Later.cell g4
            clear p0 p1 y0 y1 y2 g0 g1 g2 g3 g4
            have hs := fun W => short12_any (z.c j).A (z.c j).l.length (z.c j).cap (z.a j).A (z.a j).l.length (z.a j).cap W
            have h1 := fun W => Hin.out (z.t.u j) W (Hzs.out j hj3).1
            have h2 := fun W => Hin.out (z.t.w j) W (Hzs.out j hj3).2.1
            have h3 := fun W => Hin.out (z.t.v j) W (Hzs.out j hj3).2.2
            obtain ⟨sB, hsB⟩ : ∃ s, s = (decide ((z.c j).l.length ≤ 80) && decide ((z.a j).l.length ≤ 80)) := ⟨_, rfl⟩; obtain ⟨r1, hr1⟩ : ∃ s, s = (inG P Q (z.t.u j)) := ⟨_, rfl⟩; obtain ⟨r2, hr2⟩ : ∃ s, s = (inG P Q (z.t.w j)) := ⟨_, rfl⟩; obtain ⟨r3, hr3⟩ : ∃ s, s = (inG P Q (z.t.v j)) := ⟨_, rfl⟩
            rw [← hsB] at hs
            rw [← hr1] at h1
            rw [← hr2] at h2
            rw [← hr3] at h3
            have hye : sB = true → ∀ i, i < j + 1 → (z.c i).l.length ≤ 80 ∧ (z.a i).l.length ≤ 80 := fun h => upto_next (p := fun i => (z.c i).l.length ≤ 80 ∧ (z.a i).l.length ≤ 80) Hej.out (by rw [hsB] at h; simpa using h)
            have HS := Lib.hid hs
            have H1 := Lib.hid h1; have H2 := Lib.hid h2; have H3 := Lib.hid h3; have Hye := Lib.hid hye; have Hby := Lib.hid hby; clear h1 h2 h3 hye hby
            clear hs hsB hr1 hr2 hr3 hwy hp hix
            cases sB with
            | false =>
              (refine region_calm (by kernel_rfl) (by kernel_rfl) ?_; (repeat (go_big_quiet_step ((first | (go_at_call 19; with_reducible exact calm_of (HS.out _)) | (go_at_call 20; with_reducible exact calm_of (H1.out _)) | (go_at_call 20; with_reducible exact calm_of (H2.out _)) | (go_at_call 20; with_reducible exact calm_of (H3.out _)))))); refine wpQuiet_nil ?_; intro wq hw'; obtain ⟨pq, hpq⟩ := hw'; have hbq := pq.below; rw [← hpq] at hbq; clear hpq pq; try dsimp only)
              go_wp2_with fail
              go_ret
              exact ⟨rfl, below_trans Hw0b.out (below_trans Hb03.out (below_trans Hbx3.out (below_trans Hby.out hbq)))⟩
            | true =>
              have hyf := Hye.out rfl
              have Hyf := Lib.hid hyf; clear hyf
              cases r1 with
              | false =>
                (refine region_calm (by kernel_rfl) (by kernel_rfl) ?_; (repeat (go_big_quiet_step ((first | (go_at_call 19; with_reducible exact calm_of (HS.out _)) | (go_at_call 20; with_reducible exact calm_of (H1.out _)) | (go_at_call 20; with_reducible exact calm_of (H2.out _)) | (go_at_call 20; with_reducible exact calm_of (H3.out _)))))); refine wpQuiet_nil ?_; intro wq hw'; obtain ⟨pq, hpq⟩ := hw'; have hbq := pq.below; rw [← hpq] at hbq; clear hpq pq; try dsimp only)
                go_wp2_with fail
                go_ret
                exact ⟨rfl, below_trans Hw0b.out (below_trans Hb03.out (below_trans Hbx3.out (below_trans Hby.out hbq)))⟩
              | true =>
                cases r2 with
                | false =>
                  (refine region_calm (by kernel_rfl) (by kernel_rfl) ?_; (repeat (go_big_quiet_step ((first | (go_at_call 19; with_reducible exact calm_of (HS.out _)) | (go_at_call 20; with_reducible exact calm_of (H1.out _)) | (go_at_call 20; with_reducible exact calm_of (H2.out _)) | (go_at_call 20; with_reducible exact calm_of (H3.out _)))))); refine wpQuiet_nil ?_; intro wq hw'; obtain ⟨pq, hpq⟩ := hw'; have hbq := pq.below; rw [← hpq] at hbq; clear hpq pq; try dsimp only)
                  go_wp2_with fail
                  go_ret
                  exact ⟨rfl, below_trans Hw0b.out (below_trans Hb03.out (below_trans Hbx3.out (below_trans Hby.out hbq)))⟩
                | true =>
                  cases r3 with
                  | false =>
                    (refine region_calm (by kernel_rfl) (by kernel_rfl) ?_; (repeat (go_big_quiet_step ((first | (go_at_call 19; with_reducible exact calm_of (HS.out _)) | (go_at_call 20; with_reducible exact calm_of (H1.out _)) | (go_at_call 20; with_reducible exact calm_of (H2.out _)) | (go_at_call 20; with_reducible exact calm_of (H3.out _)))))); refine wpQuiet_nil ?_; intro wq hw'; obtain ⟨pq, hpq⟩ := hw'; have hbq := pq.below; rw [← hpq] at hbq; clear hpq pq; try dsimp only)
                    go_wp2_with fail
                    go_ret
                    exact ⟨rfl, below_trans Hw0b.out (below_trans Hb03.out (below_trans Hbx3.out (below_trans Hby.out hbq)))⟩
                  | true =>
                    (refine region_calm (by kernel_rfl) (by kernel_rfl) ?_; (repeat (go_big_quiet_step ((first | (go_at_call 19; with_reducible exact calm_of (HS.out _)) | (go_at_call 20; with_reducible exact calm_of (H1.out _)) | (go_at_call 20; with_reducible exact calm_of (H2.out _)) | (go_at_call 20; with_reducible exact calm_of (H3.out _)))))); refine wpQuiet_nil ?_; intro wq hw'; obtain ⟨pq, hpq⟩ := hw'; have hbq := pq.below; rw [← hpq] at hbq; clear hpq pq; try dsimp only)
                    go_wp2_with fail
                    go_roundw
                    case rel => exact ⟨j + 1, by go_num, by omega, Hyf.out, below_trans Hby.out hbq⟩
                    case measure => simp [intOf]; omega
          · obtain rfl : j = 3 := by omega
            have d9 : decide (((3 : Nat) : Int) < 3) = false := by decide
            have hnx : ∀ i z', i < k + 1 → ls[i]? = some z' → ∀ j, j < 3 → (z'.c j).l.length ≤ 80 ∧ (z'.a j).l.length ≤ 80 := fun i z' hi hz' => by
              rcases Nat.lt_succ_iff_lt_or_eq.1 hi with h' | rfl
              · exact Hak.out i z' h' hz'
              · rw [Hz.out] at hz'
                injection hz' with hz'
                subst hz'
                exact Hej.out
            have Hnx := Lib.hid hnx; clear hnx
            go_wp2_with fail
            go_roundw
            case rel => exact ⟨k + 1, by go_num, by omega, Hnx.out, below_trans Hbx3.out Hbj.out⟩
            case measure => simp [intOf]; omega
      · obtain rfl : k = nB := by omega
        have d8 : decide ((k : Int) < (k : Int)) = false := decide_eq_false (by omega)
        have hsh : shortP ls := fun z hz j hj => by
          obtain ⟨i, hi, hiz⟩ := List.getElem_of_mem hz
          have h := Hak.out i z (by rw [HnB.out]; exact hi) (by rw [List.getElem?_eq_getElem hi, hiz]) j hj
          omega
        have hb3r := below_trans Hb03.out Hbr.out
        obtain ⟨⟨g0, g1, g2, g3, g4⟩, ⟨s0, s1, s2, s3, s4⟩, ⟨q0, q1⟩⟩ := Hf.out wr hb3r
        have Hsh := Lib.hid hsh; have Hb3r := Lib.hid hb3r; clear hsh hb3r
        go_wp2_with (first | (go_at_call 21; refine (Hke.out _ (by omega)).mono ?_; rintro e w4 ⟨rfl, hb4⟩; have Hb4 := Lib.hid (below_trans Hb3r.out hb4); obtain ⟨⟨g0, g1, g2, g3, g4⟩, ⟨s0, s1, s2, s3, s4⟩, ⟨q0, q1⟩⟩ := Hf.out w4 (below_trans Hb3r.out hb4); have Hb4b := Lib.hid (below_trans Hbr.out hb4); clear hb4) | fail)
        have l0 := Later.cell g0
        have l1 := Later.cell g1
        have l2 := Later.cell g2
        have l3 := Later.cell g3
        have l4 := Later.cell g4
        have l5 := Later.cell s0
        have l6 := Later.cell s1
        have l7 := Later.cell s2
        have l8 := Later.cell s3
        have l9 := Later.cell s4
        have l10 := Later.cell q0
        have l11 := Later.cell q1
        clear g0 g1 g2 g3 g4 s0 s1 s2 s3 s4 q0 q1
        have hc1 := fun W (hb : Below w4.heap.size w4 W) => Hcr.out W (below_trans Hw0b.out (below_trans Hb4.out hb)) HrP.out (by omega) Hsh.out (by omega) (by omega) (by have := Hll.out; omega)
        have hc2 := fun W (hb : Below w4.heap.size w4 W) => Hcr2.out W (below_trans Hw0b.out (below_trans Hb4.out hb)) (by omega) Hsh.out (by omega) (by omega) (by have := Hll.out; omega)
        have hlm : (rows.map toBox).length = nA := by rw [List.length_map, ← HnA.out]
        have ho1 := fun W (hb : Below w4.heap.size w4 W) => Hop.out W (below_trans Hw0b.out (below_trans Hb4.out hb)) SA sc (rows.map toBox) (Hbx.out.below (below_trans Hb4b.out hb)) HrP.out (by omega) Hsh.out (by rw [hlm]; omega) (by omega) (by have := Hll.out; omega)
        have ho2 := fun W (hb : Below w4.heap.size w4 W) => Hop2.out W (below_trans Hw0b.out (below_trans Hb4.out hb)) SA sc (rows.map toBox) (Hbx.out.below (below_trans Hb4b.out hb)) (by omega) Hsh.out (by rw [hlm]; omega) (by omega) (by have := Hll.out; omega)
        rw [hlm] at ho1 ho2
        obtain ⟨cB, hcB⟩ : ∃ s, s = (crossB label P Q G H key y rows ls) := ⟨_, rfl⟩; obtain ⟨oB, hoB⟩ : ∃ s, s = (openB label P Q G H key (rows.map toBox) ls) := ⟨_, rfl⟩
        rw [← hcB] at hc1 hc2
        rw [← hoB] at ho1 ho2
        have e1 : (cB == cB) = true := by simp
        have e2 : (oB == oB) = true := by simp
        have Hc1 := Lib.hid hc1; have Hc2 := Lib.hid hc2; have Ho1 := Lib.hid ho1; have Ho2 := Lib.hid ho2; clear hc1 hc2 ho1 ho2
        clear hcB hoB hlm
        (refine region_calm (by kernel_rfl) (by kernel_rfl) ?_; (repeat (go_big_quiet_step ((first | (go_at_call 22; exact calm_of (Hc1.out _ (Later.below _))) | (go_at_call 23; exact calm_of (Hc2.out _ (Later.below _))) | (go_at_call 24; exact calm_of (Ho1.out _ (Later.below _))) | (go_at_call 25; exact calm_of (Ho2.out _ (Later.below _))))))); refine wpQuiet_nil ?_; intro wq hw'; obtain ⟨pq, hpq⟩ := hw'; have hbq := pq.below; rw [← hpq] at hbq; clear hpq pq; try dsimp only)
        go_wp2_with fail
        go_ret
        exact ⟨rfl, below_trans Hw0b.out (below_trans Hb4.out hbq)⟩
end Go.Proofs.YtbpenkaficiodaaGreat

/- Arguments, opened by their types. -/
namespace Go.Proofs.YtbpenkaficiodaaGreat
open Go.ChangeShapes Go.WideShapes Go.ChangeAt Go.RowKit
section
variable {H : Type} {enc : TypeId × Value → H} {P : Program} {w : World} {r : Reach} {b : Nat} {t e : TypeId} {v : Value}
theorem arg_string (hu : P.underlying t = some .string) (hv : Value.okWide P w r b t v) (h : Rdg enc P w t v.cells.toList) : ∃ l, v = .string (str l) ∧ l.length ≤ 140737488351232 := by
  obtain ⟨s, rfl⟩ := okWide_string hu hv
  obtain ⟨s', hs, hz⟩ := rd_string hu h
  simp [Value.cells] at hs
  subst hs
  refine ⟨s.data.toList, by rw [str_of], ?_⟩
  have : s.data.toList.length = s.size := by rw [← ByteArray.size_data]; simp
  unfold reachBytes at hz
  omega
theorem cell_string {c : Value} (hu : P.underlying t = some .string) (h : Rdg enc P w t [c]) : ∃ l, c = .string (str l) ∧ l.length ≤ 140737488351232 := by
  obtain ⟨s', hs, hz⟩ := rd_string hu h
  simp only [List.cons.injEq, and_true] at hs
  subst hs
  refine ⟨s'.data.toList, by rw [str_of], ?_⟩
  have : s'.data.toList.length = s'.size := by rw [← ByteArray.size_data]; simp
  unfold reachBytes at hz
  omega
theorem arg_i64 (hu : P.underlying t = some (.int .i64)) (hv : Value.okWide P w r b t v) (h : Rdg enc P w t v.cells.toList) : ∃ n : Int, v = .int .i64 n ∧ -9223372036854775808 ≤ n ∧ n ≤ 9223372036854775807 := by
  obtain ⟨n, rfl⟩ := okWide_int hu hv
  obtain ⟨m, hm, hw⟩ := rd_int hu h
  simp [Value.cells] at hm
  subst hm
  exact ⟨n, rfl, bounds_i64 hw⟩
theorem cell_i64 {c : Value} (hu : P.underlying t = some (.int .i64)) (h : Rdg enc P w t [c]) : ∃ n : Int, c = .int .i64 n ∧ -9223372036854775808 ≤ n ∧ n ≤ 9223372036854775807 := by
  obtain ⟨m, hm, hw⟩ := rd_int hu h
  simp only [List.cons.injEq, and_true] at hm
  exact ⟨m, hm, bounds_i64 hw⟩
theorem nat_u64 {n : Int} (h : 0 ≤ n ∧ n ≤ 18446744073709551615) : ∃ m : Nat, n = (m : Int) ∧ m < 18446744073709551616 := ⟨n.toNat, by omega, by omega⟩
theorem arg_u64 (hu : P.underlying t = some (.int .u64)) (hv : Value.okWide P w r b t v) (h : Rdg enc P w t v.cells.toList) : ∃ n : Nat, v = .int .u64 (n : Int) ∧ n < 18446744073709551616 := by
  obtain ⟨n, rfl⟩ := okWide_int hu hv
  obtain ⟨m, hm, hw⟩ := rd_int hu h
  simp [Value.cells] at hm
  subst hm
  obtain ⟨m, rfl, hm⟩ := nat_u64 (bounds_u64 hw)
  exact ⟨m, rfl, hm⟩
theorem cell_u64 {c : Value} (hu : P.underlying t = some (.int .u64)) (h : Rdg enc P w t [c]) : ∃ n : Nat, c = .int .u64 (n : Int) ∧ n < 18446744073709551616 := by
  obtain ⟨m, hm, hw⟩ := rd_int hu h
  simp only [List.cons.injEq, and_true] at hm
  subst hm
  obtain ⟨m, rfl, hm⟩ := nat_u64 (bounds_u64 hw)
  exact ⟨m, rfl, hm⟩
theorem cell_strs {c : Value} (hu : P.underlying t = some (.slice e)) (he : P.underlying e = some .string) (hc : P.cellsOf e = 1) (hb : P.bytesOf e = 16) (h : Rdg enc P w t [c]) :
    ∃ A cap l, c = .slice A l.length cap ∧ Strs w A cap l ∧ (∀ x ∈ l, x.length ≤ 140737488355328) ∧ l.length ≤ 8796093022208 := by
  obtain ⟨A, cap, l, hl, hs, hz, hbs, _⟩ := rd_strs hu he hc h
  simp only [List.cons.injEq, and_true] at hl
  rw [hb] at hbs
  unfold reachBytes at hbs hz
  exact ⟨A, cap, l, hl, hs, fun x hx => by have := hz x hx; omega, by have := hs.len; omega⟩
theorem arg_strs (hu : P.underlying t = some (.slice e)) (he : P.underlying e = some .string) (hc : P.cellsOf e = 1) (hb : P.bytesOf e = 16) (hv : Value.okWide P w r b t v) (h : Rdg enc P w t v.cells.toList) :
    ∃ A cap l, v = .slice A l.length cap ∧ Strs w A cap l ∧ (∀ x ∈ l, x.length ≤ 140737488355328) ∧ l.length ≤ 8796093022208 := by
  obtain ⟨A, n, cap, rfl⟩ := okWide_slice hu hv
  exact cell_strs hu he hc hb h
theorem arg_array2 (hu : P.underlying t = some (.array 2 e)) (hc : P.cellsOf t = 2) (he : P.cellsOf e = 1) (hv : Value.okWide P w r b t v) (h : Rdg enc P w t v.cells.toList) :
    ∃ c0 c1, v = .agg #[c0, c1] ∧ Rdg enc P w e [c0] ∧ Rdg enc P w e [c1] := by
  obtain ⟨cs, rfl, hs⟩ := okWide_agg hu hv
  obtain ⟨c0, c1, hcs, h0, h1⟩ := rd_array2 hu hc he h
  exact ⟨c0, c1, by congr 1; exact Array.ext' hcs, h0, h1⟩
end
end Go.Proofs.YtbpenkaficiodaaGreat

/- Arguments, opened by their types: numbers, lists of numbers, certificates, groups, claims. -/
namespace Go.Proofs.YtbpenkaficiodaaGreat
open Go.ChangeShapes Go.WideShapes Go.ChangeAt Go.RowKit
section
variable {H : Type} {enc : TypeId × Value → H} {P : Program} {w : World} {r : Reach} {b : Nat} {t e : TypeId} {v : Value}
theorem okWide_struct {fs : Array Field} (ht : P.underlying t = some (.struct fs)) (h : Value.okWide P w r b t v) : ∃ cs, v = .agg cs := by
  simp only [Value.okWide, ht] at h
  obtain ⟨cs, h1, _⟩ := h
  exact ⟨cs, h1⟩
theorem rd_sl {α : Type} [Inhabited α] {cs : List Value} (R : α → List Value → Prop) (hu : P.underlying t = some (.slice e)) (hR : ∀ cells, Rdg enc P w e cells → ∃ x, R x cells) (h : Rdg enc P w t cs) :
    ∃ A cap, ∃ l : List α, cs = [.slice A l.length cap] ∧ l.length ≤ cap ∧ cap * P.bytesOf e ≤ reachBytes ∧
      (∀ (i : Nat) (x : α), l[i]? = some x → ∃ a cells, A = some a ∧ w.cells? 0 (a.add (i * P.cellsOf e)) (P.cellsOf e) = some cells ∧ R x cells) := by
  rcases rd_slice hu h with rfl | ⟨a, len, cap, rfl, hl, hb, hm, hall⟩
  · exact ⟨none, 0, [], rfl, Nat.le_refl _, by simp, fun i x hx => by simp at hx⟩
  · have each : ∀ i, ∃ x : α, i < len → ∃ cells, w.cells? 0 (a.add (i * P.cellsOf e)) (P.cellsOf e) = some cells ∧ R x cells := by
      intro i
      by_cases hi : i < len
      · obtain ⟨cells, hcc, hr⟩ := hall i hi
        obtain ⟨x, hx⟩ := hR cells hr
        exact ⟨x, fun _ => ⟨cells, hcc, hx⟩⟩
      · exact ⟨default, fun h => absurd h hi⟩
    obtain ⟨f, hf⟩ := Classical.axiomOfChoice each
    have hlen : ((List.range len).map f).length = len := by simp
    refine ⟨some a, cap, (List.range len).map f, by rw [hlen], by rw [hlen]; exact hl, hb, fun i x hx => ?_⟩
    have hi : i < len := by have := (List.getElem?_eq_some_iff.1 hx).1; simpa using this
    rw [List.getElem?_map, List.getElem?_range hi] at hx
    simp only [Option.map_some, Option.some.injEq] at hx
    subst hx
    obtain ⟨cells, h1, h2⟩ := hf i hi
    exact ⟨a, cells, rfl, h1, h2⟩
def isNum (x : Nat) (cells : List Value) : Prop := cells = [.int .u64 (x : Int)] ∧ x < 18446744073709551616
theorem rd_num {cells : List Value} (hu : P.underlying t = some (.int .u64)) (h : Rdg enc P w t cells) : ∃ x, isNum x cells := by
  obtain ⟨n, rfl, hw⟩ := rd_int hu h
  obtain ⟨m, rfl, hm⟩ := nat_u64 (bounds_u64 hw)
  exact ⟨m, rfl, hm⟩
theorem rd_nums {cs : List Value} (hu : P.underlying t = some (.slice e)) (he : P.underlying e = some (.int .u64)) (hc : P.cellsOf e = 1) (hb : P.bytesOf e = 8) (h : Rdg enc P w t cs) :
    ∃ A cap l, cs = [.slice A l.length cap] ∧ Nums w A cap l ∧ l.length ≤ 17592186044416 := by
  obtain ⟨A, cap, l, rfl, hl, hbs, hall⟩ := rd_sl isNum hu (fun cells => rd_num he) h
  rw [hb] at hbs
  unfold reachBytes at hbs
  refine ⟨A, cap, l, rfl, ⟨hl, fun i x hx => ?_, fun x hx => ?_⟩, by omega⟩
  · obtain ⟨a, cells, rfl, hcc, rfl, _⟩ := hall i x hx
    rw [hc, Nat.mul_one] at hcc
    obtain ⟨u, hu, hcell⟩ := cells_one hcc
    simp only [List.cons.injEq, and_true] at hu
    subst hu
    exact ⟨a, rfl, hcell⟩
  · obtain ⟨i, hi⟩ := List.mem_iff_getElem?.1 hx
    obtain ⟨_, _, _, _, _, h⟩ := hall i x hi
    exact h
def isNums (w : World) (r : NumV) (cells : List Value) : Prop := cells = [r.val] ∧ Nums w r.A r.cap r.l ∧ r.l.length ≤ 17592186044416
instance : Inhabited NumV := ⟨⟨none, 0, []⟩⟩
theorem rd_isNums {cells : List Value} (hu : P.underlying t = some (.slice e)) (he : P.underlying e = some (.int .u64)) (hc : P.cellsOf e = 1) (hb : P.bytesOf e = 8) (h : Rdg enc P w t cells) : ∃ r, isNums w r cells := by
  obtain ⟨A, cap, l, rfl, hn, hl⟩ := rd_nums hu he hc hb h
  exact ⟨⟨A, cap, l⟩, rfl, hn, hl⟩
theorem rd_grid {t2 : TypeId} {cs : List Value} (hu2 : P.underlying t2 = some (.slice t)) (hc2 : P.cellsOf t = 1) (hb2 : P.bytesOf t = 24) (hu : P.underlying t = some (.slice e)) (he : P.underlying e = some (.int .u64)) (hc : P.cellsOf e = 1) (hb : P.bytesOf e = 8) (h : Rdg enc P w t2 cs) :
    ∃ B cap rs, cs = [.slice B rs.length cap] ∧ Grid w B cap rs ∧ rs.length ≤ 17592186044416 ∧ ∀ r ∈ rs, r.l.length ≤ 17592186044416 := by
  obtain ⟨A, cap, l, rfl, hl, hbs, hall⟩ := rd_sl (isNums w) hu2 (fun cells => rd_isNums hu he hc hb) h
  rw [hb2] at hbs
  unfold reachBytes at hbs
  refine ⟨A, cap, l, rfl, ⟨hl, fun i x hx => ?_, fun x hx => ?_⟩, by omega, fun x hx => ?_⟩
  · obtain ⟨a, cells, rfl, hcc, rfl, _⟩ := hall i x hx
    rw [hc2, Nat.mul_one] at hcc
    obtain ⟨u, hu, hcell⟩ := cells_one hcc
    simp only [List.cons.injEq, and_true] at hu
    subst hu
    exact ⟨a, rfl, hcell⟩
  · obtain ⟨i, hi⟩ := List.mem_iff_getElem?.1 hx
    obtain ⟨_, _, _, _, _, h, _⟩ := hall i x hi
    exact h
  · obtain ⟨i, hi⟩ := List.mem_iff_getElem?.1 hx
    obtain ⟨_, _, _, _, _, _, h⟩ := hall i x hi
    exact h
theorem add_at (a : Addr) (i : Nat) (h : i ≠ 0) : a.add i = ⟨a.block, a.off + i, none⟩ := by unfold Addr.add; rw [if_neg h]
end
def isRow (w : World) (r : RowV) (cells : List Value) : Prop := cells = [.int .u64 (r.N : Int), .int .u64 (r.A : Int), r.F.val] ∧ (Nums w r.F.A r.F.cap r.F.l ∧ r.N < 18446744073709551616 ∧ r.A < 18446744073709551616) ∧ r.F.l.length ≤ 17592186044416
instance : Inhabited RowV := ⟨⟨0, 0, default⟩⟩
section
variable {H : Type} {enc : TypeId × Value → H} {w : World} {r : Reach} {b : Nat} {v : Value}
theorem Tryz.cellsRow : Tryz.prog.cellsOf 138 = 3 := by kernel_rfl
theorem Tryz.bytesRow : Tryz.prog.bytesOf 138 = 40 := by kernel_rfl
theorem Tryz.cellsU : Tryz.prog.cellsOf 22 = 1 := by kernel_rfl
theorem Tryz.bytesU : Tryz.prog.bytesOf 22 = 8 := by kernel_rfl
theorem Tryz.cellsN : Tryz.prog.cellsOf 40 = 1 := by kernel_rfl
theorem Tryz.bytesN : Tryz.prog.bytesOf 40 = 24 := by kernel_rfl
theorem Tryz.cellsG : Tryz.prog.cellsOf 25 = 5 := by kernel_rfl
theorem Tryz.cellsC : Tryz.prog.cellsOf 83 = 2 := by kernel_rfl
theorem Tryz.cellsRs : Tryz.prog.cellsOf 23 = 1 := by kernel_rfl
theorem Tryz.cellsNN : Tryz.prog.cellsOf 81 = 1 := by kernel_rfl
theorem three_of {cs : List Value} (h : cs.length = 3) : ∃ a b c, cs = [a, b, c] := by
  match cs, h with
  | [a, b, c], _ => exact ⟨a, b, c, rfl⟩
theorem five_of {cs : List Value} (h : cs.length = 5) : ∃ a b c d e, cs = [a, b, c, d, e] := by
  match cs, h with
  | [a, b, c, d, e], _ => exact ⟨a, b, c, d, e, rfl⟩
theorem two_of {cs : List Value} (h : cs.length = 2) : ∃ a b, cs = [a, b] := by
  match cs, h with
  | [a, b], _ => exact ⟨a, b, rfl⟩
theorem rd_isRow {cells : List Value} (h : Rdg enc Tryz.prog w 138 cells) : ∃ r, isRow w r cells := by
  obtain ⟨hl, hf⟩ := rd_struct Tryz.underlying138 h
  rw [Tryz.cellsRow] at hl
  obtain ⟨c0, c1, c2, rfl⟩ := three_of hl
  have h0 : Rdg enc Tryz.prog w 22 (([c0, c1, c2].drop 0).take (Tryz.prog.cellsOf 22)) := hf 0 _ rfl
  have h1 : Rdg enc Tryz.prog w 22 (([c0, c1, c2].drop 1).take (Tryz.prog.cellsOf 22)) := hf 1 _ rfl
  have h2 : Rdg enc Tryz.prog w 40 (([c0, c1, c2].drop 2).take (Tryz.prog.cellsOf 40)) := hf 2 _ rfl
  rw [Tryz.cellsU] at h0 h1
  rw [Tryz.cellsN] at h2
  simp only [List.drop_zero, List.drop_succ_cons, List.take_succ_cons, List.take_zero] at h0 h1 h2
  obtain ⟨n, hn, hnb⟩ := rd_num Tryz.underlying22 h0
  obtain ⟨m, hm, hmb⟩ := rd_num Tryz.underlying22 h1
  obtain ⟨f, hfv, hfn, hfl⟩ := rd_isNums Tryz.underlying40 Tryz.underlying22 Tryz.cellsU Tryz.bytesU h2
  simp only [List.cons.injEq, and_true] at hn hm hfv
  subst hn hm hfv
  exact ⟨⟨n, m, f⟩, rfl, ⟨hfn, hnb, hmb⟩, hfl⟩
theorem rd_rows {cs : List Value} (h : Rdg enc Tryz.prog w 23 cs) :
    ∃ B cap rs, cs = [.slice B rs.length cap] ∧ Rows3 w B cap rs ∧ rs.length ≤ 17592186044416 ∧ ∀ r ∈ rs, r.F.l.length ≤ 17592186044416 := by
  obtain ⟨A, cap, l, rfl, hl, hbs, hall⟩ := rd_sl (isRow w) Tryz.underlying23 (fun cells => rd_isRow) h
  rw [Tryz.bytesRow] at hbs
  unfold reachBytes at hbs
  refine ⟨A, cap, l, rfl, ⟨hl, fun i x hx => ?_, fun x hx => ?_⟩, by omega, fun x hx => ?_⟩
  · obtain ⟨a, cells, rfl, hcc, rfl, _⟩ := hall i x hx
    rw [Tryz.cellsRow] at hcc
    obtain ⟨_, hg⟩ := cells_get hcc
    have k0 := hg 0 _ rfl
    have k1 := hg 1 _ rfl
    have k2 := hg 2 _ rfl
    rw [addr_zero] at k0
    rw [add_at _ 1 (by omega)] at k1
    rw [add_at _ 2 (by omega)] at k2
    exact ⟨a, rfl, k0, k1, k2⟩
  · obtain ⟨i, hi⟩ := List.mem_iff_getElem?.1 hx
    obtain ⟨_, _, _, _, _, h, _⟩ := hall i x hi
    exact h
  · obtain ⟨i, hi⟩ := List.mem_iff_getElem?.1 hx
    obtain ⟨_, _, _, _, _, _, h⟩ := hall i x hi
    exact h
set_option maxRecDepth 100000 in
/-- A group as an argument. -/
theorem arg_group (hv : Value.okWide Tryz.prog w r b 25 v) (h : Rdg enc Tryz.prog w 25 v.cells.toList) :
    ∃ P Q G K B cap rs, v = gval P Q G K (.slice B rs.length cap) ∧ P < 18446744073709551616 ∧ Q < 18446744073709551616 ∧ G < 18446744073709551616 ∧ K < 18446744073709551616 ∧ Rows3 w B cap rs ∧ rs.length ≤ 17592186044416 ∧ ∀ r ∈ rs, r.F.l.length ≤ 17592186044416 := by
  obtain ⟨cs, rfl⟩ := okWide_struct Tryz.underlying25 hv
  obtain ⟨hl, hf⟩ := rd_struct Tryz.underlying25 h
  rw [Tryz.cellsG] at hl
  have hcs : (Value.agg cs).cells = cs := rfl
  rw [hcs] at hl hf
  obtain ⟨c0, c1, c2, c3, c4, hc⟩ := five_of hl
  rw [hc] at hf
  have h0 : Rdg enc Tryz.prog w 22 (([c0, c1, c2, c3, c4].drop 0).take (Tryz.prog.cellsOf 22)) := hf 0 _ rfl
  have h1 : Rdg enc Tryz.prog w 22 (([c0, c1, c2, c3, c4].drop 1).take (Tryz.prog.cellsOf 22)) := hf 1 _ rfl
  have h2 : Rdg enc Tryz.prog w 22 (([c0, c1, c2, c3, c4].drop 2).take (Tryz.prog.cellsOf 22)) := hf 2 _ rfl
  have h3 : Rdg enc Tryz.prog w 22 (([c0, c1, c2, c3, c4].drop 3).take (Tryz.prog.cellsOf 22)) := hf 3 _ rfl
  have h4 : Rdg enc Tryz.prog w 23 (([c0, c1, c2, c3, c4].drop 4).take (Tryz.prog.cellsOf 23)) := hf 4 _ rfl
  rw [Tryz.cellsU] at h0 h1 h2 h3
  rw [Tryz.cellsRs] at h4
  simp only [List.drop_zero, List.drop_succ_cons, List.take_succ_cons, List.take_zero] at h0 h1 h2 h3 h4
  obtain ⟨n0, e0, b0⟩ := rd_num Tryz.underlying22 h0
  obtain ⟨n1, e1, b1⟩ := rd_num Tryz.underlying22 h1
  obtain ⟨n2, e2, b2⟩ := rd_num Tryz.underlying22 h2
  obtain ⟨n3, e3, b3⟩ := rd_num Tryz.underlying22 h3
  obtain ⟨B, cap, rs, e4, hr, hrl, hfl⟩ := rd_rows h4
  simp only [List.cons.injEq, and_true] at e0 e1 e2 e3 e4
  subst e0 e1 e2 e3 e4
  exact ⟨n0, n1, n2, n3, B, cap, rs, by rw [gval]; congr 1; exact Array.ext' hc, b0, b1, b2, b3, hr, hrl, hfl⟩
set_option maxRecDepth 100000 in
/-- A claim as an argument. -/
theorem arg_claim (hv : Value.okWide Tryz.prog w r b 83 v) (h : Rdg enc Tryz.prog w 83 v.cells.toList) :
    ∃ A cT T B cB rs, v = .agg #[.slice A (List.length T) cT, .slice B (List.length rs) cB] ∧ Nums w A cT T ∧ Grid w B cB rs ∧ T.length ≤ 17592186044416 ∧ rs.length ≤ 17592186044416 ∧ ∀ r ∈ rs, r.l.length ≤ 17592186044416 := by
  obtain ⟨cs, rfl⟩ := okWide_struct Tryz.underlying83 hv
  obtain ⟨hl, hf⟩ := rd_struct Tryz.underlying83 h
  rw [Tryz.cellsC] at hl
  have hcs : (Value.agg cs).cells = cs := rfl
  rw [hcs] at hl hf
  obtain ⟨c0, c1, hc⟩ := two_of hl
  rw [hc] at hf
  have h0 : Rdg enc Tryz.prog w 40 (([c0, c1].drop 0).take (Tryz.prog.cellsOf 40)) := hf 0 _ rfl
  have h1 : Rdg enc Tryz.prog w 81 (([c0, c1].drop 1).take (Tryz.prog.cellsOf 81)) := hf 1 _ rfl
  rw [Tryz.cellsN] at h0
  rw [Tryz.cellsNN] at h1
  simp only [List.drop_zero, List.drop_succ_cons, List.take_succ_cons, List.take_zero] at h0 h1
  obtain ⟨A, cT, T, e0, hT, hTl⟩ := rd_nums Tryz.underlying40 Tryz.underlying22 Tryz.cellsU Tryz.bytesU h0
  obtain ⟨B, cB, rs, e1, hG, hGl, hrl⟩ := rd_grid Tryz.underlying81 Tryz.cellsN Tryz.bytesN Tryz.underlying40 Tryz.underlying22 Tryz.cellsU Tryz.bytesU h1
  simp only [List.cons.injEq, and_true] at e0 e1
  subst e0 e1
  exact ⟨A, cT, T, B, cB, rs, by congr 1; exact Array.ext' hc, hT, hG, hTl, hGl, hrl⟩
end
end Go.Proofs.YtbpenkaficiodaaGreat

/- Arguments of chapter 07: a label and two lists. -/
namespace Go.Proofs.YtbpenkaficiodaaGreat
open Go.ChangeShapes Go.WideShapes Go.ChangeAt Go.RowKit
section
variable {H : Type} {enc : TypeId × Value → H} {w : World} {r : Reach} {b : Nat} {v : Value}
theorem Tryz.cellsS : Tryz.prog.cellsOf 9 = 1 := by kernel_rfl
end
end Go.Proofs.YtbpenkaficiodaaGreat

/- Arguments of chapter 07: tries, crossings, what was made. -/
namespace Go.Proofs.YtbpenkaficiodaaGreat
open Go.ChangeShapes Go.WideShapes Go.ChangeAt Go.RowKit
section
variable {H : Type} {enc : TypeId × Value → H} {w : World} {r : Reach} {b : Nat} {v : Value}
theorem Tryz.cellsPair : Tryz.prog.cellsOf 61 = 2 := by kernel_rfl
theorem Tryz.cellsThree : Tryz.prog.cellsOf 38 = 3 := by kernel_rfl
theorem Tryz.cellsBox : Tryz.prog.cellsOf 63 = 6 := by kernel_rfl
theorem Tryz.cells3 : Tryz.prog.cellsOf 93 = 3 := by kernel_rfl
theorem six_of {cs : List Value} (h : cs.length = 6) : ∃ a b c d e f, cs = [a, b, c, d, e, f] := by
  match cs, h with
  | [a, b, c, d, e, f], _ => exact ⟨a, b, c, d, e, f, rfl⟩
theorem nine_of {cs : List Value} (h : cs.length = 9) : ∃ a b c d e f g i j, cs = [a, b, c, d, e, f, g, i, j] := by
  match cs, h with
  | [a, b, c, d, e, f, g, i, j], _ => exact ⟨a, b, c, d, e, f, g, i, j, rfl⟩
set_option maxRecDepth 100000 in
theorem rd_u {c : Value} (h : Rdg enc Tryz.prog w 22 [c]) : ∃ n : Nat, c = .int .u64 (n : Int) ∧ n < 18446744073709551616 := by
  obtain ⟨n, e0, b0⟩ := rd_num Tryz.underlying22 h
  simp only [List.cons.injEq, and_true] at e0
  exact ⟨n, e0, b0⟩
set_option maxRecDepth 100000 in
theorem rd_pair {c0 c1 : Value} (h : Rdg enc Tryz.prog w 61 [c0, c1]) : ∃ x y : Nat, c0 = .int .u64 (x : Int) ∧ c1 = .int .u64 (y : Int) ∧ x < 18446744073709551616 ∧ y < 18446744073709551616 := by
  obtain ⟨hl, hf⟩ := rd_struct Tryz.underlying61 h
  have h0 : Rdg enc Tryz.prog w 22 (([c0, c1].drop 0).take (Tryz.prog.cellsOf 22)) := hf 0 _ rfl
  have h1 : Rdg enc Tryz.prog w 22 (([c0, c1].drop 1).take (Tryz.prog.cellsOf 22)) := hf 1 _ rfl
  rw [Tryz.cellsU] at h0 h1
  obtain ⟨x, ex, bx⟩ := rd_u h0
  obtain ⟨y, ey, bY⟩ := rd_u h1
  exact ⟨x, y, ex, ey, bx, bY⟩
set_option maxRecDepth 100000 in
theorem rd_three {c0 c1 c2 : Value} (h : Rdg enc Tryz.prog w 38 [c0, c1, c2]) : ∃ x y z : Nat, c0 = .int .u64 (x : Int) ∧ c1 = .int .u64 (y : Int) ∧ c2 = .int .u64 (z : Int) ∧ x < 18446744073709551616 ∧ y < 18446744073709551616 ∧ z < 18446744073709551616 := by
  obtain ⟨hl, hf⟩ := rd_struct Tryz.underlying38 h
  have h0 : Rdg enc Tryz.prog w 22 (([c0, c1, c2].drop 0).take (Tryz.prog.cellsOf 22)) := hf 0 _ rfl
  have h1 : Rdg enc Tryz.prog w 22 (([c0, c1, c2].drop 1).take (Tryz.prog.cellsOf 22)) := hf 1 _ rfl
  have h2 : Rdg enc Tryz.prog w 22 (([c0, c1, c2].drop 2).take (Tryz.prog.cellsOf 22)) := hf 2 _ rfl
  rw [Tryz.cellsU] at h0 h1 h2
  obtain ⟨x, ex, bx⟩ := rd_u h0
  obtain ⟨y, ey, bY⟩ := rd_u h1
  obtain ⟨z, ez, bz⟩ := rd_u h2
  exact ⟨x, y, z, ex, ey, ez, bx, bY, bz⟩
set_option maxRecDepth 100000 in
theorem rd_3 {c0 c1 c2 : Value} (h : Rdg enc Tryz.prog w 93 [c0, c1, c2]) : ∃ x y z : Nat, c0 = .int .u64 (x : Int) ∧ c1 = .int .u64 (y : Int) ∧ c2 = .int .u64 (z : Int) ∧ x < 18446744073709551616 ∧ y < 18446744073709551616 ∧ z < 18446744073709551616 := by
  obtain ⟨hl, hf⟩ := rd_array Tryz.underlying93 h
  have h0 := hf 0 (by omega)
  have h1 := hf 1 (by omega)
  have h2 := hf 2 (by omega)
  rw [Tryz.cellsU] at h0 h1 h2
  obtain ⟨x, ex, bx⟩ := rd_u h0
  obtain ⟨y, ey, bY⟩ := rd_u h1
  obtain ⟨z, ez, bz⟩ := rd_u h2
  exact ⟨x, y, z, ex, ey, ez, bx, bY, bz⟩
set_option maxRecDepth 100000 in
theorem arg_box (hv : Value.okWide Tryz.prog w r b 63 v) (h : Rdg enc Tryz.prog w 63 v.cells.toList) :
    ∃ p0 q0 p1 q1 p2 q2, v = sval p0 q0 p1 q1 p2 q2 ∧ p0 < 18446744073709551616 ∧ q0 < 18446744073709551616 ∧ p1 < 18446744073709551616 ∧ q1 < 18446744073709551616 ∧ p2 < 18446744073709551616 ∧ q2 < 18446744073709551616 := by
  obtain ⟨cs, rfl, _⟩ := okWide_agg Tryz.underlying63 hv
  obtain ⟨hl, hf⟩ := rd_array Tryz.underlying63 h
  rw [Tryz.cellsBox] at hl
  have hcs : (Value.agg cs).cells = cs := rfl
  rw [hcs] at hl hf
  obtain ⟨c0, c1, c2, c3, c4, c5, hc⟩ := six_of hl
  rw [hc] at hf
  have h0 := hf 0 (by omega)
  have h1 := hf 1 (by omega)
  have h2 := hf 2 (by omega)
  rw [Tryz.cellsPair] at h0 h1 h2
  obtain ⟨p0, q0, e0, e1, b0, b1⟩ := rd_pair h0
  obtain ⟨p1, q1, e2, e3, b2, b3⟩ := rd_pair h1
  obtain ⟨p2, q2, e4, e5, b4, b5⟩ := rd_pair h2
  subst e0 e1 e2 e3 e4 e5
  exact ⟨p0, q0, p1, q1, p2, q2, by rw [sval]; congr 1; exact Array.ext' hc, b0, b1, b2, b3, b4, b5⟩
set_option maxRecDepth 100000 in
theorem arg_r3 (hv : Value.okWide Tryz.prog w r b 93 v) (h : Rdg enc Tryz.prog w 93 v.cells.toList) :
    ∃ x y z : Nat, v = .agg #[.int .u64 (x : Int), .int .u64 (y : Int), .int .u64 (z : Int)] ∧ x < 18446744073709551616 ∧ y < 18446744073709551616 ∧ z < 18446744073709551616 := by
  obtain ⟨cs, rfl, _⟩ := okWide_agg Tryz.underlying93 hv
  have hcs : (Value.agg cs).cells = cs := rfl
  obtain ⟨hl, _⟩ := rd_array Tryz.underlying93 h
  rw [Tryz.cells3] at hl
  rw [hcs] at hl h
  obtain ⟨c0, c1, c2, hc⟩ := three_of hl
  rw [hc] at h
  obtain ⟨x, y, z, e0, e1, e2, i0, i1, i2⟩ := rd_3 h
  subst e0 e1 e2
  exact ⟨x, y, z, by congr 1; exact Array.ext' hc, i0, i1, i2⟩
end
end Go.Proofs.YtbpenkaficiodaaGreat

/- Arguments of chapter 12: seeds, what is handed. -/
namespace Go.Proofs.YtbpenkaficiodaaGreat
open Go.ChangeShapes Go.WideShapes Go.ChangeAt Go.RowKit
theorem cell_plus {w : World} {A : Addr} {v : Value} (h : w.cell? A = some v) : w.cell? ⟨A.block, A.off + 0, none⟩ = some v := by
  obtain ⟨bl, of, sp⟩ := A
  cases sp with
  | none => exact h
  | some k =>
    exfalso
    unfold World.cell? at h
    revert h
    cases w.heap[bl]? with
    | none => simp
    | some ob => cases ob <;> simp
def tri9 (a0 a1 a2 a3 a4 a5 a6 a7 a8 : Nat) : TriV := ⟨fun | 0 => a0 | 1 => a3 | _ => a6, fun | 0 => a1 | 1 => a4 | _ => a7, fun | 0 => a2 | 1 => a5 | _ => a8⟩
def nums3 (a0 a1 a2 : NumV) : Nat → NumV := fun | 0 => a0 | 1 => a1 | _ => a2
instance : Inhabited TriV := ⟨⟨fun _ => 0, fun _ => 0, fun _ => 0⟩⟩
instance : Inhabited PassedV := ⟨⟨default, fun _ => default, fun _ => default⟩⟩
def isTri (t : TriV) (cells : List Value) : Prop := cells = t.list ∧ t.ok
def isPassed (w : World) (x : PassedV) (cells : List Value) : Prop := cells = x.list ∧ x.t.ok ∧ ∀ j, j < 3 → Nums w (x.c j).A (x.c j).cap (x.c j).l ∧ Nums w (x.a j).A (x.a j).cap (x.a j).l
section
variable {H : Type} {enc : TypeId × Value → H} {w : World} {r : Reach} {b : Nat} {v : Value}
theorem Tryz.cells39 : Tryz.prog.cellsOf 39 = 9 := by kernel_rfl
theorem Tryz.bytes39 : Tryz.prog.bytesOf 39 = 72 := by kernel_rfl
theorem Tryz.cells45 : Tryz.prog.cellsOf 45 = 15 := by kernel_rfl
theorem Tryz.bytes45 : Tryz.prog.bytesOf 45 = 216 := by kernel_rfl
theorem Tryz.cells42 : Tryz.prog.cellsOf 42 = 2 := by kernel_rfl
theorem Tryz.cells43 : Tryz.prog.cellsOf 43 = 6 := by kernel_rfl
theorem Tryz.cellsSeed : Tryz.prog.cellsOf 27 = 5 := by kernel_rfl
theorem Tryz.cellsHanded : Tryz.prog.cellsOf 31 = 2 := by kernel_rfl
theorem Tryz.cells28 : Tryz.prog.cellsOf 28 = 1 := by kernel_rfl
theorem Tryz.cells29 : Tryz.prog.cellsOf 29 = 1 := by kernel_rfl
theorem Tryz.cellsSt : Tryz.prog.cellsOf 9 = 1 := by kernel_rfl
theorem Tryz.cellsInt : Tryz.prog.cellsOf 3 = 1 := by kernel_rfl
theorem fifteen_of {cs : List Value} (h : cs.length = 15) : ∃ c0 c1 c2 c3 c4 c5 c6 c7 c8 c9 c10 c11 c12 c13 c14, cs = [c0, c1, c2, c3, c4, c5, c6, c7, c8, c9, c10, c11, c12, c13, c14]  := by
  match cs, h with
  | [c0, c1, c2, c3, c4, c5, c6, c7, c8, c9, c10, c11, c12, c13, c14], _ => exact ⟨c0, c1, c2, c3, c4, c5, c6, c7, c8, c9, c10, c11, c12, c13, c14, rfl⟩
set_option maxRecDepth 100000 in
theorem rd_isTri {cells : List Value} (h : Rdg enc Tryz.prog w 39 cells) : ∃ t, isTri t cells := by
  obtain ⟨hl, hf⟩ := rd_array Tryz.underlying39 h
  rw [Tryz.cells39] at hl
  obtain ⟨c0, c1, c2, c3, c4, c5, c6, c7, c8, rfl⟩ := nine_of hl
  have h0 := hf 0 (by omega)
  have h1 := hf 1 (by omega)
  have h2 := hf 2 (by omega)
  rw [Tryz.cellsThree] at h0 h1 h2
  simp only [Nat.zero_mul, Nat.one_mul, Nat.reduceMul, List.drop_zero, List.drop_succ_cons, List.take_succ_cons, List.take_zero] at h0 h1 h2
  obtain ⟨a0, a1, a2, e0, e1, e2, b0, b1, b2⟩ := rd_three h0
  obtain ⟨a3, a4, a5, e3, e4, e5, b3, b4, b5⟩ := rd_three h1
  obtain ⟨a6, a7, a8, e6, e7, e8, b6, b7, b8⟩ := rd_three h2
  subst e0 e1 e2 e3 e4 e5 e6 e7 e8
  exact ⟨tri9 a0 a1 a2 a3 a4 a5 a6 a7 a8, rfl, three_cases ⟨b0, b1, b2⟩ ⟨b3, b4, b5⟩ ⟨b6, b7, b8⟩⟩
theorem rd_tris {cs : List Value} (h : Rdg enc Tryz.prog w 28 cs) : ∃ A cap ls, cs = [.slice A ls.length cap] ∧ Tris w A cap ls ∧ ls.length ≤ 17592186044416 := by
  obtain ⟨A, cap, l, rfl, hl, hbs, hall⟩ := rd_sl isTri Tryz.underlying28 (fun cells => rd_isTri) h
  rw [Tryz.bytes39] at hbs
  unfold reachBytes at hbs
  refine ⟨A, cap, l, rfl, ⟨⟨by simpa using hl, fun i z hz => ?_⟩, fun x hx => ?_⟩, by omega⟩
  · rw [List.getElem?_map] at hz
    cases hx : l[i]? with
    | none => rw [hx] at hz; cases hz
    | some x =>
      rw [hx] at hz
      injection hz with hz
      subst hz
      obtain ⟨a, cells, rfl, hcc, rfl, _⟩ := hall i x hx
      rw [Tryz.cells39] at hcc
      obtain ⟨_, hg⟩ := cells_get hcc
      refine ⟨a, rfl, ?_, fun j u hu => ?_⟩
      · have k0 := hg 0 _ rfl
        rw [addr_zero] at k0
        exact k0
      · have k := hg j u hu
        rcases Nat.eq_zero_or_pos j with rfl | hj
        · rw [addr_zero] at k; exact cell_plus k
        · rw [add_at _ j (by omega)] at k; exact k
  · obtain ⟨i, hi⟩ := List.mem_iff_getElem?.1 hx
    obtain ⟨_, _, _, _, _, h⟩ := hall i x hi
    exact h
set_option maxRecDepth 100000 in
theorem rd_proof {c0 c1 : Value} (h : Rdg enc Tryz.prog w 42 [c0, c1]) : ∃ p q : NumV, c0 = p.val ∧ c1 = q.val ∧ Nums w p.A p.cap p.l ∧ Nums w q.A q.cap q.l := by
  obtain ⟨hl, hf⟩ := rd_struct Tryz.underlying42 h
  have h0 : Rdg enc Tryz.prog w 40 (([c0, c1].drop 0).take (Tryz.prog.cellsOf 40)) := hf 0 _ rfl
  have h1 : Rdg enc Tryz.prog w 40 (([c0, c1].drop 1).take (Tryz.prog.cellsOf 40)) := hf 1 _ rfl
  rw [Tryz.cellsN] at h0 h1
  simp only [List.drop_zero, List.drop_succ_cons, List.take_succ_cons, List.take_zero] at h0 h1
  obtain ⟨p, e0, n0, _⟩ := rd_isNums Tryz.underlying40 Tryz.underlying22 Tryz.cellsU Tryz.bytesU h0
  obtain ⟨q, e1, n1, _⟩ := rd_isNums Tryz.underlying40 Tryz.underlying22 Tryz.cellsU Tryz.bytesU h1
  simp only [List.cons.injEq, and_true] at e0 e1
  exact ⟨p, q, e0, e1, n0, n1⟩
set_option maxRecDepth 100000 in
theorem rd_isPassed {cells : List Value} (h : Rdg enc Tryz.prog w 45 cells) : ∃ x, isPassed w x cells := by
  obtain ⟨hl, hf⟩ := rd_struct Tryz.underlying45 h
  rw [Tryz.cells45] at hl
  obtain ⟨c0, c1, c2, c3, c4, c5, c6, c7, c8, c9, c10, c11, c12, c13, c14, rfl⟩ := fifteen_of hl
  have h0 : Rdg enc Tryz.prog w 39 (([c0, c1, c2, c3, c4, c5, c6, c7, c8, c9, c10, c11, c12, c13, c14].drop 0).take (Tryz.prog.cellsOf 39)) := hf 0 _ rfl
  have h1 : Rdg enc Tryz.prog w 43 (([c0, c1, c2, c3, c4, c5, c6, c7, c8, c9, c10, c11, c12, c13, c14].drop 9).take (Tryz.prog.cellsOf 43)) := hf 1 _ rfl
  rw [Tryz.cells39] at h0
  rw [Tryz.cells43] at h1
  simp only [List.drop_zero, List.drop_succ_cons, List.take_succ_cons, List.take_zero] at h0 h1
  obtain ⟨t, ht, hok⟩ := rd_isTri h0
  obtain ⟨_, hp⟩ := rd_array Tryz.underlying43 h1
  have p0 := hp 0 (by omega)
  have p1 := hp 1 (by omega)
  have p2 := hp 2 (by omega)
  rw [Tryz.cells42] at p0 p1 p2
  simp only [Nat.zero_mul, Nat.one_mul, Nat.reduceMul, List.drop_zero, List.drop_succ_cons, List.take_succ_cons, List.take_zero] at p0 p1 p2
  obtain ⟨q0, q1, rfl, rfl, n0, n1⟩ := rd_proof p0
  obtain ⟨q2, q3, rfl, rfl, n2, n3⟩ := rd_proof p1
  obtain ⟨q4, q5, rfl, rfl, n4, n5⟩ := rd_proof p2
  refine ⟨⟨t, nums3 q0 q2 q4, nums3 q1 q3 q5⟩, ?_, hok, three_cases ⟨n0, n1⟩ ⟨n2, n3⟩ ⟨n4, n5⟩⟩
  simp only [TriV.list, List.cons.injEq, and_true] at ht
  obtain ⟨rfl, rfl, rfl, rfl, rfl, rfl, rfl, rfl, rfl⟩ := ht
  rfl
theorem rd_passeds {cs : List Value} (h : Rdg enc Tryz.prog w 29 cs) : ∃ A cap ls, cs = [.slice A ls.length cap] ∧ Passeds w A cap ls ∧ ls.length ≤ 17592186044416 := by
  obtain ⟨A, cap, l, rfl, hl, hbs, hall⟩ := rd_sl (isPassed w) Tryz.underlying29 (fun cells => rd_isPassed) h
  rw [Tryz.bytes45] at hbs
  unfold reachBytes at hbs
  refine ⟨A, cap, l, rfl, ⟨⟨by simpa using hl, fun i z hz => ?_⟩, fun x hx => ?_, fun x hx => ?_⟩, by omega⟩
  · rw [List.getElem?_map] at hz
    cases hx : l[i]? with
    | none => rw [hx] at hz; cases hz
    | some x =>
      rw [hx] at hz
      injection hz with hz
      subst hz
      obtain ⟨a, cells, rfl, hcc, rfl, _⟩ := hall i x hx
      rw [Tryz.cells45] at hcc
      obtain ⟨_, hg⟩ := cells_get hcc
      refine ⟨a, rfl, ?_, fun j u hu => ?_⟩
      · have k0 := hg 0 _ rfl
        rw [addr_zero] at k0
        exact k0
      · have k := hg j u hu
        rcases Nat.eq_zero_or_pos j with rfl | hj
        · rw [addr_zero] at k; exact cell_plus k
        · rw [add_at _ j (by omega)] at k; exact k
  · obtain ⟨i, hi⟩ := List.mem_iff_getElem?.1 hx
    obtain ⟨_, _, _, _, _, h, _⟩ := hall i x hi
    exact h
  · obtain ⟨i, hi⟩ := List.mem_iff_getElem?.1 hx
    obtain ⟨_, _, _, _, _, _, h⟩ := hall i x hi
    exact h
set_option maxRecDepth 100000 in
theorem arg_seed (hv : Value.okWide Tryz.prog w r b 27 v) (h : Rdg enc Tryz.prog w 27 v.cells.toList) :
    ∃ l s x y F, v = .agg #[.string (str l), .string (str s), .int .u64 ((x : Nat) : Int), .int .u64 ((y : Nat) : Int), .int .i64 F] ∧ x < 18446744073709551616 ∧ y < 18446744073709551616 := by
  obtain ⟨cs, rfl⟩ := okWide_struct Tryz.underlying27 hv
  obtain ⟨hl, hf⟩ := rd_struct Tryz.underlying27 h
  rw [Tryz.cellsSeed] at hl
  have hcs : (Value.agg cs).cells = cs := rfl
  rw [hcs] at hl hf
  obtain ⟨c0, c1, c2, c3, c4, hc⟩ := five_of hl
  rw [hc] at hf
  have h0 : Rdg enc Tryz.prog w 9 (([c0, c1, c2, c3, c4].drop 0).take (Tryz.prog.cellsOf 9)) := hf 0 _ rfl
  have h1 : Rdg enc Tryz.prog w 9 (([c0, c1, c2, c3, c4].drop 1).take (Tryz.prog.cellsOf 9)) := hf 1 _ rfl
  have h2 : Rdg enc Tryz.prog w 22 (([c0, c1, c2, c3, c4].drop 2).take (Tryz.prog.cellsOf 22)) := hf 2 _ rfl
  have h3 : Rdg enc Tryz.prog w 22 (([c0, c1, c2, c3, c4].drop 3).take (Tryz.prog.cellsOf 22)) := hf 3 _ rfl
  have h4 : Rdg enc Tryz.prog w 3 (([c0, c1, c2, c3, c4].drop 4).take (Tryz.prog.cellsOf 3)) := hf 4 _ rfl
  rw [Tryz.cellsSt] at h0 h1
  rw [Tryz.cellsU] at h2 h3
  rw [Tryz.cellsInt] at h4
  simp only [List.drop_zero, List.drop_succ_cons, List.take_succ_cons, List.take_zero] at h0 h1 h2 h3 h4
  obtain ⟨l, e0, _⟩ := cell_string Tryz.underlying9 h0
  obtain ⟨s, e1, _⟩ := cell_string Tryz.underlying9 h1
  obtain ⟨x, e2, b2⟩ := rd_u h2
  obtain ⟨y, e3, b3⟩ := rd_u h3
  obtain ⟨F, e4, _, _⟩ := cell_i64 Tryz.underlying3 h4
  subst e0 e1 e2 e3 e4
  exact ⟨l, s, x, y, F, by congr 1; exact Array.ext' hc, b2, b3⟩
set_option maxRecDepth 100000 in
theorem arg_handed (hv : Value.okWide Tryz.prog w r b 31 v) (h : Rdg enc Tryz.prog w 31 v.cells.toList) :
    ∃ A cap ls B capB ps, v = .agg #[.slice A (List.length ls) cap, .slice B (List.length ps) capB] ∧ Tris w A cap ls ∧ Passeds w B capB ps ∧ ls.length ≤ 17592186044416 ∧ ps.length ≤ 17592186044416 := by
  obtain ⟨cs, rfl⟩ := okWide_struct Tryz.underlying31 hv
  obtain ⟨hl, hf⟩ := rd_struct Tryz.underlying31 h
  rw [Tryz.cellsHanded] at hl
  have hcs : (Value.agg cs).cells = cs := rfl
  rw [hcs] at hl hf
  obtain ⟨c0, c1, hc⟩ := two_of hl
  rw [hc] at hf
  have h0 : Rdg enc Tryz.prog w 28 (([c0, c1].drop 0).take (Tryz.prog.cellsOf 28)) := hf 0 _ rfl
  have h1 : Rdg enc Tryz.prog w 29 (([c0, c1].drop 1).take (Tryz.prog.cellsOf 29)) := hf 1 _ rfl
  rw [Tryz.cells28] at h0
  rw [Tryz.cells29] at h1
  simp only [List.drop_zero, List.drop_succ_cons, List.take_succ_cons, List.take_zero] at h0 h1
  obtain ⟨A, cap, ls, e0, t0, n0⟩ := rd_tris h0
  obtain ⟨B, capB, ps, e1, t1, n1⟩ := rd_passeds h1
  simp only [List.cons.injEq, and_true] at e0 e1
  subst e0 e1
  exact ⟨A, cap, ls, B, capB, ps, by congr 1; exact Array.ext' hc, t0, t1, n0, n1⟩
end
end Go.Proofs.YtbpenkaficiodaaGreat
