import Derived.Test.YtgbnkoeidejhfaaNumber
import Derived.Test.YtgbnkoeidejhfaaRefMod
import Derived.Test.YtgbnkoeidejhfaaRefSum
namespace Go.Proofs.Ytgbnkoeidejhfaa
open Go.RowKit

theorem fold_no (q : Nat) (h : rightB q = false) (l : List UInt8) : l.foldl (numStep q) 0 = 0 := by
  induction l with
  | nil => rfl
  | cons c l ih => rw [List.foldl_cons, show numStep q 0 c = 0 from addM_no h]; exact ih
theorem numberOf_no (label : List UInt8) (parts : List (List UInt8)) (q : Nat) (h : rightB q = false) : numberOf label parts q = 0 := fold_no q h _
theorem refMul_d (a b m : Nat) (w : World) (ha : a < 18446744073709551616) (hb : b < 18446744073709551616) (hm : m < 18446744073709551616) :
    Calls Try.prog 46 #[.int .u64 (a : Int), .int .u64 (b : Int), .int .u64 (m : Int)] w fun e w' => e = .returned (.int .u64 (mulM a b m : Int)) ∧ ∃ n, w' = w.drewN n :=
  (refMul_any a b m w ha hb hm).mono fun _ _ ⟨he, hw⟩ => ⟨he, 0, hw.symm⟩

set_option maxRecDepth 100000 in
set_option maxHeartbeats 2000000 in
theorem refNumber_any (label : List UInt8) (A : Option Addr) (cap : Nat) (parts : List (List UInt8)) (q : Nat) (w : World) (hp : Strs w A cap parts) (hq : q < 18446744073709551616) (hT : (numText (label :: parts)).length ≤ 1099511627776) (hlen : parts.length ≤ 1099511627776) :
    Calls Try.prog 26 #[.string (str label), .slice A parts.length cap, .int .u64 (q : Int)] w fun e w' => e = .returned (.int .u64 (numberOf label parts q : Int)) ∧ Below w.heap.size w w' := by
  cases hrt : rightB q with
  | false =>
    rw [numberOf_no _ _ _ hrt]
    by_cases h2 : q < 2
    · have d1 : decide ((q : Int) < 2) = true := decide_eq_true (by omega)
      go_enter Try.func26, Try.ntmps26
      go_wp2_with fail
      go_ret
      exact ⟨rfl, Below.refl _ _⟩
    · have d1 : decide ((q : Int) < 2) = false := decide_eq_false (by omega)
      have d2 : decide ((4611686018427387904 : Int) < (q : Int)) = true := decide_eq_true (by have := rightB_no hrt; omega)
      clear hrt
      go_enter Try.func26, Try.ntmps26
      go_wp2_with fail
      go_ret
      exact ⟨rfl, Below.refl _ _⟩
  | true =>
    obtain ⟨hq1, hq2⟩ := rightB_yes hrt
    have d1 : decide ((q : Int) < 2) = false := decide_eq_false (by omega)
    have d2 : decide ((4611686018427387904 : Int) < (q : Int)) = false := decide_eq_false (by omega)
    have Hp := Lib.hid hp
    obtain ⟨r, hr⟩ : ∃ r, r = numberOf label parts q := ⟨_, rfl⟩
    rw [← hr]
    have Hr := Lib.hid hr
    obtain ⟨n, hn⟩ : ∃ n, n = parts.length := ⟨_, rfl⟩
    rw [← hn] at hlen
    rw [← hn]
    have Hn := Lib.hid hn
    have hszl := str_size label
    have hll : label.length ≤ 1099511627776 := by
      have := numText_length (label :: parts)
      simp only [totalLen, List.map_cons, List.sum_cons] at this
      omega
    obtain ⟨ll, hll2⟩ : ∃ j, j = label.length := ⟨_, rfl⟩
    rw [← hll2] at hszl hll
    have hcv : IntKind.u64.wrap (ll : Int) = (ll : Int) := by rw [IntKind.wrap_u64]; omega
    have ha := str_add Try.prog (be 8 ll) label (by rw [be_length]; omega)
    obtain ⟨T0, hT0⟩ : ∃ T, T = be 8 ll ++ label := ⟨_, rfl⟩
    rw [← hT0] at ha
    have HT0 : Hid (T0 = lenText label) := by show T0 = lenText label; rw [hT0, hll2]; rfl
    clear hp hr hrt hn hT0 hll2
    go_enter Try.func26, Try.ntmps26
    go_wp2_with fail
    refine (bytes_any ll 8 _ (by omega) (by omega)).mono ?_
    rintro e w1 ⟨rfl, hb1⟩
    have Hb1 := Lib.hid hb1
    clear hb1
    go_wp2_with fail
    clear ha hcv hszl d1 d2
    go_loopw [7, 8] (fun x y wr => ∃ k : Nat, k ≤ n ∧ y = .int .i64 (k : Int) ∧ x = .string (str (lenText label ++ numText (parts.take k))) ∧ Below w.heap.size w wr) (fun _ y _ => n - (intOf y).toNat)
    case atStart => exact ⟨0, by omega, rfl, by rw [HT0.out]; simp [numText], Hb1.out⟩
    case round =>
      obtain ⟨k, hk, rfl, rfl, hb⟩ := hrel
      obtain ⟨M, hM⟩ : ∃ M, M = lenText label ++ numText (parts.take k) := ⟨_, rfl⟩
      rw [← hM]
      have Hb := Lib.hid hb
      clear hb Hb1 HT0
      by_cases hlt : k < n
      · have d1 : decide ((k : Int) < (n : Int)) = true := decide_eq_true (by omega)
        have k1 : (k : Int) < (n : Int) := by omega
        have hkL : k < parts.length := by rw [← Hn.out]; exact hlt
        obtain ⟨x, hx⟩ : ∃ x, parts[k]? = some x := ⟨_, List.getElem?_eq_getElem hkL⟩
        obtain ⟨a, rfl, hc⟩ := Hp.out.cells k x hx
        have hnx := numText_take parts k x hx
        have hb8 : (numText (parts.take (k + 1))).length ≤ (numText parts).length := numText_take_le parts (k + 1)
        have hTb : (numText (label :: parts)).length = (lenText label).length + (numText parts).length := by simp [numText]
        have hMl : M.length + (lenText x).length ≤ 1099511627776 := by
          rw [hM, List.length_append]
          rw [hnx, List.length_append] at hb8
          omega
        have hcell : ∀ w', Below wr.heap.size wr w' → w'.cell? (a.add k) = some (.string (str x)) := fun w' hw => below_cell hw (below_cell Hb.out hc)
        have hsz := str_size x
        obtain ⟨xl, hxl2⟩ : ∃ xl, xl = x.length := ⟨_, rfl⟩
        have hxl : xl ≤ 1099511627776 := by rw [lenText, List.length_append, be_length] at hMl; omega
        rw [← hxl2] at hsz
        have hcv : IntKind.u64.wrap (xl : Int) = (xl : Int) := by rw [IntKind.wrap_u64]; omega
        have ha := str_add Try.prog M (be 8 xl) (by rw [be_length]; omega)
        obtain ⟨M1, hM1⟩ : ∃ T, T = M ++ be 8 xl := ⟨_, rfl⟩
        have ha2 := str_add Try.prog M1 x (by rw [hM1, List.length_append, be_length]; omega)
        obtain ⟨M2, hM2⟩ : ∃ T, T = M1 ++ x := ⟨_, rfl⟩
        rw [← hM1] at ha
        rw [← hM2] at ha2
        have hM3 : M2 = lenText label ++ numText (parts.take (k + 1)) := by
          rw [hM2, hM1, hM, hnx, hxl2, lenText]
          simp [List.append_assoc, lenText]
        have HM3 := Lib.hid hM3
        clear hM hM1 hM2 hM3 hnx hb8 hTb hMl hkL hx hxl2 hc
        go_wp2_with fail
        refine region_quiet_tail (fun w' => Below wr.heap.size wr w') 14 Try.mixed (by kernel_rfl) (Below.refl _ _).drew ?_
        simp only [List.take_succ_cons, List.take_zero, List.drop_succ_cons, List.drop_zero]
        repeat (refine wpQuiet_step (fun K hK => ?_); go_simp; refine ⟨_, fun w' hb => (by first | rfl | exact ⟨rfl, rfl⟩ | (rw [hcell w' hb]; exact ⟨rfl, rfl⟩)), hK _ ?_⟩; clear hK K)
        refine wpQuiet_step (fun K hK => ?_)
        go_simp
        refine ⟨.string (str (be 8 xl)), fun w' hb => ?_, hK _ ?_⟩
        · refine (bytes_any xl 8 w' (by omega) (by omega)).mono ?_
          rintro e w4 ⟨rfl, hb4⟩
          exact ⟨rfl, below_trans hb hb4⟩
        clear hK K
        repeat (refine wpQuiet_step (fun K hK => ?_); go_simp; refine ⟨_, fun w' hb => (by first | rfl | exact ⟨rfl, rfl⟩ | (rw [hcell w' hb]; exact ⟨rfl, rfl⟩)), hK _ ?_⟩; clear hK K)
        refine wpQuiet_nil ?_
        intro w4 hb4
        have Hb4 := Lib.hid (below_trans Hb.out hb4)
        clear hb4 hcell
        go_wp2_with fail
        go_roundw
        case rel => exact ⟨k + 1, by omega, by go_num, by rw [HM3.out], Hb4.out⟩
        case measure => simp [intOf]; omega
      · have d1 : decide ((k : Int) < (n : Int)) = false := decide_eq_false (by omega)
        have hMe : M = numText (label :: parts) := by
          rw [hM, List.take_of_length_le (by rw [← Hn.out]; omega)]; rfl
        have hMl : M.length ≤ 1099511627776 := by rw [hMe]; exact hT
        obtain ⟨h, hh⟩ : ∃ h, h = sha M := ⟨_, rfl⟩
        have hhl : h.length = 32 := by rw [hh, sha_length]
        have hsz : (str h).size = 32 := by rw [str_size, hhl]
        have hfin : r = (h.take 16).foldl (numStep q) 0 := by rw [Hr.out, numberOf, ← hMe, ← hh]
        have Hfin := Lib.hid hfin
        have Hh := Lib.hid hh
        have Hhl := Lib.hid hhl
        clear hM hMe hh hhl hfin Hr
        go_wp2_with fail
        refine (refSum_any M _ hMl).mono ?_
        rintro e w2 ⟨rfl, hb2⟩
        rw [← Hh.out]
        have Hb2 := Lib.hid (below_trans Hb.out hb2)
        clear hb2 Hb
        go_wp2_with fail
        go_loopw [10, 11] (fun x y wr => ∃ j z : Nat, j ≤ 16 ∧ y = .int .i64 (j : Int) ∧ x = .int .u64 (z : Int) ∧ z ≤ 4611686018427387904 ∧ z = ((h.take 16).take j).foldl (numStep q) 0 ∧ Below w.heap.size w wr) (fun _ y _ => 16 - (intOf y).toNat)
        case atStart => exact ⟨0, 0, by omega, rfl, rfl, by omega, rfl, Hb2.out⟩
        case round =>
          obtain ⟨j, z, hj, rfl, rfl, hz, hzf, hb3⟩ := hrel
          have Hzf := Lib.hid hzf
          have Hb3 := Lib.hid hb3
          clear hzf hb3 Hb2
          have hbl : (h.take 16).length = 16 := by rw [List.length_take, Hhl.out]; rfl
          by_cases hj16 : j < 16
          · have c1 : decide ((j : Int) < 16) = true := decide_eq_true (by omega)
            obtain ⟨c, hc⟩ : ∃ c, (h.take 16)[j]? = some c := ⟨_, List.getElem?_eq_getElem (by omega)⟩
            have hc2 : h[j]? = some c := by rw [List.getElem?_take, if_pos hj16] at hc; exact hc
            have hidx : ∀ W : World, (Instr.index 9 (.string (str h)) (.int .i64 (j : Int))).run Try.prog W = .ok (.int .u8 (c.toNat : Int)) W :=
              fun W => run_index_str Try.underlying_str (str h) (j : Int) j c rfl (by rw [str_get]; exact hc2) W
            have hft := fold_take q (h.take 16) j c hc
            rw [← Hzf.out] at hft
            have hcb := c.toNat_lt
            obtain ⟨m1, hm1⟩ : ∃ m, m = mulM z 256 q := ⟨_, rfl⟩
            have hm1b : m1 ≤ 4611686018427387904 := by rw [hm1]; exact mulM_lt _ _ _
            obtain ⟨z2, hz2⟩ : ∃ m, m = addM m1 c.toNat q := ⟨_, rfl⟩
            have hz2b : z2 ≤ 4611686018427387904 := by rw [hz2]; exact addM_lt _ _ _
            have hft2 : ((h.take 16).take (j + 1)).foldl (numStep q) 0 = z2 := by rw [hft, numStep, ← hm1, ← hz2]
            have Hm1 := Lib.hid hm1
            have Hz2 := Lib.hid hz2
            have Hft := Lib.hid hft2
            have cv : IntKind.u64.wrap (c.toNat : Int) = (c.toNat : Int) := by rw [IntKind.wrap_u64]; omega
            have cM : ∀ W : World, Calls Try.prog 46 #[.int .u64 (z : Int), .int .u64 256, .int .u64 (q : Int)] W fun e w' => e = .returned (.int .u64 (m1 : Int)) ∧ ∃ n, w' = W.drewN n := by
              intro W; rw [hm1]; exact refMul_d z 256 q W (by omega) (by omega) hq
            have cA : ∀ W : World, Calls Try.prog 45 #[.int .u64 (m1 : Int), .int .u64 (c.toNat : Int), .int .u64 (q : Int)] W fun e w' => e = .returned (.int .u64 (z2 : Int)) ∧ ∃ n, w' = W.drewN n := by
              intro W; rw [hz2]; exact refAdd_any m1 c.toNat q W (by omega) (by omega) hq
            have CM := Lib.hid cM
            have CA := Lib.hid cA
            clear hc hc2 hft hft2 hm1 hz2 hbl cM cA
            go_wp2_with fail
            go_quiet ((first | (go_at_call 46; exact Calls.quiet_of (CM.out _)) | (go_at_call 45; exact Calls.quiet_of (CA.out _))))
            go_wp2_with fail
            go_roundw
            case rel => exact ⟨j + 1, z2, by omega, by go_num, rfl, hz2b, Hft.out.symm, below_drewN Hb3.out _⟩
            case measure => simp [intOf]; omega
          · have c1 : decide ((j : Int) < 16) = false := decide_eq_false (by omega)
            have hzr : z = r := by rw [Hzf.out, Hfin.out, List.take_of_length_le (by omega)]
            clear hbl
            subst hzr
            go_wp2_with fail
            go_ret
            exact ⟨rfl, Hb3.out⟩
end Go.Proofs.Ytgbnkoeidejhfaa
