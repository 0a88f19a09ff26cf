import Derived.Test.YtgbnkoeidejhfaaBindsP
import Derived.Test.YtgbnkoeidejhfaaFew
import Derived.Test.YtgbnkoeidejhfaaDigO
import Derived.Test.YtgbnkoeidejhfaaDigJ
namespace Go.Proofs.Ytgbnkoeidejhfaa
open Go.RowKit

set_option maxRecDepth 100000 in
set_option maxHeartbeats 4000000 in
theorem binds_walk (a b : List UInt8) (i n : Int) (A0 A1 : Option Addr) (c0 c1 : Nat) (p0 p1 : List (List UInt8)) (w : World) (hp0 : Strs w A0 c0 p0) (hp1 : Strs w A1 c1 p1)
    (hl0 : ∀ x ∈ p0, x.length ≤ 140737488355328) (hl1 : ∀ x ∈ p1, x.length ≤ 140737488355328) (ha : a.length ≤ 140737488355328) (hb : b.length ≤ 140737488355328)
    (hi1 : -9223372036854775808 ≤ i) (hi2 : i ≤ 9223372036854775807) (hn1 : -9223372036854775808 ≤ n) (hn2 : n ≤ 9223372036854775807) :
    Calls Try.prog 7 #[.agg #[.string (str a), .string (str b)], .agg #[.int .i64 i, .int .i64 n], .agg #[.slice A0 p0.length c0, .slice A1 p1.length c1]] w
      fun e w' => e = .returned (.bool true) ∧ Below w.heap.size w w' := by
  have hsa := str_size a
  have hsb := str_size b
  have Hp0 := Lib.hid hp0
  have Hp1 := Lib.hid hp1
  clear hp0 hp1
  go_enter Try.func7, Try.ntmps7
  go_wp2_with fail
  refine (awake_any _).mono ?_
  rintro e w1 ⟨rfl, hb1⟩
  have hA : Blk w1 w.heap.size 35 [.string (str a), .string (str b)] := (((Blk.of w _ _ _ rfl).alloc _).alloc _).below hb1 (by simp; omega)
  have hI : Blk w1 (w.heap.size + 1) 29 [.int .i64 i, .int .i64 n] := by
    have := ((Blk.of (w.alloc (.cells #[.string (str a), .string (str b)] 35)) 29 #[.int .i64 i, .int .i64 n] _ rfl).alloc (.cells #[.slice A0 p0.length c0, .slice A1 p1.length c1] 36)).below hb1 (by simp)
    simpa using this
  have hP : Blk w1 (w.heap.size + 1 + 1) 36 [.slice A0 p0.length c0, .slice A1 p1.length c1] := by
    have := ((Blk.of ((w.alloc (.cells #[.string (str a), .string (str b)] 35)).alloc (.cells #[.int .i64 i, .int .i64 n] 29)) 36 #[.slice A0 p0.length c0, .slice A1 p1.length c1] _ rfl)).below hb1 (by simp)
    simpa using this
  have hB1 : Below w.heap.size w w1 := ((((Below.refl _ _).alloc (Nat.le_refl _) _).alloc (by simp) _).alloc (by simp; omega) _).trans (hb1.mono (by simp; omega))
  have a0 : w1.cell? ⟨w.heap.size, 0, none⟩ = some (.string (str a)) := hA.cell 0
  have a1 : w1.cell? ⟨w.heap.size, 1, none⟩ = some (.string (str b)) := hA.cell 1
  have HA := Lib.hid hA
  have HI := Lib.hid hI
  have HP := Lib.hid hP
  have HB1 := Lib.hid hB1
  have Hp01 := Lib.hid (Hp0.out.below hB1)
  have Hp11 := Lib.hid (Hp1.out.below hB1)
  clear hA hI hP hB1 hb1 Hp0 Hp1
  go_wp2_with fail
  go_quiet (fail)
  have HA2 := Lib.hid (HA.out.drewN nq)
  have HI2 := Lib.hid (HI.out.drewN nq)
  have HP2 := Lib.hid (HP.out.drewN nq)
  have HB2 := Lib.hid (below_drewN HB1.out nq)
  have Hp02 := Lib.hid (Strs.below Hp01.out (below_drewN (Below.refl _ w1) nq))
  have Hp12 := Lib.hid (Strs.below Hp11.out (below_drewN (Below.refl _ w1) nq))
  clear HA HI HP HB1 Hp01 Hp11 a0 a1
  generalize w1.drewN nq = w2 at *
  clear w1
  by_cases ha1 : 1000 < a.length
  · have d1 : decide ((1000 : Int) < (a.length : Int)) = true := decide_eq_true (by omega)
    go_wp2_with fail
    go_ret
    exact ⟨rfl, HB2.out⟩
  have d1 : decide ((1000 : Int) < (a.length : Int)) = false := decide_eq_false (by omega)
  by_cases hb1 : 1000 < b.length
  · have d2 : decide ((1000 : Int) < (b.length : Int)) = true := decide_eq_true (by omega)
    go_wp2_with fail
    go_ret
    exact ⟨rfl, HB2.out⟩
  have d2 : decide ((1000 : Int) < (b.length : Int)) = false := decide_eq_false (by omega)
  by_cases hab : a = b
  · have d3 := str_eq_yes hab
    have Hab := Lib.hid hab
    clear hab
    go_wp2_with fail
    go_ret
    exact ⟨rfl, HB2.out⟩
  have d3 := str_eq_no hab
  have Hab := Lib.hid hab
  clear hab
  have q0 : w2.cell? ⟨w.heap.size + 1 + 1, 0, none⟩ = some (.slice A0 p0.length c0) := HP2.out.cell 0
  have q1 : w2.cell? ⟨w.heap.size + 1 + 1, 1, none⟩ = some (.slice A1 p1.length c1) := HP2.out.cell 1
  have j0 : w2.cell? ⟨w.heap.size + 1, 0, none⟩ = some (.int .i64 i) := HI2.out.cell 0
  have j1 : w2.cell? ⟨w.heap.size + 1, 1, none⟩ = some (.int .i64 n) := HI2.out.cell 1
  by_cases hf0 : fewB p0 = false
  · go_wp2_with (go_at_call 17; refine (few_any A0 c0 p0 _ Hp02.out hl0).mono ?_; rintro e w' ⟨rfl, rfl⟩)
    go_ret
    exact ⟨rfl, HB2.out⟩
  have hf0 : fewB p0 = true := by simpa using hf0
  by_cases hf1 : fewB p1 = false
  · go_wp2_with fail
    refine (few_any A0 c0 p0 _ Hp02.out hl0).mono ?_
    rintro e w' ⟨rfl, rfl⟩
    go_wp2_with fail
    refine (few_any A1 c1 p1 _ Hp12.out hl1).mono ?_
    rintro e w' ⟨rfl, rfl⟩
    go_wp2_with fail
    go_ret
    exact ⟨rfl, HB2.out⟩
  have hf1 : fewB p1 = true := by simpa using hf1
  go_wp2_with fail
  refine (few_any A0 c0 p0 _ Hp02.out hl0).mono ?_
  rintro e w' ⟨rfl, rfl⟩
  go_wp2_with fail
  refine (few_any A1 c1 p1 _ Hp12.out hl1).mono ?_
  rintro e w' ⟨rfl, rfl⟩
  have hy0 := fewB_yes hf0
  have hy1 := fewB_yes hf1
  clear hf0 hf1
  cases hr0 : climbOf a i n p0 with
  | none =>
    have Hr0 := Lib.hid hr0
    clear hr0
    go_wp2_with fail
    refine (climb_none a i n A0 c0 p0 _ Hr0.out (by omega) Hp02.out hi1 hi2 hn1 hn2 (by omega)).mono ?_
    rintro e w3 ⟨rfl, hb3⟩
    have hB3 := HB2.out.trans (hb3.mono HB2.out.size)
    have j0 : w3.cell? ⟨w.heap.size + 1, 0, none⟩ = some (.int .i64 i) := below_cell hb3 j0
    have j1 : w3.cell? ⟨w.heap.size + 1, 1, none⟩ = some (.int .i64 n) := below_cell hb3 j1
    have q0 : w3.cell? ⟨w.heap.size + 1 + 1, 0, none⟩ = some (.slice A0 p0.length c0) := below_cell hb3 q0
    have q1 : w3.cell? ⟨w.heap.size + 1 + 1, 1, none⟩ = some (.slice A1 p1.length c1) := below_cell hb3 q1
    have HB3 := Lib.hid hB3
    have Hp03 := Lib.hid (Hp02.out.below hb3)
    have Hp13 := Lib.hid (Hp12.out.below hb3)
    clear hb3 hB3 HB2 Hp02 Hp12
    go_wp2_with fail
    refine (climb_any b i n A1 c1 p1 _ (by omega) Hp13.out hi1 hi2 hn1 hn2 (by omega)).mono ?_
    rintro e w4 ⟨rfl, hb4⟩
    have hB4 := HB3.out.trans (hb4.mono HB3.out.size)
    have HB4 := Lib.hid hB4
    clear hb4 hB4
    go_wp2_with fail
    go_ret
    exact ⟨rfl, HB4.out⟩
  | some x =>
    have Hr0 := Lib.hid hr0
    clear hr0
    go_wp2_with fail
    refine (climb_some a x i n A0 c0 p0 _ Hr0.out (by omega) Hp02.out hi1 hi2 hn1 hn2 (by omega)).mono ?_
    rintro e w3 ⟨rfl, hb3⟩
    have hB3 := HB2.out.trans (hb3.mono HB2.out.size)
    have j0 : w3.cell? ⟨w.heap.size + 1, 0, none⟩ = some (.int .i64 i) := below_cell hb3 j0
    have j1 : w3.cell? ⟨w.heap.size + 1, 1, none⟩ = some (.int .i64 n) := below_cell hb3 j1
    have q0 : w3.cell? ⟨w.heap.size + 1 + 1, 0, none⟩ = some (.slice A0 p0.length c0) := below_cell hb3 q0
    have q1 : w3.cell? ⟨w.heap.size + 1 + 1, 1, none⟩ = some (.slice A1 p1.length c1) := below_cell hb3 q1
    have HB3 := Lib.hid hB3
    have Hp03 := Lib.hid (Hp02.out.below hb3)
    have Hp13 := Lib.hid (Hp12.out.below hb3)
    clear hb3 hB3 HB2 Hp02 Hp12
    cases hr1 : climbOf b i n p1 with
    | none =>
      have Hr1 := Lib.hid hr1
      clear hr1
      go_wp2_with fail
      refine (climb_none b i n A1 c1 p1 _ Hr1.out (by omega) Hp13.out hi1 hi2 hn1 hn2 (by omega)).mono ?_
      rintro e w4 ⟨rfl, hb4⟩
      have hB4 := HB3.out.trans (hb4.mono HB3.out.size)
      have HB4 := Lib.hid hB4
      clear hb4 hB4
      go_wp2_with fail
      go_ret
      exact ⟨rfl, HB4.out⟩
    | some y =>
      have Hr1 := Lib.hid hr1
      clear hr1
      go_wp2_with fail
      refine (climb_some b y i n A1 c1 p1 _ Hr1.out (by omega) Hp13.out hi1 hi2 hn1 hn2 (by omega)).mono ?_
      rintro e w4 ⟨rfl, hb4⟩
      have hB4 := HB3.out.trans (hb4.mono HB3.out.size)
      have j0 : w4.cell? ⟨w.heap.size + 1, 0, none⟩ = some (.int .i64 i) := below_cell hb4 j0
      have j1 : w4.cell? ⟨w.heap.size + 1, 1, none⟩ = some (.int .i64 n) := below_cell hb4 j1
      have q0 : w4.cell? ⟨w.heap.size + 1 + 1, 0, none⟩ = some (.slice A0 p0.length c0) := below_cell hb4 q0
      have q1 : w4.cell? ⟨w.heap.size + 1 + 1, 1, none⟩ = some (.slice A1 p1.length c1) := below_cell hb4 q1
      have HB4 := Lib.hid hB4
      have Hp04 := Lib.hid (Hp03.out.below hb4)
      have Hp14 := Lib.hid (Hp13.out.below hb4)
      clear hb4 hB4 HB3 Hp03 Hp13
      by_cases hxy : x = y
      · have d4 := str_eq_yes hxy
        have Hxy := Lib.hid hxy
        clear hxy
        obtain ⟨hi0, hin, hn6, hg0⟩ := climbOf_some Hr0.out
        obtain ⟨_, _, _, hg1⟩ := climbOf_some Hr1.out
        obtain ⟨i0, rfl⟩ : ∃ k : Nat, i = (k : Int) := ⟨i.toNat, by omega⟩
        obtain ⟨n0, rfl⟩ : ∃ k : Nat, n = (k : Int) := ⟨n.toNat, by omega⟩
        simp only [Int.toNat_natCast] at hg0 hg1
        rw [← Hxy.out] at hg1
        have hst : BSt n0 i0 n0 (0 :: a) (0 :: b) x p0 p1 := ⟨by omega, Nat.le_refl _, hg0, hg1, fun h => Hab.out (by injection h)⟩
        have Hst := Lib.hid hst
        have e0 : ({ data := #[0] } : ByteArray) = str [0] := rfl
        have s0 := str_add Try.prog [0] a (by simp; omega)
        have s1 := str_add Try.prog [0] b (by simp; omega)
        clear hg0 hg1 hst Hr0 Hr1
        go_wp2_with fail
        go_quiet (fail)
        go_wp2_with fail
        have HB5 := Lib.hid (below_drewN HB4.out nq)
        have Hp05 := Lib.hid (Strs.below Hp04.out (below_drewN (Below.refl _ w4) nq))
        have Hp15 := Lib.hid (Strs.below Hp14.out (below_drewN (Below.refl _ w4) nq))
        have q0 : (w4.drewN nq).cell? ⟨w.heap.size + 1 + 1, 0, none⟩ = some (.slice A0 p0.length c0) := q0
        have q1 : (w4.drewN nq).cell? ⟨w.heap.size + 1 + 1, 1, none⟩ = some (.slice A1 p1.length c1) := q1
        clear HB4 Hp04 Hp14 j0 j1
        generalize w4.drewN nq = w5 at *
        have e1 : ({ data := #[1] } : ByteArray) = str [1] := rfl
        clear s0 s1 e0 d1 d2 d3 d4
        have hk0 := hy0.1
        go_loopw [13, 14, 15, 16, 17] (fun sv tv iv nv kv wr => ∃ (f i1 n1 k1 : Nat) (s t : List UInt8), sv = .string (str s) ∧ tv = .string (str t) ∧ iv = .int .i64 (i1 : Int) ∧ nv = .int .i64 (n1 : Int) ∧ kv = .int .i64 (k1 : Int) ∧
          BSt f i1 n1 s t x (p0.drop k1) (p1.drop k1) ∧ n1 ≤ 65536 ∧ k1 ≤ 200 ∧ s.length ≤ 1001 ∧ t.length ≤ 1001 ∧ Below w5.heap.size w5 wr) (fun _ _ _ nv _ _ => (intOf nv).toNat)
        case atStart => exact ⟨n0, i0, n0, 0, 0 :: a, 0 :: b, rfl, rfl, rfl, rfl, rfl, Hst.out, by omega, by omega, by simp; omega, by simp; omega, Below.refl _ _⟩
        case round =>
          obtain ⟨wo, rfl⟩ : ∃ wo : World, wo = wr := ⟨_, rfl⟩
          obtain ⟨f, i1, n1, k1, s, t, rfl, rfl, rfl, rfl, rfl, hs, hn16, hk1, hsl, htl, hbo⟩ := hrel
          obtain ⟨hin1, hnf, hone, htwo, hne⟩ := hs
          have Hbo := Lib.hid hbo
          have Hone := Lib.hid hone
          have Htwo := Lib.hid htwo
          clear hbo hone htwo Hst
          obtain ⟨u, hu0⟩ : ∃ u, u = sha s := ⟨_, rfl⟩
          obtain ⟨v, hv0⟩ : ∃ v, v = sha t := ⟨_, rfl⟩
          have hu : u.length = 32 := by rw [hu0, sha_length]
          have hv : v.length = 32 := by rw [hv0, sha_length]
          have Hu0 := Lib.hid hu0
          have Hv0 := Lib.hid hv0
          have Hu := Lib.hid hu
          have Hv := Lib.hid hv
          clear hu0 hv0 hu hv
          go_wp2_with fail
          refine (sumTop_any s _ (by omega)).mono ?_
          rintro e w6 ⟨rfl, hb6⟩
          rw [← Hu0.out]
          have Hb6 := Lib.hid (Hbo.out.trans (hb6.mono Hbo.out.size))
          clear hb6 Hbo
          go_wp2_with fail
          refine (sumTop_any t _ (by omega)).mono ?_
          rintro e w7 ⟨rfl, hb7⟩
          rw [← Hv0.out]
          have Hbo := Lib.hid (Hb6.out.trans (hb7.mono Hb6.out.size))
          clear hb7 Hb6
          by_cases huv : u = v
          · have g1 := str_eq_yes huv
            have g2 := str_eq_no hne
            have Huv := Lib.hid huv
            clear huv
            go_wp2_with fail
            go_ret
            exact ⟨rfl, HB5.out.trans (Hbo.out.mono HB5.out.size)⟩
          · have g1 := str_eq_no huv
            have Huv := Lib.hid huv
            clear huv
            have hone := Hone.out
            have htwo := Htwo.out
            rw [← Hu0.out] at hone
            rw [← Hv0.out] at htwo
            have Hone := Lib.hid hone
            have Htwo := Lib.hid htwo
            clear hone htwo
            go_wp2_with fail
            go_loopw [15, 16] (fun iv nv wr => ∃ (f2 i2 n2 : Nat), iv = .int .i64 (i2 : Int) ∧ nv = .int .i64 (n2 : Int) ∧ i2 < n2 ∧ n2 ≤ f2 ∧ n2 ≤ n1 ∧ climbG f2 i2 n2 u (p0.drop k1) = some x ∧ climbG f2 i2 n2 v (p1.drop k1) = some x ∧ wr = w7) (fun _ nv _ => (intOf nv).toNat)
            case atStart => exact ⟨f, i1, n1, rfl, rfl, hin1, hnf, by omega, Hone.out, Htwo.out, rfl⟩
            case round =>
              obtain ⟨f2, i2, n2, rfl, rfl, hin2, hnf2, hn21, hg0, hg1, rfl⟩ := hrel
              obtain ⟨f2, rfl⟩ : ∃ j, f2 = j + 1 := ⟨f2 - 1, by omega⟩
              by_cases h1n : n2 ≤ 1
              · have r0 := climbG_end h1n hg0
                have r1 := climbG_end h1n hg1
                exact absurd (r0.2.trans r1.2.symm) Huv.out
              · have cc1 : decide ((1 : Int) < (n2 : Int)) = true := decide_eq_true (by omega)
                have cc1b : decide ((n2 : Int) ≤ 1) = false := decide_eq_false (by omega)
                obtain ⟨m, hm⟩ : ∃ m, m = i2 ^^^ 1 := ⟨_, rfl⟩
                have hx := i64_xor_one i2 (by omega)
                have hmle := xor_one_le i2
                rw [← hm] at hx hmle
                by_cases h2n : n2 ≤ m
                · have c2 : decide ((n2 : Int) ≤ (m : Int)) = true := decide_eq_true (by omega)
                  rw [climbG_skip (by omega) (by rw [← hm]; exact h2n)] at hg0 hg1
                  have Hg0 := Lib.hid hg0
                  have Hg1 := Lib.hid hg1
                  clear hg0 hg1 hm
                  go_wp2_with fail
                  go_roundw
                  case rel => exact ⟨f2, i2 / 2, (n2 + 1) / 2, by go_num, by go_num, by omega, by omega, by omega, Hg0.out, Hg1.out, trivial⟩
                  case measure => simp [intOf]; omega
                · have c2 : decide ((n2 : Int) ≤ (m : Int)) = false := decide_eq_false (by omega)
                  obtain ⟨y0, qq0, hq0, hy0l, hg0'⟩ := climbG_step (by omega) (by rw [← hm]; omega) hg0
                  obtain ⟨y1, qq1, hq1, hy1l, hg1'⟩ := climbG_step (by omega) (by rw [← hm]; omega) hg1
                  have hd0 := drop_cons hq0
                  have hd1 := drop_cons hq1
                  obtain ⟨ad0, had0, hcc0⟩ := Hp05.out.cells k1 y0 hd0.1
                  obtain ⟨ad1, had1, hcc1⟩ := Hp15.out.cells k1 y1 hd1.1
                  subst had0 had1
                  have hcc0 := below_cell Hbo.out hcc0
                  have hcc1 := below_cell Hbo.out hcc1
                  have q0 := below_cell Hbo.out q0
                  have q1 := below_cell Hbo.out q1
                  have b0 : decide ((p0.length : Int) ≤ (k1 : Int)) = false := decide_eq_false (by have := hd0.2.2; omega)
                  have b1 : decide ((p1.length : Int) ≤ (k1 : Int)) = false := decide_eq_false (by have := hd1.2.2; omega)
                  have hl0' : k1 < p0.length := hd0.2.2
                  have hl1' : k1 < p1.length := hd1.2.2
                  have hu := Hu.out
                  have hv := Hv.out
                  have t0 : 0 ≤ (k1 : Int) := by omega
                  have t1 : (k1 : Int) < (p0.length : Int) := by omega
                  have t2 : (k1 : Int) < (p1.length : Int) := by omega
                  clear hg0 hg1 hq0 hq1 hm Hone Htwo Hp05 Hp15
                  by_cases hp2 : i2 % 2 = 0
                  · have hpar : ((i2 : Int) % 2 == 0) = true := by rw [beq_iff_eq]; omega
                    have v0 := str_add Try.prog [1] u (by simp; omega)
                    have v1 := str_add Try.prog (1 :: u) y0 (by simp; omega)
                    have v2 := str_add Try.prog [1] v (by simp; omega)
                    have v3 := str_add Try.prog (1 :: v) y1 (by simp; omega)
                    have hne2 := sha_ne_next (y := y0) (y' := y1) (by rw [hu, hv]) Huv.out
                    rw [if_pos hp2] at hg0' hg1'
                    have hst2 : BSt f2 (i2 / 2) ((n2 + 1) / 2) (1 :: (u ++ y0)) (1 :: (v ++ y1)) x (p0.drop (k1 + 1)) (p1.drop (k1 + 1)) := ⟨by omega, by omega, by rw [hd0.2.1]; exact hg0', by rw [hd1.2.1]; exact hg1', hne2⟩
                    have Hst2 := Lib.hid hst2
                    obtain ⟨S, hS⟩ : ∃ S, S = (1 : UInt8) :: (u ++ y0) := ⟨_, rfl⟩
                    obtain ⟨T, hT⟩ : ∃ T, T = (1 : UInt8) :: (v ++ y1) := ⟨_, rfl⟩
                    have hSl : S.length = 65 := by rw [hS]; simp [hu, hv, hy0l, hy1l]
                    have hTl : T.length = 65 := by rw [hT]; simp [hu, hv, hy0l, hy1l]
                    simp only [List.cons_append, List.nil_append] at v0 v1 v2 v3
                    rw [← hS] at v1 Hst2
                    rw [← hT] at v3 Hst2
                    have Hu := Lib.hid hu
                    have Hv := Lib.hid hv
                    have HSl := Lib.hid hSl
                    have HTl := Lib.hid hTl
                    clear hg0' hg1' hst2 hS hT hne2 hu hv hSl hTl hy0l hy1l
                    go_wp2_with fail
                    go_quiet (fail)
                    go_wp2_with fail
                    go_roundw
                    case rel => exact ⟨f2, i2 / 2, (n2 + 1) / 2, k1 + 1, S, T, rfl, rfl, by go_num, by go_num, by go_num, Hst2.out, by omega, by omega, by have := HSl.out; omega, by have := HTl.out; omega, below_drewN Hbo.out _⟩
                    case measure => simp [intOf]; omega
                  · have hpar : ((i2 : Int) % 2 == 0) = false := by rw [beq_eq_false_iff_ne]; omega
                    have v0 := str_add Try.prog [1] y0 (by simp; omega)
                    have v1 := str_add Try.prog (1 :: y0) u (by simp; omega)
                    have v2 := str_add Try.prog [1] y1 (by simp; omega)
                    have v3 := str_add Try.prog (1 :: y1) v (by simp; omega)
                    have hne2 := sha_ne_next' (y := y0) (y' := y1) (by rw [hu, hv]) (by rw [hy0l, hy1l]) Huv.out
                    rw [if_neg hp2] at hg0' hg1'
                    have hst2 : BSt f2 (i2 / 2) ((n2 + 1) / 2) (1 :: (y0 ++ u)) (1 :: (y1 ++ v)) x (p0.drop (k1 + 1)) (p1.drop (k1 + 1)) := ⟨by omega, by omega, by rw [hd0.2.1]; exact hg0', by rw [hd1.2.1]; exact hg1', hne2⟩
                    have Hst2 := Lib.hid hst2
                    obtain ⟨S, hS⟩ : ∃ S, S = (1 : UInt8) :: (y0 ++ u) := ⟨_, rfl⟩
                    obtain ⟨T, hT⟩ : ∃ T, T = (1 : UInt8) :: (y1 ++ v) := ⟨_, rfl⟩
                    have hSl : S.length = 65 := by rw [hS]; simp [hu, hv, hy0l, hy1l]
                    have hTl : T.length = 65 := by rw [hT]; simp [hu, hv, hy0l, hy1l]
                    simp only [List.cons_append, List.nil_append] at v0 v1 v2 v3
                    rw [← hS] at v1 Hst2
                    rw [← hT] at v3 Hst2
                    have Hu := Lib.hid hu
                    have Hv := Lib.hid hv
                    have HSl := Lib.hid hSl
                    have HTl := Lib.hid hTl
                    clear hg0' hg1' hst2 hS hT hne2 hu hv hSl hTl hy0l hy1l
                    go_wp2_with fail
                    go_quiet (fail)
                    go_wp2_with fail
                    go_roundw
                    case rel => exact ⟨f2, i2 / 2, (n2 + 1) / 2, k1 + 1, S, T, rfl, rfl, by go_num, by go_num, by go_num, Hst2.out, by omega, by omega, by have := HSl.out; omega, by have := HTl.out; omega, below_drewN Hbo.out _⟩
                    case measure => simp [intOf]; omega
      · have d4 := str_eq_no hxy
        have Hxy := Lib.hid hxy
        clear hxy
        go_wp2_with fail
        go_ret
        exact ⟨rfl, HB4.out⟩
end Go.Proofs.Ytgbnkoeidejhfaa
