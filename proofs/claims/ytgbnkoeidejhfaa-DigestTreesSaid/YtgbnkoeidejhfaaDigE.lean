import Derived.Test.YtgbnkoeidejhfaaDigD
import Derived.Laws.CopyOwn
namespace Go.Proofs.Ytgbnkoeidejhfaa
open Go.RowKit

theorem rot_still (x : W32) (n : Nat) (w : World) (h1 : 1 ≤ n) (h2 : n ≤ 31) :
    Calls Try.prog 58 #[v32 x, .int .i64 (n : Int)] w fun e w' => e = .returned (v32 (x.rotateRight n)) ∧ w' = w :=
  (rot_any x n w h1 h2).mono fun _ _ ⟨he, hw⟩ => ⟨he, hw.symm⟩

theorem rot_lit (n : Nat) (x : W32) (z : Int) (hz : z = (n : Int)) (w : World) (h1 : 1 ≤ n) (h2 : n ≤ 31) :
    Calls Try.prog 58 #[v32 x, .int .i64 z] w fun e w' => e = .returned (v32 (x.rotateRight n)) ∧ w' = w := by
  subst hz
  exact rot_still x n w h1 h2

/-- What a round of sums reads: the eight numbers, the words, K. -/
structure Rd (x : World) (V W kb : Nat) (w0 : World) (v : St) (l : List UInt8) : Prop where
  st : Blk x V 84 v.cells
  ws : Blk x W 59 (wArr l 64)
  ks : Maker x kb 1 0 kList
  below : Below V w0 x
theorem Rd.drewN {x : World} {V W kb : Nat} {w0 : World} {v : St} {l : List UInt8} (h : Rd x V W kb w0 v l) (n : Nat) : Rd (x.drewN n) V W kb w0 v l := ⟨h.st, h.ws, h.ks, below_drewN h.below n⟩
theorem Rd.drew {x : World} {V W kb : Nat} {w0 : World} {v : St} {l : List UInt8} (h : Rd x V W kb w0 v l) : Rd x.drew V W kb w0 v l := ⟨h.st, h.ws, h.ks, h.below.drew⟩
theorem Rd.cells {x : World} {V W kb : Nat} {w0 : World} {v : St} {l : List UInt8} (h : Rd x V W kb w0 v l) :
    x.cell? ⟨V, 0, none⟩ = some (v32 v.a) ∧ x.cell? ⟨V, 1, none⟩ = some (v32 v.b) ∧ x.cell? ⟨V, 2, none⟩ = some (v32 v.c) ∧ x.cell? ⟨V, 4, none⟩ = some (v32 v.e) ∧ x.cell? ⟨V, 5, none⟩ = some (v32 v.f) ∧ x.cell? ⟨V, 6, none⟩ = some (v32 v.g) ∧ x.cell? ⟨V, 7, none⟩ = some (v32 v.h) :=
  ⟨h.st.cell 0, h.st.cell 1, h.st.cell 2, h.st.cell 4, h.st.cell 5, h.st.cell 6, h.st.cell 7⟩
theorem Rd.word {x : World} {V W kb : Nat} {w0 : World} {v : St} {l : List UInt8} (h : Rd x V W kb w0 v l) (t : Nat) (ht : t < 64) : x.cell? ⟨W, t, none⟩ = some (v32 ((sch l 64).getD t 0)) := by
  rw [h.ws.cell, wArr_get l 64 t ht]
theorem kList_length : kList.length = 64 := rfl
theorem Rd.k {x : World} {V W kb : Nat} {w0 : World} {v : St} {l : List UInt8} (h : Rd x V W kb w0 v l) (t : Nat) (ht : t < 64) : x.cell? ⟨kb, 3 + t, none⟩ = some (v32 (kList.getD t 0)) := by
  rw [h.ks.cell, mk_cell _ _ _ _ (by rw [kList_length]; exact ht)]

set_option maxRecDepth 100000 in
set_option maxHeartbeats 2000000 in
theorem block_any (hb kb : Nat) (v0 : St) (s : ByteArray) (hs : s.size = 64) (w : World) (_hne : ¬ hb = kb) (hH : Blk w hb 84 v0.cells) (hK : Maker w kb 1 0 kList) :
    Calls Try.prog 48 #[.pointer (some ⟨hb, 0, none⟩), .string s, .pointer (some ⟨kb, 3, none⟩)] w fun e w' => e = .returned (.tuple #[]) ∧ Blk w' hb 84 (comp v0 s.data.toList).cells ∧ w.grownBy w' (some hb) := by
  obtain ⟨l, hl⟩ : ∃ l, l = s.data.toList := ⟨_, rfl⟩
  have hll : l.length = 64 := by rw [hl, Array.length_toList]; exact hs
  have hget : ∀ (j : Nat) (z : Int), z = (j : Int) → j < 64 → ∀ W, (Instr.index 9 (.string s) (.int .i64 z)).run Try.prog W = .ok (.int .u8 ((l.getD j 0).toNat : Int)) W := by
    intro j z hz hj W
    refine run_index_str Try.underlying_str s z j _ hz ?_ W
    rw [← hl, List.getD_eq_getElem?_getD, List.getElem?_eq_getElem (by omega)]; rfl
  rw [← hl]
  have Hget := Lib.hid hget
  clear hl hget hs
  go_enter Try.func48, Try.ntmps48
  go_wp2
  go_loopw [18] (fun x wr => ∃ t : Nat, t ≤ 64 ∧ x = .int .i64 (t : Int) ∧ Blk wr w.heap.size 59 (wArr l t) ∧ Below w.heap.size w wr) (fun x _ => (64 - intOf x).toNat)
  case atStart => exact ⟨0, by omega, rfl, Blk.of _ _ _ _ rfl, (Below.refl _ _).alloc (Nat.le_refl _) _⟩
  case round =>
    obtain ⟨wo, rfl⟩ : ∃ wo : World, wo = wr := ⟨_, rfl⟩
    obtain ⟨t, ht, rfl, hA, hB⟩ := hrel
    have HA := Lib.hid hA
    have HB := Lib.hid hB
    clear hA hB
    by_cases h64 : t < 64
    · have b64 : decide ((t : Int) < 64) = true := by simp; omega
      have c64 : (t : Int) < 64 := by omega
      by_cases h16 : t < 16
      · have b16 : decide ((t : Int) < 16) = true := by simp; omega
        go_wp2
        go_loopw [23] (fun y wi => ∃ i : Nat, i ≤ 4 ∧ y = .int .i64 (i : Int) ∧ Blk wi w.heap.size 59 ((wArr l t).set t (v32 (pword l t i))) ∧ Below w.heap.size w wi) (fun y _ => (4 - intOf y).toNat)
        case atStart => exact ⟨0, by omega, rfl, by rw [show v32 (pword l t 0) = v32 0 from rfl, set_same (wArr_zero l t h64)]; exact HA.out, HB.out⟩
        case round =>
          obtain ⟨i, hi, rfl, hA1, hB1⟩ := hrel
          by_cases hi4 : i < 4
          · have hcell : wr.cell? ⟨w.heap.size, t, none⟩ = some (v32 (pword l t i)) := by
              rw [hA1.cell, List.getElem?_set_self (by rw [wArr_length _ _ (by omega)]; omega)]
            have hfr := hA1.frozen t
            have hset := hA1.set t (v32 (pword l t (i + 1)))
            rw [List.set_set] at hset
            have hix := Hget.out (4 * t + i) (4 * (t : Int) + (i : Int)) (by omega) (by omega)
            have hcv : IntKind.u32.wrap (((l.getD (4 * t + i) 0).toNat : Nat) : Int) = iw (BitVec.ofNat 32 (l.getD (4 * t + i) 0).toNat) := w32_wrap _
            have hsh := w32_shl8 (pword l t i)
            have hw1 : IntKind.i64.wrap (4 * (t : Int)) = 4 * (t : Int) := IntWalk.i64_in _ (by omega)
            have hw2 : IntKind.i64.wrap (4 * (t : Int) + (i : Int)) = 4 * (t : Int) + (i : Int) := IntWalk.i64_in _ (by omega)
            have hor := w32_or (pword l t i <<< 8) (BitVec.ofNat 32 (l.getD (4 * t + i) 0).toNat)
            have hpw : v32 (pword l t (i + 1)) = v32 (pword l t i <<< 8 ||| BitVec.ofNat 32 (l.getD (4 * t + i) 0).toNat) := rfl
            rw [hpw] at hset
            have HA1 := Lib.hid hA1
            have HB1 := Lib.hid hB1
            have Hset := Lib.hid hset
            have Hpw := Lib.hid hpw
            clear hA1 hB1 hset hpw
            obtain ⟨c, hc⟩ : ∃ c, c = (l.getD (4 * t + i) 0).toNat := ⟨_, rfl⟩
            rw [← hc] at hix hcv hor Hset Hpw
            clear hc
            go_wp2
            refine wp_region_still_tail 14 Try.mixed (by kernel_rfl) ?_
            simp only [List.take_succ_cons, List.take_zero, List.drop_succ_cons, List.drop_zero]
            repeat still_step
            refine wpStill_nil ?_
            clear hw1 hw2 hix
            go_wp2
            go_roundw
            case rel => exact ⟨i + 1, by omega, by go_num, by rw [Hpw.out]; exact Hset.out, below_set_drew HB1.out (Nat.le_refl _) _ _⟩
            case measure => simp [intOf]; omega
          · have hi4' : i = 4 := by omega
            have hA2 : Blk wr w.heap.size 59 (wArr l (t + 1)) := by
              rw [← wArr_succ l t h64, show wnext l t (sch l t) = pword l t 4 by simp [wnext, h16], ← hi4']; exact hA1
            have HA1 := Lib.hid hA2
            have HB1 := Lib.hid hB1
            clear hA1 hB1 hA2 hi4'
            go_wp2
            go_roundw
            case rel => exact ⟨t + 1, by omega, by go_num, HA1.out, HB1.out⟩
            case measure => simp [intOf]; omega
      · have b16 : decide ((t : Int) < 16) = false := by simp; omega
        have hg : ∀ j, j < t → wo.cell? ⟨w.heap.size, j, none⟩ = some (v32 ((sch l t).getD j 0)) := fun j hj => by rw [HA.out.cell, wArr_get l t j hj]
        have g15 := hg (t - 15) (by omega)
        have g2 := hg (t - 2) (by omega)
        have g16 := hg (t - 16) (by omega)
        have g7 := hg (t - 7) (by omega)
        have hfr := HA.out.frozen t
        obtain ⟨x15, e15⟩ : ∃ x, x = (sch l t).getD (t - 15) 0 := ⟨_, rfl⟩
        obtain ⟨x2, e2⟩ : ∃ x, x = (sch l t).getD (t - 2) 0 := ⟨_, rfl⟩
        obtain ⟨x16, e16⟩ : ∃ x, x = (sch l t).getD (t - 16) 0 := ⟨_, rfl⟩
        obtain ⟨x7, e7⟩ : ∃ x, x = (sch l t).getD (t - 7) 0 := ⟨_, rfl⟩
        have hval : wnext l t (sch l t) = x16 + (x15.rotateRight 7 ^^^ x15.rotateRight 18 ^^^ x15 >>> 3) + x7 + (x2.rotateRight 17 ^^^ x2.rotateRight 19 ^^^ x2 >>> 10) := by
          rw [e15, e2, e16, e7]; simp [wnext, h16, sg0, sg1]
        have hset := HA.out.set t (v32 (wnext l t (sch l t)))
        rw [wArr_succ l t h64, hval] at hset
        have hz := wArr_zero l t h64
        have g0 : wo.cell? ⟨w.heap.size, t, none⟩ = some (v32 0) := by rw [HA.out.cell, hz]
        rw [← e15] at g15
        rw [← e2] at g2
        rw [← e16] at g16
        rw [← e7] at g7
        have Hset := Lib.hid hset
        have Hval := Lib.hid hval
        have u15 : ((t : Int) - 15).toNat = t - 15 := by omega
        have u2 : ((t : Int) - 2).toNat = t - 2 := by omega
        have u16 : ((t : Int) - 16).toNat = t - 16 := by omega
        have u7 : ((t : Int) - 7).toNat = t - 7 := by omega
        have q15 : IntKind.i64.wrap ((t : Int) - 15) = (t : Int) - 15 := IntWalk.i64_in _ (by omega)
        have q2 : IntKind.i64.wrap ((t : Int) - 2) = (t : Int) - 2 := IntWalk.i64_in _ (by omega)
        have q16 : IntKind.i64.wrap ((t : Int) - 16) = (t : Int) - 16 := IntWalk.i64_in _ (by omega)
        have q7 : IntKind.i64.wrap ((t : Int) - 7) = (t : Int) - 7 := IntWalk.i64_in _ (by omega)
        have d16 : (16 : Int) ≤ (t : Int) := by omega
        have d7 : (7 : Int) ≤ (t : Int) := by omega
        have k16 : (t : Int) - 16 < 64 := by omega
        have k7 : (t : Int) - 7 < 64 := by omega
        have j16 : 0 ≤ (t : Int) - 16 := by omega
        have j7 : 0 ≤ (t : Int) - 7 := by omega
        clear hg hset hz hval e15 e2 e16 e7
        go_wp2
        go_quiet (fail)
        go_wp2_with fail
        have g16' : (wo.drewN nq).cell? ⟨w.heap.size, t - 16, none⟩ = some (v32 x16) := g16
        have g7' : (wo.drewN nq).cell? ⟨w.heap.size, t - 7, none⟩ = some (v32 x7) := g7
        have g0' : (wo.drewN nq).cell? ⟨w.heap.size, t, none⟩ = some (v32 0) := g0
        have hfr' : (wo.drewN nq).frozen? ⟨w.heap.size, t, none⟩ = false := hfr
        have hset' := ((HA.out.drewN nq).set t (v32 (wnext l t (sch l t))))
        rw [wArr_succ l t h64, Hval.out] at hset'
        have hb' : Below w.heap.size w (wo.drewN nq) := below_drewN HB.out nq
        have Hset' := Lib.hid hset'
        have Hb' := Lib.hid hb'
        clear g16 g7 g0 hfr Hset HA HB g15 g2 hset' hb'
        generalize wo.drewN nq = wq at *
        have rx := w32_xor
        have ra := w32_add
        have r3 := w32_shr3
        have r10 := w32_shr10
        refine wp_region_still_tail 29 Try.mixed (by kernel_rfl) ?_
        simp only [List.take_succ_cons, List.take_zero, List.drop_succ_cons, List.drop_zero]
        repeat still_step
        still_call (rot_lit 7 _ _ rfl _ (by omega) (by omega))
        repeat still_step
        still_call (rot_lit 18 _ _ rfl _ (by omega) (by omega))
        repeat still_step
        still_call (rot_lit 17 _ _ rfl _ (by omega) (by omega))
        repeat still_step
        still_call (rot_lit 19 _ _ rfl _ (by omega) (by omega))
        repeat still_step
        refine wpStill_nil ?_
        clear rx ra r3 r10
        go_wp2
        go_roundw
        case rel => exact ⟨t + 1, by omega, by go_num, Hset'.out, below_set_drew Hb'.out (Nat.le_refl _) _ _⟩
        case measure => simp [intOf]; omega
    · have hA : Blk wo w.heap.size 59 (wArr l 64) := by rw [← show t = 64 from by omega]; exact HA.out
      have hB := HB.out
      have hH1 := hH.below hB hH.lt
      have hK1 : Maker wo kb 1 0 kList := hK.below hB hK.lt
      have b64 : decide ((t : Int) < 64) = false := by simp; omega
      have c0 : wo.cell? ⟨hb, 0, none⟩ = some (v32 v0.a) := hH1.cell 0
      have c1 : wo.cell? ⟨hb, 1, none⟩ = some (v32 v0.b) := hH1.cell 1
      have c2 : wo.cell? ⟨hb, 2, none⟩ = some (v32 v0.c) := hH1.cell 2
      have c3 : wo.cell? ⟨hb, 3, none⟩ = some (v32 v0.d) := hH1.cell 3
      have c4 : wo.cell? ⟨hb, 4, none⟩ = some (v32 v0.e) := hH1.cell 4
      have c5 : wo.cell? ⟨hb, 5, none⟩ = some (v32 v0.f) := hH1.cell 5
      have c6 : wo.cell? ⟨hb, 6, none⟩ = some (v32 v0.g) := hH1.cell 6
      have c7 : wo.cell? ⟨hb, 7, none⟩ = some (v32 v0.h) := hH1.cell 7
      have HA2 := Lib.hid hA
      have HB2 := Lib.hid hB
      have HH1 := Lib.hid hH1
      have HK1 := Lib.hid hK1
      clear hA hB hH1 hK1 HA HB hH hK
      go_wp2_with fail
      go_loopw [82] (fun y x => ∃ r : Nat, r ≤ 64 ∧ y = .int .i64 (r : Int) ∧ Rd x wo.heap.size w.heap.size kb wo (rnds (sch l 64) v0 r) l) (fun y _ => (64 - intOf y).toNat)
      case atStart => exact ⟨0, by omega, rfl, Blk.of _ _ _ _ rfl, HA2.out.alloc _, HK1.out.alloc _, (Below.refl _ _).alloc (Nat.le_refl _) _⟩
      case round =>
        obtain ⟨x, rfl⟩ : ∃ x : World, x = wr := ⟨_, rfl⟩
        obtain ⟨r, hr, rfl, hR⟩ := hrel
        by_cases r64 : r < 64
        · have b64' : decide ((r : Int) < 64) = true := by simp; omega
          have c64' : (r : Int) < 64 := by omega
          obtain ⟨v, hv⟩ : ∃ v, v = rnds (sch l 64) v0 r := ⟨_, rfl⟩
          rw [← hv] at hR
          have hnext : rnds (sch l 64) v0 (r + 1) = rnd v (kList.getD r 0) ((sch l 64).getD r 0) := by rw [hv]; rfl
          have Hnext := Lib.hid hnext
          have HR := Lib.hid hR
          clear hv hnext hR c0 c1 c2 c3 c4 c5 c6 c7
          obtain ⟨kr, hkr⟩ : ∃ k, k = kList.getD r 0 := ⟨_, rfl⟩
          obtain ⟨wr', hwr⟩ : ∃ k, k = (sch l 64).getD r 0 := ⟨_, rfl⟩
          have Hkr := Lib.hid hkr
          have Hwr := Lib.hid hwr
          clear hkr hwr
          obtain ⟨f0, f1, f2, f4, f5, f6, f7⟩ := HR.out.cells
          go_wp2_with fail
          go_quiet (fail)
          have HR2 := Lib.hid (HR.out.drewN nq)
          clear HR f0 f1 f2 f4 f5 f6 f7
          generalize x.drewN nq = x2 at *
          obtain ⟨f0, f1, f2, f4, f5, f6, f7⟩ := HR2.out.cells
          have fw := HR2.out.word r r64
          have fk := HR2.out.k r r64
          rw [← Hkr.out] at fk
          rw [← Hwr.out] at fw
          have rx := w32_xor
          have rn := w32_and
          have ra := w32_add
          have ro := w32_not
          go_wp2_with fail
          refine wp_region_quiet_lit (by kernel_rfl) (by kernel_rfl) ?_
          repeat (quiet_step (fail))
          quiet_step ((exact Calls.quiet_of_same (rot_lit 6 _ _ rfl _ (by omega) (by omega))))
          repeat (quiet_step (fail))
          quiet_step ((exact Calls.quiet_of_same (rot_lit 11 _ _ rfl _ (by omega) (by omega))))
          repeat (quiet_step (fail))
          quiet_step ((exact Calls.quiet_of_same (rot_lit 25 _ _ rfl _ (by omega) (by omega))))
          repeat (quiet_step (fail))
          refine wpQuiet_nil ?_
          intro _ hw'
          obtain ⟨nq2, hw''⟩ := hw'
          subst hw''
          have HR3 := Lib.hid (HR2.out.drewN nq2)
          clear HR2 f0 f1 f2 f4 f5 f6 f7 fk fw
          generalize x2.drewN nq2 = x3 at *
          obtain ⟨f0, f1, f2, f4, f5, f6, f7⟩ := HR3.out.cells
          have hone : v.h + (v.e.rotateRight 6 ^^^ v.e.rotateRight 11 ^^^ v.e.rotateRight 25) + (v.e &&& v.f ^^^ ~~~v.e &&& v.g) + kr + wr' = one v kr wr' := rfl
          rw [hone]
          generalize ho1 : one v kr wr' = o1 at *
          have Ho1 := Lib.hid ho1
          clear ho1
          go_wp2_with fail
          refine wp_region_quiet_lit (by kernel_rfl) (by kernel_rfl) ?_
          repeat (quiet_step (fail))
          quiet_step ((exact Calls.quiet_of_same (rot_lit 2 _ _ rfl _ (by omega) (by omega))))
          repeat (quiet_step (fail))
          quiet_step ((exact Calls.quiet_of_same (rot_lit 13 _ _ rfl _ (by omega) (by omega))))
          repeat (quiet_step (fail))
          quiet_step ((exact Calls.quiet_of_same (rot_lit 22 _ _ rfl _ (by omega) (by omega))))
          repeat (quiet_step (fail))
          refine wpQuiet_nil ?_
          intro _ hw'
          obtain ⟨nq3, hw''⟩ := hw'
          subst hw''
          have HR4 := Lib.hid (HR3.out.drewN nq3)
          clear HR3 f0 f1 f2 f4 f5 f6 f7
          generalize x3.drewN nq3 = x4 at *
          have htwo : (v.a.rotateRight 2 ^^^ v.a.rotateRight 13 ^^^ v.a.rotateRight 22) + (v.a &&& v.b ^^^ v.a &&& v.c ^^^ v.b &&& v.c) = two v := rfl
          rw [htwo]
          generalize ho2 : two v = o2 at *
          have Ho2 := Lib.hid ho2
          clear ho2
          have hD := HR4.out.drew
          have hsrc : ∀ (j : Nat) (u : Value), (v.cells.take 7)[j]? = some u → x4.drew.cell? ((⟨wo.heap.size, 0, none⟩ : Addr).add j) = some u := by
            intro j u hj
            have ha : (⟨wo.heap.size, 0, none⟩ : Addr).add j = ⟨wo.heap.size, j, none⟩ := by unfold Addr.add; split <;> simp_all
            rw [ha, hD.st.cell, ← hj, List.getElem?_take]
            split
            · rfl
            · rename_i hn; rw [List.getElem?_take, if_neg hn] at hj; cases hj
          have Hsrc := Lib.hid hsrc
          have HD := Lib.hid hD
          clear hsrc hD
          go_wp2_with fail
          refine wp_region_still_tail 2 Try.mixed (by kernel_rfl) ?_
          simp only [List.take_succ_cons, List.take_zero, List.drop_succ_cons, List.drop_zero]
          repeat still_step
          refine wpStill_nil ?_
          refine wpList_copy_splice (w := x4.drew) rfl _ _ 62 62 rfl 50 (by kernel_rfl) (by kernel_rfl) (some ⟨wo.heap.size, 1, none⟩) (some ⟨wo.heap.size, 0, none⟩) 7 7 7 8 rfl rfl wo.heap.size 1 v.cells 84 HD.out.st (v.cells.take 7) rfl (fun _ => ⟨rfl, _, rfl, Hsrc.out⟩) (by simp [St.cells]) (by simp [St.cells, Value.oneCell']) wo.heap.size wo HD.out.below (Nat.le_refl _) ?_
          intro x5 h5 hb5
          have hS5 : Blk x5 wo.heap.size 84 [v32 v.a, v32 v.a, v32 v.b, v32 v.c, v32 v.d, v32 v.e, v32 v.f, v32 v.g] := h5.out
          have hW5 := HA2.out.below hb5 HA2.out.lt
          have hK5 := HK1.out.below hb5 HK1.out.lt
          have e4 : x5.cell? ⟨wo.heap.size, 4, none⟩ = some (v32 v.d) := hS5.cell 4
          have z0 := hS5.frozen 0
          have z4 := hS5.frozen 4
          have e0 : x5.cell? ⟨wo.heap.size, 0, none⟩ = some (v32 v.a) := hS5.cell 0
          have hend : Rd ((x5.setCell ⟨wo.heap.size, 0, none⟩ (v32 (o1 + o2))).setCell ⟨wo.heap.size, 4, none⟩ (v32 (v.d + o1))) wo.heap.size w.heap.size kb wo ⟨o1 + o2, v.a, v.b, v.c, v.d + o1, v.e, v.f, v.g⟩ l :=
            ⟨(hS5.set 0 _).set 4 _, (hW5.other (by simp; have := HA2.out.lt; omega) _).other (by simp; have := HA2.out.lt; omega) _, (hK5.other (by simp; have := HK1.out.lt; omega) _).other (by simp; have := HK1.out.lt; omega) _, below_set (below_set hb5 (Nat.le_refl _) _ _) (Nat.le_refl _) _ _⟩
          have Hend := Lib.hid hend
          clear h5 hS5 hW5 hK5 hend hb5 Hsrc HD HR4
          have hrn : rnds (sch l 64) v0 (r + 1) = ⟨o1 + o2, v.a, v.b, v.c, v.d + o1, v.e, v.f, v.g⟩ := by
            rw [Hnext.out, ← Hkr.out, ← Hwr.out, rnd, Ho1.out, Ho2.out]
          have Hrn := Lib.hid hrn
          clear hrn
          go_wp2_with fail
          go_roundw
          case rel => exact ⟨r + 1, by omega, by go_num, by rw [Hrn.out]; exact Hend.out⟩
          case measure => simp [intOf]; omega
        · have hr64 : r = 64 := by omega
          rw [hr64] at hR
          obtain ⟨v, hv⟩ : ∃ v, v = rnds (sch l 64) v0 64 := ⟨_, rfl⟩
          have hcomp : comp v0 l = v0.add v := by rw [hv]; rfl
          have b64' : decide ((r : Int) < 64) = false := by simp; omega
          rw [← hv] at hR
          have hV := hR.st
          have hH := HH1.out.below hR.below HH1.out.lt
          have hg : w.grownBy x (some hb) := grown_trans (grown_of_below_lt HB2.out) (grownBy_of_below hR.below _)
          have HV := Lib.hid hV
          have HH := Lib.hid hH
          have Hg := Lib.hid hg
          have Hcomp := Lib.hid hcomp
          have hlt := HH1.out.lt
          clear hr64 hV hH hg hcomp hv hR HH1 HK1 HA2 c0 c1 c2 c3 c4 c5 c6 c7
          go_wp2_with fail
          go_loopw [158] (fun q y => ∃ i : Nat, i ≤ 8 ∧ q = .int .i64 (i : Int) ∧ Blk y hb 84 ((addTo v0.list v.list i).map v32) ∧ Blk y wo.heap.size 84 v.cells ∧ x.grownBy y (some hb)) (fun q _ => (8 - intOf q).toNat)
          case atStart => exact ⟨0, by omega, rfl, HH.out, HV.out, grown_refl _ _⟩
          case round =>
            obtain ⟨i, hi, rfl, hH, hV, hg⟩ := hrel
            by_cases i8 : i < 8
            · have c8 : (i : Int) < 8 := by omega
              have f1 : wr.cell? ⟨hb, i, none⟩ = some (v32 (v0.list.getD i 0)) := by
                rw [hH.cell, List.getElem?_map, addTo_get v0 v i i8]; rfl
              have f2 : wr.cell? ⟨wo.heap.size, i, none⟩ = some (v32 (v.list.getD i 0)) := by rw [hV.cell, St.get v i i8]
              have z1 := hH.frozen i
              have hset := hH.set i (v32 (v0.list.getD i 0 + v.list.getD i 0))
              rw [← List.map_set, addTo_set v0 v i i8] at hset
              have hoth : Blk (wr.setCell ⟨hb, i, none⟩ (v32 (v0.list.getD i 0 + v.list.getD i 0))) wo.heap.size 84 v.cells := hV.other (by simp; omega) _
              have hg2 := grown_trans hg (grown_set_drew wr hb i (v32 (v0.list.getD i 0 + v.list.getD i 0)))
              generalize v0.list.getD i 0 = p at *
              generalize v.list.getD i 0 = q at *
              have ra := w32_add
              have Hset := Lib.hid hset
              have Hoth := Lib.hid hoth
              have Hg2 := Lib.hid hg2
              clear hH hV hg hset hoth hg2
              go_wp2_with fail
              refine wp_region_still_tail 11 Try.mixed (by kernel_rfl) ?_
              simp only [List.take_succ_cons, List.take_zero, List.drop_succ_cons, List.drop_zero]
              repeat still_step
              refine wpStill_nil ?_
              go_wp2
              go_roundw
              case rel => exact ⟨i + 1, by omega, by go_num, Hset.out, Hoth.out, Hg2.out⟩
              case measure => simp [intOf]; omega
            · have hi8 : i = 8 := by omega
              rw [hi8, addTo_end, ← St.cells_eq, ← Hcomp.out] at hH
              have HH2 := Lib.hid hH
              have HG2 := Lib.hid (grown_trans Hg.out hg)
              clear hH hV hg hi8 HV HH Hg Hcomp
              go_wp2
              go_end0
              exact ⟨rfl, HH2.out, HG2.out⟩
end Go.Proofs.Ytgbnkoeidejhfaa
