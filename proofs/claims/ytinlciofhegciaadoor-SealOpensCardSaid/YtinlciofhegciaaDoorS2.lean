/- Joined texts, part 2: contracts of the functions that the laws reach, and what is needed for them. -/
import Derived.Laws.CopyOwn
import Derived.Lib.AppendStr
import Derived.Lib.ConvBytes
import Derived.Laws.IdiomCopy
import Derived.WalkKit
import Derived.StillTail
import Derived.Deep.Quiet
import Derived.Laws.Bits128
import Derived.Shelf.Strings.BuilderK
import Derived.BigQuiet
import Derived.Test.YtinlciofhegciaaDoorS1
namespace Go.Proofs.YtinlciofhegciaaDoor
open Go.RowKit

theorem rot_still (x : W32) (n : Nat) (w : World) (h1 : 1 ≤ n) (h2 : n ≤ 31) :
    Calls Tryd.prog 70 #[v32 x, .int .i64 (n : Int)] w fun e w' => e = .returned (v32 (x.rotateRight n)) ∧ w' = w :=
  (rot_any x n w h1 h2).mono fun _ _ ⟨he, hw⟩ => ⟨he, hw.symm⟩

theorem rot_lit (n : Nat) (x : W32) (z : Int) (hz : z = (n : Int)) (w : World) (h1 : 1 ≤ n) (h2 : n ≤ 31) :
    Calls Tryd.prog 70 #[v32 x, .int .i64 z] w fun e w' => e = .returned (v32 (x.rotateRight n)) ∧ w' = w := by
  subst hz
  exact rot_still x n w h1 h2

/-- What a round of sums reads: the eight numbers, the words, K. -/
structure Rd (x : World) (V W kb : Nat) (w0 : World) (v : St) (l : List UInt8) : Prop where
  st : Blk x V 102 v.cells
  ws : Blk x W 78 (wArr l 64)
  ks : Maker x kb 1 0 kList
  below : Below V w0 x
theorem Rd.drewN {x : World} {V W kb : Nat} {w0 : World} {v : St} {l : List UInt8} (h : Rd x V W kb w0 v l) (n : Nat) : Rd (x.drewN n) V W kb w0 v l := ⟨h.st, h.ws, h.ks, below_drewN h.below n⟩
theorem Rd.drew {x : World} {V W kb : Nat} {w0 : World} {v : St} {l : List UInt8} (h : Rd x V W kb w0 v l) : Rd x.drew V W kb w0 v l := ⟨h.st, h.ws, h.ks, h.below.drew⟩
theorem Rd.cells {x : World} {V W kb : Nat} {w0 : World} {v : St} {l : List UInt8} (h : Rd x V W kb w0 v l) :
    x.cell? ⟨V, 0, none⟩ = some (v32 v.a) ∧ x.cell? ⟨V, 1, none⟩ = some (v32 v.b) ∧ x.cell? ⟨V, 2, none⟩ = some (v32 v.c) ∧ x.cell? ⟨V, 4, none⟩ = some (v32 v.e) ∧ x.cell? ⟨V, 5, none⟩ = some (v32 v.f) ∧ x.cell? ⟨V, 6, none⟩ = some (v32 v.g) ∧ x.cell? ⟨V, 7, none⟩ = some (v32 v.h) :=
  ⟨h.st.cell 0, h.st.cell 1, h.st.cell 2, h.st.cell 4, h.st.cell 5, h.st.cell 6, h.st.cell 7⟩
theorem Rd.word {x : World} {V W kb : Nat} {w0 : World} {v : St} {l : List UInt8} (h : Rd x V W kb w0 v l) (t : Nat) (ht : t < 64) : x.cell? ⟨W, t, none⟩ = some (v32 ((sch l 64).getD t 0)) := by
  rw [h.ws.cell, wArr_get l 64 t ht]
theorem kList_length : kList.length = 64 := rfl
theorem Rd.k {x : World} {V W kb : Nat} {w0 : World} {v : St} {l : List UInt8} (h : Rd x V W kb w0 v l) (t : Nat) (ht : t < 64) : x.cell? ⟨kb, 3 + t, none⟩ = some (v32 (kList.getD t 0)) := by
  rw [h.ks.cell, mk_cell _ _ _ _ (by rw [kList_length]; exact ht)]

set_option maxRecDepth 100000 in
set_option maxHeartbeats 2000000 in
theorem block_any (hb kb : Nat) (v0 : St) (s : ByteArray) (hs : s.size = 64) (w : World) (_hne : ¬ hb = kb) (hH : Blk w hb 102 v0.cells) (hK : Maker w kb 1 0 kList) :
    Calls Tryd.prog 62 #[.pointer (some ⟨hb, 0, none⟩), .string s, .pointer (some ⟨kb, 3, none⟩)] w fun e w' => e = .returned (.tuple #[]) ∧ Blk w' hb 102 (comp v0 s.data.toList).cells ∧ w.grownBy w' (some hb) := by
  obtain ⟨l, hl⟩ : ∃ l, l = s.data.toList := ⟨_, rfl⟩
  have hll : l.length = 64 := by rw [hl, Array.length_toList]; exact hs
  have hget : ∀ (j : Nat) (z : Int), z = (j : Int) → j < 64 → ∀ W, (Instr.index 9 (.string s) (.int .i64 z)).run Tryd.prog W = .ok (.int .u8 ((l.getD j 0).toNat : Int)) W := by
    intro j z hz hj W
    refine run_index_str Tryd.underlying_str s z j _ hz ?_ W
    rw [← hl, List.getD_eq_getElem?_getD, List.getElem?_eq_getElem (by omega)]; rfl
  rw [← hl]
  have Hget := Lib.hid hget
  clear hl hget hs
  go_enter Tryd.func62, Tryd.ntmps62
  go_wp2
  go_loopw [18] (fun x wr => ∃ t : Nat, t ≤ 64 ∧ x = .int .i64 (t : Int) ∧ Blk wr w.heap.size 78 (wArr l t) ∧ Below w.heap.size w wr) (fun x _ => (64 - intOf x).toNat)
  case atStart => exact ⟨0, by omega, rfl, Blk.of _ _ _ _ rfl, (Below.refl _ _).alloc (Nat.le_refl _) _⟩
  case round =>
    obtain ⟨wo, rfl⟩ : ∃ wo : World, wo = wr := ⟨_, rfl⟩
    obtain ⟨t, ht, rfl, hA, hB⟩ := hrel
    have HA := Lib.hid hA
    have HB := Lib.hid hB
    clear hA hB
    by_cases h64 : t < 64
    · have b64 : decide ((t : Int) < 64) = true := by simp; omega
      have c64 : (t : Int) < 64 := by omega
      by_cases h16 : t < 16
      · have b16 : decide ((t : Int) < 16) = true := by simp; omega
        go_wp2
        go_loopw [23] (fun y wi => ∃ i : Nat, i ≤ 4 ∧ y = .int .i64 (i : Int) ∧ Blk wi w.heap.size 78 ((wArr l t).set t (v32 (pword l t i))) ∧ Below w.heap.size w wi) (fun y _ => (4 - intOf y).toNat)
        case atStart => exact ⟨0, by omega, rfl, by rw [show v32 (pword l t 0) = v32 0 from rfl, set_same (wArr_zero l t h64)]; exact HA.out, HB.out⟩
        case round =>
          obtain ⟨i, hi, rfl, hA1, hB1⟩ := hrel
          by_cases hi4 : i < 4
          · have hcell : wr.cell? ⟨w.heap.size, t, none⟩ = some (v32 (pword l t i)) := by
              rw [hA1.cell, List.getElem?_set_self (by rw [wArr_length _ _ (by omega)]; omega)]
            have hfr := hA1.frozen t
            have hset := hA1.set t (v32 (pword l t (i + 1)))
            rw [List.set_set] at hset
            have hix := Hget.out (4 * t + i) (4 * (t : Int) + (i : Int)) (by omega) (by omega)
            have hcv : IntKind.u32.wrap (((l.getD (4 * t + i) 0).toNat : Nat) : Int) = iw (BitVec.ofNat 32 (l.getD (4 * t + i) 0).toNat) := w32_wrap _
            have hsh := w32_shl8 (pword l t i)
            have hw1 : IntKind.i64.wrap (4 * (t : Int)) = 4 * (t : Int) := IntWalk.i64_in _ (by omega)
            have hw2 : IntKind.i64.wrap (4 * (t : Int) + (i : Int)) = 4 * (t : Int) + (i : Int) := IntWalk.i64_in _ (by omega)
            have hor := w32_or (pword l t i <<< 8) (BitVec.ofNat 32 (l.getD (4 * t + i) 0).toNat)
            have hpw : v32 (pword l t (i + 1)) = v32 (pword l t i <<< 8 ||| BitVec.ofNat 32 (l.getD (4 * t + i) 0).toNat) := rfl
            rw [hpw] at hset
            have HA1 := Lib.hid hA1
            have HB1 := Lib.hid hB1
            have Hset := Lib.hid hset
            have Hpw := Lib.hid hpw
            clear hA1 hB1 hset hpw
            obtain ⟨c, hc⟩ : ∃ c, c = (l.getD (4 * t + i) 0).toNat := ⟨_, rfl⟩
            rw [← hc] at hix hcv hor Hset Hpw
            clear hc
            go_wp2
            refine wp_region_still_tail 14 Tryd.mixed (by kernel_rfl) ?_
            simp only [List.take_succ_cons, List.take_zero, List.drop_succ_cons, List.drop_zero]
            repeat still_step
            refine wpStill_nil ?_
            clear hw1 hw2 hix
            go_wp2
            go_roundw
            case rel => exact ⟨i + 1, by omega, by go_num, by rw [Hpw.out]; exact Hset.out, below_set_drew HB1.out (Nat.le_refl _) _ _⟩
            case measure => simp [intOf]; omega
          · have hi4' : i = 4 := by omega
            have hA2 : Blk wr w.heap.size 78 (wArr l (t + 1)) := by
              rw [← wArr_succ l t h64, show wnext l t (sch l t) = pword l t 4 by simp [wnext, h16], ← hi4']; exact hA1
            have HA1 := Lib.hid hA2
            have HB1 := Lib.hid hB1
            clear hA1 hB1 hA2 hi4'
            go_wp2
            go_roundw
            case rel => exact ⟨t + 1, by omega, by go_num, HA1.out, HB1.out⟩
            case measure => simp [intOf]; omega
      · have b16 : decide ((t : Int) < 16) = false := by simp; omega
        have hg : ∀ j, j < t → wo.cell? ⟨w.heap.size, j, none⟩ = some (v32 ((sch l t).getD j 0)) := fun j hj => by rw [HA.out.cell, wArr_get l t j hj]
        have g15 := hg (t - 15) (by omega)
        have g2 := hg (t - 2) (by omega)
        have g16 := hg (t - 16) (by omega)
        have g7 := hg (t - 7) (by omega)
        have hfr := HA.out.frozen t
        obtain ⟨x15, e15⟩ : ∃ x, x = (sch l t).getD (t - 15) 0 := ⟨_, rfl⟩
        obtain ⟨x2, e2⟩ : ∃ x, x = (sch l t).getD (t - 2) 0 := ⟨_, rfl⟩
        obtain ⟨x16, e16⟩ : ∃ x, x = (sch l t).getD (t - 16) 0 := ⟨_, rfl⟩
        obtain ⟨x7, e7⟩ : ∃ x, x = (sch l t).getD (t - 7) 0 := ⟨_, rfl⟩
        have hval : wnext l t (sch l t) = x16 + (x15.rotateRight 7 ^^^ x15.rotateRight 18 ^^^ x15 >>> 3) + x7 + (x2.rotateRight 17 ^^^ x2.rotateRight 19 ^^^ x2 >>> 10) := by
          rw [e15, e2, e16, e7]; simp [wnext, h16, sg0, sg1]
        have hset := HA.out.set t (v32 (wnext l t (sch l t)))
        rw [wArr_succ l t h64, hval] at hset
        have hz := wArr_zero l t h64
        have g0 : wo.cell? ⟨w.heap.size, t, none⟩ = some (v32 0) := by rw [HA.out.cell, hz]
        rw [← e15] at g15
        rw [← e2] at g2
        rw [← e16] at g16
        rw [← e7] at g7
        have Hset := Lib.hid hset
        have Hval := Lib.hid hval
        have u15 : ((t : Int) - 15).toNat = t - 15 := by omega
        have u2 : ((t : Int) - 2).toNat = t - 2 := by omega
        have u16 : ((t : Int) - 16).toNat = t - 16 := by omega
        have u7 : ((t : Int) - 7).toNat = t - 7 := by omega
        have q15 : IntKind.i64.wrap ((t : Int) - 15) = (t : Int) - 15 := IntWalk.i64_in _ (by omega)
        have q2 : IntKind.i64.wrap ((t : Int) - 2) = (t : Int) - 2 := IntWalk.i64_in _ (by omega)
        have q16 : IntKind.i64.wrap ((t : Int) - 16) = (t : Int) - 16 := IntWalk.i64_in _ (by omega)
        have q7 : IntKind.i64.wrap ((t : Int) - 7) = (t : Int) - 7 := IntWalk.i64_in _ (by omega)
        have d16 : (16 : Int) ≤ (t : Int) := by omega
        have d7 : (7 : Int) ≤ (t : Int) := by omega
        have k16 : (t : Int) - 16 < 64 := by omega
        have k7 : (t : Int) - 7 < 64 := by omega
        have j16 : 0 ≤ (t : Int) - 16 := by omega
        have j7 : 0 ≤ (t : Int) - 7 := by omega
        clear hg hset hz hval e15 e2 e16 e7
        go_wp2
        go_quiet (fail)
        go_wp2_with fail
        have g16' : (wo.drewN nq).cell? ⟨w.heap.size, t - 16, none⟩ = some (v32 x16) := g16
        have g7' : (wo.drewN nq).cell? ⟨w.heap.size, t - 7, none⟩ = some (v32 x7) := g7
        have g0' : (wo.drewN nq).cell? ⟨w.heap.size, t, none⟩ = some (v32 0) := g0
        have hfr' : (wo.drewN nq).frozen? ⟨w.heap.size, t, none⟩ = false := hfr
        have hset' := ((HA.out.drewN nq).set t (v32 (wnext l t (sch l t))))
        rw [wArr_succ l t h64, Hval.out] at hset'
        have hb' : Below w.heap.size w (wo.drewN nq) := below_drewN HB.out nq
        have Hset' := Lib.hid hset'
        have Hb' := Lib.hid hb'
        clear g16 g7 g0 hfr Hset HA HB g15 g2 hset' hb'
        generalize wo.drewN nq = wq at *
        have rx := w32_xor
        have ra := w32_add
        have r3 := w32_shr3
        have r10 := w32_shr10
        refine wp_region_still_tail 29 Tryd.mixed (by kernel_rfl) ?_
        simp only [List.take_succ_cons, List.take_zero, List.drop_succ_cons, List.drop_zero]
        repeat still_step
        still_call (rot_lit 7 _ _ rfl _ (by omega) (by omega))
        repeat still_step
        still_call (rot_lit 18 _ _ rfl _ (by omega) (by omega))
        repeat still_step
        still_call (rot_lit 17 _ _ rfl _ (by omega) (by omega))
        repeat still_step
        still_call (rot_lit 19 _ _ rfl _ (by omega) (by omega))
        repeat still_step
        refine wpStill_nil ?_
        clear rx ra r3 r10
        go_wp2
        go_roundw
        case rel => exact ⟨t + 1, by omega, by go_num, Hset'.out, below_set_drew Hb'.out (Nat.le_refl _) _ _⟩
        case measure => simp [intOf]; omega
    · have hA : Blk wo w.heap.size 78 (wArr l 64) := by rw [← show t = 64 from by omega]; exact HA.out
      have hB := HB.out
      have hH1 := hH.below hB hH.lt
      have hK1 : Maker wo kb 1 0 kList := hK.below hB hK.lt
      have b64 : decide ((t : Int) < 64) = false := by simp; omega
      have c0 : wo.cell? ⟨hb, 0, none⟩ = some (v32 v0.a) := hH1.cell 0
      have c1 : wo.cell? ⟨hb, 1, none⟩ = some (v32 v0.b) := hH1.cell 1
      have c2 : wo.cell? ⟨hb, 2, none⟩ = some (v32 v0.c) := hH1.cell 2
      have c3 : wo.cell? ⟨hb, 3, none⟩ = some (v32 v0.d) := hH1.cell 3
      have c4 : wo.cell? ⟨hb, 4, none⟩ = some (v32 v0.e) := hH1.cell 4
      have c5 : wo.cell? ⟨hb, 5, none⟩ = some (v32 v0.f) := hH1.cell 5
      have c6 : wo.cell? ⟨hb, 6, none⟩ = some (v32 v0.g) := hH1.cell 6
      have c7 : wo.cell? ⟨hb, 7, none⟩ = some (v32 v0.h) := hH1.cell 7
      have HA2 := Lib.hid hA
      have HB2 := Lib.hid hB
      have HH1 := Lib.hid hH1
      have HK1 := Lib.hid hK1
      clear hA hB hH1 hK1 HA HB hH hK
      go_wp2_with fail
      go_loopw [82] (fun y x => ∃ r : Nat, r ≤ 64 ∧ y = .int .i64 (r : Int) ∧ Rd x wo.heap.size w.heap.size kb wo (rnds (sch l 64) v0 r) l) (fun y _ => (64 - intOf y).toNat)
      case atStart => exact ⟨0, by omega, rfl, Blk.of _ _ _ _ rfl, HA2.out.alloc _, HK1.out.alloc _, (Below.refl _ _).alloc (Nat.le_refl _) _⟩
      case round =>
        obtain ⟨x, rfl⟩ : ∃ x : World, x = wr := ⟨_, rfl⟩
        obtain ⟨r, hr, rfl, hR⟩ := hrel
        by_cases r64 : r < 64
        · have b64' : decide ((r : Int) < 64) = true := by simp; omega
          have c64' : (r : Int) < 64 := by omega
          obtain ⟨v, hv⟩ : ∃ v, v = rnds (sch l 64) v0 r := ⟨_, rfl⟩
          rw [← hv] at hR
          have hnext : rnds (sch l 64) v0 (r + 1) = rnd v (kList.getD r 0) ((sch l 64).getD r 0) := by rw [hv]; rfl
          have Hnext := Lib.hid hnext
          have HR := Lib.hid hR
          clear hv hnext hR c0 c1 c2 c3 c4 c5 c6 c7
          obtain ⟨kr, hkr⟩ : ∃ k, k = kList.getD r 0 := ⟨_, rfl⟩
          obtain ⟨wr', hwr⟩ : ∃ k, k = (sch l 64).getD r 0 := ⟨_, rfl⟩
          have Hkr := Lib.hid hkr
          have Hwr := Lib.hid hwr
          clear hkr hwr
          obtain ⟨f0, f1, f2, f4, f5, f6, f7⟩ := HR.out.cells
          go_wp2_with fail
          go_quiet (fail)
          have HR2 := Lib.hid (HR.out.drewN nq)
          clear HR f0 f1 f2 f4 f5 f6 f7
          generalize x.drewN nq = x2 at *
          obtain ⟨f0, f1, f2, f4, f5, f6, f7⟩ := HR2.out.cells
          have fw := HR2.out.word r r64
          have fk := HR2.out.k r r64
          rw [← Hkr.out] at fk
          rw [← Hwr.out] at fw
          have rx := w32_xor
          have rn := w32_and
          have ra := w32_add
          have ro := w32_not
          go_wp2_with fail
          refine wp_region_quiet_lit (by kernel_rfl) (by kernel_rfl) ?_
          repeat (quiet_step (fail))
          quiet_step ((exact Calls.quiet_of_same (rot_lit 6 _ _ rfl _ (by omega) (by omega))))
          repeat (quiet_step (fail))
          quiet_step ((exact Calls.quiet_of_same (rot_lit 11 _ _ rfl _ (by omega) (by omega))))
          repeat (quiet_step (fail))
          quiet_step ((exact Calls.quiet_of_same (rot_lit 25 _ _ rfl _ (by omega) (by omega))))
          repeat (quiet_step (fail))
          refine wpQuiet_nil ?_
          intro _ hw'
          obtain ⟨nq2, hw''⟩ := hw'
          subst hw''
          have HR3 := Lib.hid (HR2.out.drewN nq2)
          clear HR2 f0 f1 f2 f4 f5 f6 f7 fk fw
          generalize x2.drewN nq2 = x3 at *
          obtain ⟨f0, f1, f2, f4, f5, f6, f7⟩ := HR3.out.cells
          have hone : v.h + (v.e.rotateRight 6 ^^^ v.e.rotateRight 11 ^^^ v.e.rotateRight 25) + (v.e &&& v.f ^^^ ~~~v.e &&& v.g) + kr + wr' = one v kr wr' := rfl
          rw [hone]
          generalize ho1 : one v kr wr' = o1 at *
          have Ho1 := Lib.hid ho1
          clear ho1
          go_wp2_with fail
          refine wp_region_quiet_lit (by kernel_rfl) (by kernel_rfl) ?_
          repeat (quiet_step (fail))
          quiet_step ((exact Calls.quiet_of_same (rot_lit 2 _ _ rfl _ (by omega) (by omega))))
          repeat (quiet_step (fail))
          quiet_step ((exact Calls.quiet_of_same (rot_lit 13 _ _ rfl _ (by omega) (by omega))))
          repeat (quiet_step (fail))
          quiet_step ((exact Calls.quiet_of_same (rot_lit 22 _ _ rfl _ (by omega) (by omega))))
          repeat (quiet_step (fail))
          refine wpQuiet_nil ?_
          intro _ hw'
          obtain ⟨nq3, hw''⟩ := hw'
          subst hw''
          have HR4 := Lib.hid (HR3.out.drewN nq3)
          clear HR3 f0 f1 f2 f4 f5 f6 f7
          generalize x3.drewN nq3 = x4 at *
          have htwo : (v.a.rotateRight 2 ^^^ v.a.rotateRight 13 ^^^ v.a.rotateRight 22) + (v.a &&& v.b ^^^ v.a &&& v.c ^^^ v.b &&& v.c) = two v := rfl
          rw [htwo]
          generalize ho2 : two v = o2 at *
          have Ho2 := Lib.hid ho2
          clear ho2
          have hD := HR4.out.drew
          have hsrc : ∀ (j : Nat) (u : Value), (v.cells.take 7)[j]? = some u → x4.drew.cell? ((⟨wo.heap.size, 0, none⟩ : Addr).add j) = some u := by
            intro j u hj
            have ha : (⟨wo.heap.size, 0, none⟩ : Addr).add j = ⟨wo.heap.size, j, none⟩ := by unfold Addr.add; split <;> simp_all
            rw [ha, hD.st.cell, ← hj, List.getElem?_take]
            split
            · rfl
            · rename_i hn; rw [List.getElem?_take, if_neg hn] at hj; cases hj
          have Hsrc := Lib.hid hsrc
          have HD := Lib.hid hD
          clear hsrc hD
          go_wp2_with fail
          refine wp_region_still_tail 2 Tryd.mixed (by kernel_rfl) ?_
          simp only [List.take_succ_cons, List.take_zero, List.drop_succ_cons, List.drop_zero]
          repeat still_step
          refine wpStill_nil ?_
          refine wpList_copy_splice (w := x4.drew) rfl _ _ 95 95 rfl 69 (by kernel_rfl) (by kernel_rfl) (some ⟨wo.heap.size, 1, none⟩) (some ⟨wo.heap.size, 0, none⟩) 7 7 7 8 rfl rfl wo.heap.size 1 v.cells 102 HD.out.st (v.cells.take 7) rfl (fun _ => ⟨rfl, _, rfl, Hsrc.out⟩) (by simp [St.cells]) (by simp [St.cells, Value.oneCell']) wo.heap.size wo HD.out.below (Nat.le_refl _) ?_
          intro x5 h5 hb5
          have hS5 : Blk x5 wo.heap.size 102 [v32 v.a, v32 v.a, v32 v.b, v32 v.c, v32 v.d, v32 v.e, v32 v.f, v32 v.g] := h5.out
          have hW5 := HA2.out.below hb5 HA2.out.lt
          have hK5 := HK1.out.below hb5 HK1.out.lt
          have e4 : x5.cell? ⟨wo.heap.size, 4, none⟩ = some (v32 v.d) := hS5.cell 4
          have z0 := hS5.frozen 0
          have z4 := hS5.frozen 4
          have e0 : x5.cell? ⟨wo.heap.size, 0, none⟩ = some (v32 v.a) := hS5.cell 0
          have hend : Rd ((x5.setCell ⟨wo.heap.size, 0, none⟩ (v32 (o1 + o2))).setCell ⟨wo.heap.size, 4, none⟩ (v32 (v.d + o1))) wo.heap.size w.heap.size kb wo ⟨o1 + o2, v.a, v.b, v.c, v.d + o1, v.e, v.f, v.g⟩ l :=
            ⟨(hS5.set 0 _).set 4 _, (hW5.other (by simp; have := HA2.out.lt; omega) _).other (by simp; have := HA2.out.lt; omega) _, (hK5.other (by simp; have := HK1.out.lt; omega) _).other (by simp; have := HK1.out.lt; omega) _, below_set (below_set hb5 (Nat.le_refl _) _ _) (Nat.le_refl _) _ _⟩
          have Hend := Lib.hid hend
          clear h5 hS5 hW5 hK5 hend hb5 Hsrc HD HR4
          have hrn : rnds (sch l 64) v0 (r + 1) = ⟨o1 + o2, v.a, v.b, v.c, v.d + o1, v.e, v.f, v.g⟩ := by
            rw [Hnext.out, ← Hkr.out, ← Hwr.out, rnd, Ho1.out, Ho2.out]
          have Hrn := Lib.hid hrn
          clear hrn
          go_wp2_with fail
          go_roundw
          case rel => exact ⟨r + 1, by omega, by go_num, by rw [Hrn.out]; exact Hend.out⟩
          case measure => simp [intOf]; omega
        · have hr64 : r = 64 := by omega
          rw [hr64] at hR
          obtain ⟨v, hv⟩ : ∃ v, v = rnds (sch l 64) v0 64 := ⟨_, rfl⟩
          have hcomp : comp v0 l = v0.add v := by rw [hv]; rfl
          have b64' : decide ((r : Int) < 64) = false := by simp; omega
          rw [← hv] at hR
          have hV := hR.st
          have hH := HH1.out.below hR.below HH1.out.lt
          have hg : w.grownBy x (some hb) := grown_trans (grown_of_below_lt HB2.out) (grownBy_of_below hR.below _)
          have HV := Lib.hid hV
          have HH := Lib.hid hH
          have Hg := Lib.hid hg
          have Hcomp := Lib.hid hcomp
          have hlt := HH1.out.lt
          clear hr64 hV hH hg hcomp hv hR HH1 HK1 HA2 c0 c1 c2 c3 c4 c5 c6 c7
          go_wp2_with fail
          go_loopw [158] (fun q y => ∃ i : Nat, i ≤ 8 ∧ q = .int .i64 (i : Int) ∧ Blk y hb 102 ((addTo v0.list v.list i).map v32) ∧ Blk y wo.heap.size 102 v.cells ∧ x.grownBy y (some hb)) (fun q _ => (8 - intOf q).toNat)
          case atStart => exact ⟨0, by omega, rfl, HH.out, HV.out, grown_refl _ _⟩
          case round =>
            obtain ⟨i, hi, rfl, hH, hV, hg⟩ := hrel
            by_cases i8 : i < 8
            · have c8 : (i : Int) < 8 := by omega
              have f1 : wr.cell? ⟨hb, i, none⟩ = some (v32 (v0.list.getD i 0)) := by
                rw [hH.cell, List.getElem?_map, addTo_get v0 v i i8]; rfl
              have f2 : wr.cell? ⟨wo.heap.size, i, none⟩ = some (v32 (v.list.getD i 0)) := by rw [hV.cell, St.get v i i8]
              have z1 := hH.frozen i
              have hset := hH.set i (v32 (v0.list.getD i 0 + v.list.getD i 0))
              rw [← List.map_set, addTo_set v0 v i i8] at hset
              have hoth : Blk (wr.setCell ⟨hb, i, none⟩ (v32 (v0.list.getD i 0 + v.list.getD i 0))) wo.heap.size 102 v.cells := hV.other (by simp; omega) _
              have hg2 := grown_trans hg (grown_set_drew wr hb i (v32 (v0.list.getD i 0 + v.list.getD i 0)))
              generalize v0.list.getD i 0 = p at *
              generalize v.list.getD i 0 = q at *
              have ra := w32_add
              have Hset := Lib.hid hset
              have Hoth := Lib.hid hoth
              have Hg2 := Lib.hid hg2
              clear hH hV hg hset hoth hg2
              go_wp2_with fail
              refine wp_region_still_tail 11 Tryd.mixed (by kernel_rfl) ?_
              simp only [List.take_succ_cons, List.take_zero, List.drop_succ_cons, List.drop_zero]
              repeat still_step
              refine wpStill_nil ?_
              go_wp2
              go_roundw
              case rel => exact ⟨i + 1, by omega, by go_num, Hset.out, Hoth.out, Hg2.out⟩
              case measure => simp [intOf]; omega
            · have hi8 : i = 8 := by omega
              rw [hi8, addTo_end, ← St.cells_eq, ← Hcomp.out] at hH
              have HH2 := Lib.hid hH
              have HG2 := Lib.hid (grown_trans Hg.out hg)
              clear hH hV hg hi8 HV HH Hg Hcomp
              go_wp2
              go_end0
              exact ⟨rfl, HH2.out, HG2.out⟩
end Go.Proofs.YtinlciofhegciaaDoor

/- A strings.Builder that the call has made: what a walk says of it. -/
namespace Go.Proofs.YtinlciofhegciaaDoor
open Go.RowKit

/-- Builder b holds the bytes l; it and its buffer lie from b on. -/
def Bld (w : World) (b : Nat) (l : List UInt8) : Prop := Lib.IsBuilderF 44 5 b b (Lib.byteCells l) w

theorem Bld.at_below {T e : TypeId} {B b : Nat} {p : Value} {bs : List Value} {w w1 : World} (h : Lib.BuilderAtF T e B b p bs w) (hb : Below w.heap.size w w1) : Lib.BuilderAtF T e B b p bs w1 := by
  have hlt := h.lt
  obtain ⟨hB, v, hc, hown, hne⟩ := h
  exact ⟨hB, v, (hb.block b hlt).trans hc, hown.kept (grownBy_of_below hb none) (by cases v.ownBlock <;> simp), hne⟩
theorem Bld.below {w w1 : World} {b : Nat} {l : List UInt8} (h : Bld w b l) (hb : Below w.heap.size w w1) : Bld w1 b l :=
  h.imp (fun x => Bld.at_below x hb) (fun x => Bld.at_below x hb)
theorem Bld.new (w : World) : Bld (w.alloc (.cells #[.pointer none, .slice none 0 0] 44)) w.heap.size [] :=
  .inl ⟨Nat.le_refl _, .slice none 0 0, heap_alloc_new w _, World.ownsRowF_nil _ _ _ _, by simp [Value.ownBlock]⟩
theorem Bld.lt {w : World} {b : Nat} {l : List UInt8} (h : Bld w b l) : b < w.heap.size := h.elim (·.lt) (·.lt)
theorem Bld.write (b : Nat) (l m : List UInt8) (w : World) (h : Bld w b l) (hl : l.length + m.length ≤ 140737488355328) :
    Calls Tryd.prog 37 #[.pointer (some ⟨b, 0, none⟩), .string (str m)] w fun e w' => e = .returned (.tuple #[.int .i64 (m.length : Int), .nilIface]) ∧ Bld w' b (l ++ m) ∧ Below b w w' := by
  refine (Tryd.bl_WriteString b b _ (str m) w h (by rw [str_size]; simpa [Lib.byteCells] using hl) (Nat.le_of_lt h.lt)).mono ?_
  rintro e w' ⟨rfl, h1, h2⟩
  refine ⟨by rw [str_size], .inr ?_, h2⟩
  have : Lib.byteCells (l ++ m) = Lib.byteCells l ++ Lib.strCells (str m) := by simp [Lib.byteCells, Lib.strCells, str]
  rw [this]; exact h1
theorem Bld.string (b : Nat) (l : List UInt8) (w : World) (h : Bld w b l) :
    Calls Tryd.prog 22 #[.pointer (some ⟨b, 0, none⟩)] w fun e w' => e = .returned (.string (str l)) ∧ Bld w' b l ∧ Below b w w' :=
  (Tryd.Builder_String_any_f b b l w h (Nat.le_of_lt h.lt)).mono fun _ _ ⟨he, h1, h2⟩ => ⟨he, h1, h2⟩
end Go.Proofs.YtinlciofhegciaaDoor

namespace Go.Proofs.YtinlciofhegciaaDoor
open Go.RowKit

/-- The numbers with which a sum begins. -/
def iv : St := ⟨1779033703, 3144134277, 1013904242, 2773480762, 1359893119, 2600822924, 528734635, 1541459225⟩
/-- n blocks, each by c. -/
def runs (c : St → List UInt8 → St) : Nat → List UInt8 → St → St
  | 0, _, h => h
  | n + 1, l, h => runs c n (l.drop 64) (c h (l.take 64))
theorem runs_succ (c : St → List UInt8 → St) (n : Nat) (l : List UInt8) (h : St) : runs c (n + 1) l h = c (runs c n l h) ((l.drop (64 * n)).take 64) := by
  induction n generalizing l h with
  | zero => simp [runs]
  | succ n ih =>
    rw [runs, ih, runs, List.drop_drop]
    congr 3; omega
def tailOf (l : List UInt8) : List UInt8 :=
  let rest := l.drop (64 * (l.length / 64))
  rest ++ [128] ++ List.replicate ((119 - rest.length) % 64) 0 ++ be 8 (8 * l.length)
def outOf (h : St) : List UInt8 := h.list.flatMap fun x => be 4 x.toNat
/-- SHA-256. -/
def sha (l : List UInt8) : List UInt8 := outOf (runs comp ((tailOf l).length / 64) (tailOf l) (runs comp (l.length / 64) l iv))
theorem sha_length (l : List UInt8) : (sha l).length = 32 := by simp [sha, outOf, St.list, be_length]
theorem flat_le (Q : St) (n : Nat) : ((Q.list.take n).flatMap fun x => be 4 x.toNat).length ≤ 32 := by
  have h : ∀ l : List W32, (l.flatMap fun x => be 4 x.toNat).length = 4 * l.length := by
    intro l
    induction l with
    | nil => rfl
    | cons x l ih => simp [be_length, ih]; omega
  rw [h, List.length_take]
  have : Q.list.length = 8 := rfl
  omega

set_option maxRecDepth 100000 in
set_option maxHeartbeats 2000000 in
theorem sum_any (b : Nat) (s : ByteArray) (w : World) (hM : Ready w b) (hs : s.size ≤ 1099511627776) :
    Calls Tryd.prog 52 #[.pointer (some ⟨b, 0, none⟩), .string s] w fun e w' => e = .returned (.string (str (sha s.data.toList))) ∧ Maker w' b 1 0 kList ∧ w.grownBy w' (some b) := by
  obtain ⟨l, rfl⟩ : ∃ l, s = str l := ⟨s.data.toList, (str_of s).symm⟩
  rw [str_list]
  rw [str_size] at hs
  have H := numbers_any b w hM
  have HH := Lib.hid H
  clear H hM
  go_enter Tryd.func52, Tryd.ntmps52
  go_wp2_with (go_at_call 61; refine HH.out.mono ?_; rintro e w1 ⟨rfl, hM1, hg1⟩; have HM1 := Lib.hid hM1; have Hg1 := Lib.hid hg1; clear hM1 hg1)
  go_loopw [7] (fun x wr => ∃ j : Nat, 64 * j ≤ l.length ∧ x = .string (str (l.drop (64 * j))) ∧ Blk wr w1.heap.size 102 (runs comp j l iv).cells ∧ Maker wr b 1 0 kList ∧ Below w1.heap.size w1 wr) (fun x _ => slen x)
  case atStart => exact ⟨0, by omega, rfl, Blk.of _ _ _ _ rfl, HM1.out.alloc _, (Below.refl _ _).alloc (Nat.le_refl _) _⟩
  case round =>
    obtain ⟨wo, rfl⟩ : ∃ wo : World, wo = wr := ⟨_, rfl⟩
    obtain ⟨j, hj, rfl, hH, hK, hB⟩ := hrel
    obtain ⟨m, hm⟩ : ∃ m, m = l.drop (64 * j) := ⟨_, rfl⟩
    obtain ⟨R, hR⟩ : ∃ R, R = runs comp j l iv := ⟨_, rfl⟩
    have hml : m.length = l.length - 64 * j := by rw [hm, List.length_drop]
    have hsz := str_size m
    rw [← hm]
    rw [← hR] at hH
    by_cases h64 : 64 ≤ m.length
    · have e1 := str_take m 64
      have e2 := str_drop m 64
      have Hm := Lib.hid hm
      have HR := Lib.hid hR
      have HHs := Lib.hid hH
      have HK := Lib.hid hK
      have HB := Lib.hid hB
      have Hml := Lib.hid hml
      clear hm hR hH hK hB hml
      go_wp2_with fail
      refine (block_any w1.heap.size b R (str (m.take 64)) (by rw [str_size, List.length_take]; omega) _ (by have := HM1.out.lt; omega) HHs.out HK.out).mono ?_
      rintro e w2 ⟨rfl, h2, g2⟩
      have hnx : Blk w2 w1.heap.size 102 (runs comp (j + 1) l iv).cells := by
        rw [runs_succ, ← HR.out, ← Hm.out]; rwa [str_list] at h2
      have Hnx := Lib.hid hnx
      have HK2 := Lib.hid (HK.out.grown g2 (by simp; have := HM1.out.lt; omega))
      have HB2 := Lib.hid (below_of_grown HB.out g2 (Nat.le_refl _))
      clear h2 hnx g2 HHs HK HB
      go_wp2_with fail
      go_roundw
      case rel => exact ⟨j + 1, by have := Hml.out; omega, by rw [Hm.out, List.drop_drop]; congr 3, Hnx.out, HK2.out, HB2.out⟩
      case measure => simp [slen, str_size]; omega
    · have hj64 : j = l.length / 64 := by omega
      have b64 : decide ((64 : Int) ≤ (m.length : Int)) = false := by simp; omega
      have htail : tailOf l = m ++ [128] ++ List.replicate ((119 - m.length) % 64) 0 ++ be 8 (8 * l.length) := by rw [tailOf, ← hj64, ← hm]
      obtain ⟨k, hk⟩ : ∃ k : Nat, k = (119 - m.length) % 64 := ⟨_, rfl⟩
      rw [← hk] at htail
      have hk' : (119 - (m.length : Int)) % 64 = (k : Int) := by omega
      have hkw : IntKind.i64.wrap (119 - (m.length : Int)) = 119 - (m.length : Int) := IntWalk.i64_in _ (by omega)
      have hmul : IntKind.u64.wrap ((l.length : Int) * 8) = ((8 * l.length : Nat) : Int) := by
        rw [IntKind.wrap_u64]; push_cast; omega
      have hlw : IntKind.u64.wrap (l.length : Int) = (l.length : Int) := by rw [IntKind.wrap_u64]; omega
      have hc1 : ({ data := #[128] } : ByteArray) = str [128] := rfl
      have hsl := str_size l
      have Hm := Lib.hid hm
      have HR := Lib.hid hR
      have HHs := Lib.hid hH
      have HK := Lib.hid hK
      have HB := Lib.hid hB
      have Htail := Lib.hid htail
      have Hj64 := Lib.hid hj64
      have Hml := Lib.hid hml
      have Hk := Lib.hid hk
      clear hm hR hH hK hB hj64 htail hml hk
      obtain ⟨rp, hrp⟩ : ∃ x, x = List.replicate k (0 : UInt8) := ⟨_, rfl⟩
      obtain ⟨bb, hbb⟩ : ∃ x, x = be 8 (8 * l.length) := ⟨_, rfl⟩
      obtain ⟨x1, hx1⟩ : ∃ x, x = m ++ [(128 : UInt8)] := ⟨_, rfl⟩
      obtain ⟨x2, hx2⟩ : ∃ x, x = x1 ++ rp := ⟨_, rfl⟩
      obtain ⟨u, hu⟩ : ∃ x, x = x2 ++ bb := ⟨_, rfl⟩
      have hrl : rp.length = k := by rw [hrp]; simp
      have hbl : bb.length = 8 := by rw [hbb, be_length]
      have h1l : x1.length = m.length + 1 := by rw [hx1]; simp
      have h2l : x2.length = m.length + 1 + k := by rw [hx2, List.length_append, h1l, hrl]
      have hul : u.length = m.length + 1 + k + 8 := by rw [hu, List.length_append, h2l, hbl]
      have hut : u = tailOf l := by rw [hu, hx2, hx1, hrp, hbb, Htail.out]
      have a1 := str_add Tryd.prog m [128] (by simp; omega)
      have a2 := str_add Tryd.prog x1 rp (by have := Hk.out; omega)
      have a3 := str_add Tryd.prog x2 bb (by have := Hk.out; omega)
      rw [← hx1] at a1
      rw [← hx2] at a2
      rw [← hu] at a3
      have Hut := Lib.hid hut
      have Hul := Lib.hid hul
      have Hrp := Lib.hid hrp
      have Hbb := Lib.hid hbb
      clear hut hul hrp hbb hx1 hx2 hu hrl hbl h1l h2l Htail
      have A2 := Lib.hid a2
      have A3 := Lib.hid a3
      clear a2 a3
      go_wp2_with fail
      refine (Tryd.strings_Repeat ⟨#[0]⟩ k _ (by have := Hk.out; omega) (by have := Hk.out; simp [ByteArray.size]; omega)).mono ?_
      rintro e w2 ⟨rfl, hb2⟩
      rw [show (⟨(Lib.repeatL (⟨#[0]⟩ : ByteArray).data.toList k).toArray⟩ : ByteArray) = str rp from by rw [Hrp.out, ← repeatL_one]; rfl]
      have HHs2 := Lib.hid (HHs.out.below hb2 HHs.out.lt)
      have HK2 := Lib.hid (HK.out.below hb2 HK.out.lt)
      have HB2 := Lib.hid (HB.out.trans (hb2.mono HB.out.size))
      clear HHs HK HB hb2 a1
      have a2 := A2.out
      go_wp2_with fail
      refine (number_any (8 * l.length) 8 _ (by omega) (by omega)).mono ?_
      rintro e w3 ⟨rfl, hb3⟩
      rw [← Hbb.out]
      have HHs3 := Lib.hid (HHs2.out.below hb3 HHs2.out.lt)
      have HK3 := Lib.hid (HK2.out.below hb3 HK2.out.lt)
      have HB3 := Lib.hid (HB2.out.trans (hb3.mono HB2.out.size))
      clear HHs2 HK2 HB2 hb3 a2
      have a3 := A3.out
      have hu64 : u.length % 64 = 0 := by have := Hul.out; have := Hk.out; omega
      have hlt2 : u.length ≤ 200 := by have := Hul.out; have := Hk.out; omega
      go_wp2_with fail
      clear a3 hc1 hkw hk' hmul hlw
      go_loopw [8] (fun x wr => ∃ i : Nat, 64 * i ≤ u.length ∧ x = .string (str (u.drop (64 * i))) ∧ Blk wr w1.heap.size 102 (runs comp i u R).cells ∧ Maker wr b 1 0 kList ∧ Below w1.heap.size w1 wr) (fun x _ => slen x)
      case atStart => exact ⟨0, by omega, rfl, HHs3.out, HK3.out, HB3.out⟩
      case round =>
        obtain ⟨wi, rfl⟩ : ∃ wi : World, wi = wr := ⟨_, rfl⟩
        obtain ⟨i, hi, rfl, hH, hK, hB⟩ := hrel
        clear HHs3 HK3 HB3
        obtain ⟨v, hv⟩ : ∃ v, v = u.drop (64 * i) := ⟨_, rfl⟩
        obtain ⟨Q, hQ⟩ : ∃ Q, Q = runs comp i u R := ⟨_, rfl⟩
        have hvl : v.length = u.length - 64 * i := by rw [hv, List.length_drop]
        have hsv := str_size v
        rw [← hv]
        rw [← hQ] at hH
        by_cases hv0 : 0 < v.length
        · have hv64 : 64 ≤ v.length := by omega
          have b0 : decide ((0 : Int) < (v.length : Int)) = true := by simp; omega
          have e1 := str_take v 64
          have e2 := str_drop v 64
          have Hv := Lib.hid hv
          have HQ := Lib.hid hQ
          have HHs := Lib.hid hH
          have HK := Lib.hid hK
          have HB := Lib.hid hB
          have Hvl := Lib.hid hvl
          clear hv hQ hH hK hB hvl
          go_wp2_with fail
          refine (block_any w1.heap.size b Q (str (v.take 64)) (by rw [str_size, List.length_take]; omega) _ (by have := HM1.out.lt; omega) HHs.out HK.out).mono ?_
          rintro e w2 ⟨rfl, h2, g2⟩
          have hnx : Blk w2 w1.heap.size 102 (runs comp (i + 1) u R).cells := by
            rw [runs_succ, ← HQ.out, ← Hv.out]; rwa [str_list] at h2
          have Hnx := Lib.hid hnx
          have HK2 := Lib.hid (HK.out.grown g2 (by simp; have := HM1.out.lt; omega))
          have HB2 := Lib.hid (below_of_grown HB.out g2 (Nat.le_refl _))
          clear h2 hnx g2 HHs HK HB
          go_wp2_with fail
          go_roundw
          case rel => exact ⟨i + 1, by have := Hvl.out; omega, by rw [Hv.out, List.drop_drop]; congr 3, Hnx.out, HK2.out, HB2.out⟩
          case measure => simp [slen, str_size]; omega
        · have hi64 : i = u.length / 64 := by omega
          have b0 : decide ((0 : Int) < (v.length : Int)) = false := decide_eq_false (by omega)
          have hsha : sha l = outOf Q := by rw [sha, ← Hut.out, ← hi64, ← Hj64.out, ← HR.out, hQ]
          have hlt := hH.lt
          have cs : ∀ n, wi.cell? ⟨w1.heap.size, n, none⟩ = Q.cells[n]? := fun n => hH.cell n
          have c0 : wi.cell? ⟨w1.heap.size, 0, none⟩ = some (v32 Q.a) := cs 0
          have c1 : wi.cell? ⟨w1.heap.size, 1, none⟩ = some (v32 Q.b) := cs 1
          have c2 : wi.cell? ⟨w1.heap.size, 2, none⟩ = some (v32 Q.c) := cs 2
          have c3 : wi.cell? ⟨w1.heap.size, 3, none⟩ = some (v32 Q.d) := cs 3
          have c4 : wi.cell? ⟨w1.heap.size, 4, none⟩ = some (v32 Q.e) := cs 4
          have c5 : wi.cell? ⟨w1.heap.size, 5, none⟩ = some (v32 Q.f) := cs 5
          have c6 : wi.cell? ⟨w1.heap.size, 6, none⟩ = some (v32 Q.g) := cs 6
          have c7 : wi.cell? ⟨w1.heap.size, 7, none⟩ = some (v32 Q.h) := cs 7
          have Hsha := Lib.hid hsha
          have HK := Lib.hid hK
          have HB := Lib.hid hB
          clear hv hQ hH hK hB hvl hi64 hsha cs
          go_wp2_with fail
          go_loopw [49] (fun x y => ∃ n : Nat, n ≤ 8 ∧ x = .int .i64 (n : Int) ∧ Bld y wi.heap.size ((Q.list.take n).flatMap fun x => be 4 x.toNat) ∧ Below wi.heap.size wi y) (fun x _ => (8 - intOf x).toNat)
          case atStart => exact ⟨0, by omega, rfl, Bld.new wi, (Below.refl _ _).alloc (Nat.le_refl _) _⟩
          case round =>
            obtain ⟨n, hn, rfl, hbd, hbe⟩ := hrel
            clear c0 c1 c2 c3 c4 c5 c6 c7
            by_cases n8 : n < 8
            · have b8 : decide ((n : Int) < 8) = true := decide_eq_true (by omega)
              have hix : ∀ W, (Instr.index 102 (.agg #[v32 Q.a, v32 Q.b, v32 Q.c, v32 Q.d, v32 Q.e, v32 Q.f, v32 Q.g, v32 Q.h]) (.int .i64 (n : Int))).run Tryd.prog W = .ok (v32 (Q.list.getD n 0)) W := by
                intro W
                have : n = 0 ∨ n = 1 ∨ n = 2 ∨ n = 3 ∨ n = 4 ∨ n = 5 ∨ n = 6 ∨ n = 7 := by omega
                rcases this with rfl | rfl | rfl | rfl | rfl | rfl | rfl | rfl <;> (refine Eq.trans ?_ rfl; kernel_rfl)
              have hnx : (Q.list.take (n + 1)).flatMap (fun x => be 4 x.toNat) = (Q.list.take n).flatMap (fun x => be 4 x.toNat) ++ be 4 (Q.list.getD n 0).toNat := by
                have : n = 0 ∨ n = 1 ∨ n = 2 ∨ n = 3 ∨ n = 4 ∨ n = 5 ∨ n = 6 ∨ n = 7 := by omega
                rcases this with rfl | rfl | rfl | rfl | rfl | rfl | rfl | rfl <;> simp [St.list]
              obtain ⟨acc, hacc⟩ : ∃ a, a = (Q.list.take n).flatMap fun x => be 4 x.toNat := ⟨_, rfl⟩
              have hal : acc.length ≤ 32 := by rw [hacc]; exact flat_le Q n
              rw [← hacc] at hbd hnx
              generalize Q.list.getD n 0 = q at *
              have hw : IntKind.u64.wrap (iw q) = iw q := by have := iw_bound q; rw [IntKind.wrap_u64]; omega
              have Hbd := Lib.hid hbd
              have Hbe := Lib.hid hbe
              have Hnx := Lib.hid hnx
              clear hbd hbe hnx hacc
              go_wp2_with fail
              refine (number_any q.toNat 4 _ (by omega) (by omega)).mono ?_
              rintro e w4 ⟨rfl, hb4⟩
              have Hbd4 := Lib.hid (Hbd.out.below hb4)
              have Hbe4 := Lib.hid (Hbe.out.trans (hb4.mono Hbe.out.size))
              clear hb4 Hbd Hbe
              go_wp2_with fail
              refine (Bld.write _ _ _ _ Hbd4.out (by rw [be_length]; omega)).mono ?_
              rintro e w5 ⟨rfl, hbd5, hb5⟩
              have Hbd5 := Lib.hid hbd5
              have Hbe5 := Lib.hid (Hbe4.out.trans hb5)
              clear hbd5 hb5
              go_wp2_with fail
              go_roundw
              case rel => exact ⟨n + 1, by omega, by go_num, by rw [Hnx.out]; exact Hbd5.out, Hbe5.out⟩
              case measure => simp [intOf]; omega
            · have b8 : decide ((n : Int) < 8) = false := decide_eq_false (by omega)
              have hn8 : n = 8 := by omega
              rw [hn8] at hbd
              have hbd' : Bld wr wi.heap.size (sha l) := by rw [Hsha.out]; exact hbd
              have Hbd := Lib.hid hbd'
              have Hbe := Lib.hid hbe
              clear hbd hbd' hbe hn8
              go_wp2_with fail
              refine (Bld.string _ _ _ Hbd.out).mono ?_
              rintro e w6 ⟨rfl, _, hb6⟩
              have hB6 : Below wi.heap.size wi w6 := Hbe.out.trans hb6
              have hK6 : Maker w6 b 1 0 kList := HK.out.below hB6 HK.out.lt
              have hG6 : w.grownBy w6 (some b) := grown_trans Hg1.out (grown_trans (grownBy_of_below HB.out _) (grownBy_of_below hB6 _))
              have HK6 := Lib.hid hK6
              have HG6 := Lib.hid hG6
              clear hK6 hG6 hB6 hb6
              go_wp2_with fail
              go_ret
              exact ⟨rfl, HK6.out, HG6.out⟩
end Go.Proofs.YtinlciofhegciaaDoor

namespace Go.Proofs.YtinlciofhegciaaDoor
open Go.RowKit

/-- Bounded: what is summed takes up to 2^40 bytes. -/
abbrev SumLim : Nat := 1099511627776

set_option maxRecDepth 100000 in
set_option maxHeartbeats 400000 in
theorem bytes_any (n size : Nat) (w : World) (h1 : 1 ≤ size) (h2 : size ≤ 8) :
    Calls Tryd.prog 13 #[.int .u64 (n : Int), .int .i64 (size : Int)] w fun e w' => e = .returned (.string (str (be size n))) ∧ Below w.heap.size w w' := by
  go_enter Tryd.func13, Tryd.ntmps13
  go_wp2
  go_loopw [5, 6] (fun v i wr => ∃ (k : Nat) (z : Int), k ≤ size ∧ z = (size : Int) - 1 - k ∧ i = .int .i64 z ∧ Own wr w.heap.size 5 v (vbytes ((be size n).take k)) ∧ Below w.heap.size w wr) (fun _ i _ => (intOf i + 1).toNat)
  case atStart => exact ⟨0, _, by omega, by simp, rfl, by simpa [vbytes] using Own.nil w w.heap.size 5, Below.refl _ _⟩
  case round =>
    obtain ⟨k, z, hk, hz, rfl, hown, hb⟩ := hrel
    have Hown := Lib.hid hown
    have Hb := Lib.hid hb
    have Hz := Lib.hid hz
    have z1 : z ≤ 7 := by omega
    have z2 : -1 ≤ z := by omega
    clear hown hb hz
    by_cases hlt : k < size
    · have z0 : 0 ≤ z := by have := Hz.out; omega
      have hz8 : (8 * z).toNat = 8 * (size - 1 - k) := by have := Hz.out; omega
      have hl : (vbytes ((be size n).take k)).length = k := by rw [vbytes_length, List.length_take, be_length]; omega
      have hval : (Value.int .u8 ((n : Int) / 2 ^ (8 * z).toNat % 256)) = .int .u8 (((UInt8.ofNat (n / 256 ^ (size - 1 - k))).toNat : Nat) : Int) := by
        rw [hz8, be_val]
      have hstep := be_take_succ size n k hlt
      have Hval := Lib.hid hval
      have Hstep := Lib.hid hstep
      have Hl := Lib.hid hl
      clear hval hstep hz8 hl
      go_wp2_with (at_builtin; go_must (refine ap1 Hown.out Hb.out Tryd.underlying_bytes Tryd.info_u8 rfl (by omega) (by rw [Hl.out]; omega) rfl _ _ rfl rfl rfl rfl ?_; intro v1 w1 hown1 hb1 hg1; rw [Hval.out, show ∀ c : UInt8, [Value.int .u8 (c.toNat : Int)] = vbytes [c] from fun _ => rfl, ← vbytes_append, ← Hstep.out] at hown1; have Hown1 := Lib.hid hown1; have Hb1 := Lib.hid hb1; clear hown1 hb1 hg1))
      go_roundw
      case rel => exact ⟨k + 1, z - 1, by omega, by have := Hz.out; push_cast; omega, by go_num, Hown1.out, Hb1.out⟩
      case measure => simp [intOf]; omega
    · have z0 : z < 0 := by have := Hz.out; omega
      have hk' : k = size := by omega
      have hstr : ∀ W, Own W w.heap.size 5 u5 (vbytes ((be size n).take k)) → (convert 39 9 u5).run Tryd.prog W = .ok (.string (str (be size n))) W := by
        intro W h
        rw [hk', List.take_of_length_le (by rw [be_length]; omega)] at h
        exact Own.string Tryd.underlying_bytes Tryd.underlying_u8 Tryd.underlying_str h
      have hs1 := hstr _ Hown.out
      clear hk' hstr
      go_wp2
      go_ret
      exact ⟨rfl, Hb.out⟩

set_option maxRecDepth 100000 in
set_option maxHeartbeats 400000 in
theorem rturn_any (n : Nat) (x : W32) (z : Int) (hz : z = (n : Int)) (w : World) (h1 : 1 ≤ n) (h2 : n ≤ 31) :
    Calls Tryd.prog 59 #[v32 x, .int .i64 z] w fun e w' => e = .returned (v32 (x.rotateRight n)) ∧ ∃ m, w' = w.drewN m := by
  subst hz
  have hl := w32_shl x (32 - n)
  have hr := w32_shr x n
  have ho := w32_or (x >>> n) (x <<< (32 - n))
  have hs : (32 : Int) - (n : Int) = ((32 - n : Nat) : Int) := by omega
  have hw : IntKind.i64.wrap ((32 : Int) - (n : Int)) = ((32 - n : Nat) : Int) := by rw [IntWalk.i64_in _ (by omega)]; exact hs
  rw [← rot_eq x n h1 h2, BitVec.or_comm]
  go_enter Tryd.func59, Tryd.ntmps59
  go_wp2
  go_quiet (fail)
  go_wp2
  go_ret
  exact ⟨by simp, nq, rfl⟩
end Go.Proofs.YtinlciofhegciaaDoor

/- A row that the call owns, whatever lies marked behind it; append of a slice's cells, or of a string's bytes, to it. -/
namespace Go.Proofs.YtinlciofhegciaaDoor
open Go.RowKit

/-- No cell of the block is frozen. -/
def Loose (n : Nat) (fz : Nat × Nat) : Prop := ∀ o, o < n → (decide (fz.1 ≤ o) && decide (o < fz.2)) = false

/-- The slice v of n elements of sz cells owns the cells xs; its block lies from B on. -/
def Row (w : World) (B : Nat) (e : TypeId) (sz : Nat) (v : Value) (n : Nat) (xs : List Value) : Prop :=
  xs.length = n * sz ∧ ((v = .slice none 0 0 ∧ n = 0) ∨
    ∃ g cap cur fz, v = .slice (some ⟨g, 0, none⟩) n cap ∧ B ≤ g ∧ w.heap[g]? = some (.cells cur e fz) ∧ Loose cur.size fz ∧ n ≤ cap ∧ cap ≤ maxLen ∧ cur.size = cap * sz ∧ cur.toList.take (n * sz) = xs)

theorem Row.nil (w : World) (B : Nat) (e : TypeId) (sz : Nat) : Row w B e sz (.slice none 0 0) 0 [] := ⟨by simp, .inl ⟨rfl, rfl⟩⟩
theorem Row.block {w : World} {B : Nat} {e : TypeId} {sz n : Nat} {v : Value} {xs : List Value} (h : Row w B e sz v n xs) (k : Nat) (hk : v.ownBlock = some k) : B ≤ k ∧ k < w.heap.size := by
  rcases h.2 with ⟨rfl, _⟩ | ⟨g, cap, cur, fz, rfl, hb, hg, _⟩
  · simp [Value.ownBlock] at hk
  · simp [Value.ownBlock] at hk
    subst hk
    exact ⟨hb, (Array.getElem?_eq_some_iff.1 hg).1⟩
theorem Row.kept {w w1 : World} {B : Nat} {e : TypeId} {sz n : Nat} {v : Value} {xs : List Value} (h : Row w B e sz v n xs) {row : Option Nat} (hg : w.grownBy w1 row) (hne : v.ownBlock = none ∨ v.ownBlock ≠ row) : Row w1 B e sz v n xs := by
  refine ⟨h.1, ?_⟩
  rcases h.2 with hn | ⟨g, cap, cur, fz, rfl, hb, hgg, rest⟩
  · exact .inl hn
  · exact .inr ⟨g, cap, cur, fz, rfl, hb, (hg.block g (Array.getElem?_eq_some_iff.1 hgg).1 (by simpa [Value.ownBlock] using hne)).trans hgg, rest⟩
theorem Row.below {w w1 : World} {B : Nat} {e : TypeId} {sz n : Nat} {v : Value} {xs : List Value} (h : Row w B e sz v n xs) (hb : Below w.heap.size w w1) : Row w1 B e sz v n xs :=
  h.kept (grownBy_of_below hb none) (by cases v.ownBlock <;> simp)
theorem Row.slice {w : World} {B : Nat} {e : TypeId} {sz n : Nat} {v : Value} {xs : List Value} (h : Row w B e sz v n xs) : ∃ A c, v = .slice A n c := by
  rcases h.2 with ⟨rfl, rfl⟩ | ⟨g, cap, cur, fz, rfl, _⟩
  · exact ⟨none, 0, rfl⟩
  · exact ⟨_, cap, rfl⟩
/-- Where there is an element, the row lies in a block. -/
theorem Row.form {w : World} {B : Nat} {e : TypeId} {sz n : Nat} {v : Value} {xs : List Value} (h : Row w B e sz v n xs) (hn : 0 < n) :
    ∃ g cap, v = .slice (some ⟨g, 0, none⟩) n cap ∧ B ≤ g ∧ g < w.heap.size ∧ n ≤ cap ∧ (∀ j u, xs[j]? = some u → w.cell? ⟨g, j, none⟩ = some u ∧ w.frozen? ⟨g, j, none⟩ = false) := by
  rcases h.2 with ⟨_, h0⟩ | ⟨g, cap, cur, fz, rfl, hb, hg, hl, hnc, _, hcs, ht⟩
  · omega
  · refine ⟨g, cap, rfl, hb, (Array.getElem?_eq_some_iff.1 hg).1, hnc, fun j u hu => ?_⟩
    rw [← ht, List.getElem?_take] at hu
    split at hu
    · have hj : cur[j]? = some u := by simpa using hu
      refine ⟨by simp [World.cell?, hg, hj], ?_⟩
      have := hl j (Array.getElem?_eq_some_iff.1 hj).1
      simpa [World.frozen?, hg] using this
    · cases hu

theorem setCells_heap (g : Nat) (e : TypeId) (fz : Nat × Nat) : ∀ (vs : List Value) (o : Nat) (w : World) (cur : Array Value), w.heap[g]? = some (.cells cur e fz) → o + vs.length ≤ cur.size →
    ∃ arr : Array Value, (w.setCells g o vs).heap[g]? = some (.cells arr e fz) ∧ arr.toList = cur.toList.take o ++ vs ++ cur.toList.drop (o + vs.length) ∧ w.grownBy (w.setCells g o vs) (some g)
  | [], o, w, cur, h, _ => ⟨cur, h, by simp, grown_refl _ _⟩
  | v :: r, o, w, cur, h, hl => by
    have hl' : o + (r.length + 1) ≤ cur.size := hl
    have h1 : (w.setCell ⟨g, o, none⟩ v).heap[g]? = some (.cells (cur.setIfInBounds o v) e fz) := by simp [World.setCell, Array.getElem?_modify, h]
    obtain ⟨arr, ha, hb, hc⟩ := setCells_heap g e fz r (o + 1) (w.setCell ⟨g, o, none⟩ v) (cur.setIfInBounds o v) h1 (by simp; omega)
    refine ⟨arr, ha, ?_, grown_trans (grown_set w g o v) hc⟩
    rw [hb]
    have hlen : o < cur.toList.length := by simp; omega
    have e1 : (cur.setIfInBounds o v).toList = cur.toList.set o v := by simp
    rw [e1, List.take_set, List.drop_set_of_lt (by omega)]
    have e2 : (cur.toList.take (o + 1)).set o v = cur.toList.take o ++ [v] := by
      rw [List.take_succ_eq_append_getElem hlen, List.set_append_right _ _ (by simp; omega)]
      have : min o cur.size = o := by simp at hlen; omega
      simp [List.length_take, this]
    rw [e2]
    simp [Nat.add_assoc, Nat.add_comm 1]

theorem run_append_row {P : Program} (w : World) (B : Nat) (t t2 ty e : TypeId) (d2 : TypeDesc) (ht : P.underlying t = some (.slice e)) (ht2 : P.underlying t2 = some d2) (hd2 : (match d2 with | .slice _ => true | .string => true | _ => false) = true)
    (i : TypeInfo) (z : Value) (sz bytes : Nat) (hi : P.info? e = some i) (hz : i.zero = some z) (hsz : i.size = sz) (hby : i.bytes = bytes) (hzs : z.cells.size = sz) (hpos : 0 < sz)
    (v : Value) (n : Nat) (xs : List Value) (hown : Row w B e sz v n xs) (x : Value) (m : Nat) (news : List Value) (hnl : news.length = m * sz) (hlen : ∀ w : World, (Builtin.lenOf x).run P w = .ok m w)
    (hf : (Builtin.firstCells sz m x).run P w = .ok news.toArray w) (hf' : (Builtin.firstCells sz m x).run P w.drew = .ok news.toArray w.drew) (h1 : ∀ u ∈ news, u.oneCell' = true)
    (h63 : n + m ≤ maxLen) (hbytes : (n + m) * bytes ≤ 140737488355328) (hB : B ≤ w.heap.size) :
    ∃ v' w', (Builtin.append_ #[t, t2] ty #[v, x]).run P w = .ok v' w' ∧ Row w' B e sz v' (n + m) (xs ++ news) ∧ w.grownBy w' v.ownBlock := by
  subst hsz
  subst hby
  have hsmall : n + m ≤ 9223372036854775807 := by simp only [maxLen] at h63; omega
  have hxl := hown.1
  have hall : (xs ++ news).length = (n + m) * i.size := by rw [List.length_append, hxl, hnl, Nat.add_mul]
  have hgrown : ∀ (old : Nat), old < n + m → ∀ (row : Option Nat),
      Row (w.drew.alloc (.cells (xs.toArray ++ news.toArray ++ Builtin.zeroCells z.cells (grownCap w (n + m) old e - (n + m))) e)) B e i.size (.slice (some ⟨w.heap.size, 0, none⟩) (n + m) (grownCap w (n + m) old e)) (n + m) (xs ++ news) ∧
      w.grownBy (w.drew.alloc (.cells (xs.toArray ++ news.toArray ++ Builtin.zeroCells z.cells (grownCap w (n + m) old e - (n + m))) e)) row := by
    intro old ho row
    have hge := grownCap_ge w (n + m) old e
    have hcm : grownCap w (n + m) old e ≤ maxLen := grownCap_le_maxLen w (n + m) old e h63
    refine ⟨⟨hall, .inr ⟨w.heap.size, _, _, (0, 0), rfl, hB, heap_alloc_new w.drew _, fun o _ => by simp, hge, hcm, ?_, ?_⟩⟩, ⟨rfl, rfl, rfl, by simp, fun k hk _ => Below.heap_alloc w.drew _ k hk⟩⟩
    · simp only [Array.size_append, List.size_toArray, size_zeroCells, hzs, hxl, hnl, ← Nat.add_mul]
      congr 1
      omega
    · simp only [Array.toList_append, List.append_assoc]
      rw [← List.append_assoc, ← hall]
      exact List.take_left
  rcases hown.2 with ⟨rfl, rfl⟩ | ⟨g, cap, cur, fz, rfl, hbg, hg, hloose, hnc, hcm, hcs, htake⟩
  · obtain rfl : xs = [] := List.eq_nil_of_length_eq_zero (by simpa using hxl)
    by_cases hm : m = 0
    · subst hm
      obtain rfl : news = [] := List.eq_nil_of_length_eq_zero (by simpa using hnl)
      refine ⟨.slice none 0 0, w, ?_, Row.nil w B e i.size, grown_refl _ _⟩
      cases d2 <;> simp at hd2
      all_goals simp [Builtin.append_, run_underlying ht, run_underlying ht2, sizeOf, typeInfo, hi, hlen, hf]
      all_goals simp [Builtin.lenOf]
    · have hn0 : ¬ (0 + m ≤ 0) := by omega
      have h63' : ¬ (9223372036854775807 < (m : Int)) := by omega
      have h48 := growslice_fits (need := 0 + m) (old := 0) (by omega) hbytes
      have h48' : ¬ (281474976710656 < Builtin.nextslicecap m 0 * i.bytes) := by simp only [Nat.zero_add] at h48; omega
      have hgr := hgrown 0 (by omega) (Value.ownBlock (.slice none 0 0))
      refine ⟨_, _, ?_, hgr.1, hgr.2⟩
      cases d2 <;> simp at hd2
      all_goals simp [Builtin.append_, run_underlying ht, run_underlying ht2, sizeOf, typeInfo, zeroValue, hi, hz, hlen, hm, h63', h48', Question.forced, hf', newRow, grownCap, run_firstCells_none]
  · by_cases hroom : n + m ≤ cap
    · have hfit : n * i.size + news.length ≤ cur.size := by rw [hnl, hcs, ← Nat.add_mul]; exact Nat.mul_le_mul_right _ hroom
      obtain ⟨arr, ha, hb, hc⟩ := setCells_heap g e fz news (n * i.size) w cur hg hfit
      have hst := run_storeCells_cells (P := P) g (n * i.size) news 0 w (fun j hj => by
          have : (n * i.size + 0 + j) < cur.size := by omega
          simp [World.cell?, hg]; omega) (fun j hj => by
          have := hloose (n * i.size + 0 + j) (by omega)
          simpa [World.frozen?, hg] using this) h1
      simp only [Nat.add_zero] at hst
      refine ⟨.slice (some ⟨g, 0, none⟩) (n + m) cap, _, ?_, ⟨hall, .inr ⟨g, cap, arr, fz, rfl, hbg, ha, ?_, hroom, hcm, ?_, ?_⟩⟩, hc⟩
      · cases d2 <;> simp at hd2
        all_goals simp [Builtin.append_, run_underlying ht, run_underlying ht2, sizeOf, typeInfo, hi, hlen, hroom, hf, Addr.add_lit, hst]
      · have hs : arr.size = cur.size := by
          have := congrArg List.length hb
          simp at this; omega
        rw [hs]; exact hloose
      · have := congrArg List.length hb
        simp at this; omega
      · rw [hb, htake, ← hall]
        exact List.take_left
    · have hholds : ∀ j u, xs[j]? = some u → w.drew.cell? ((⟨g, 0, none⟩ : Addr).add j) = some u := by
        intro j u hu
        have hadd : (⟨g, 0, none⟩ : Addr).add j = ⟨g, j, none⟩ := by unfold Addr.add; split <;> simp_all
        rw [hadd]
        rw [← htake, List.getElem?_take] at hu
        split at hu
        · have hj : cur[j]? = some u := by simpa using hu
          show w.cell? _ = _
          simp [World.cell?, hg, hj]
        · cases hu
      have hfo := run_firstCells_some (P := P) w.drew i.size n ⟨g, 0, none⟩ n cap xs hxl hholds
      have h63' : ¬ (9223372036854775807 < ((n : Int) + (m : Int))) := by omega
      have h48 := growslice_fits (need := n + m) (old := cap) (by omega) hbytes
      have h48' : ¬ (281474976710656 < Builtin.nextslicecap (n + m) cap * i.bytes) := by omega
      have hgr := hgrown cap (by omega) (Value.ownBlock (.slice (some ⟨g, 0, none⟩) n cap))
      refine ⟨_, _, ?_, hgr.1, hgr.2⟩
      cases d2 <;> simp at hd2
      all_goals simp [Builtin.append_, run_underlying ht, run_underlying ht2, sizeOf, typeInfo, zeroValue, hi, hz, hlen, hroom, h63', h48', Question.forced, hf', hfo, newRow, grownCap]
      all_goals (congr 2; apply Array.ext'; simp [List.append_assoc])
section
variable {P : Program} {ops : Array Oper} {rest : List Oper} {o : Oper} {a : Act} {Q : Exit → Act → World → Prop}
/-- append(v, s...) of a string's bytes. -/
theorem ap_str {W : World} {B : Nat} {t t2 e : TypeId} (ht : P.underlying t = some (.slice e)) (ht2 : P.underlying t2 = some .string) (hinfo : (P.info? e).map (fun i => (i.zero, i.size, i.bytes)) = some (some (.int .u8 0), 1, 1))
    {v : Value} {l m : List UInt8} (HO : Row W B e 1 v l.length (vbytes l)) (hl : l.length + m.length ≤ 140737488355328) (hB : B ≤ W.heap.size)
    (hgd : o.guard = none) (s x : Operand) (ho : o.op = .call { callee := .builtin .append, args := #[s, x], argTypes := #[t, t2] }) (hs : a.eval s = v) (hx : a.eval x = .string (str m))
    (h : ∀ v1 w1, Row w1 B e 1 v1 (l ++ m).length (vbytes (l ++ m)) → W.grownBy w1 v.ownBlock → wpList P ops Q rest (a.put o.dst v1) w1) :
    wpList P ops Q (o :: rest) a W := by
  obtain ⟨i, hi, hz3⟩ := Option.map_eq_some_iff.1 hinfo
  simp only [Prod.mk.injEq] at hz3
  obtain ⟨hz0, hz1, hz2⟩ := hz3
  have hmax : l.length + m.length ≤ maxLen := by simp only [maxLen]; omega
  obtain ⟨v', w', hr, hrow, hg⟩ := run_append_row (P := P) W B t t2 o.type e .string ht ht2 rfl i (.int .u8 0) 1 1 hi hz0 hz1 hz2 rfl (by omega) v l.length (vbytes l) HO (.string (str m)) m.length (vbytes m)
    (by rw [vbytes_length]; omega) (fun w => by simp [Builtin.lenOf, str_size])
    (by have := Lib.run_firstCells_string (P := P) W 1 (str m); rw [str_size] at this; rw [this]; simp [Lib.strCells, vbytes, str])
    (by have := Lib.run_firstCells_string (P := P) W.drew 1 (str m); rw [str_size] at this; rw [this]; simp [Lib.strCells, vbytes, str])
    (by intro u hu; simp only [vbytes, List.mem_map] at hu; obtain ⟨c, _, rfl⟩ := hu; rfl) hmax (by omega) hB
  refine wpList_plain hgd fun K hK => ?_
  unfold Oper.wp execOp
  simp only [ho, resolve, invoke, builtin, Sem.run_bind, Sem.run_pure, Result.andThen_ok, List.map_toArray, List.map_cons, List.map_nil, hs, hx, hr]
  refine hK _ _ (h v' w' ?_ hg)
  rw [vbytes_append, List.length_append]; exact hrow
/-- append(v, y) of one element of one cell: the world is that in which y's own block was laid. -/
theorem ap_one {W : World} {B : Nat} {t e : TypeId} {z : Value} {bytes : Nat} (ht : P.underlying t = some (.slice e)) (hinfo : (P.info? e).map (fun i => (i.zero, i.size, i.bytes)) = some (some z, 1, bytes)) (hz : z.cells.size = 1)
    {v y : Value} {xs : List Value} (HO : Row W B e 1 v xs.length xs) (h1 : y.oneCell' = true) (hb0 : 0 < bytes) (hl : (xs.length + 1) * bytes ≤ 140737488355328) (hB : B ≤ W.heap.size)
    (hgd : o.guard = none) (s x : Operand) (ho : o.op = .call { callee := .builtin .append, args := #[s, x], argTypes := #[t, t] }) (hs : a.eval s = v) (hx : a.eval x = .slice (some ⟨W.heap.size, 0, none⟩) 1 1)
    (h : ∀ v1 w1, Row w1 B e 1 v1 (xs ++ [y]).length (xs ++ [y]) → W.grownBy w1 v.ownBlock → wpList P ops Q rest (a.put o.dst v1) w1) :
    wpList P ops Q (o :: rest) a (W.alloc (.cells #[y] e)) := by
  obtain ⟨i, hi, hz3⟩ := Option.map_eq_some_iff.1 hinfo
  simp only [Prod.mk.injEq] at hz3
  obtain ⟨hz0, hz1, hz2⟩ := hz3
  have hlen : xs.length + 1 ≤ 140737488355328 := Nat.le_trans (Nat.le_mul_of_pos_right _ hb0) hl
  have hcell := cell_one_new W y e
  have HO' : Row (W.alloc (.cells #[y] e)) B e 1 v xs.length xs := HO.kept (row := none) (grown_alloc W _ _) (by cases v.ownBlock <;> simp)
  obtain ⟨v', w', hr, hrow, hg⟩ := run_append_row (P := P) (W.alloc (.cells #[y] e)) B t t o.type e (.slice e) ht ht rfl i z 1 bytes hi hz0 hz1 hz2 hz (by omega) v xs.length xs HO' (.slice (some ⟨W.heap.size, 0, none⟩) 1 1) 1 [y]
    rfl (fun w => by simp [Builtin.lenOf]) (run_firstCells_some (P := P) _ 1 1 _ 1 1 [y] rfl hcell) (run_firstCells_some (P := P) _ 1 1 _ 1 1 [y] rfl (fun j u hj => hcell j u hj)) (by simpa using h1) (by simp only [maxLen]; omega) hl (by simp; omega)
  refine wpList_plain hgd fun K hK => ?_
  unfold Oper.wp execOp
  simp only [ho, resolve, invoke, builtin, Sem.run_bind, Sem.run_pure, Result.andThen_ok, List.map_toArray, List.map_cons, List.map_nil, hs, hx, hr]
  refine hK _ _ (h v' w' (by simpa using hrow) ?_)
  exact ⟨hg.os, hg.tape, hg.output, by have := hg.size; simp at this; omega, fun k hk hne => by
    rw [hg.block k (by simp; omega) hne]; exact Below.heap_alloc W _ k hk⟩
end

/-- What '[]byte(s)' has made. -/
theorem row_bytes (w : World) (e : TypeId) (l : List UInt8) (hl : l.length ≤ maxLen) :
    Row (Lib.bytesWorld w e (str l)) w.heap.size e 1 (.slice (some ⟨w.heap.size, 0, none⟩) l.length (grownCap w l.length 0 e)) l.length (vbytes l) ∧ Below w.heap.size w (Lib.bytesWorld w e (str l)) := by
  have hsz : (str l).size = l.length := str_size l
  have hge := grownCap_ge w l.length 0 e
  have hcs : (Lib.bytesCells w e (str l)).size = grownCap w l.length 0 e := by
    simp only [Lib.bytesCells, Array.size_append, Array.size_map, Array.size_replicate]
    have : (str l).data.size = l.length := by simp [str]
    rw [this, hsz]; omega
  refine ⟨⟨by rw [vbytes_length]; omega, .inr ⟨w.heap.size, grownCap w l.length 0 e, Lib.bytesCells w e (str l), _, rfl, Nat.le_refl _, Lib.bytesWorld_at_new w e (str l), ?_, hge, grownCap_le_maxLen w _ _ _ hl, by rw [hcs]; omega, ?_⟩⟩, ⟨rfl, rfl, rfl, by rw [Lib.bytesWorld_size]; omega, fun k hk => Lib.bytesWorld_at_old w e _ k hk⟩⟩
  · intro o ho
    simp; omega
  · simp only [Lib.bytesCells, Array.toList_append, Array.toList_map, Nat.mul_one]
    rw [List.take_left' (by simp [str])]
    simp [vbytes, str]
theorem run_bytes_of {P : Program} {src dst e : TypeId} (hs : P.underlying src = some .string) (hd : P.underlying dst = some (.slice e)) (he : P.underlying e = some (.int .u8)) (l : List UInt8) (w : World) :
    (convert src dst (.string (str l))).run P w = .ok (.slice (some ⟨w.heap.size, 0, none⟩) l.length (grownCap w l.length 0 e)) (Lib.bytesWorld w e (str l)) := by
  have := Lib.run_convert_string_bytes (P := P) w src dst e (str l) hs hd he
  rwa [str_size] at this
/-- string(v). -/
theorem Row.string {P : Program} {w : World} {B : Nat} {src dst e : TypeId} {v : Value} {l : List UInt8} (hs : P.underlying src = some (.slice e)) (he : P.underlying e = some (.int .u8)) (hd : P.underlying dst = some .string)
    (h : Row w B e 1 v l.length (vbytes l)) : (convert src dst v).run P w = .ok (.string (str l)) w := by
  rcases Nat.eq_zero_or_pos l.length with h0 | h0
  · obtain rfl : l = [] := List.eq_nil_of_length_eq_zero h0
    obtain ⟨A, c, rfl⟩ := h.slice
    cases A with
    | none => exact run_convert_bytes_nil w src e hs he 0 c dst hd
    | some ad =>
      rcases h.2 with ⟨hn, _⟩ | ⟨g, cap, cur, fz, hv, _⟩
      · cases hn
      · injection hv with hv _ _
        injection hv with hv
        subst hv
        have hx := run_convert_bytes_arg (P := P) w src e hs he g 0 0 c [] rfl (fun i hi => by omega) dst hd
        exact hx
  · obtain ⟨g, cap, rfl, _, _, _, hc⟩ := h.form h0
    have hx := run_convert_bytes_arg (P := P) w src e hs he g 0 l.length cap (l.map fun c => (c.toNat : Int)) (by simp) (fun i hi => ?_) dst hd
    · rw [hx]
      congr 2
      simp only [strOfNums, str, List.map_map]
      congr 2
      conv => rhs; rw [← List.map_id l]
      apply List.map_congr_left
      intro c _
      simp
    · have := (hc i (.int .u8 ((l.map fun c => (c.toNat : Int)).getD i 0)) (by simp [vbytes, hi])).1
      simpa using this

/-- An element of one cell is stored. -/
theorem Row.store {w : World} {B : Nat} {e : TypeId} {g n cap : Nat} {xs : List Value} (h : Row w B e 1 (.slice (some ⟨g, 0, none⟩) n cap) n xs) (j : Nat) (u : Value) :
    Row (w.setCell ⟨g, j, none⟩ u) B e 1 (.slice (some ⟨g, 0, none⟩) n cap) n (xs.set j u) := by
  refine ⟨by rw [List.length_set]; exact h.1, ?_⟩
  rcases h.2 with ⟨hn, _⟩ | ⟨g', cap', cur, fz, hv, hb, hg, hl, hnc, hcm, hcs, ht⟩
  · cases hn
  · injection hv with hv _ hc
    injection hv with hv
    injection hv with hv
    subst hv hc
    refine .inr ⟨g, cap, cur.setIfInBounds j u, fz, rfl, hb, by simp [World.setCell, Array.getElem?_modify, hg], by simpa using hl, hnc, hcm, by simpa using hcs, ?_⟩
    rw [← ht, Array.toList_setIfInBounds, List.take_set]

end Go.Proofs.YtinlciofhegciaaDoor

/- A region that draws its order: calls that give one value in every world of a class, then a tail in one forced order. -/
namespace Go.Proofs.YtinlciofhegciaaDoor
open Go.RowKit
section
variable {P : Program} {ops : Array Oper} {md : Region.Mode} {C : World → Prop}

/-- Whatever is picked, as long as the head's operations are not all listed. -/
def headQ (P : Program) (md : Region.Mode) (ops : Array Oper) (C : World → Prop) (n : Nat) (L : Array Bool → Act → Prop) : Nat → Array Bool → Act → Prop
  | 0, listed, a => L listed a
  | f + 1, listed, a => Region.ready md ops listed ≠ [] ∧ ∀ i ∈ Region.ready md ops listed, i < n ∧ qOp P ops C i (headQ P md ops C n L f (listed.setIfInBounds i true)) a

theorem wpAny_of_headQ {n g : Nat} {L : Array Bool → Act → Prop} {Q' : Exit → Act → World → Prop} (hL : ∀ listed a w, C w → L listed a → wpAny P md ops Q' g listed a w) :
    ∀ (f : Nat) (listed : Array Bool) (a : Act) (w : World), C w → headQ P md ops C n L f listed a → wpAny P md ops Q' (f + g) listed a w
  | 0, listed, a, w, hw, h => by rw [Nat.zero_add]; exact hL _ _ _ hw h
  | f + 1, listed, a, w, hw, h => by
    rw [show f + 1 + g = (f + g) + 1 by omega]
    exact ⟨fun h0 => absurd h0 h.1, fun i hi => wpOp_of_qOp hw (fun a' w' hw' h' => wpAny_of_headQ hL f _ a' w' hw' h') (h.2 i hi).2⟩

theorem headQ_first {n i : Nat} {oi : Oper} {v : Value} {L : Array Bool → Act → Prop} (hi : ops[i]? = some oi) (hsel : ∀ (j : Nat) (o : Oper) cs b, ops[j]? = some o → o.op ≠ .select cs b)
    (hs : Region.sinkB md ops n = true) (hc : Region.chainB md ops n = true) (hn : n < ops.size) (hin : i < n)
    (hdone : ∀ listed a, L listed a → ∀ j ∈ Region.ready md ops listed, n ≤ j) (f : Nat) :
    ∀ (listed : Array Bool) (a : Act), HeadInv md ops n listed →
      (∀ j oj, ops[j]? = some oj → j ≠ i → listed.getD j true = false → (∀ e ∈ oj.after, Region.binds md e = true → e.on ≠ i) → oi.apart ops oj = true) →
      i ∈ Region.ready md ops listed → YieldsIn P ops C oi v a →
      headQ P md ops C n L f (listed.setIfInBounds i true) (a.put oi.dst v) → headQ P md ops C n L (f + 1) listed a := by
  induction f with
  | zero =>
    intro listed a inv _ hr hy H
    have hun := (mem_ready.1 hr).1
    refine ⟨fun h => (by rw [h] at hr; cases hr), fun j hj => ?_⟩
    have hjn : j < n := Nat.lt_of_not_le fun h => tail_waits hs hc hn inv _ i rfl hin hun j h hj
    refine ⟨hjn, ?_⟩
    by_cases hji : j = i
    · subst hji; exact hy.qOp hi H
    · have := hdone _ _ H j (ready_mono hj hji)
      omega
  | succ f ih =>
    intro listed a inv hfree hr hy H
    have hun := (mem_ready.1 hr).1
    refine ⟨fun h => (by rw [h] at hr; cases hr), fun j hj => ?_⟩
    have hjn : j < n := Nat.lt_of_not_le fun h => tail_waits hs hc hn inv _ i rfl hin hun j h hj
    refine ⟨hjn, ?_⟩
    by_cases hji : j = i
    · subst hji; exact hy.qOp hi H
    · have h1 := (H.2 j (ready_mono hj hji)).2
      obtain ⟨hjun, oj, hoj, hall⟩ := mem_ready.1 hj
      have hnot : ∀ e ∈ oj.after, Region.binds md e = true → e.on ≠ i := fun e he hb heq => by
        have h1 := hall e he hb
        rw [heq, getD_both hun] at h1
        cases h1
      have h2 := qOp_put hoj (hfree j oj hoj hji hjun hnot) (fun cs b => hsel i oi cs b hi) (fun cs b => hsel j oj cs b hoj) hy h1
      have hfree' : ∀ k ok, ops[k]? = some ok → k ≠ i → (listed.setIfInBounds j true).getD k true = false →
          (∀ e ∈ ok.after, Region.binds md e = true → e.on ≠ i) → oi.apart ops ok = true := fun k ok hk hki hun' hno => by
        refine hfree k ok hk hki ?_ hno
        by_cases hjk : j = k
        · subst hjk; exact hjun
        · rw [getD_set_ne true hjk] at hun'; exact hun'
      refine qOp_mono (fun a' h3 => ih (listed.setIfInBounds j true) a' (inv.set hj hjn) hfree' (ready_mono hr (Ne.symm hji)) h3.1 ?_) h2
      rw [Array.setIfInBounds_comm _ _ hji]
      exact h3.2

theorem headQ_lex {n g : Nat} {Lq : Act → Prop} (hsel : Region.noSelect ops = true) (hs : Region.sinkB md ops n = true) (hc : Region.chainB md ops n = true) (hn : n < ops.size) :
    ∀ (l : List Oper) (k : Nat) (listed : Array Bool) (a : Act), (∀ j, j < l.length → l[j]? = ops[k + j]?) → k + l.length = n → HeadInv md ops n listed →
    Region.lexHead md ops g l.length k listed = true → wpQuiet P ops C Lq l a →
    headQ P md ops C n (fun listed' a' => Region.seqB md ops g n listed' = true ∧ Lq a') l.length listed a
  | [], k, listed, a, _, hk, _, hB, h => by
    have : k = n := by simpa using hk
    subst this
    exact ⟨by simpa [Region.lexHead] using hB, h⟩
  | o :: l, k, listed, a, hl, hk, inv, hB, h => by
    have h0 : ops[k]? = some o := by simpa using (hl 0 (by simp)).symm
    simp only [List.length_cons, Region.lexHead, Bool.and_eq_true] at hB
    obtain ⟨⟨hr, hf⟩, hB'⟩ := hB
    have hkn : k < n := by simp only [List.length_cons] at hk; omega
    have hr' : k ∈ Region.ready md ops listed := by simpa using hr
    have hst : qOp P ops C k (wpQuiet P ops C Lq l) a := by unfold qOp; simp only [h0]; exact h
    obtain ⟨v, hy, hK⟩ := yieldsIn_of_qOp h0 hst
    exact headQ_first h0 (Region.noSelect_spec hsel) hs hc hn hkn (fun listed' a' hL => seqB_ready hL.1) l.length listed a inv (Region.free_spec h0 hf) hr' hy
      (headQ_lex hsel hs hc hn l (k + 1) _ _ (fun j hj => by have := hl (j + 1) (by simp; omega); simpa [Nat.add_assoc, Nat.add_comm 1 j] using this) (by simp only [List.length_cons] at hk; omega) (inv.set hr' hkn) hB' hK)

theorem region_quiet_tail {id : Nat} {Q : Exit → Act → World → Prop} {a : Act} {w : World} {l : List Oper} (C : World → Prop) (n : Nat) (hm : P.follows .mixedOrders = true) (hB : Region.lexTailB .any l.toArray n = true)
    (hC : C { w with drawn := w.drawn + 1 })
    (h : wpQuiet P l.toArray C (fun a' => ∀ w', C w' → wpList P l.toArray Q (l.drop n) a' w') (l.take n) a) : (Code.region id l.toArray true).wp P Q a w := by
  simp only [Region.lexTailB, Bool.and_eq_true, decide_eq_true_eq] at hB
  obtain ⟨⟨⟨⟨hsel, hn⟩, hs⟩, hc⟩, hlex⟩ := hB
  have hn' : n < l.length := by simpa using hn
  have htl : (l.take n).length = n := by simp; omega
  have hdl : (l.drop n).length = l.toArray.size - n := by simp
  have inv0 : HeadInv .any l.toArray n (Array.replicate l.toArray.size false) :=
    ⟨by simp, fun j oj _ hl => (by rw [getD_replicate_false] at hl; cases hl), fun t _ ht => getD_in (by simpa using ht) (getD_replicate_false _ _)⟩
  have H := headQ_lex (C := C) (md := .any) (g := l.toArray.size - n) hsel hs hc hn (l.take n) 0 _ a (fun j hj => by
    have hj' : j < n := by rw [htl] at hj; exact hj
    simp [hj']) (by simpa using htl) inv0 (by rw [htl]; exact hlex) h
  refine wp_region_any hm ?_
  have G := wpAny_of_headQ (Q' := Q) (g := l.toArray.size - n) (fun listed a' w' hw' hL => by
    have hl1 : Region.seqB .any l.toArray (l.drop n).length n listed = true := by rw [hdl]; exact hL.1
    have hl2 := wpAny_of_seq (md := .any) (Q' := Q) (l.drop n) n listed a' w' (fun j => by simp) hl1 (hL.2 w' hw')
    rwa [hdl] at hl2) _ _ _ _ hC H
  rw [htl, show n + (l.toArray.size - n) = l.toArray.size by omega] at G
  exact G
end
end Go.Proofs.YtinlciofhegciaaDoor

namespace Go.Proofs.YtinlciofhegciaaDoor
open Go.RowKit

/-- The key, filled up, each byte turned by c. -/
def padKey (k : List UInt8) (c : UInt8) : List UInt8 := (k ++ List.replicate (64 - k.length) 0).map (· ^^^ c)
theorem padKey_length (k : List UInt8) (c : UInt8) (h : k.length ≤ 64) : (padKey k c).length = 64 := by simp [padKey]; omega

set_option maxRecDepth 100000 in
set_option maxHeartbeats 1000000 in
theorem pad_any (pl : Addr) (k : List UInt8) (c : UInt8) (w : World) (hk : k.length ≤ 64) (hp : w.cell? pl = some (.string (str k))) :
    Calls Tryd.prog 53 #[.int .u8 (c.toNat : Int), .pointer (some pl)] w fun e w' => e = .returned (.string (str (padKey k c))) ∧ Below w.heap.size w w' := by
  have hsz := str_size k
  have hpl := World.block_lt_of_cell? w pl hp
  obtain ⟨n, hn⟩ : ∃ n, n = 64 - k.length := ⟨_, rfl⟩
  have hn' : (64 : Int) - (k.length : Int) = (n : Int) := by omega
  have hnw : IntKind.i64.wrap ((64 : Int) - (k.length : Int)) = (n : Int) := by rw [IntWalk.i64_in _ (by omega)]; exact hn'
  obtain ⟨x, hx⟩ : ∃ x, x = k ++ List.replicate n (0 : UInt8) := ⟨_, rfl⟩
  have hxl : x.length = 64 := by rw [hx, List.length_append, List.length_replicate]; omega
  have ha := str_add Tryd.prog k (List.replicate n 0) (by simp; omega)
  rw [← hx] at ha
  have hpk : padKey k c = x.map (· ^^^ c) := by rw [hx, hn, padKey]
  have hnl : n ≤ 64 := by omega
  have Hpk := Lib.hid hpk
  clear hpk hx hn hn'
  have hcell : ∀ w', Below w.heap.size w w' → w'.cell? pl = some (.string (str k)) := fun w' hb => (hb.cell hpl).trans hp
  go_enter Tryd.func53, Tryd.ntmps53
  go_wp2_with fail
  refine region_quiet_tail (fun w' => Below w.heap.size w w') 5 Tryd.mixed (by kernel_rfl) (Below.refl _ _).drew ?_
  simp only [List.take_succ_cons, List.take_zero, List.drop_succ_cons, List.drop_zero]
  refine wpQuiet_step (fun K hK => ?_)
  go_simp
  refine ⟨.string (str k), fun w' hb => by rw [hcell w' hb]; exact ⟨rfl, rfl⟩, hK _ ?_⟩
  clear hK K
  refine wpQuiet_step (fun K hK => ?_)
  go_simp
  refine ⟨.string (str k), fun w' hb => by rw [hcell w' hb]; exact ⟨rfl, rfl⟩, hK _ ?_⟩
  clear hK K
  refine wpQuiet_step (fun K hK => ?_)
  go_simp
  refine ⟨_, fun w' hb => rfl, hK _ ?_⟩
  clear hK K
  refine wpQuiet_step (fun K hK => ?_)
  go_simp
  refine ⟨_, fun w' hb => rfl, hK _ ?_⟩
  clear hK K
  refine wpQuiet_step (fun K hK => ?_)
  go_simp
  refine ⟨.string (str (List.replicate n 0)), fun w' hb => ?_, hK _ ?_⟩
  · refine (Tryd.strings_Repeat ⟨#[0]⟩ n _ (by omega) (by show 1 * n ≤ _; omega)).mono ?_
    rintro e w2 ⟨rfl, hb2⟩
    refine ⟨?_, below_trans hb hb2⟩
    rw [← repeatL_one]; rfl
  clear hK K
  refine wpQuiet_nil ?_
  intro w1 hb1
  have hr := run_bytes_of Tryd.underlying_str Tryd.underlying_bytes Tryd.underlying_u8 (P := Tryd.prog) x w1
  have hrow := row_bytes w1 5 x (by simp only [maxLen]; omega)
  rw [hxl] at hr hrow
  have Hrow := Lib.hid hrow
  have Hb1 := Lib.hid hb1
  clear hrow hb1 hcell
  go_wp2_with fail
  clear hr ha
  go_loopw [15] (fun y wr => ∃ i : Nat, i ≤ 64 ∧ y = .int .i64 (i : Int) ∧ Row wr w1.heap.size 5 1 (.slice (some ⟨w1.heap.size, 0, none⟩) 64 (grownCap w1 64 0 5)) 64 (vbytes ((x.take i).map (· ^^^ c) ++ x.drop i)) ∧ Below w1.heap.size w1 wr) (fun y _ => (64 - intOf y).toNat)
  case atStart => exact ⟨0, by omega, rfl, by simpa using Hrow.out.1, Hrow.out.2⟩
  case round =>
    obtain ⟨i, hi, rfl, hrow, hb⟩ := hrel
    by_cases h64 : i < 64
    · have b64 : decide ((i : Int) < 64) = true := decide_eq_true (by omega)
      have c64 : (i : Int) < 64 := by omega
      have hxi : i < x.length := by omega
      obtain ⟨q, hq⟩ : ∃ q, q = x[i] := ⟨_, rfl⟩
      have hL : ((x.take i).map (· ^^^ c) ++ x.drop i)[i]? = some q := by
        have hm : ((x.take i).map (· ^^^ c)).length = i := by rw [List.length_map, List.length_take]; omega
        rw [List.getElem?_append_right (by omega), hm, List.getElem?_drop, hq, Nat.sub_self, Nat.add_zero, List.getElem?_eq_getElem hxi]
      have hL2 : ((x.take i).map (· ^^^ c) ++ x.drop i).set i (q ^^^ c) = (x.take (i + 1)).map (· ^^^ c) ++ x.drop (i + 1) := by
        have hm : ((x.take i).map (· ^^^ c)).length = i := by rw [List.length_map, List.length_take]; omega
        rw [List.set_append_right _ _ (by omega), hm, Nat.sub_self, List.drop_eq_getElem_cons hxi, List.take_succ_eq_append_getElem hxi, List.map_append, ← hq, List.set_cons_zero, List.append_assoc]
        rfl
      obtain ⟨g2, cap2, hv2, _, hg2, _, hcells⟩ := hrow.form (by omega)
      injection hv2 with hv3 _ hv4
      injection hv3 with hv3
      injection hv3 with hv3
      subst hv3 hv4
      obtain ⟨hc1, hf1⟩ := hcells i (.int .u8 (q.toNat : Int)) (by rw [vbytes, List.getElem?_map, hL]; rfl)
      have hst := hrow.store i (.int .u8 ((q ^^^ c).toNat : Int))
      have hst2 : (vbytes ((x.take i).map (· ^^^ c) ++ x.drop i)).set i (.int .u8 ((q ^^^ c).toNat : Int)) = vbytes ((x.take (i + 1)).map (· ^^^ c) ++ x.drop (i + 1)) := by
        rw [← hL2, vbytes, vbytes, ← List.map_set]
      rw [hst2] at hst
      have hx8 : bits .xor .u8 (q.toNat : Int) (c.toNat : Int) = ((q ^^^ c).toNat : Int) := by
        rw [u8_xor_nat _ _ q.toNat_lt c.toNat_lt]; rfl
      have Hst := Lib.hid hst
      have Hb := Lib.hid hb
      clear hrow hb hst hst2 hL hL2 hcells hq Hrow
      go_wp2_with fail
      go_roundw
      case rel => exact ⟨i + 1, by omega, by go_num, Hst.out, below_set Hb.out (Nat.le_refl _) _ _⟩
      case measure => simp [intOf]; omega
    · have b64 : decide ((i : Int) < 64) = false := decide_eq_false (by omega)
      have hi64 : i = 64 := by omega
      have hfin : (x.take i).map (· ^^^ c) ++ x.drop i = padKey k c := by
        rw [Hpk.out, hi64, List.take_of_length_le (by omega), List.drop_of_length_le (by omega), List.append_nil]
      rw [hfin] at hrow
      have hpl64 : (padKey k c).length = 64 := padKey_length k c hk
      have hs1 := Row.string (P := Tryd.prog) (src := 39) (dst := 9) Tryd.underlying_bytes Tryd.underlying_u8 Tryd.underlying_str (by rw [hpl64]; exact hrow)
      have Hbf := Lib.hid (Hb1.out.trans (hb.mono Hb1.out.size))
      clear hrow hb hi64 hfin Hrow
      go_wp2_with fail
      go_ret
      exact ⟨rfl, Hbf.out⟩
end Go.Proofs.YtinlciofhegciaaDoor

namespace Go.Proofs.YtinlciofhegciaaDoor
open Go.RowKit

def macKey (k : List UInt8) : List UInt8 := if 64 < k.length then sha k else k
theorem macKey_length (k : List UInt8) : (macKey k).length ≤ 64 := by
  unfold macKey
  split
  · rw [sha_length]; omega
  · omega
/-- HMAC. -/
def hmac (k s : List UInt8) : List UInt8 := sha (padKey (macKey k) 92 ++ sha (padKey (macKey k) 54 ++ s))
theorem hmac_length (k s : List UInt8) : (hmac k s).length = 32 := sha_length _
theorem Ready.grown {w w1 : World} {b : Nat} (h : Ready w b) {row : Option Nat} (hg : w.grownBy w1 row) (hne : some b ≠ row) : Ready w1 b := h.imp (·.grown hg hne) (·.grown hg hne)

set_option maxRecDepth 100000 in
set_option maxHeartbeats 1000000 in
/-- What mac does once the key is short: the world is the one at the closure's making. -/
theorem mac_any (b : Nat) (k s : List UInt8) (w : World) (hM : Ready w b) (hk : k.length ≤ 1099511627776) (hs : s.length ≤ 549755813888) :
    Calls Tryd.prog 39 #[.pointer (some ⟨b, 0, none⟩), .string (str k), .string (str s)] w fun e w' => e = .returned (.string (str (hmac k s))) ∧ Maker w' b 1 0 kList ∧ w.grownBy w' (some b) := by
  have hmf : ∀ (fn : Fn) (first cap : Array Value) (w : World), (Instr.makeFunc fn first cap).run Tryd.prog w = .ok (.func fn first cap) w := fun _ _ _ _ => rfl
  have hszk := str_size k
  have hb := hM.lt
  have p92 : (92 : Int) = ((92 : UInt8).toNat : Int) := rfl
  have p54 : (54 : Int) = ((54 : UInt8).toNat : Int) := rfl
  by_cases h : 64 < k.length
  · have b64 : decide ((64 : Int) < (k.length : Int)) = true := decide_eq_true (by omega)
    have hmk : macKey k = sha k := by rw [macKey, if_pos h]
    have Hmk := Lib.hid hmk
    have HM := Lib.hid (hM.alloc (.cells #[.string (str k)] 9))
    have hK : (sha k).length ≤ 64 := by rw [sha_length]; omega
    have hkc0 : (w.alloc (.cells #[.string (str k)] 9)).cell? ⟨w.heap.size, 0, none⟩ = some (.string (str k)) := by simp
    have hkb : Blk (w.alloc (.cells #[.string (str k)] 9)) w.heap.size 9 [.string (str k)] := Blk.of _ _ _ _ rfl
    have Hkb := Lib.hid hkb
    clear hM hmk p92 p54 hkb
    go_enter Tryd.func39, Tryd.ntmps39
    go_wp2_with fail
    refine (sum_any b (str k) _ HM.out (by rw [str_size]; omega)).mono ?_
    rintro e w1 ⟨rfl, hM1, hg1⟩
    rw [str_list]
    have hkb1 := Hkb.out.grown hg1 (by simp; omega)
    have hc1 := hkb1.cell 0
    have hf1 := hkb1.frozen 0
    have hkb2 := hkb1.set 0 (.string (str (sha k)))
    have hkc : (w1.setCell ⟨w.heap.size, 0, none⟩ (.string (str (sha k)))).cell? ⟨w.heap.size, 0, none⟩ = some (.string (str (sha k))) := hkb2.cell 0
    have HM1 := Lib.hid (Ready.grown (.inr hM1) (grown_set w1 w.heap.size 0 (.string (str (sha k)))) (by simp; omega))
    have HG1 : Hid (w.grownBy (w1.setCell ⟨w.heap.size, 0, none⟩ (.string (str (sha k)))) (some b)) := by
      have g1 := grown_trans (grown_alloc w (.cells #[.string (str k)] 9) (some b)) hg1
      exact ⟨g1.os, g1.tape, g1.output, by simpa [World.setCell] using g1.size, fun i hi hne => (Below.heap_setCell w1 _ _ i (by simp; omega)).trans (g1.block i hi hne)⟩
    clear hM1 hg1 hkb1 hkb2 hkc0
    go_wp2_with fail
    obtain ⟨x1, hx1⟩ : ∃ x, x = padKey (sha k) 54 ++ s := ⟨_, rfl⟩
    obtain ⟨y1, hy1⟩ : ∃ x, x = padKey (sha k) 92 := ⟨_, rfl⟩
    obtain ⟨y2, hy2⟩ : ∃ x, x = padKey (sha k) 54 := ⟨_, rfl⟩
    obtain ⟨s1, hs1⟩ : ∃ x, x = sha x1 := ⟨_, rfl⟩
    obtain ⟨x2, hx2⟩ : ∃ x, x = y1 ++ s1 := ⟨_, rfl⟩
    have l1 : x1.length = 64 + s.length := by rw [hx1, List.length_append, padKey_length _ _ hK]
    have l2 : x2.length = 96 := by rw [hx2, List.length_append, hy1, padKey_length _ _ hK, hs1, sha_length]
    have a1 := str_add Tryd.prog y2 s (by rw [hy2, padKey_length _ _ hK]; omega)
    have a2 := str_add Tryd.prog y1 s1 (by rw [hy1, padKey_length _ _ hK, hs1, sha_length]; omega)
    rw [← hx2] at a2
    rw [hy2, ← hx1, ← hy2] at a1
    have hfin : hmac k s = sha x2 := by rw [hmac, Hmk.out, ← hx1, ← hs1, ← hy1, ← hx2]
    have Hfin := Lib.hid hfin
    have Hy1 := Lib.hid hy1
    have Hy2 := Lib.hid hy2
    have Hs1 := Lib.hid hs1
    clear hfin hx1 hx2 hy1 hy2 hs1
    refine (pad_any ⟨w.heap.size, 0, none⟩ (sha k) 92 _ hK hkc).mono ?_
    rintro e w2 ⟨rfl, hb2⟩
    rw [← Hy1.out]
    have hkc2 := below_cell hb2 hkc
    have HM2 := Lib.hid (HM1.out.grown (grownBy_of_below hb2 none) (by simp))
    have HG2 := Lib.hid (grown_trans HG1.out (grownBy_of_below hb2 (some b)))
    clear hb2
    go_wp2_with fail
    refine (pad_any ⟨w.heap.size, 0, none⟩ (sha k) 54 _ hK hkc2).mono ?_
    rintro e w3 ⟨rfl, hb3⟩
    rw [← Hy2.out]
    have HM3 := Lib.hid (HM2.out.grown (grownBy_of_below hb3 none) (by simp))
    have HG3 := Lib.hid (grown_trans HG2.out (grownBy_of_below hb3 (some b)))
    clear hb3 hkc2
    go_wp2_with fail
    refine (sum_any b (str x1) _ HM3.out (by rw [str_size]; omega)).mono ?_
    rintro e w4 ⟨rfl, hM4, hg4⟩
    rw [str_list, ← Hs1.out]
    have HM4 := Lib.hid hM4
    have HG4 := Lib.hid (grown_trans HG3.out hg4)
    clear hM4 hg4
    go_wp2_with fail
    refine (sum_any b (str x2) _ (.inr HM4.out) (by rw [str_size]; omega)).mono ?_
    rintro e w5 ⟨rfl, hM5, hg5⟩
    rw [str_list, ← Hfin.out]
    have HM5 := Lib.hid hM5
    have HG5 := Lib.hid (grown_trans HG4.out hg5)
    clear hM5 hg5
    go_wp2_with fail
    go_ret
    exact ⟨rfl, HM5.out, HG5.out⟩
  · have b64 : decide ((64 : Int) < (k.length : Int)) = false := decide_eq_false (by omega)
    have hmk : macKey k = k := by rw [macKey, if_neg h]
    have Hmk := Lib.hid hmk
    have HM := Lib.hid (hM.alloc (.cells #[.string (str k)] 9))
    have hkc : (w.alloc (.cells #[.string (str k)] 9)).cell? ⟨w.heap.size, 0, none⟩ = some (.string (str k)) := by simp
    clear hM hmk p92 p54
    go_enter Tryd.func39, Tryd.ntmps39
    go_wp2_with fail
    obtain ⟨x1, hx1⟩ : ∃ x, x = padKey k 54 ++ s := ⟨_, rfl⟩
    obtain ⟨y1, hy1⟩ : ∃ x, x = padKey k 92 := ⟨_, rfl⟩
    obtain ⟨y2, hy2⟩ : ∃ x, x = padKey k 54 := ⟨_, rfl⟩
    obtain ⟨s1, hs1⟩ : ∃ x, x = sha x1 := ⟨_, rfl⟩
    obtain ⟨x2, hx2⟩ : ∃ x, x = y1 ++ s1 := ⟨_, rfl⟩
    have l1 : x1.length = 64 + s.length := by rw [hx1, List.length_append, padKey_length _ _ (by omega)]
    have l2 : x2.length = 96 := by rw [hx2, List.length_append, hy1, padKey_length _ _ (by omega), hs1, sha_length]
    have a1 := str_add Tryd.prog y2 s (by rw [hy2, padKey_length _ _ (by omega)]; omega)
    have a2 := str_add Tryd.prog y1 s1 (by rw [hy1, padKey_length _ _ (by omega), hs1, sha_length]; omega)
    rw [← hx2] at a2
    rw [hy2, ← hx1, ← hy2] at a1
    have hfin : hmac k s = sha x2 := by rw [hmac, Hmk.out, ← hx1, ← hs1, ← hy1, ← hx2]
    have Hfin := Lib.hid hfin
    have Hy1 := Lib.hid hy1
    have Hy2 := Lib.hid hy2
    have Hs1 := Lib.hid hs1
    clear hfin hx1 hx2 hy1 hy2 hs1
    refine (pad_any ⟨w.heap.size, 0, none⟩ k 92 _ (by omega) hkc).mono ?_
    rintro e w2 ⟨rfl, hb2⟩
    rw [← Hy1.out]
    have hkc2 := below_cell hb2 hkc
    have HM2 := Lib.hid (HM.out.grown (grownBy_of_below hb2 none) (by simp))
    have HG2 := Lib.hid (grown_trans (grown_alloc w _ (some b)) (grownBy_of_below hb2 (some b)))
    clear hb2
    go_wp2_with fail
    refine (pad_any ⟨w.heap.size, 0, none⟩ k 54 _ (by omega) hkc2).mono ?_
    rintro e w3 ⟨rfl, hb3⟩
    rw [← Hy2.out]
    have HM3 := Lib.hid (HM2.out.grown (grownBy_of_below hb3 none) (by simp))
    have HG3 := Lib.hid (grown_trans HG2.out (grownBy_of_below hb3 (some b)))
    clear hb3 hkc2
    go_wp2_with fail
    refine (sum_any b (str x1) _ HM3.out (by rw [str_size]; omega)).mono ?_
    rintro e w4 ⟨rfl, hM4, hg4⟩
    rw [str_list, ← Hs1.out]
    have HM4 := Lib.hid hM4
    have HG4 := Lib.hid (grown_trans HG3.out hg4)
    clear hM4 hg4
    go_wp2_with fail
    refine (sum_any b (str x2) _ (.inr HM4.out) (by rw [str_size]; omega)).mono ?_
    rintro e w5 ⟨rfl, hM5, hg5⟩
    rw [str_list, ← Hfin.out]
    have HM5 := Lib.hid hM5
    have HG5 := Lib.hid (grown_trans HG4.out hg5)
    clear hM5 hg5
    go_wp2_with fail
    go_ret
    exact ⟨rfl, HM5.out, HG5.out⟩
end Go.Proofs.YtinlciofhegciaaDoor

namespace Go.Proofs.YtinlciofhegciaaDoor
open Go.RowKit

set_option maxRecDepth 100000 in
set_option maxHeartbeats 400000 in
theorem macTop_any (k s : List UInt8) (w : World) (hk : k.length ≤ 1099511627776) (hs : s.length ≤ 549755813888) :
    Calls Tryd.prog 20 #[.string (str k), .string (str s)] w fun e w' => e = .returned (.string (str (hmac k s))) ∧ Below w.heap.size w w' := by
  go_enter Tryd.func20, Tryd.ntmps20
  go_wp2_with (go_at_call 39; refine (mac_any w.heap.size k s _ (.inl (Blk.of _ _ _ _ rfl)) hk hs).mono ?_; rintro e w1 ⟨rfl, hM1, hg1⟩; have Hg1 := Lib.hid hg1; clear hM1 hg1)
  go_ret
  exact ⟨rfl, below_of_grown ((Below.refl _ _).alloc (Nat.le_refl _) _) Hg1.out (Nat.le_refl _)⟩
theorem hmac_empty : (hmac [] []).take 4 = [182, 19, 103, 154] := by decide +kernel
end Go.Proofs.YtinlciofhegciaaDoor

/- The loops of a body, in their order. -/
namespace Go.Proofs.YtinlciofhegciaaDoor
def loopsOf : Code → List Code
  | .loop c => [c]
  | .seq a b => loopsOf a ++ loopsOf b
  | .block _ c => loopsOf c
  | .scope c => loopsOf c
  | .cond _ a b => loopsOf a ++ loopsOf b
  | _ => []
def nthLoop (c : Code) (n : Nat) : Code := (loopsOf c).getD n .skip
end Go.Proofs.YtinlciofhegciaaDoor

/- Streams: bytes by counters; the program's walk. -/
namespace Go.Proofs.YtinlciofhegciaaDoor
open Go.RowKit

/-- The macs of the first counters, one behind the other. -/
def macs (k c : List UInt8) : Nat → List UInt8
  | 0 => []
  | i + 1 => macs k c i ++ hmac k (c ++ be 4 i)
theorem macs_length (k c : List UInt8) (i : Nat) : (macs k c i).length = 32 * i := by
  induction i with
  | zero => rfl
  | succ i ih => rw [macs, List.length_append, ih, hmac_length]; omega
theorem macs_take (k c : List UInt8) (i j : Nat) (h : i ≤ j) (n : Nat) (hn : n ≤ 32 * i) : (macs k c j).take n = (macs k c i).take n := by
  induction j with
  | zero => obtain rfl : i = 0 := by omega
            rfl
  | succ j ih =>
    by_cases hj : i = j + 1
    · rw [hj]
    · rw [macs, List.take_append_of_le_length (by rw [macs_length]; omega), ih (by omega)]
/-- The stream. -/
def streamOf (k c : List UInt8) (n : Int) : List UInt8 := if n < 1 ∨ 65536 < n then [] else (macs k c ((n.toNat + 31) / 32)).take n.toNat
theorem streamOf_of (k c : List UInt8) (n i : Nat) (h1 : 1 ≤ n) (h2 : n ≤ 65536) (hi : n ≤ 32 * i) : (macs k c i).take n = streamOf k c (n : Int) := by
  unfold streamOf
  rw [if_neg (by omega), Int.toNat_natCast]
  by_cases h : (n + 31) / 32 ≤ i
  · exact macs_take k c _ i h n (by omega)
  · exact (macs_take k c i _ (by omega) n hi).symm
theorem streamOf_length (k c : List UInt8) (n : Nat) (h1 : 1 ≤ n) (h2 : n ≤ 65536) : (streamOf k c (n : Int)).length = n := by
  rw [← streamOf_of k c n ((n + 31) / 32) h1 h2 (by omega), List.length_take, macs_length]; omega
theorem streamOf_pred (k c : List UInt8) (n : Nat) (h1 : 2 ≤ n) (h2 : n ≤ 65536) : streamOf k c ((n - 1 : Nat) : Int) = (streamOf k c (n : Int)).take (n - 1) := by
  rw [← streamOf_of k c (n - 1) ((n + 31) / 32) (by omega) (by omega) (by omega), ← streamOf_of k c n ((n + 31) / 32) (by omega) h2 (by omega), List.take_take]
  congr 1
  omega
theorem streamOf_out (k c : List UInt8) (n : Int) (h : n < 1 ∨ 65536 < n) : streamOf k c n = [] := if_pos h

theorem Bld.grown {w w1 : World} {b g : Nat} {l : List UInt8} (h : Bld w b l) (hg : w.grownBy w1 (some g)) (hlt : g < b) : Bld w1 b l := by
  have one : ∀ {T e : TypeId} {p : Value} {bs : List Value}, Lib.BuilderAtF T e b b p bs w → Lib.BuilderAtF T e b b p bs w1 := by
    intro T e p bs h
    have hl := h.lt
    obtain ⟨hB, v, hc, hown, hne⟩ := h
    refine ⟨hB, v, (hg.block b hl (by intro h; injection h with h; omega)).trans hc, hown.kept hg ?_, hne⟩
    cases hv : v.ownBlock with
    | none => exact .inl rfl
    | some q =>
      refine .inr fun h => ?_
      injection h with h
      have := (hown.lt q hv).1
      omega
  exact h.imp one one
theorem Bld.len (b : Nat) (l : List UInt8) (w : World) (h : Bld w b l) :
    Calls Tryd.prog 38 #[.pointer (some ⟨b, 0, none⟩)] w fun e w' => e = .returned (.int .i64 (l.length : Int)) ∧ w = w' :=
  (Tryd.Builder_Len_f b b _ w h).mono fun _ _ ⟨he, hw⟩ => ⟨by rw [he]; simp [Lib.byteCells], hw.symm⟩

set_option maxRecDepth 100000 in
set_option maxHeartbeats 1000000 in
theorem stream_any (k c : List UInt8) (n : Int) (w : World) (hk : k.length ≤ 1099511627776) (hc : c.length ≤ 274877906944) (hn1 : -9223372036854775808 ≤ n) (hn2 : n ≤ 9223372036854775807) :
    Calls Tryd.prog 24 #[.string (str k), .string (str c), .int .i64 n] w fun e w' => e = .returned (.string (str (streamOf k c n))) ∧ Below w.heap.size w w' := by
  by_cases h1 : n < 1
  · have b1 : decide (n < 1) = true := decide_eq_true h1
    rw [streamOf_out k c n (.inl h1)]
    go_enter Tryd.func24, Tryd.ntmps24
    go_wp2_with fail
    go_ret
    exact ⟨rfl, Below.refl _ _⟩
  have b1 : decide (n < 1) = false := decide_eq_false h1
  by_cases h2 : 65536 < n
  · have b2 : decide (65536 < n) = true := decide_eq_true h2
    rw [streamOf_out k c n (.inr h2)]
    go_enter Tryd.func24, Tryd.ntmps24
    go_wp2_with fail
    go_ret
    exact ⟨rfl, Below.refl _ _⟩
  have b2 : decide (65536 < n) = false := decide_eq_false h2
  obtain ⟨m, rfl⟩ : ∃ m : Nat, n = (m : Int) := ⟨n.toNat, by omega⟩
  have hm : ∀ i : Nat, m ≤ 32 * i → (macs k c i).take m = streamOf k c (m : Int) := fun i hi => streamOf_of k c m i (by omega) (by omega) hi
  have Hm := Lib.hid hm
  clear hm
  obtain ⟨S, hS⟩ : ∃ S, S = streamOf k c (m : Int) := ⟨_, rfl⟩
  rw [← hS]
  have HS := Lib.hid hS
  clear hS
  go_enter Tryd.func24, Tryd.ntmps24
  go_wp2_with fail
  have hR0 : Ready ((w.alloc (.cells Tryd.zeroCells80 80)).alloc (.cells #[.pointer none, .slice none 0 0] 44)) w.heap.size := Ready.alloc (.inl (Blk.of _ _ _ _ rfl)) _
  have hB0 : Bld ((w.alloc (.cells Tryd.zeroCells80 80)).alloc (.cells #[.pointer none, .slice none 0 0] 44)) (w.heap.size + 1) [] := by
    have := Bld.new (w.alloc (.cells Tryd.zeroCells80 80))
    simpa using this
  have HR0 := Lib.hid hR0
  have HB0 := Lib.hid hB0
  clear hR0 hB0 b1 b2
  go_loopw [9] (fun y wr => ∃ i : Nat, 32 * i < m + 32 ∧ y = .int .i64 (i : Int) ∧ Ready wr w.heap.size ∧ Bld wr (w.heap.size + 1) (macs k c i) ∧ Below w.heap.size w wr) (fun y _ => m + 64 - 32 * (intOf y).toNat)
  case atStart => exact ⟨0, by omega, rfl, HR0.out, HB0.out, ((Below.refl _ _).alloc (Nat.le_refl _) _).alloc (by simp) _⟩
  case round =>
    obtain ⟨i, hi, rfl, hR, hB, hb⟩ := hrel
    have HR := Lib.hid hR
    have HB := Lib.hid hB
    have Hb := Lib.hid hb
    have hsz : w.heap.size + 1 < wr.heap.size := hB.lt
    clear hR hB hb HR0 HB0
    obtain ⟨M, hM⟩ : ∃ M, M = macs k c i := ⟨_, rfl⟩
    have hMl : M.length = 32 * i := by rw [hM, macs_length]
    rw [← hM] at HB
    by_cases hlt : 32 * i < m
    · have d1 : decide (32 * (i : Int) < (m : Int)) = true := decide_eq_true (by omega)
      have hcv : IntKind.u64.wrap (i : Int) = (i : Int) := by rw [IntKind.wrap_u64]; omega
      have ha := str_add Tryd.prog c (be 4 i) (by rw [be_length]; omega)
      obtain ⟨N, hN⟩ : ∃ N, N = c ++ be 4 i := ⟨_, rfl⟩
      have hNl : N.length ≤ 549755813888 := by rw [hN, List.length_append, be_length]; omega
      rw [← hN] at ha
      have hnx : macs k c (i + 1) = M ++ hmac k N := by rw [hM, hN]; rfl
      have Hnx := Lib.hid hnx
      have HMl := Lib.hid hMl
      clear hM hN hnx hMl
      go_wp2_with fail
      refine (Bld.len _ _ _ HB.out).mono ?_
      rintro e w' ⟨rfl, rfl⟩
      rw [HMl.out]
      go_wp2_with fail
      refine (number_any i 4 _ (by omega) (by omega)).mono ?_
      rintro e w1 ⟨rfl, hb1⟩
      have HR1 := Lib.hid (HR.out.imp (·.below hb1 (by omega)) (·.below hb1 (by omega)))
      have HB1 := Lib.hid (HB.out.below hb1)
      have Hb1 := Lib.hid (below_trans Hb.out hb1)
      have hs1 := hb1.size
      clear hb1 HR HB Hb
      go_wp2_with fail
      refine (mac_any _ k N _ HR1.out hk hNl).mono ?_
      rintro e w2 ⟨rfl, hM2, hg2⟩
      have HB2 := Lib.hid (HB1.out.grown hg2 (by omega))
      have Hb2 := Lib.hid (below_of_grown Hb1.out hg2 (Nat.le_refl _))
      have hs2 := hg2.size
      have HM2 := Lib.hid hM2
      clear hM2 hg2 HR1 HB1 Hb1
      go_wp2_with fail
      refine (Bld.write _ _ _ _ HB2.out (by rw [HMl.out, hmac_length]; omega)).mono ?_
      rintro e w3 ⟨rfl, hB3, hb3⟩
      rw [← Hnx.out] at hB3
      have HB3 := Lib.hid hB3
      have HR3 : Hid (Ready w3 w.heap.size) := .inr (HM2.out.below hb3 (by omega))
      have Hb3 := Lib.hid (Hb2.out.trans (hb3.mono (by omega)))
      clear hB3 hb3 HB2 HM2 Hb2
      go_wp2_with fail
      go_roundw
      case rel => exact ⟨i + 1, by omega, by go_num, HR3.out, HB3.out, Hb3.out⟩
      case measure => simp [intOf]; omega
    · have d1 : decide (32 * (i : Int) < (m : Int)) = false := decide_eq_false (by omega)
      have hfin : M.take m = S := by rw [hM, HS.out]; exact Hm.out i (by omega)
      have hex : (str M).extract 0 m = str S := by rw [str_take, hfin]
      have hms : (str M).size = 32 * i := by rw [str_size, hMl]
      have hlem : m ≤ 32 * i := by omega
      have HMl := Lib.hid hMl
      clear hM hfin hMl
      go_wp2_with fail
      refine (Bld.len _ _ _ HB.out).mono ?_
      rintro e w' ⟨rfl, rfl⟩
      rw [HMl.out]
      go_wp2_with fail
      refine (Bld.string _ _ _ HB.out).mono ?_
      rintro e w1 ⟨rfl, hB1, hb1⟩
      have Hb1 := Lib.hid (Hb.out.trans (hb1.mono (by omega)))
      clear hB1 hb1
      go_wp2_with fail
      go_ret
      exact ⟨rfl, Hb1.out⟩
end Go.Proofs.YtinlciofhegciaaDoor

/- Bodies of texts: what they are. Plain. -/
namespace Go.Proofs.YtinlciofhegciaaDoor
open Go.RowKit

theorem and_one (n : Int) : bits .and .i64 n 1 = n % 2 := by
  have h1 : (BitVec.ofInt 64 1).toNat = 2 ^ 1 - 1 := by decide
  have key : (BitVec.ofInt 64 n &&& BitVec.ofInt 64 1).toNat = (n % ((2 ^ 64 : Nat) : Int)).toNat % 2 ^ 1 := by
    rw [BitVec.toNat_and, BitVec.toNat_ofInt, h1, Nat.and_two_pow_sub_one_eq_mod]
  show IntKind.i64.wrap ((BitVec.ofInt 64 n &&& BitVec.ofInt 64 1).toNat : Nat) = n % 2
  rw [key, IntKind.wrap_i64]
  omega
/-- A round, a side: as bytes. -/
def roundN (r : Int) : Nat := (r % 18446744073709551616).toNat
def sideN (s : Int) : Nat := (s % 2).toNat
theorem round_val (r : Int) : IntKind.u64.wrap r = ((roundN r : Nat) : Int) := by
  have : IntKind.u64.wrap r = r % 18446744073709551616 := rfl
  rw [this, roundN]; omega
theorem side_val (s : Int) : IntKind.u64.wrap (bits .and .i64 s 1) = ((sideN s : Nat) : Int) := by
  rw [and_one]
  have : IntKind.u64.wrap (s % 2) = s % 2 % 18446744073709551616 := rfl
  rw [this, sideN]; omega
def aboutL (what : List UInt8) (r s : Int) : List UInt8 := what ++ (be 1 (sideN s) ++ be 8 (roundN r))
theorem aboutL_length (what : List UInt8) (r s : Int) : (aboutL what r s).length = what.length + 9 := by
  unfold aboutL; rw [List.length_append, List.length_append, be_length, be_length]
/-- A text's veil; its sign; six bytes as a number. -/
def veilL (k : List UInt8) (r s : Int) (t : List UInt8) : List UInt8 := ((streamOf k (aboutL [98, 111, 100, 121] r s) 8).zip t).map fun p => p.1 ^^^ p.2
def signL (k : List UInt8) (r s : Int) (t : List UInt8) : List UInt8 := (hmac k (aboutL [115, 101, 97, 108] r s ++ t)).take 4
def six (l : List UInt8) : Nat := (l.take 6).foldl (fun n c => n * 256 + c.toNat) 0
theorem stream8 (k c : List UInt8) : (streamOf k c 8).length = 8 := by
  unfold streamOf
  rw [if_neg (by omega), List.length_take]
  have : ((8 : Int).toNat + 31) / 32 = 1 := rfl
  rw [this]
  have h1 : (macs k c 1).length = 32 := by rw [macs_length]
  rw [h1]; rfl
end Go.Proofs.YtinlciofhegciaaDoor

/- strings.Builder's WriteByte: the shelf's contract laid at this translation by hand; what a walk says of it. -/
namespace Go.Proofs
open Go.Shelf
def Tryd.bw_ren : Go.Shelf.Ren := ⟨fun | 240 => 40 | 276 => 54 | 167 => 21 | n => n, fun | 0 => 0 | 3 => 3 | 4 => 4 | 5 => 5 | 9 => 9 | 20 => 20 | 37 => 39 | 70 => 42 | 72 => 44 | 75 => 46 | 80 => 48 | 164 => 92 | n => n, fun | n => n⟩
theorem Tryd.bw167 : Lays.n167 Tryd.prog Tryd.bw_ren := {
  mixed := by kernel_rfl
  f167 := Tryd.func21.trans (congrArg some (by kernel_rfl))
  f240 := Tryd.func40.trans (congrArg some (by kernel_rfl))
  f276 := Tryd.func54.trans (congrArg some (by kernel_rfl))
  t0 := Tryd.underlying0
  a0 := Tryd.isAgg0
  z0 := Tryd.sizeOf0
  v0 := Tryd.zeroValue0
  t4 := Tryd.underlying4
  a4 := Tryd.isAgg4
  z4 := Tryd.sizeOf4
  v4 := Tryd.zeroValue4
  t9 := Tryd.underlying9
  a9 := Tryd.isAgg9
  z9 := Tryd.sizeOf9
  v9 := Tryd.zeroValue9
  t20 := Tryd.underlying20
  a20 := Tryd.isAgg20
  z20 := Tryd.sizeOf20
  v20 := Tryd.zeroValue20
  t37 := Tryd.underlying39
  a37 := Tryd.isAgg39
  z37 := Tryd.sizeOf39
  v37 := Tryd.zeroValue39
  t70 := Tryd.underlying42
  a70 := Tryd.isAgg42
  z70 := Tryd.sizeOf42
  v70 := Tryd.zeroValue42
  t72 := Tryd.underlying44
  a72 := Tryd.isAgg44
  z72 := Tryd.sizeOf44
  v72 := Tryd.zeroValue44
  t75 := Tryd.underlying46
  a75 := Tryd.isAgg46
  z75 := Tryd.sizeOf46
  v75 := Tryd.zeroValue46
  t164 := Tryd.underlying92
  a164 := Tryd.isAgg92
  z164 := Tryd.sizeOf92
  v164 := Tryd.zeroValue92
  t5 := Tryd.underlying5
  a5 := Tryd.isAgg5
  z5 := Tryd.sizeOf5
  v5 := Tryd.zeroValue5
}
theorem Tryd.bw_Extra : Builder.Extra Tryd.prog Tryd.bw_ren := {
  sizeBuilder := by kernel_rfl
  liesBuilder := by kernel_rfl
  t5 := Tryd.underlying5
  a5 := Tryd.isAgg5
  z5 := Tryd.sizeOf5
  v5 := Tryd.zeroValue5
  infoByte := by kernel_rfl
  cellsByte := by kernel_rfl
  sizeByte := by kernel_rfl
  neB5 := by decide }
end Go.Proofs
namespace Go.Proofs.YtinlciofhegciaaDoor
open Go.RowKit Go.Shelf
theorem Bld.byte (b : Nat) (l : List UInt8) (c : UInt8) (w : World) (h : Bld w b l) (hl : l.length + 1 ≤ 140737488355328) :
    Calls Tryd.prog 21 #[.pointer (some ⟨b, 0, none⟩), .int .u8 (c.toNat : Int)] w fun e w' => e = .returned .nilIface ∧ Bld w' b (l ++ [c]) ∧ Below b w w' := by
  refine (Any.Builder_WriteByte_k Tryd.bw167 Tryd.bw_Extra b b _ (c.toNat : Int) w h (by simpa [Lib.byteCells] using hl) (Nat.le_of_lt h.lt)).mono ?_
  rintro e w' ⟨rfl, h1, h2, _⟩
  refine ⟨rfl, .inr ?_, h2⟩
  have : Lib.byteCells (l ++ [c]) = Lib.byteCells l ++ [.int .u8 (c.toNat : Int)] := by simp [Lib.byteCells]
  rw [this]; exact h1
end Go.Proofs.YtinlciofhegciaaDoor

/- Bytes of numbers, what a text is about: the program's walks (chapter 13). -/
namespace Go.Proofs.YtinlciofhegciaaDoor
open Go.RowKit

set_option maxRecDepth 100000 in
set_option maxHeartbeats 1000000 in
theorem sbytes_any (x size : Nat) (w : World) (h1 : 1 ≤ size) (h8 : size ≤ 8) :
    Calls Tryd.prog 9 #[.int .u64 (x : Int), .int .i64 (size : Int)] w fun e w' => e = .returned (.string (str (be size x))) ∧ Below w.heap.size w w' := by
  have HB0 := Lib.hid (Bld.new w)
  have Hb0 := Lib.hid ((Below.refl w.heap.size w).alloc (Nat.le_refl _) (.cells #[.pointer none, .slice none 0 0] 44))
  have e1 : (8 * ((size : Int) - 1)).toNat = 8 * (size - 1) := by omega
  go_enter Tryd.func9, Tryd.ntmps9
  go_wp2_with fail
  obtain ⟨W1, hW1⟩ : ∃ W1, W1 = w.alloc (.cells #[.pointer none, .slice none 0 0] 44) := ⟨_, rfl⟩
  rw [← hW1] at HB0 Hb0 ⊢
  clear hW1 e1
  go_loopw [6] (fun iv wr2 => ∃ (m : Nat) (z : Int), m ≤ size ∧ z = 8 * ((size : Int) - 1) - 8 * (m : Int) ∧ iv = .int .i64 z ∧ Bld wr2 w.heap.size ((be size x).take m) ∧ Below w.heap.size w wr2) (fun iv _ => (intOf iv + 8).toNat)
  case atStart => exact ⟨0, 8 * ((size : Int) - 1), by omega, by omega, by go_num, by simpa using HB0.out, Hb0.out⟩
  case round =>
    obtain ⟨m, z, hm, hz, rfl, hB2, hb2⟩ := hrel
    have HB2 := Lib.hid hB2
    have Hb2 := Lib.hid hb2
    have Hz := Lib.hid hz
    have z1 : z ≤ 56 := by omega
    have z2 : -8 ≤ z := by omega
    clear hB2 hb2 hz
    by_cases hlt : m < size
    · have z0 : 0 ≤ z := by have := Hz.out; omega
      have d9 : decide ((0 : Int) ≤ z) = true := decide_eq_true z0
      have hval : (Value.int .u8 ((x : Int) / 2 ^ z.toNat % 256)) = .int .u8 (((UInt8.ofNat (x / 256 ^ (size - 1 - m))).toNat : Nat) : Int) := by
        rw [show z.toNat = 8 * (size - 1 - m) by have := Hz.out; omega, be_val]
      have Hval := Lib.hid hval
      have hwr := Bld.byte w.heap.size ((be size x).take m) (UInt8.ofNat (x / 256 ^ (size - 1 - m))) _ HB2.out (by rw [List.length_take]; omega)
      rw [← be_take_succ size x m hlt, ← Hval.out] at hwr
      have Hwr := Lib.hid hwr
      clear hval hwr
      go_wp2_with (go_at_call 21; refine Hwr.out.mono ?_; rintro e w3 ⟨rfl, hB3, hb3⟩; have HB3 := Lib.hid hB3; have Hb3 := Lib.hid (Below.trans Hb2.out hb3); clear hB3 hb3)
      go_roundw
      case rel => exact ⟨m + 1, z - 8, by omega, by have := Hz.out; push_cast; omega, by go_num, HB3.out, Hb3.out⟩
      case measure => simp [intOf]; omega
    · have z0 : z < 0 := by have := Hz.out; omega
      have d9 : decide ((0 : Int) ≤ z) = false := decide_eq_false (by omega)
      have hm8 : (be size x).take m = be size x := List.take_of_length_le (by rw [be_length]; omega)
      have hBn := HB2.out
      rw [hm8] at hBn
      have HBn := Lib.hid hBn
      clear hm8 hBn
      go_wp2_with (go_at_call 22; refine (Bld.string w.heap.size _ _ HBn.out).mono ?_; rintro e w3 ⟨rfl, hB3, hb3⟩; have Hb3 := Lib.hid (Below.trans Hb2.out hb3); clear hB3 hb3)
      go_ret
      exact ⟨rfl, Hb3.out⟩
end Go.Proofs.YtinlciofhegciaaDoor

/- About a text, its sign; the reference's bytes: walks. -/
namespace Go.Proofs.YtinlciofhegciaaDoor
open Go.RowKit

set_option maxRecDepth 100000 in
set_option maxHeartbeats 1000000 in
theorem about_any (what : List UInt8) (r s : Int) (w : World) (hw : what.length ≤ 1000000) :
    Calls Tryd.prog 23 #[.string (str what), .int .i64 r, .int .i64 s] w fun e w' => e = .returned (.string (str (aboutL what r s))) ∧ Below w.heap.size w w' := by
  have hs := side_val s
  have hr := round_val r
  have a1 := str_add Tryd.prog what (be 1 (sideN s)) (by rw [be_length]; omega)
  have a2 := str_add Tryd.prog (what ++ be 1 (sideN s)) (be 8 (roundN r)) (by rw [List.length_append, be_length, be_length]; omega)
  go_enter Tryd.func23, Tryd.ntmps23
  go_wp2_with fail
  refine (sbytes_any (sideN s) 1 w (by omega) (by omega)).mono ?_
  rintro e w1 ⟨rfl, hb1⟩
  have Hb1 := Lib.hid hb1
  clear hb1
  go_wp2_with fail
  refine (sbytes_any (roundN r) 8 w1 (by omega) (by omega)).mono ?_
  rintro e w2 ⟨rfl, hb2⟩
  have Hb2 := Lib.hid (below_trans Hb1.out hb2)
  clear hb2
  go_wp2_with fail
  go_ret
  exact ⟨rfl, Hb2.out⟩
set_option maxRecDepth 100000 in
set_option maxHeartbeats 1000000 in
theorem refSide_any (s : Int) (w : World) (h1 : -9223372036854775808 ≤ s) (h2 : s ≤ 9223372036854775807) :
    Calls Tryd.prog 15 #[.int .i64 s] w fun e w' => e = .returned (.string (str (be 1 (sideN s)))) ∧ Below w.heap.size w w' := by
  have hb : be 1 (sideN s) = if s.tmod 2 = 0 then [0] else [1] := by
    have h3 : s.tmod 2 = 0 ↔ s % 2 = 0 := by
      rw [← Int.dvd_iff_tmod_eq_zero, Int.dvd_iff_emod_eq_zero]
    have h4 : s % 2 = 0 ∨ s % 2 = 1 := by omega
    rcases h4 with h4 | h4
    · rw [if_pos (h3.2 h4), sideN, h4]; rfl
    · rw [if_neg (fun h => by have := h3.1 h; omega), sideN, h4]; rfl
  rw [hb]
  by_cases h : s.tmod 2 = 0
  · have d1 : (s.tmod 2 == 0) = true := by rw [h]; rfl
    rw [if_pos h]
    go_enter Tryd.func15, Tryd.ntmps15
    go_wp2_with fail
    go_ret
    exact ⟨rfl, Below.refl _ _⟩
  · have d1 : (s.tmod 2 == 0) = false := by rw [beq_eq_false_iff_ne]; exact h
    rw [if_neg h]
    go_enter Tryd.func15, Tryd.ntmps15
    go_wp2_with fail
    go_ret
    exact ⟨rfl, Below.refl _ _⟩
set_option maxRecDepth 100000 in
set_option maxHeartbeats 1000000 in
theorem refRound_any (r : Int) (w : World) :
    Calls Tryd.prog 16 #[.int .i64 r] w fun e w' => e = .returned (.string (str (be 8 (roundN r)))) ∧ Below w.heap.size w w' := by
  have hr := round_val r
  go_enter Tryd.func16, Tryd.ntmps16
  go_wp2_with fail
  refine (bytes_any (roundN r) 8 w (by omega) (by omega)).mono ?_
  rintro e w1 ⟨rfl, hb1⟩
  have Hb1 := Lib.hid hb1
  clear hb1
  go_wp2_with fail
  go_ret
  exact ⟨rfl, Hb1.out⟩
set_option maxRecDepth 100000 in
set_option maxHeartbeats 1000000 in
theorem sign_any (k : List UInt8) (r s : Int) (t : List UInt8) (w : World) (hk : k.length ≤ 1000000) (ht : t.length ≤ 1000000) :
    Calls Tryd.prog 10 #[.string (str k), .int .i64 r, .int .i64 s, .string (str t)] w fun e w' => e = .returned (.string (str (signL k r s t))) ∧ Below w.heap.size w w' := by
  have hab := about_any [115, 101, 97, 108] r s w (by simp)
  have hla := aboutL_length [115, 101, 97, 108] r s
  obtain ⟨a, ha⟩ : ∃ a, a = aboutL [115, 101, 97, 108] r s := ⟨_, rfl⟩
  rw [← ha] at hab hla
  simp only [List.length_cons, List.length_nil] at hla
  have hm := fun W => macTop_any k (a ++ t) W (by omega) (by rw [List.length_append]; omega)
  have hml : (hmac k (a ++ t)).length = 32 := hmac_length k (a ++ t)
  have hsg : signL k r s t = (hmac k (a ++ t)).take 4 := by rw [signL, ← ha]
  obtain ⟨m, hm0⟩ : ∃ m, m = hmac k (a ++ t) := ⟨_, rfl⟩
  rw [← hm0] at hm hml hsg
  rw [hsg]
  have a1 := str_add Tryd.prog a t (by omega)
  have hsz : (str m).size = 32 := by rw [str_size, hml]
  have hex : (str m).extract 0 4 = str (m.take 4) := str_take m 4
  have Hab := Lib.hid hab
  have Hm := Lib.hid hm
  clear hab hm ha hsg hm0
  go_enter Tryd.func10, Tryd.ntmps10
  go_wp2_with fail
  refine Hab.out.mono ?_
  rintro e w1 ⟨rfl, hb1⟩
  have Hb1 := Lib.hid hb1
  clear hb1
  go_wp2_with fail
  refine (Hm.out w1).mono ?_
  rintro e w2 ⟨rfl, hb2⟩
  have Hb2 := Lib.hid (below_trans Hb1.out hb2)
  clear hb2
  go_wp2_with fail
  go_ret
  exact ⟨rfl, Hb2.out⟩
end Go.Proofs.YtinlciofhegciaaDoor

/- A region that draws its order, whose operations only read and whose callees leave the old blocks as they are (they may draw and lay blocks): walked once, in the order of the text. -/
namespace Go.Proofs.YtinlciofhegciaaDoor
open Go.RowKit Go.BigFrame

/-- A world in which w's blocks stand as in w. -/
structure Later (w : World) where
  val : World
  below : Below w.heap.size w val
instance (w : World) : Inhabited (Later w) := ⟨⟨w, Below.refl _ _⟩⟩
theorem Later.cell {w : World} {a : Addr} {v : Value} (h : w.cell? a = some v) (p : Later w) : p.val.cell? a = some v := below_cell p.below h
theorem region_calm {P : Program} {id : Nat} {Q : Exit → Act → World → Prop} {a : Act} {w : World} {l : List Oper} (hm : P.follows .mixedOrders = true) (hB : Region.lexB .any l.toArray = true)
    (h : wpQuiet P l.toArray (fun w' => ∃ p : Later w, w' = p.val) (fun a' => ∀ w', (∃ p : Later w, w' = p.val) → Q .normal a' w') l a) : (Code.region id l.toArray true).wp P Q a w :=
  wp_region_quiet (C := fun w' => ∃ p : Later w, w' = p.val) hm hB ⟨⟨_, (Below.refl _ _).drew⟩, rfl⟩ (by simpa using h)
theorem calm_of {P : Program} {f : FuncId} {args : Array Value} {w : World} {p : Later w} {v : Value}
    (h : Calls P f args p.val fun e w' => e = .returned v ∧ Below p.val.heap.size p.val w') : Calls P f args p.val fun e w'' => e = .returned v ∧ ∃ q : Later w, w'' = q.val :=
  h.mono fun _ w' ⟨he, hb⟩ => ⟨he, ⟨w', below_trans p.below hb⟩, rfl⟩
theorem calm_drew {P : Program} {f : FuncId} {args : Array Value} {w : World} {p : Later w} {v : Value}
    (h : Calls P f args p.val fun e w' => e = .returned v ∧ ∃ n, w' = p.val.drewN n) : Calls P f args p.val fun e w'' => e = .returned v ∧ ∃ q : Later w, w'' = q.val :=
  h.mono fun _ w' ⟨he, n, hb⟩ => ⟨he, ⟨w', by rw [hb]; exact below_drewN p.below n⟩, rfl⟩
theorem calm_same {P : Program} {f : FuncId} {args : Array Value} {w : World} {p : Later w} {v : Value}
    (h : Calls P f args p.val fun e w' => e = .returned v ∧ p.val = w') : Calls P f args p.val fun e w'' => e = .returned v ∧ ∃ q : Later w, w'' = q.val :=
  h.mono fun _ w' ⟨he, hb⟩ => ⟨he, p, hb.symm⟩

end Go.Proofs.YtinlciofhegciaaDoor
