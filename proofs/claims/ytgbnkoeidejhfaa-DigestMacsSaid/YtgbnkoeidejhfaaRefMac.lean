import Derived.Test.YtgbnkoeidejhfaaRefSum
import Derived.Test.YtgbnkoeidejhfaaDigM
namespace Go.Proofs.Ytgbnkoeidejhfaa
open Go.RowKit

theorem Row.of_blk {w : World} {b : Nat} {T : TypeId} {cs : List Value} (h : Blk w b T cs) (n : Nat) (hn : cs.length = n) (hm : n ≤ maxLen) : Row w b T 1 (.slice (some ⟨b, 0, none⟩) n n) n cs := by
  refine ⟨by omega, .inr ⟨b, n, cs.toArray, (0, 0), rfl, Nat.le_refl _, h, fun o _ => by simp, Nat.le_refl _, hm, by simp [hn], ?_⟩⟩
  simp [List.take_of_length_le (show cs.length ≤ n by omega)]

def padN (k : List UInt8) (c : UInt8) (i : Nat) : List UInt8 := (padKey k c).take i ++ List.replicate (64 - i) 0
def keyByte (k : List UInt8) (i : Nat) : UInt8 := k.getD i 0
theorem padN_succ (k : List UInt8) (c : UInt8) (i : Nat) (hk : k.length ≤ 64) (hi : i < 64) : (padN k c i).set i (keyByte k i ^^^ c) = padN k c (i + 1) := by
  have hl := padKey_length k c hk
  have ht : ((padKey k c).take i).length = i := by rw [List.length_take]; omega
  unfold padN
  rw [List.set_append_right _ _ (by omega), ht, Nat.sub_self, show 64 - i = (64 - (i + 1)) + 1 by omega, List.replicate_succ, List.set_cons_zero,
    List.take_succ_eq_append_getElem (by omega), List.append_assoc]
  congr 1
  rw [List.singleton_append]
  congr 1
  simp only [padKey, List.getElem_map, keyByte, List.getD_eq_getElem?_getD]
  congr 1
  by_cases h : i < k.length
  · rw [List.getElem_append_left h, List.getElem?_eq_getElem h]; rfl
  · rw [List.getElem_append_right (by omega), List.getElem_replicate, List.getElem?_eq_none (by omega)]; rfl
theorem padN_end (k : List UInt8) (c : UInt8) (hk : k.length ≤ 64) : padN k c 64 = padKey k c := by
  have hl := padKey_length k c hk
  simp [padN, List.take_of_length_le (show (padKey k c).length ≤ 64 by omega)]
theorem padN_length (k : List UInt8) (c : UInt8) (i : Nat) (hk : k.length ≤ 64) (hi : i ≤ 64) : (padN k c i).length = 64 := by
  have hl := padKey_length k c hk
  simp [padN, List.length_take]; omega
theorem padN_zero (k : List UInt8) (c : UInt8) (i : Nat) (hk : k.length ≤ 64) (hi : i < 64) : (padN k c i)[i]? = some 0 := by
  have hl := padKey_length k c hk
  have ht : ((padKey k c).take i).length = i := by rw [List.length_take]; omega
  unfold padN
  rw [List.getElem?_append_right (by omega), ht, Nat.sub_self, List.getElem?_replicate, if_pos (by omega)]

theorem mk64 : (madeCells #[Value.int .u8 0] 64).toList = vbytes (List.replicate 64 0) := by kernel_rfl
theorem madeN (k : List UInt8) (c : UInt8) : (madeCells #[Value.int .u8 0] 64).toList = vbytes (padN k c 0) := by
  have : padN k c 0 = List.replicate 64 0 := by simp [padN]
  rw [this]
  exact mk64
noncomputable def macLoop : Code := nthLoop (Try.f14.body.getD .skip) 0

set_option maxRecDepth 100000 in
set_option maxHeartbeats 1000000 in
theorem macLoop_any (k : List UInt8) (bi bo : Nat) (w0 : World) (Q : Exit → Act → World → Prop) (hk : k.length ≤ 64) (hne : bi ≠ bo) (B : Nat) (hbi : B ≤ bi) (hbo : B ≤ bo) (h1 : Blk w0 bi 5 (vbytes (padN k 54 0))) (h2 : Blk w0 bo 5 (vbytes (padN k 92 0)))
    (x1 x2 x3 x4 x8 x9 x10 x11 x12 x13 x14 x15 x16 x17 x18 x19 x20 x21 x22 x23 x24 x25 x26 x27 x28 x29 x30 x31 x32 x33 x34 x35 x36 x37 x38 x39 x40 x41 x42 x43 x44 x45 : Value)
    (hexit : ∀ (u7 u8 u16 u17 u18 u19 u20 u21 u22 u23 u24 u25 u26 u27 u28 u29 u30 u31 u32 u33 u34 u35 u36 : Value) (w' : World), Blk w' bi 5 (vbytes (padKey k 54)) → Blk w' bo 5 (vbytes (padKey k 92)) → Below B w0 w' →
      Q (.exit 0) ⟨List.toArray (.string (str k) :: x1 :: x2 :: x3 :: x4 :: .slice (some ⟨bi, 0, none⟩) 64 64 :: .slice (some ⟨bo, 0, none⟩) 64 64 :: u7 :: u8 :: x9 :: x10 :: x11 :: x12 :: x13 :: x14 :: x15 :: u16 :: u17 :: u18 :: u19 :: u20 :: u21 :: u22 :: u23 :: u24 :: u25 :: u26 :: u27 :: u28 :: u29 :: u30 :: u31 :: u32 :: u33 :: u34 :: u35 :: u36 :: x37 :: x38 :: x39 :: x40 :: x41 :: x42 :: x43 :: x44 :: x45 :: []), []⟩ w') :
    (Code.loop macLoop).wp Try.prog Q ⟨List.toArray (.string (str k) :: x1 :: x2 :: x3 :: x4 :: .slice (some ⟨bi, 0, none⟩) 64 64 :: .slice (some ⟨bo, 0, none⟩) 64 64 :: .int .i64 0 :: x8 :: x9 :: x10 :: x11 :: x12 :: x13 :: x14 :: x15 :: x16 :: x17 :: x18 :: x19 :: x20 :: x21 :: x22 :: x23 :: x24 :: x25 :: x26 :: x27 :: x28 :: x29 :: x30 :: x31 :: x32 :: x33 :: x34 :: x35 :: x36 :: x37 :: x38 :: x39 :: x40 :: x41 :: x42 :: x43 :: x44 :: x45 :: []), []⟩ w0 := by
  have Hexit := Lib.hid hexit
  have H1 := Lib.hid h1
  have H2 := Lib.hid h2
  have hks := str_size k
  clear hexit h1 h2
  conv => arg 2; arg 1; whnf
  go_loopw [7] (fun y wr => ∃ i : Nat, i ≤ 64 ∧ y = .int .i64 (i : Int) ∧ Blk wr bi 5 (vbytes (padN k 54 i)) ∧ Blk wr bo 5 (vbytes (padN k 92 i)) ∧ Below B w0 wr) (fun y _ => (64 - intOf y).toNat)
  case atStart => exact ⟨0, by omega, rfl, H1.out, H2.out, Below.refl _ _⟩
  case round =>
    obtain ⟨i, hi, rfl, hA, hO, hB⟩ := hrel
    by_cases h64 : i < 64
    · have b64 : decide ((i : Int) < 64) = true := decide_eq_true (by omega)
      have c64 : (i : Int) < 64 := by omega
      have zi : wr.cell? ⟨bi, i, none⟩ = some (.int .u8 0) := by rw [hA.cell, vbytes, List.getElem?_map, padN_zero k 54 i hk h64]; rfl
      have zo : wr.cell? ⟨bo, i, none⟩ = some (.int .u8 0) := by rw [hO.cell, vbytes, List.getElem?_map, padN_zero k 92 i hk h64]; rfl
      have fi := hA.frozen i
      have fo := hO.frozen i
      obtain ⟨c, hc⟩ : ∃ c, c = keyByte k i := ⟨_, rfl⟩
      have x1 : bits .xor .u8 (c.toNat : Int) 54 = ((c ^^^ 54).toNat : Int) := by
        rw [show (54 : Int) = ((54 : UInt8).toNat : Int) from rfl, u8_xor_nat _ _ c.toNat_lt (54 : UInt8).toNat_lt]; rfl
      have x2 : bits .xor .u8 (c.toNat : Int) 92 = ((c ^^^ 92).toNat : Int) := by
        rw [show (92 : Int) = ((92 : UInt8).toNat : Int) from rfl, u8_xor_nat _ _ c.toNat_lt (92 : UInt8).toNat_lt]; rfl
      have s1 := hA.set i (.int .u8 ((c ^^^ 54).toNat : Int))
      have s2 := hO.set i (.int .u8 ((c ^^^ 92).toNat : Int))
      rw [show (vbytes (padN k 54 i)).set i (.int .u8 ((c ^^^ 54).toNat : Int)) = vbytes (padN k 54 (i + 1)) from by rw [hc, ← padN_succ k 54 i hk h64, vbytes, vbytes, List.map_set]] at s1
      rw [show (vbytes (padN k 92 i)).set i (.int .u8 ((c ^^^ 92).toNat : Int)) = vbytes (padN k 92 (i + 1)) from by rw [hc, ← padN_succ k 92 i hk h64, vbytes, vbytes, List.map_set]] at s2
      have t1 : Blk ((wr.setCell ⟨bi, i, none⟩ (.int .u8 ((c ^^^ 54).toNat : Int))).setCell ⟨bo, i, none⟩ (.int .u8 ((c ^^^ 92).toNat : Int))) bi 5 (vbytes (padN k 54 (i + 1))) := s1.other (by exact hne) _
      have t2 : Blk ((wr.setCell ⟨bi, i, none⟩ (.int .u8 ((c ^^^ 54).toNat : Int))).setCell ⟨bo, i, none⟩ (.int .u8 ((c ^^^ 92).toNat : Int))) bo 5 (vbytes (padN k 92 (i + 1))) := by
        have h := (hO.other (a := ⟨bi, i, none⟩) (fun h => hne h.symm) (.int .u8 ((c ^^^ 54).toNat : Int))).set i (.int .u8 ((c ^^^ 92).toNat : Int))
        rwa [show (vbytes (padN k 92 i)).set i (.int .u8 ((c ^^^ 92).toNat : Int)) = vbytes (padN k 92 (i + 1)) from by rw [hc, ← padN_succ k 92 i hk h64, vbytes, vbytes, List.map_set]] at h
      have T1 := Lib.hid t1
      have T2 := Lib.hid t2
      have HB := Lib.hid (below_set (below_set hB hbi i (.int .u8 ((c ^^^ 54).toNat : Int))) hbo i (.int .u8 ((c ^^^ 92).toNat : Int)))
      clear hA hO hB s1 s2 t1 t2 H1 H2
      by_cases hik : i < k.length
      · have bk : decide ((i : Int) < (k.length : Int)) = true := decide_eq_true (by omega)
        have hck : k[i]? = some c := by rw [hc, keyByte, List.getD_eq_getElem?_getD, List.getElem?_eq_getElem hik]; rfl
        have hidx : ∀ W : World, (Instr.index 9 (.string (str k)) (.int .i64 (i : Int))).run Try.prog W = .ok (.int .u8 (c.toNat : Int)) W :=
          fun W => run_index_str Try.underlying_str (str k) (i : Int) i c rfl (by rw [str_get]; exact hck) W
        clear hc hck
        go_wp2_with fail
        go_roundw
        case rel => exact ⟨i + 1, by omega, by go_num, T1.out, T2.out, HB.out⟩
        case measure => simp [intOf]; omega
      · have bk : decide ((i : Int) < (k.length : Int)) = false := decide_eq_false (by omega)
        have hc0 : c = 0 := by rw [hc, keyByte, List.getD_eq_getElem?_getD, List.getElem?_eq_none (by omega)]; rfl
        clear hc
        subst hc0
        have x1 : bits .xor .u8 0 54 = (((0 : UInt8) ^^^ 54).toNat : Int) := x1
        have x2 : bits .xor .u8 0 92 = (((0 : UInt8) ^^^ 92).toNat : Int) := x2
        go_wp2_with fail
        go_roundw
        case rel => exact ⟨i + 1, by omega, by go_num, T1.out, T2.out, HB.out⟩
        case measure => simp [intOf]; omega
    · have b64 : decide ((i : Int) < 64) = false := decide_eq_false (by omega)
      have hi64 : i = 64 := by omega
      rw [hi64, padN_end k _ hk] at hA hO
      have HA := Lib.hid hA
      have HO := Lib.hid hO
      have HB := Lib.hid hB
      clear hi64 hA hO hB H1 H2
      go_wp2_with fail
      exact Hexit.out _ _ _ _ _ _ _ _ _ _ _ _ _ _ _ _ _ _ _ _ _ _ _ _ HA.out HO.out HB.out

set_option maxRecDepth 100000 in
set_option maxHeartbeats 1000000 in
theorem refMac_any (k s : List UInt8) (w : World) (hk : k.length ≤ 1099511627776) (hs : s.length ≤ 549755813888) :
    Calls Try.prog 14 #[.string (str k), .string (str s)] w fun e w' => e = .returned (.string (str (hmac k s))) ∧ Below w.heap.size w w' := by
  have hks := str_size k
  have hmk : ∀ W : World, (Instr.makeSlice 64 (.int .i64 64) (.int .i64 64)).run Try.prog W = .ok (.slice (some ⟨W.heap.size, 0, none⟩) 64 64) (W.alloc (.cells (madeCells #[.int .u8 0] 64) 5)) :=
    fun W => run_make_row' 64 5 (.int .u8 0) 1 Try.underlying_bytes Try.info_u8 rfl .i64 .i64 64 (by omega) (by omega) W
  by_cases h64 : 64 < k.length
  · have b64 : decide ((64 : Int) < (k.length : Int)) = true := decide_eq_true (by omega)
    have Hmk : Hid (macKey k = sha k) := by show macKey k = sha k; rw [macKey, if_pos h64]
    have HkL : Hid ((sha k).length ≤ 64) := by show (sha k).length ≤ 64; rw [sha_length]; omega
    go_enter Try.func14, Try.ntmps14
    go_wp2_with fail
    refine (refSum_any k _ hk).mono ?_
    rintro e w1 ⟨rfl, hb1⟩
    have HBW := Lib.hid hb1
    clear hb1
    go_wp2_with fail
    clear hmk b64
    have hz1 : (Blk ((w1.alloc (.cells (madeCells #[.int .u8 0] 64) 5)).alloc (.cells (madeCells #[.int .u8 0] 64) 5)) w1.heap.size 5 (vbytes (padN (sha k) 54 0))) := (Blk.of _ _ _ _ (madeN _ _)).alloc _
    have hz2 : (Blk ((w1.alloc (.cells (madeCells #[.int .u8 0] 64) 5)).alloc (.cells (madeCells #[.int .u8 0] 64) 5)) (w1.heap.size + 1) 5 (vbytes (padN (sha k) 92 0))) := by
      have := Blk.of (w1.alloc (.cells (madeCells #[.int .u8 0] 64) 5)) 5 (madeCells #[.int .u8 0] 64) (vbytes (padN (sha k) 92 0)) (madeN _ _)
      simpa using this
    have HZ1 := Lib.hid hz1
    have HZ2 := Lib.hid hz2
    clear hz1 hz2
    refine macLoop_any (sha k) w1.heap.size (w1.heap.size + 1) _ _ HkL.out (by omega) w1.heap.size (by omega) (by omega) HZ1.out HZ2.out _ _ _ _ _ _ _ _ _ _ _ _ _ _ _ _ _ _ _ _ _ _ _ _ _ _ _ _ _ _ _ _ _ _ _ _ _ _ _ _ _ _ ?_
    intro u7 u8 u16 u17 u18 u19 u20 u21 u22 u23 u24 u25 u26 u27 u28 u29 u30 u31 u32 u33 u34 u35 u36 w2 hA hO hb2
    have l54 : (padKey (sha k) 54).length = 64 := padKey_length _ _ HkL.out
    have l92 : (padKey (sha k) 92).length = 64 := padKey_length _ _ HkL.out
    have hri := Row.of_blk hA 64 (by rw [vbytes_length, l54]) (by simp [maxLen])
    have hro := Row.of_blk hO 64 (by rw [vbytes_length, l92]) (by simp [maxLen])
    obtain ⟨y1, hy1⟩ : ∃ y, y = padKey (sha k) 54 := ⟨_, rfl⟩
    obtain ⟨y2, hy2⟩ : ∃ y, y = padKey (sha k) 92 := ⟨_, rfl⟩
    rw [← hy1] at hri l54
    rw [← hy2] at hro l92
    have hci : ∀ w', Below w2.heap.size w2 w' → (convert 64 9 (.slice (some ⟨w1.heap.size, 0, none⟩) 64 64)).run Try.prog w' = .ok (.string (str y1)) w' := fun w' hb =>
      Row.string Try.underlying_bytes Try.underlying_u8 Try.underlying_str (by rw [l54]; exact hri.below hb)
    have hco : ∀ w', Below w2.heap.size w2 w' → (convert 64 9 (.slice (some ⟨w1.heap.size + 1, 0, none⟩) 64 64)).run Try.prog w' = .ok (.string (str y2)) w' := fun w' hb =>
      Row.string Try.underlying_bytes Try.underlying_u8 Try.underlying_str (by rw [l92]; exact hro.below hb)
    obtain ⟨x1, hx1⟩ : ∃ x, x = y1 ++ s := ⟨_, rfl⟩
    obtain ⟨s1, hs1⟩ : ∃ x, x = sha x1 := ⟨_, rfl⟩
    obtain ⟨x2, hx2⟩ : ∃ x, x = y2 ++ s1 := ⟨_, rfl⟩
    have l1 : x1.length = 64 + s.length := by rw [hx1, List.length_append, l54]
    have l2 : x2.length = 96 := by rw [hx2, List.length_append, l92, hs1, sha_length]
    have a1 := str_add Try.prog y1 s (by omega)
    have a2 := str_add Try.prog y2 s1 (by rw [l92, hs1, sha_length]; omega)
    rw [← hx1] at a1
    rw [← hx2] at a2
    have hfin : hmac k s = sha x2 := by rw [hx2, hs1, hx1, hy1, hy2, hmac]; simp only [Hmk.out]
    have Hfin := Lib.hid hfin
    have Hs1 := Lib.hid hs1
    have L1 := Lib.hid l1
    have L2 := Lib.hid l2
    have HBW2 := Lib.hid (HBW.out.trans (((((Below.refl _ w1).alloc (Nat.le_refl _) _).alloc (by simp) _).trans hb2).mono HBW.out.size))
    clear hy1 hy2 hx1 hx2 hs1 hfin l1 l2 l54 l92 hri hro hA hO hb2 HZ1 HZ2
    go_wp2_with fail
    refine region_quiet_tail (fun w' => Below w2.heap.size w2 w') 9 Try.mixed (by kernel_rfl) (Below.refl _ _).drew ?_
    simp only [List.take_succ_cons, List.take_zero, List.drop_succ_cons, List.drop_zero]
    refine wpQuiet_step (fun K hK => ?_)
    go_simp
    refine ⟨_, fun w' hb => rfl, hK _ ?_⟩
    clear hK K
    refine wpQuiet_step (fun K hK => ?_)
    go_simp
    refine ⟨_, fun w' hb => by rw [hco w' hb]; exact ⟨rfl, rfl⟩, hK _ ?_⟩
    clear hK K
    refine wpQuiet_step (fun K hK => ?_)
    go_simp
    refine ⟨_, fun w' hb => rfl, hK _ ?_⟩
    clear hK K
    refine wpQuiet_step (fun K hK => ?_)
    go_simp
    refine ⟨_, fun w' hb => by rw [hci w' hb]; exact ⟨rfl, rfl⟩, hK _ ?_⟩
    clear hK K
    refine wpQuiet_step (fun K hK => ?_)
    go_simp
    refine ⟨_, fun w' hb => rfl, hK _ ?_⟩
    clear hK K
    refine wpQuiet_step (fun K hK => ?_)
    go_simp
    refine ⟨_, fun w' hb => rfl, hK _ ?_⟩
    clear hK K
    refine wpQuiet_step (fun K hK => ?_)
    go_simp
    refine ⟨.string (str s1), fun w' hb => ?_, hK _ ?_⟩
    · refine (refSum_any x1 _ (by have := L1.out; omega)).mono ?_
      rintro e w3 ⟨rfl, hb3⟩
      exact ⟨by rw [Hs1.out], below_trans hb hb3⟩
    clear hK K
    refine wpQuiet_step (fun K hK => ?_)
    go_simp
    refine ⟨_, fun w' hb => rfl, hK _ ?_⟩
    clear hK K
    refine wpQuiet_step (fun K hK => ?_)
    go_simp
    refine ⟨.string (str (sha x2)), fun w' hb => ?_, hK _ ?_⟩
    · refine (refSum_any x2 _ (by have := L2.out; omega)).mono ?_
      rintro e w3 ⟨rfl, hb3⟩
      exact ⟨rfl, below_trans hb hb3⟩
    clear hK K
    refine wpQuiet_nil ?_
    intro w4 hb4
    have HB4 := Lib.hid (HBW2.out.trans (hb4.mono HBW2.out.size))
    rw [← Hfin.out]
    clear hb4
    go_wp2_with fail
    go_ret
    exact ⟨rfl, HB4.out⟩
  · have b64 : decide ((64 : Int) < (k.length : Int)) = false := decide_eq_false (by omega)
    have Hmk : Hid (macKey k = k) := by show macKey k = k; rw [macKey, if_neg h64]
    have HkL : Hid (k.length ≤ 64) := by show k.length ≤ 64; omega
    have HBW := Lib.hid (Below.refl w.heap.size w)
    go_enter Try.func14, Try.ntmps14
    go_wp2_with fail
    clear hmk b64
    have hz1 : (Blk ((w.alloc (.cells (madeCells #[.int .u8 0] 64) 5)).alloc (.cells (madeCells #[.int .u8 0] 64) 5)) w.heap.size 5 (vbytes (padN (k) 54 0))) := (Blk.of _ _ _ _ (madeN _ _)).alloc _
    have hz2 : (Blk ((w.alloc (.cells (madeCells #[.int .u8 0] 64) 5)).alloc (.cells (madeCells #[.int .u8 0] 64) 5)) (w.heap.size + 1) 5 (vbytes (padN (k) 92 0))) := by
      have := Blk.of (w.alloc (.cells (madeCells #[.int .u8 0] 64) 5)) 5 (madeCells #[.int .u8 0] 64) (vbytes (padN (k) 92 0)) (madeN _ _)
      simpa using this
    have HZ1 := Lib.hid hz1
    have HZ2 := Lib.hid hz2
    clear hz1 hz2
    refine macLoop_any (k) w.heap.size (w.heap.size + 1) _ _ HkL.out (by omega) w.heap.size (by omega) (by omega) HZ1.out HZ2.out _ _ _ _ _ _ _ _ _ _ _ _ _ _ _ _ _ _ _ _ _ _ _ _ _ _ _ _ _ _ _ _ _ _ _ _ _ _ _ _ _ _ ?_
    intro u7 u8 u16 u17 u18 u19 u20 u21 u22 u23 u24 u25 u26 u27 u28 u29 u30 u31 u32 u33 u34 u35 u36 w2 hA hO hb2
    have l54 : (padKey (k) 54).length = 64 := padKey_length _ _ HkL.out
    have l92 : (padKey (k) 92).length = 64 := padKey_length _ _ HkL.out
    have hri := Row.of_blk hA 64 (by rw [vbytes_length, l54]) (by simp [maxLen])
    have hro := Row.of_blk hO 64 (by rw [vbytes_length, l92]) (by simp [maxLen])
    obtain ⟨y1, hy1⟩ : ∃ y, y = padKey (k) 54 := ⟨_, rfl⟩
    obtain ⟨y2, hy2⟩ : ∃ y, y = padKey (k) 92 := ⟨_, rfl⟩
    rw [← hy1] at hri l54
    rw [← hy2] at hro l92
    have hci : ∀ w', Below w2.heap.size w2 w' → (convert 64 9 (.slice (some ⟨w.heap.size, 0, none⟩) 64 64)).run Try.prog w' = .ok (.string (str y1)) w' := fun w' hb =>
      Row.string Try.underlying_bytes Try.underlying_u8 Try.underlying_str (by rw [l54]; exact hri.below hb)
    have hco : ∀ w', Below w2.heap.size w2 w' → (convert 64 9 (.slice (some ⟨w.heap.size + 1, 0, none⟩) 64 64)).run Try.prog w' = .ok (.string (str y2)) w' := fun w' hb =>
      Row.string Try.underlying_bytes Try.underlying_u8 Try.underlying_str (by rw [l92]; exact hro.below hb)
    obtain ⟨x1, hx1⟩ : ∃ x, x = y1 ++ s := ⟨_, rfl⟩
    obtain ⟨s1, hs1⟩ : ∃ x, x = sha x1 := ⟨_, rfl⟩
    obtain ⟨x2, hx2⟩ : ∃ x, x = y2 ++ s1 := ⟨_, rfl⟩
    have l1 : x1.length = 64 + s.length := by rw [hx1, List.length_append, l54]
    have l2 : x2.length = 96 := by rw [hx2, List.length_append, l92, hs1, sha_length]
    have a1 := str_add Try.prog y1 s (by omega)
    have a2 := str_add Try.prog y2 s1 (by rw [l92, hs1, sha_length]; omega)
    rw [← hx1] at a1
    rw [← hx2] at a2
    have hfin : hmac k s = sha x2 := by rw [hx2, hs1, hx1, hy1, hy2, hmac]; simp only [Hmk.out]
    have Hfin := Lib.hid hfin
    have Hs1 := Lib.hid hs1
    have L1 := Lib.hid l1
    have L2 := Lib.hid l2
    have HBW2 := Lib.hid (HBW.out.trans (((((Below.refl _ w).alloc (Nat.le_refl _) _).alloc (by simp) _).trans hb2).mono HBW.out.size))
    clear hy1 hy2 hx1 hx2 hs1 hfin l1 l2 l54 l92 hri hro hA hO hb2 HZ1 HZ2
    go_wp2_with fail
    refine region_quiet_tail (fun w' => Below w2.heap.size w2 w') 9 Try.mixed (by kernel_rfl) (Below.refl _ _).drew ?_
    simp only [List.take_succ_cons, List.take_zero, List.drop_succ_cons, List.drop_zero]
    refine wpQuiet_step (fun K hK => ?_)
    go_simp
    refine ⟨_, fun w' hb => rfl, hK _ ?_⟩
    clear hK K
    refine wpQuiet_step (fun K hK => ?_)
    go_simp
    refine ⟨_, fun w' hb => by rw [hco w' hb]; exact ⟨rfl, rfl⟩, hK _ ?_⟩
    clear hK K
    refine wpQuiet_step (fun K hK => ?_)
    go_simp
    refine ⟨_, fun w' hb => rfl, hK _ ?_⟩
    clear hK K
    refine wpQuiet_step (fun K hK => ?_)
    go_simp
    refine ⟨_, fun w' hb => by rw [hci w' hb]; exact ⟨rfl, rfl⟩, hK _ ?_⟩
    clear hK K
    refine wpQuiet_step (fun K hK => ?_)
    go_simp
    refine ⟨_, fun w' hb => rfl, hK _ ?_⟩
    clear hK K
    refine wpQuiet_step (fun K hK => ?_)
    go_simp
    refine ⟨_, fun w' hb => rfl, hK _ ?_⟩
    clear hK K
    refine wpQuiet_step (fun K hK => ?_)
    go_simp
    refine ⟨.string (str s1), fun w' hb => ?_, hK _ ?_⟩
    · refine (refSum_any x1 _ (by have := L1.out; omega)).mono ?_
      rintro e w3 ⟨rfl, hb3⟩
      exact ⟨by rw [Hs1.out], below_trans hb hb3⟩
    clear hK K
    refine wpQuiet_step (fun K hK => ?_)
    go_simp
    refine ⟨_, fun w' hb => rfl, hK _ ?_⟩
    clear hK K
    refine wpQuiet_step (fun K hK => ?_)
    go_simp
    refine ⟨.string (str (sha x2)), fun w' hb => ?_, hK _ ?_⟩
    · refine (refSum_any x2 _ (by have := L2.out; omega)).mono ?_
      rintro e w3 ⟨rfl, hb3⟩
      exact ⟨rfl, below_trans hb hb3⟩
    clear hK K
    refine wpQuiet_nil ?_
    intro w4 hb4
    have HB4 := Lib.hid (HBW2.out.trans (hb4.mono HBW2.out.size))
    rw [← Hfin.out]
    clear hb4
    go_wp2_with fail
    go_ret
    exact ⟨rfl, HB4.out⟩
end Go.Proofs.Ytgbnkoeidejhfaa
