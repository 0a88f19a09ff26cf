import Derived.Test.YtgbnkoeidejhfaaDigE
import Derived.Test.YtgbnkoeidejhfaaBld
namespace Go.Proofs.Ytgbnkoeidejhfaa
open Go.RowKit

/-- The numbers with which a sum begins. -/
def iv : St := ⟨1779033703, 3144134277, 1013904242, 2773480762, 1359893119, 2600822924, 528734635, 1541459225⟩
/-- n blocks, each by c. -/
def runs (c : St → List UInt8 → St) : Nat → List UInt8 → St → St
  | 0, _, h => h
  | n + 1, l, h => runs c n (l.drop 64) (c h (l.take 64))
theorem runs_succ (c : St → List UInt8 → St) (n : Nat) (l : List UInt8) (h : St) : runs c (n + 1) l h = c (runs c n l h) ((l.drop (64 * n)).take 64) := by
  induction n generalizing l h with
  | zero => simp [runs]
  | succ n ih =>
    rw [runs, ih, runs, List.drop_drop]
    congr 3; omega
def tailOf (l : List UInt8) : List UInt8 :=
  let rest := l.drop (64 * (l.length / 64))
  rest ++ [128] ++ List.replicate ((119 - rest.length) % 64) 0 ++ be 8 (8 * l.length)
def outOf (h : St) : List UInt8 := h.list.flatMap fun x => be 4 x.toNat
/-- SHA-256. -/
def sha (l : List UInt8) : List UInt8 := outOf (runs comp ((tailOf l).length / 64) (tailOf l) (runs comp (l.length / 64) l iv))
theorem sha_length (l : List UInt8) : (sha l).length = 32 := by simp [sha, outOf, St.list, be_length]
theorem flat_le (Q : St) (n : Nat) : ((Q.list.take n).flatMap fun x => be 4 x.toNat).length ≤ 32 := by
  have h : ∀ l : List W32, (l.flatMap fun x => be 4 x.toNat).length = 4 * l.length := by
    intro l
    induction l with
    | nil => rfl
    | cons x l ih => simp [be_length, ih]; omega
  rw [h, List.length_take]
  have : Q.list.length = 8 := rfl
  omega

set_option maxRecDepth 100000 in
set_option maxHeartbeats 2000000 in
theorem sum_any (b : Nat) (s : ByteArray) (w : World) (hM : Ready w b) (hs : s.size ≤ 1099511627776) :
    Calls Try.prog 27 #[.pointer (some ⟨b, 0, none⟩), .string s] w fun e w' => e = .returned (.string (str (sha s.data.toList))) ∧ Maker w' b 1 0 kList ∧ w.grownBy w' (some b) := by
  obtain ⟨l, rfl⟩ : ∃ l, s = str l := ⟨s.data.toList, (str_of s).symm⟩
  rw [str_list]
  rw [str_size] at hs
  have H := numbers_any b w hM
  have HH := Lib.hid H
  clear H hM
  go_enter Try.func27, Try.ntmps27
  go_wp2_with (go_at_call 47; refine HH.out.mono ?_; rintro e w1 ⟨rfl, hM1, hg1⟩; have HM1 := Lib.hid hM1; have Hg1 := Lib.hid hg1; clear hM1 hg1)
  go_loopw [7] (fun x wr => ∃ j : Nat, 64 * j ≤ l.length ∧ x = .string (str (l.drop (64 * j))) ∧ Blk wr w1.heap.size 84 (runs comp j l iv).cells ∧ Maker wr b 1 0 kList ∧ Below w1.heap.size w1 wr) (fun x _ => slen x)
  case atStart => exact ⟨0, by omega, rfl, Blk.of _ _ _ _ rfl, HM1.out.alloc _, (Below.refl _ _).alloc (Nat.le_refl _) _⟩
  case round =>
    obtain ⟨wo, rfl⟩ : ∃ wo : World, wo = wr := ⟨_, rfl⟩
    obtain ⟨j, hj, rfl, hH, hK, hB⟩ := hrel
    obtain ⟨m, hm⟩ : ∃ m, m = l.drop (64 * j) := ⟨_, rfl⟩
    obtain ⟨R, hR⟩ : ∃ R, R = runs comp j l iv := ⟨_, rfl⟩
    have hml : m.length = l.length - 64 * j := by rw [hm, List.length_drop]
    have hsz := str_size m
    rw [← hm]
    rw [← hR] at hH
    by_cases h64 : 64 ≤ m.length
    · have e1 := str_take m 64
      have e2 := str_drop m 64
      have Hm := Lib.hid hm
      have HR := Lib.hid hR
      have HHs := Lib.hid hH
      have HK := Lib.hid hK
      have HB := Lib.hid hB
      have Hml := Lib.hid hml
      clear hm hR hH hK hB hml
      go_wp2_with fail
      refine (block_any w1.heap.size b R (str (m.take 64)) (by rw [str_size, List.length_take]; omega) _ (by have := HM1.out.lt; omega) HHs.out HK.out).mono ?_
      rintro e w2 ⟨rfl, h2, g2⟩
      have hnx : Blk w2 w1.heap.size 84 (runs comp (j + 1) l iv).cells := by
        rw [runs_succ, ← HR.out, ← Hm.out]; rwa [str_list] at h2
      have Hnx := Lib.hid hnx
      have HK2 := Lib.hid (HK.out.grown g2 (by simp; have := HM1.out.lt; omega))
      have HB2 := Lib.hid (below_of_grown HB.out g2 (Nat.le_refl _))
      clear h2 hnx g2 HHs HK HB
      go_wp2_with fail
      go_roundw
      case rel => exact ⟨j + 1, by have := Hml.out; omega, by rw [Hm.out, List.drop_drop]; congr 3, Hnx.out, HK2.out, HB2.out⟩
      case measure => simp [slen, str_size]; omega
    · have hj64 : j = l.length / 64 := by omega
      have b64 : decide ((64 : Int) ≤ (m.length : Int)) = false := by simp; omega
      have htail : tailOf l = m ++ [128] ++ List.replicate ((119 - m.length) % 64) 0 ++ be 8 (8 * l.length) := by rw [tailOf, ← hj64, ← hm]
      obtain ⟨k, hk⟩ : ∃ k : Nat, k = (119 - m.length) % 64 := ⟨_, rfl⟩
      rw [← hk] at htail
      have hk' : (119 - (m.length : Int)) % 64 = (k : Int) := by omega
      have hkw : IntKind.i64.wrap (119 - (m.length : Int)) = 119 - (m.length : Int) := IntWalk.i64_in _ (by omega)
      have hmul : IntKind.u64.wrap ((l.length : Int) * 8) = ((8 * l.length : Nat) : Int) := by
        rw [IntKind.wrap_u64]; push_cast; omega
      have hlw : IntKind.u64.wrap (l.length : Int) = (l.length : Int) := by rw [IntKind.wrap_u64]; omega
      have hc1 : ({ data := #[128] } : ByteArray) = str [128] := rfl
      have hsl := str_size l
      have Hm := Lib.hid hm
      have HR := Lib.hid hR
      have HHs := Lib.hid hH
      have HK := Lib.hid hK
      have HB := Lib.hid hB
      have Htail := Lib.hid htail
      have Hj64 := Lib.hid hj64
      have Hml := Lib.hid hml
      have Hk := Lib.hid hk
      clear hm hR hH hK hB hj64 htail hml hk
      obtain ⟨rp, hrp⟩ : ∃ x, x = List.replicate k (0 : UInt8) := ⟨_, rfl⟩
      obtain ⟨bb, hbb⟩ : ∃ x, x = be 8 (8 * l.length) := ⟨_, rfl⟩
      obtain ⟨x1, hx1⟩ : ∃ x, x = m ++ [(128 : UInt8)] := ⟨_, rfl⟩
      obtain ⟨x2, hx2⟩ : ∃ x, x = x1 ++ rp := ⟨_, rfl⟩
      obtain ⟨u, hu⟩ : ∃ x, x = x2 ++ bb := ⟨_, rfl⟩
      have hrl : rp.length = k := by rw [hrp]; simp
      have hbl : bb.length = 8 := by rw [hbb, be_length]
      have h1l : x1.length = m.length + 1 := by rw [hx1]; simp
      have h2l : x2.length = m.length + 1 + k := by rw [hx2, List.length_append, h1l, hrl]
      have hul : u.length = m.length + 1 + k + 8 := by rw [hu, List.length_append, h2l, hbl]
      have hut : u = tailOf l := by rw [hu, hx2, hx1, hrp, hbb, Htail.out]
      have a1 := str_add Try.prog m [128] (by simp; omega)
      have a2 := str_add Try.prog x1 rp (by have := Hk.out; omega)
      have a3 := str_add Try.prog x2 bb (by have := Hk.out; omega)
      rw [← hx1] at a1
      rw [← hx2] at a2
      rw [← hu] at a3
      have Hut := Lib.hid hut
      have Hul := Lib.hid hul
      have Hrp := Lib.hid hrp
      have Hbb := Lib.hid hbb
      clear hut hul hrp hbb hx1 hx2 hu hrl hbl h1l h2l Htail
      have A2 := Lib.hid a2
      have A3 := Lib.hid a3
      clear a2 a3
      go_wp2_with fail
      refine (Try.strings_Repeat ⟨#[0]⟩ k _ (by have := Hk.out; omega) (by have := Hk.out; simp [ByteArray.size]; omega)).mono ?_
      rintro e w2 ⟨rfl, hb2⟩
      rw [show (⟨(Lib.repeatL (⟨#[0]⟩ : ByteArray).data.toList k).toArray⟩ : ByteArray) = str rp from by rw [Hrp.out, ← repeatL_one]; rfl]
      have HHs2 := Lib.hid (HHs.out.below hb2 HHs.out.lt)
      have HK2 := Lib.hid (HK.out.below hb2 HK.out.lt)
      have HB2 := Lib.hid (HB.out.trans (hb2.mono HB.out.size))
      clear HHs HK HB hb2 a1
      have a2 := A2.out
      go_wp2_with fail
      refine (number_any (8 * l.length) 8 _ (by omega) (by omega)).mono ?_
      rintro e w3 ⟨rfl, hb3⟩
      rw [← Hbb.out]
      have HHs3 := Lib.hid (HHs2.out.below hb3 HHs2.out.lt)
      have HK3 := Lib.hid (HK2.out.below hb3 HK2.out.lt)
      have HB3 := Lib.hid (HB2.out.trans (hb3.mono HB2.out.size))
      clear HHs2 HK2 HB2 hb3 a2
      have a3 := A3.out
      have hu64 : u.length % 64 = 0 := by have := Hul.out; have := Hk.out; omega
      have hlt2 : u.length ≤ 200 := by have := Hul.out; have := Hk.out; omega
      go_wp2_with fail
      clear a3 hc1 hkw hk' hmul hlw
      go_loopw [8] (fun x wr => ∃ i : Nat, 64 * i ≤ u.length ∧ x = .string (str (u.drop (64 * i))) ∧ Blk wr w1.heap.size 84 (runs comp i u R).cells ∧ Maker wr b 1 0 kList ∧ Below w1.heap.size w1 wr) (fun x _ => slen x)
      case atStart => exact ⟨0, by omega, rfl, HHs3.out, HK3.out, HB3.out⟩
      case round =>
        obtain ⟨wi, rfl⟩ : ∃ wi : World, wi = wr := ⟨_, rfl⟩
        obtain ⟨i, hi, rfl, hH, hK, hB⟩ := hrel
        clear HHs3 HK3 HB3
        obtain ⟨v, hv⟩ : ∃ v, v = u.drop (64 * i) := ⟨_, rfl⟩
        obtain ⟨Q, hQ⟩ : ∃ Q, Q = runs comp i u R := ⟨_, rfl⟩
        have hvl : v.length = u.length - 64 * i := by rw [hv, List.length_drop]
        have hsv := str_size v
        rw [← hv]
        rw [← hQ] at hH
        by_cases hv0 : 0 < v.length
        · have hv64 : 64 ≤ v.length := by omega
          have b0 : decide ((0 : Int) < (v.length : Int)) = true := by simp; omega
          have e1 := str_take v 64
          have e2 := str_drop v 64
          have Hv := Lib.hid hv
          have HQ := Lib.hid hQ
          have HHs := Lib.hid hH
          have HK := Lib.hid hK
          have HB := Lib.hid hB
          have Hvl := Lib.hid hvl
          clear hv hQ hH hK hB hvl
          go_wp2_with fail
          refine (block_any w1.heap.size b Q (str (v.take 64)) (by rw [str_size, List.length_take]; omega) _ (by have := HM1.out.lt; omega) HHs.out HK.out).mono ?_
          rintro e w2 ⟨rfl, h2, g2⟩
          have hnx : Blk w2 w1.heap.size 84 (runs comp (i + 1) u R).cells := by
            rw [runs_succ, ← HQ.out, ← Hv.out]; rwa [str_list] at h2
          have Hnx := Lib.hid hnx
          have HK2 := Lib.hid (HK.out.grown g2 (by simp; have := HM1.out.lt; omega))
          have HB2 := Lib.hid (below_of_grown HB.out g2 (Nat.le_refl _))
          clear h2 hnx g2 HHs HK HB
          go_wp2_with fail
          go_roundw
          case rel => exact ⟨i + 1, by have := Hvl.out; omega, by rw [Hv.out, List.drop_drop]; congr 3, Hnx.out, HK2.out, HB2.out⟩
          case measure => simp [slen, str_size]; omega
        · have hi64 : i = u.length / 64 := by omega
          have b0 : decide ((0 : Int) < (v.length : Int)) = false := decide_eq_false (by omega)
          have hsha : sha l = outOf Q := by rw [sha, ← Hut.out, ← hi64, ← Hj64.out, ← HR.out, hQ]
          have hlt := hH.lt
          have cs : ∀ n, wi.cell? ⟨w1.heap.size, n, none⟩ = Q.cells[n]? := fun n => hH.cell n
          have c0 : wi.cell? ⟨w1.heap.size, 0, none⟩ = some (v32 Q.a) := cs 0
          have c1 : wi.cell? ⟨w1.heap.size, 1, none⟩ = some (v32 Q.b) := cs 1
          have c2 : wi.cell? ⟨w1.heap.size, 2, none⟩ = some (v32 Q.c) := cs 2
          have c3 : wi.cell? ⟨w1.heap.size, 3, none⟩ = some (v32 Q.d) := cs 3
          have c4 : wi.cell? ⟨w1.heap.size, 4, none⟩ = some (v32 Q.e) := cs 4
          have c5 : wi.cell? ⟨w1.heap.size, 5, none⟩ = some (v32 Q.f) := cs 5
          have c6 : wi.cell? ⟨w1.heap.size, 6, none⟩ = some (v32 Q.g) := cs 6
          have c7 : wi.cell? ⟨w1.heap.size, 7, none⟩ = some (v32 Q.h) := cs 7
          have Hsha := Lib.hid hsha
          have HK := Lib.hid hK
          have HB := Lib.hid hB
          clear hv hQ hH hK hB hvl hi64 hsha cs
          go_wp2_with fail
          go_loopw [49] (fun x y => ∃ n : Nat, n ≤ 8 ∧ x = .int .i64 (n : Int) ∧ Bld y wi.heap.size ((Q.list.take n).flatMap fun x => be 4 x.toNat) ∧ Below wi.heap.size wi y) (fun x _ => (8 - intOf x).toNat)
          case atStart => exact ⟨0, by omega, rfl, Bld.new wi, (Below.refl _ _).alloc (Nat.le_refl _) _⟩
          case round =>
            obtain ⟨n, hn, rfl, hbd, hbe⟩ := hrel
            clear c0 c1 c2 c3 c4 c5 c6 c7
            by_cases n8 : n < 8
            · have b8 : decide ((n : Int) < 8) = true := decide_eq_true (by omega)
              have hix : ∀ W, (Instr.index 84 (.agg #[v32 Q.a, v32 Q.b, v32 Q.c, v32 Q.d, v32 Q.e, v32 Q.f, v32 Q.g, v32 Q.h]) (.int .i64 (n : Int))).run Try.prog W = .ok (v32 (Q.list.getD n 0)) W := by
                intro W
                have : n = 0 ∨ n = 1 ∨ n = 2 ∨ n = 3 ∨ n = 4 ∨ n = 5 ∨ n = 6 ∨ n = 7 := by omega
                rcases this with rfl | rfl | rfl | rfl | rfl | rfl | rfl | rfl <;> (refine Eq.trans ?_ rfl; kernel_rfl)
              have hnx : (Q.list.take (n + 1)).flatMap (fun x => be 4 x.toNat) = (Q.list.take n).flatMap (fun x => be 4 x.toNat) ++ be 4 (Q.list.getD n 0).toNat := by
                have : n = 0 ∨ n = 1 ∨ n = 2 ∨ n = 3 ∨ n = 4 ∨ n = 5 ∨ n = 6 ∨ n = 7 := by omega
                rcases this with rfl | rfl | rfl | rfl | rfl | rfl | rfl | rfl <;> simp [St.list]
              obtain ⟨acc, hacc⟩ : ∃ a, a = (Q.list.take n).flatMap fun x => be 4 x.toNat := ⟨_, rfl⟩
              have hal : acc.length ≤ 32 := by rw [hacc]; exact flat_le Q n
              rw [← hacc] at hbd hnx
              generalize Q.list.getD n 0 = q at *
              have hw : IntKind.u64.wrap (iw q) = iw q := by have := iw_bound q; rw [IntKind.wrap_u64]; omega
              have Hbd := Lib.hid hbd
              have Hbe := Lib.hid hbe
              have Hnx := Lib.hid hnx
              clear hbd hbe hnx hacc
              go_wp2_with fail
              refine (number_any q.toNat 4 _ (by omega) (by omega)).mono ?_
              rintro e w4 ⟨rfl, hb4⟩
              have Hbd4 := Lib.hid (Hbd.out.below hb4)
              have Hbe4 := Lib.hid (Hbe.out.trans (hb4.mono Hbe.out.size))
              clear hb4 Hbd Hbe
              go_wp2_with fail
              refine (Bld.write _ _ _ _ Hbd4.out (by rw [be_length]; omega)).mono ?_
              rintro e w5 ⟨rfl, hbd5, hb5⟩
              have Hbd5 := Lib.hid hbd5
              have Hbe5 := Lib.hid (Hbe4.out.trans hb5)
              clear hbd5 hb5
              go_wp2_with fail
              go_roundw
              case rel => exact ⟨n + 1, by omega, by go_num, by rw [Hnx.out]; exact Hbd5.out, Hbe5.out⟩
              case measure => simp [intOf]; omega
            · have b8 : decide ((n : Int) < 8) = false := decide_eq_false (by omega)
              have hn8 : n = 8 := by omega
              rw [hn8] at hbd
              have hbd' : Bld wr wi.heap.size (sha l) := by rw [Hsha.out]; exact hbd
              have Hbd := Lib.hid hbd'
              have Hbe := Lib.hid hbe
              clear hbd hbd' hbe hn8
              go_wp2_with fail
              refine (Bld.string _ _ _ Hbd.out).mono ?_
              rintro e w6 ⟨rfl, _, hb6⟩
              have hB6 : Below wi.heap.size wi w6 := Hbe.out.trans hb6
              have hK6 : Maker w6 b 1 0 kList := HK.out.below hB6 HK.out.lt
              have hG6 : w.grownBy w6 (some b) := grown_trans Hg1.out (grown_trans (grownBy_of_below HB.out _) (grownBy_of_below hB6 _))
              have HK6 := Lib.hid hK6
              have HG6 := Lib.hid hG6
              clear hK6 hG6 hB6 hb6
              go_wp2_with fail
              go_ret
              exact ⟨rfl, HK6.out, HG6.out⟩
end Go.Proofs.Ytgbnkoeidejhfaa
