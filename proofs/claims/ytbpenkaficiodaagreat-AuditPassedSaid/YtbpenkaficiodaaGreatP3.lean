/- Joined texts, part 3: contracts of the functions that the laws reach, and what is needed for them. -/
import Derived.Laws.BitsAllLaws
import Derived.Lib.RabinKarpLaws
import Derived.Lib.AppendStr
import Derived.Lib.ConvBytes
import Derived.Laws.IdiomCopy
import Derived.Shelf.Strings.BuilderK
import Derived.BigQuiet
import Derived.Test.YtbpenkaficiodaaGreatP2
/- A strings.Builder that the call has made: what a walk says of it. -/
namespace Go.Proofs.YtbpenkaficiodaaGreat
open Go.RowKit

/-- Builder b holds the bytes l; it and its buffer lie from b on. -/
def Bld (w : World) (b : Nat) (l : List UInt8) : Prop := Lib.IsBuilderF 214 5 b b (Lib.byteCells l) w

theorem Bld.at_below {T e : TypeId} {B b : Nat} {p : Value} {bs : List Value} {w w1 : World} (h : Lib.BuilderAtF T e B b p bs w) (hb : Below w.heap.size w w1) : Lib.BuilderAtF T e B b p bs w1 := by
  have hlt := h.lt
  obtain ⟨hB, v, hc, hown, hne⟩ := h
  exact ⟨hB, v, (hb.block b hlt).trans hc, hown.kept (grownBy_of_below hb none) (by cases v.ownBlock <;> simp), hne⟩
theorem Bld.below {w w1 : World} {b : Nat} {l : List UInt8} (h : Bld w b l) (hb : Below w.heap.size w w1) : Bld w1 b l :=
  h.imp (fun x => Bld.at_below x hb) (fun x => Bld.at_below x hb)
theorem Bld.new (w : World) : Bld (w.alloc (.cells #[.pointer none, .slice none 0 0] 214)) w.heap.size [] :=
  .inl ⟨Nat.le_refl _, .slice none 0 0, heap_alloc_new w _, World.ownsRowF_nil _ _ _ _, by simp [Value.ownBlock]⟩
theorem Bld.lt {w : World} {b : Nat} {l : List UInt8} (h : Bld w b l) : b < w.heap.size := h.elim (·.lt) (·.lt)
theorem Bld.write (b : Nat) (l m : List UInt8) (w : World) (h : Bld w b l) (hl : l.length + m.length ≤ 140737488355328) :
    Calls Tryz.prog 185 #[.pointer (some ⟨b, 0, none⟩), .string (str m)] w fun e w' => e = .returned (.tuple #[.int .i64 (m.length : Int), .nilIface]) ∧ Bld w' b (l ++ m) ∧ Below b w w' := by
  refine (Tryz.bl_WriteString b b _ (str m) w h (by rw [str_size]; simpa [Lib.byteCells] using hl) (Nat.le_of_lt h.lt)).mono ?_
  rintro e w' ⟨rfl, h1, h2⟩
  refine ⟨by rw [str_size], .inr ?_, h2⟩
  have : Lib.byteCells (l ++ m) = Lib.byteCells l ++ Lib.strCells (str m) := by simp [Lib.byteCells, Lib.strCells, str]
  rw [this]; exact h1
theorem Bld.string (b : Nat) (l : List UInt8) (w : World) (h : Bld w b l) :
    Calls Tryz.prog 184 #[.pointer (some ⟨b, 0, none⟩)] w fun e w' => e = .returned (.string (str l)) ∧ Bld w' b l ∧ Below b w w' :=
  (Tryz.Builder_String_any_f b b l w h (Nat.le_of_lt h.lt)).mono fun _ _ ⟨he, h1, h2⟩ => ⟨he, h1, h2⟩
end Go.Proofs.YtbpenkaficiodaaGreat

namespace Go.Proofs.YtbpenkaficiodaaGreat
open Go.RowKit

/-- The numbers with which a sum begins. -/
def iv : St := ⟨1779033703, 3144134277, 1013904242, 2773480762, 1359893119, 2600822924, 528734635, 1541459225⟩
/-- n blocks, each by c. -/
def runs (c : St → List UInt8 → St) : Nat → List UInt8 → St → St
  | 0, _, h => h
  | n + 1, l, h => runs c n (l.drop 64) (c h (l.take 64))
theorem runs_succ (c : St → List UInt8 → St) (n : Nat) (l : List UInt8) (h : St) : runs c (n + 1) l h = c (runs c n l h) ((l.drop (64 * n)).take 64) := by
  induction n generalizing l h with
  | zero => simp [runs]
  | succ n ih =>
    rw [runs, ih, runs, List.drop_drop]
    congr 3; omega
def tailOf (l : List UInt8) : List UInt8 :=
  let rest := l.drop (64 * (l.length / 64))
  rest ++ [128] ++ List.replicate ((119 - rest.length) % 64) 0 ++ be 8 (8 * l.length)
def outOf (h : St) : List UInt8 := h.list.flatMap fun x => be 4 x.toNat
/-- SHA-256. -/
def sha (l : List UInt8) : List UInt8 := outOf (runs comp ((tailOf l).length / 64) (tailOf l) (runs comp (l.length / 64) l iv))
theorem sha_length (l : List UInt8) : (sha l).length = 32 := by simp [sha, outOf, St.list, be_length]
theorem flat_le (Q : St) (n : Nat) : ((Q.list.take n).flatMap fun x => be 4 x.toNat).length ≤ 32 := by
  have h : ∀ l : List W32, (l.flatMap fun x => be 4 x.toNat).length = 4 * l.length := by
    intro l
    induction l with
    | nil => rfl
    | cons x l ih => simp [be_length, ih]; omega
  rw [h, List.length_take]
  have : Q.list.length = 8 := rfl
  omega

set_option maxRecDepth 100000 in
set_option maxHeartbeats 2000000 in
theorem sum_any (b : Nat) (s : ByteArray) (w : World) (hM : Ready w b) (hs : s.size ≤ 1099511627776) :
    Calls Tryz.prog 196 #[.pointer (some ⟨b, 0, none⟩), .string s] w fun e w' => e = .returned (.string (str (sha s.data.toList))) ∧ Maker w' b 1 0 kList ∧ w.grownBy w' (some b) := by
  obtain ⟨l, rfl⟩ : ∃ l, s = str l := ⟨s.data.toList, (str_of s).symm⟩
  rw [str_list]
  rw [str_size] at hs
  have H := numbers_any b w hM
  have HH := Lib.hid H
  clear H hM
  go_enter Tryz.func196, Tryz.ntmps196
  go_wp2_with (go_at_call 201; refine HH.out.mono ?_; rintro e w1 ⟨rfl, hM1, hg1⟩; have HM1 := Lib.hid hM1; have Hg1 := Lib.hid hg1; clear hM1 hg1)
  go_loopw [7] (fun x wr => ∃ j : Nat, 64 * j ≤ l.length ∧ x = .string (str (l.drop (64 * j))) ∧ Blk wr w1.heap.size 251 (runs comp j l iv).cells ∧ Maker wr b 1 0 kList ∧ Below w1.heap.size w1 wr) (fun x _ => slen x)
  case atStart => exact ⟨0, by omega, rfl, Blk.of _ _ _ _ rfl, HM1.out.alloc _, (Below.refl _ _).alloc (Nat.le_refl _) _⟩
  case round =>
    obtain ⟨wo, rfl⟩ : ∃ wo : World, wo = wr := ⟨_, rfl⟩
    obtain ⟨j, hj, rfl, hH, hK, hB⟩ := hrel
    obtain ⟨m, hm⟩ : ∃ m, m = l.drop (64 * j) := ⟨_, rfl⟩
    obtain ⟨R, hR⟩ : ∃ R, R = runs comp j l iv := ⟨_, rfl⟩
    have hml : m.length = l.length - 64 * j := by rw [hm, List.length_drop]
    have hsz := str_size m
    rw [← hm]
    rw [← hR] at hH
    by_cases h64 : 64 ≤ m.length
    · have e1 := str_take m 64
      have e2 := str_drop m 64
      have Hm := Lib.hid hm
      have HR := Lib.hid hR
      have HHs := Lib.hid hH
      have HK := Lib.hid hK
      have HB := Lib.hid hB
      have Hml := Lib.hid hml
      clear hm hR hH hK hB hml
      go_wp2_with fail
      refine (block_any w1.heap.size b R (str (m.take 64)) (by rw [str_size, List.length_take]; omega) _ (by have := HM1.out.lt; omega) HHs.out HK.out).mono ?_
      rintro e w2 ⟨rfl, h2, g2⟩
      have hnx : Blk w2 w1.heap.size 251 (runs comp (j + 1) l iv).cells := by
        rw [runs_succ, ← HR.out, ← Hm.out]; rwa [str_list] at h2
      have Hnx := Lib.hid hnx
      have HK2 := Lib.hid (HK.out.grown g2 (by simp; have := HM1.out.lt; omega))
      have HB2 := Lib.hid (below_of_grown HB.out g2 (Nat.le_refl _))
      clear h2 hnx g2 HHs HK HB
      go_wp2_with fail
      go_roundw
      case rel => exact ⟨j + 1, by have := Hml.out; omega, by rw [Hm.out, List.drop_drop]; congr 3, Hnx.out, HK2.out, HB2.out⟩
      case measure => simp [slen, str_size]; omega
    · have hj64 : j = l.length / 64 := by omega
      have b64 : decide ((64 : Int) ≤ (m.length : Int)) = false := by simp; omega
      have htail : tailOf l = m ++ [128] ++ List.replicate ((119 - m.length) % 64) 0 ++ be 8 (8 * l.length) := by rw [tailOf, ← hj64, ← hm]
      obtain ⟨k, hk⟩ : ∃ k : Nat, k = (119 - m.length) % 64 := ⟨_, rfl⟩
      rw [← hk] at htail
      have hk' : (119 - (m.length : Int)) % 64 = (k : Int) := by omega
      have hkw : IntKind.i64.wrap (119 - (m.length : Int)) = 119 - (m.length : Int) := IntWalk.i64_in _ (by omega)
      have hmul : IntKind.u64.wrap ((l.length : Int) * 8) = ((8 * l.length : Nat) : Int) := by
        rw [IntKind.wrap_u64]; push_cast; omega
      have hlw : IntKind.u64.wrap (l.length : Int) = (l.length : Int) := by rw [IntKind.wrap_u64]; omega
      have hc1 : ({ data := #[128] } : ByteArray) = str [128] := rfl
      have hsl := str_size l
      have Hm := Lib.hid hm
      have HR := Lib.hid hR
      have HHs := Lib.hid hH
      have HK := Lib.hid hK
      have HB := Lib.hid hB
      have Htail := Lib.hid htail
      have Hj64 := Lib.hid hj64
      have Hml := Lib.hid hml
      have Hk := Lib.hid hk
      clear hm hR hH hK hB hj64 htail hml hk
      obtain ⟨rp, hrp⟩ : ∃ x, x = List.replicate k (0 : UInt8) := ⟨_, rfl⟩
      obtain ⟨bb, hbb⟩ : ∃ x, x = be 8 (8 * l.length) := ⟨_, rfl⟩
      obtain ⟨x1, hx1⟩ : ∃ x, x = m ++ [(128 : UInt8)] := ⟨_, rfl⟩
      obtain ⟨x2, hx2⟩ : ∃ x, x = x1 ++ rp := ⟨_, rfl⟩
      obtain ⟨u, hu⟩ : ∃ x, x = x2 ++ bb := ⟨_, rfl⟩
      have hrl : rp.length = k := by rw [hrp]; simp
      have hbl : bb.length = 8 := by rw [hbb, be_length]
      have h1l : x1.length = m.length + 1 := by rw [hx1]; simp
      have h2l : x2.length = m.length + 1 + k := by rw [hx2, List.length_append, h1l, hrl]
      have hul : u.length = m.length + 1 + k + 8 := by rw [hu, List.length_append, h2l, hbl]
      have hut : u = tailOf l := by rw [hu, hx2, hx1, hrp, hbb, Htail.out]
      have a1 := str_add Tryz.prog m [128] (by simp; omega)
      have a2 := str_add Tryz.prog x1 rp (by have := Hk.out; omega)
      have a3 := str_add Tryz.prog x2 bb (by have := Hk.out; omega)
      rw [← hx1] at a1
      rw [← hx2] at a2
      rw [← hu] at a3
      have Hut := Lib.hid hut
      have Hul := Lib.hid hul
      have Hrp := Lib.hid hrp
      have Hbb := Lib.hid hbb
      clear hut hul hrp hbb hx1 hx2 hu hrl hbl h1l h2l Htail
      have A2 := Lib.hid a2
      have A3 := Lib.hid a3
      clear a2 a3
      go_wp2_with fail
      refine (Tryz.strings_Repeat ⟨#[0]⟩ k _ (by have := Hk.out; omega) (by have := Hk.out; simp [ByteArray.size]; omega)).mono ?_
      rintro e w2 ⟨rfl, hb2⟩
      rw [show (⟨(Lib.repeatL (⟨#[0]⟩ : ByteArray).data.toList k).toArray⟩ : ByteArray) = str rp from by rw [Hrp.out, ← repeatL_one]; rfl]
      have HHs2 := Lib.hid (HHs.out.below hb2 HHs.out.lt)
      have HK2 := Lib.hid (HK.out.below hb2 HK.out.lt)
      have HB2 := Lib.hid (HB.out.trans (hb2.mono HB.out.size))
      clear HHs HK HB hb2 a1
      have a2 := A2.out
      go_wp2_with fail
      refine (number_any (8 * l.length) 8 _ (by omega) (by omega)).mono ?_
      rintro e w3 ⟨rfl, hb3⟩
      rw [← Hbb.out]
      have HHs3 := Lib.hid (HHs2.out.below hb3 HHs2.out.lt)
      have HK3 := Lib.hid (HK2.out.below hb3 HK2.out.lt)
      have HB3 := Lib.hid (HB2.out.trans (hb3.mono HB2.out.size))
      clear HHs2 HK2 HB2 hb3 a2
      have a3 := A3.out
      have hu64 : u.length % 64 = 0 := by have := Hul.out; have := Hk.out; omega
      have hlt2 : u.length ≤ 200 := by have := Hul.out; have := Hk.out; omega
      go_wp2_with fail
      clear a3 hc1 hkw hk' hmul hlw
      go_loopw [8] (fun x wr => ∃ i : Nat, 64 * i ≤ u.length ∧ x = .string (str (u.drop (64 * i))) ∧ Blk wr w1.heap.size 251 (runs comp i u R).cells ∧ Maker wr b 1 0 kList ∧ Below w1.heap.size w1 wr) (fun x _ => slen x)
      case atStart => exact ⟨0, by omega, rfl, HHs3.out, HK3.out, HB3.out⟩
      case round =>
        obtain ⟨wi, rfl⟩ : ∃ wi : World, wi = wr := ⟨_, rfl⟩
        obtain ⟨i, hi, rfl, hH, hK, hB⟩ := hrel
        clear HHs3 HK3 HB3
        obtain ⟨v, hv⟩ : ∃ v, v = u.drop (64 * i) := ⟨_, rfl⟩
        obtain ⟨Q, hQ⟩ : ∃ Q, Q = runs comp i u R := ⟨_, rfl⟩
        have hvl : v.length = u.length - 64 * i := by rw [hv, List.length_drop]
        have hsv := str_size v
        rw [← hv]
        rw [← hQ] at hH
        by_cases hv0 : 0 < v.length
        · have hv64 : 64 ≤ v.length := by omega
          have b0 : decide ((0 : Int) < (v.length : Int)) = true := by simp; omega
          have e1 := str_take v 64
          have e2 := str_drop v 64
          have Hv := Lib.hid hv
          have HQ := Lib.hid hQ
          have HHs := Lib.hid hH
          have HK := Lib.hid hK
          have HB := Lib.hid hB
          have Hvl := Lib.hid hvl
          clear hv hQ hH hK hB hvl
          go_wp2_with fail
          refine (block_any w1.heap.size b Q (str (v.take 64)) (by rw [str_size, List.length_take]; omega) _ (by have := HM1.out.lt; omega) HHs.out HK.out).mono ?_
          rintro e w2 ⟨rfl, h2, g2⟩
          have hnx : Blk w2 w1.heap.size 251 (runs comp (i + 1) u R).cells := by
            rw [runs_succ, ← HQ.out, ← Hv.out]; rwa [str_list] at h2
          have Hnx := Lib.hid hnx
          have HK2 := Lib.hid (HK.out.grown g2 (by simp; have := HM1.out.lt; omega))
          have HB2 := Lib.hid (below_of_grown HB.out g2 (Nat.le_refl _))
          clear h2 hnx g2 HHs HK HB
          go_wp2_with fail
          go_roundw
          case rel => exact ⟨i + 1, by have := Hvl.out; omega, by rw [Hv.out, List.drop_drop]; congr 3, Hnx.out, HK2.out, HB2.out⟩
          case measure => simp [slen, str_size]; omega
        · have hi64 : i = u.length / 64 := by omega
          have b0 : decide ((0 : Int) < (v.length : Int)) = false := decide_eq_false (by omega)
          have hsha : sha l = outOf Q := by rw [sha, ← Hut.out, ← hi64, ← Hj64.out, ← HR.out, hQ]
          have hlt := hH.lt
          have cs : ∀ n, wi.cell? ⟨w1.heap.size, n, none⟩ = Q.cells[n]? := fun n => hH.cell n
          have c0 : wi.cell? ⟨w1.heap.size, 0, none⟩ = some (v32 Q.a) := cs 0
          have c1 : wi.cell? ⟨w1.heap.size, 1, none⟩ = some (v32 Q.b) := cs 1
          have c2 : wi.cell? ⟨w1.heap.size, 2, none⟩ = some (v32 Q.c) := cs 2
          have c3 : wi.cell? ⟨w1.heap.size, 3, none⟩ = some (v32 Q.d) := cs 3
          have c4 : wi.cell? ⟨w1.heap.size, 4, none⟩ = some (v32 Q.e) := cs 4
          have c5 : wi.cell? ⟨w1.heap.size, 5, none⟩ = some (v32 Q.f) := cs 5
          have c6 : wi.cell? ⟨w1.heap.size, 6, none⟩ = some (v32 Q.g) := cs 6
          have c7 : wi.cell? ⟨w1.heap.size, 7, none⟩ = some (v32 Q.h) := cs 7
          have Hsha := Lib.hid hsha
          have HK := Lib.hid hK
          have HB := Lib.hid hB
          clear hv hQ hH hK hB hvl hi64 hsha cs
          go_wp2_with fail
          go_loopw [49] (fun x y => ∃ n : Nat, n ≤ 8 ∧ x = .int .i64 (n : Int) ∧ Bld y wi.heap.size ((Q.list.take n).flatMap fun x => be 4 x.toNat) ∧ Below wi.heap.size wi y) (fun x _ => (8 - intOf x).toNat)
          case atStart => exact ⟨0, by omega, rfl, Bld.new wi, (Below.refl _ _).alloc (Nat.le_refl _) _⟩
          case round =>
            obtain ⟨n, hn, rfl, hbd, hbe⟩ := hrel
            clear c0 c1 c2 c3 c4 c5 c6 c7
            by_cases n8 : n < 8
            · have b8 : decide ((n : Int) < 8) = true := decide_eq_true (by omega)
              have hix : ∀ W, (Instr.index 251 (.agg #[v32 Q.a, v32 Q.b, v32 Q.c, v32 Q.d, v32 Q.e, v32 Q.f, v32 Q.g, v32 Q.h]) (.int .i64 (n : Int))).run Tryz.prog W = .ok (v32 (Q.list.getD n 0)) W := by
                intro W
                have : n = 0 ∨ n = 1 ∨ n = 2 ∨ n = 3 ∨ n = 4 ∨ n = 5 ∨ n = 6 ∨ n = 7 := by omega
                rcases this with rfl | rfl | rfl | rfl | rfl | rfl | rfl | rfl <;> (refine Eq.trans ?_ rfl; kernel_rfl)
              have hnx : (Q.list.take (n + 1)).flatMap (fun x => be 4 x.toNat) = (Q.list.take n).flatMap (fun x => be 4 x.toNat) ++ be 4 (Q.list.getD n 0).toNat := by
                have : n = 0 ∨ n = 1 ∨ n = 2 ∨ n = 3 ∨ n = 4 ∨ n = 5 ∨ n = 6 ∨ n = 7 := by omega
                rcases this with rfl | rfl | rfl | rfl | rfl | rfl | rfl | rfl <;> simp [St.list]
              obtain ⟨acc, hacc⟩ : ∃ a, a = (Q.list.take n).flatMap fun x => be 4 x.toNat := ⟨_, rfl⟩
              have hal : acc.length ≤ 32 := by rw [hacc]; exact flat_le Q n
              rw [← hacc] at hbd hnx
              generalize Q.list.getD n 0 = q at *
              have hw : IntKind.u64.wrap (iw q) = iw q := by have := iw_bound q; rw [IntKind.wrap_u64]; omega
              have Hbd := Lib.hid hbd
              have Hbe := Lib.hid hbe
              have Hnx := Lib.hid hnx
              clear hbd hbe hnx hacc
              go_wp2_with fail
              refine (number_any q.toNat 4 _ (by omega) (by omega)).mono ?_
              rintro e w4 ⟨rfl, hb4⟩
              have Hbd4 := Lib.hid (Hbd.out.below hb4)
              have Hbe4 := Lib.hid (Hbe.out.trans (hb4.mono Hbe.out.size))
              clear hb4 Hbd Hbe
              go_wp2_with fail
              refine (Bld.write _ _ _ _ Hbd4.out (by rw [be_length]; omega)).mono ?_
              rintro e w5 ⟨rfl, hbd5, hb5⟩
              have Hbd5 := Lib.hid hbd5
              have Hbe5 := Lib.hid (Hbe4.out.trans hb5)
              clear hbd5 hb5
              go_wp2_with fail
              go_roundw
              case rel => exact ⟨n + 1, by omega, by go_num, by rw [Hnx.out]; exact Hbd5.out, Hbe5.out⟩
              case measure => simp [intOf]; omega
            · have b8 : decide ((n : Int) < 8) = false := decide_eq_false (by omega)
              have hn8 : n = 8 := by omega
              rw [hn8] at hbd
              have hbd' : Bld wr wi.heap.size (sha l) := by rw [Hsha.out]; exact hbd
              have Hbd := Lib.hid hbd'
              have Hbe := Lib.hid hbe
              clear hbd hbd' hbe hn8
              go_wp2_with fail
              refine (Bld.string _ _ _ Hbd.out).mono ?_
              rintro e w6 ⟨rfl, _, hb6⟩
              have hB6 : Below wi.heap.size wi w6 := Hbe.out.trans hb6
              have hK6 : Maker w6 b 1 0 kList := HK.out.below hB6 HK.out.lt
              have hG6 : w.grownBy w6 (some b) := grown_trans Hg1.out (grown_trans (grownBy_of_below HB.out _) (grownBy_of_below hB6 _))
              have HK6 := Lib.hid hK6
              have HG6 := Lib.hid hG6
              clear hK6 hG6 hB6 hb6
              go_wp2_with fail
              go_ret
              exact ⟨rfl, HK6.out, HG6.out⟩
end Go.Proofs.YtbpenkaficiodaaGreat

/- A slice of strings that is only read; a number turned in its last place; where a text climbs to. -/
namespace Go.Proofs.YtbpenkaficiodaaGreat
open Go.RowKit

/-- The slice of strings at A: read only. -/
structure Strs (w : World) (A : Option Addr) (cap : Nat) (l : List (List UInt8)) : Prop where
  len : l.length ≤ cap
  cells : ∀ i x, l[i]? = some x → ∃ a, A = some a ∧ w.cell? (a.add i) = some (.string (str x))
theorem Strs.below {w w1 : World} {A : Option Addr} {cap : Nat} {l : List (List UInt8)} (h : Strs w A cap l) (hb : Below w.heap.size w w1) : Strs w1 A cap l :=
  ⟨h.len, fun i x hx => let ⟨a, ha, hc⟩ := h.cells i x hx; ⟨a, ha, below_cell hb hc⟩⟩
theorem addr_add (a : Addr) (i j : Nat) : (a.add i).add j = a.add (i + j) := by
  unfold Addr.add
  split <;> split <;> simp_all <;> omega
theorem Strs.tail {w : World} {A : Option Addr} {cap : Nat} {x : List UInt8} {l : List (List UInt8)} (h : Strs w A cap (x :: l)) :
    Strs w (if cap = 1 then A else A.map (·.add 1)) (cap - 1) l := by
  have hl := h.len
  simp only [List.length_cons] at hl
  refine ⟨by omega, fun i y hy => ?_⟩
  obtain ⟨a, ha, hc⟩ := h.cells (i + 1) y (by simpa using hy)
  have hi := (List.getElem?_eq_some_iff.1 hy).1
  rw [if_neg (by omega), ha]
  exact ⟨_, rfl, by rw [addr_add, Nat.add_comm 1 i]; exact hc⟩

theorem i64_xor_one (i : Nat) (hi : i < 9223372036854775808) : bits .xor .i64 (i : Int) 1 = ((i ^^^ 1 : Nat) : Int) := by
  have hx : i ^^^ 1 < 2 ^ 63 := Nat.xor_lt_two_pow (by omega) (by omega)
  show IntKind.i64.wrap ((BitVec.ofInt 64 (i : Int) ^^^ BitVec.ofInt 64 ((1 : Nat) : Int)).toNat : Int) = _
  rw [BitVec.toNat_xor, ofInt_u64 i (by omega), ofInt_u64 1 (by omega), IntKind.wrap_i64]
  omega
theorem xor_one_le (i : Nat) : i ^^^ 1 ≤ i + 1 := by
  have h : (i ^^^ 1) / 2 ^ 1 = i / 2 ^ 1 ^^^ 1 / 2 ^ 1 := Nat.xor_div_two_pow
  have h1 : (1 : Nat) / 2 ^ 1 = 0 := by decide
  rw [h1, Nat.xor_zero] at h
  omega

/-- From place i of n up to the root, by the path; so many rows at most. -/
def climbG : Nat → Nat → Nat → List UInt8 → List (List UInt8) → Option (List UInt8)
  | 0, _, _, x, p => if p = [] then some x else none
  | f + 1, i, n, x, p =>
    if n ≤ 1 then (if p = [] then some x else none)
    else if n ≤ i ^^^ 1 then climbG f (i / 2) ((n + 1) / 2) x p
    else match p with
      | [] => none
      | y :: p => if y.length = 32 then climbG f (i / 2) ((n + 1) / 2) (if i % 2 = 0 then sha (1 :: (x ++ y)) else sha (1 :: (y ++ x))) p else none
/-- Where a text climbs to. -/
def climbOf (item : List UInt8) (i n : Int) (p : List (List UInt8)) : Option (List UInt8) :=
  if i < 0 ∨ n ≤ i ∨ 65536 < n then none else climbG n.toNat i.toNat n.toNat (sha (0 :: item)) p
/-- As two results. -/
def climbRes (r : Option (List UInt8)) : Value × Value := match r with
  | some x => (.string (str x), .bool true)
  | none => (.string (str []), .bool false)
theorem rd_strs {H : Type} {enc : TypeId × Value → H} {P : Program} {w : World} {t e : TypeId} {cs : List Value} (hu : P.underlying t = some (.slice e)) (he : P.underlying e = some .string) (hc : P.cellsOf e = 1) (h : Rdg enc P w t cs) :
    ∃ A cap l, cs = [.slice A l.length cap] ∧ Strs w A cap l ∧ (∀ x ∈ l, x.length ≤ reachBytes) ∧ cap * P.bytesOf e ≤ reachBytes ∧ cap ≤ maxLen := by
  rcases rd_slice hu h with rfl | ⟨a, len, cap, rfl, hl, hb, hm, hall⟩
  · exact ⟨none, 0, [], rfl, ⟨Nat.le_refl _, fun i x hx => by simp at hx⟩, fun x hx => by simp at hx, by simp, by simp⟩
  · have each : ∀ i, ∃ s : List UInt8, i < len → w.cell? (a.add i) = some (.string (str s)) ∧ s.length ≤ reachBytes := by
      intro i
      by_cases hi : i < len
      · obtain ⟨cells, hcc, hr⟩ := hall i hi
        rw [hc, Nat.mul_one] at hcc
        obtain ⟨v, rfl, hv⟩ := cells_one hcc
        obtain ⟨s, hs, hz⟩ := rd_string he hr
        simp only [List.cons.injEq, and_true] at hs
        subst hs
        refine ⟨s.data.toList, fun _ => ⟨by rw [str_of]; exact hv, ?_⟩⟩
        have : s.data.toList.length = s.size := by rw [← ByteArray.size_data]; simp
        omega
      · exact ⟨[], fun h => absurd h hi⟩
    have hch := Classical.axiomOfChoice each
    obtain ⟨f, hf⟩ := hch
    have hlen : ((List.range len).map f).length = len := by simp
    refine ⟨some a, cap, (List.range len).map f, by rw [hlen], ⟨by rw [hlen]; exact hl, fun i x hx => ?_⟩, fun x hx => ?_, hb, hm⟩
    · have hi : i < len := by have := (List.getElem?_eq_some_iff.1 hx).1; simpa using this
      rw [List.getElem?_map, List.getElem?_range hi] at hx
      simp only [Option.map_some, Option.some.injEq] at hx
      subst hx
      exact ⟨a, rfl, (hf i hi).1⟩
    · obtain ⟨i, hi, rfl⟩ := List.mem_map.1 hx
      exact (hf i (List.mem_range.1 hi)).2
theorem str_toList (l : List UInt8) : (str l).toList = l := by rw [ByteArray.toList_eq, str_list]
theorem str_eq_yes {a b : List UInt8} (h : a = b) : ((str a).toList == (str b).toList) = true := by rw [str_toList, str_toList, h]; simp
theorem str_eq_no {a b : List UInt8} (h : a ≠ b) : ((str a).toList == (str b).toList) = false := by rw [str_toList, str_toList]; simpa using h
theorem str_ne_yes {a b : List UInt8} (h : a ≠ b) : ((str a).toList != (str b).toList) = true := by rw [str_toList, str_toList]; simpa using h
theorem str_ne_no {a b : List UInt8} (h : a = b) : ((str a).toList != (str b).toList) = false := by rw [str_toList, str_toList, h]; simp
end Go.Proofs.YtbpenkaficiodaaGreat

/- Lists of numbers that are only read; lists of such lists; products of numbers. -/
namespace Go.Proofs.YtbpenkaficiodaaGreat
open Go.RowKit

theorem addr_zero (a : Addr) : a.add 0 = a := by unfold Addr.add; split <;> simp_all
/-- The slice of numbers at A: read only. -/
structure Nums (w : World) (A : Option Addr) (cap : Nat) (l : List Nat) : Prop where
  len : l.length ≤ cap
  cells : ∀ (i x : Nat), l[i]? = some x → ∃ a, A = some a ∧ w.cell? (a.add i) = some (.int .u64 (x : Int))
  small : ∀ x ∈ l, x < 18446744073709551616
theorem Nums.below {w w1 : World} {A : Option Addr} {cap : Nat} {l : List Nat} (h : Nums w A cap l) (hb : Below w.heap.size w w1) : Nums w1 A cap l :=
  ⟨h.len, fun i x hx => let ⟨a, ha, hc⟩ := h.cells i x hx; ⟨a, ha, below_cell hb hc⟩, h.small⟩
theorem Nums.nil (w : World) (A : Option Addr) (cap : Nat) : Nums w A cap [] := ⟨by simp, by simp, by simp⟩

/-- A slice of numbers: where it lies, how far it reaches, what it holds. -/
structure NumV where
  A : Option Addr
  cap : Nat
  l : List Nat
def NumV.val (r : NumV) : Value := .slice r.A r.l.length r.cap
/-- The slice of slices of numbers at B: read only. -/
structure Grid (w : World) (B : Option Addr) (cap : Nat) (rs : List NumV) : Prop where
  len : rs.length ≤ cap
  cells : ∀ (i : Nat) (r : NumV), rs[i]? = some r → ∃ b, B = some b ∧ w.cell? (b.add i) = some r.val
  nums : ∀ r ∈ rs, Nums w r.A r.cap r.l
theorem Grid.below {w w1 : World} {B : Option Addr} {cap : Nat} {rs : List NumV} (h : Grid w B cap rs) (hb : Below w.heap.size w w1) : Grid w1 B cap rs :=
  ⟨h.len, fun i x hx => let ⟨a, ha, hc⟩ := h.cells i x hx; ⟨a, ha, below_cell hb hc⟩, fun r hr => (h.nums r hr).below hb⟩

def prodG (P : Nat) (l : List Nat) : Nat := l.foldl (fun n x => mulM n x P) 1
theorem prodG_bound (P : Nat) (l : List Nat) (k : Nat) (hk : k < 18446744073709551616) : l.foldl (fun n x => mulM n x P) k < 18446744073709551616 := by
  induction l generalizing k with
  | nil => exact hk
  | cons x l ih => exact ih _ (by show mulM k x P < _; have := mulM_lt k x P; omega)
theorem foldl_take {P k : Nat} {l : List Nat} {x n : Nat} (h : l[k]? = some x) (hn : n = (l.take k).foldl (fun n x => mulM n x P) 1) : mulM n x P = (l.take (k + 1)).foldl (fun n x => mulM n x P) 1 := by
  rw [List.take_add_one, h, List.foldl_append, hn]; rfl

set_option maxRecDepth 100000 in
set_option maxHeartbeats 1000000 in
theorem prod_any (P Q G H : Nat) (R : Value) (A : Option Addr) (cap : Nat) (l : List Nat) (w : World) (hP : P < 18446744073709551616) (hl : l.length < 9223372036854775808) (hN : Nums w A cap l) :
    Calls Tryz.prog 104 #[gval P Q G H R, .slice A l.length cap] w fun e w' => e = .returned (.int .u64 (prodG P l : Int)) ∧ Below w.heap.size w w' := by
  unfold gval
  obtain ⟨r, hr⟩ : ∃ r, r = prodG P l := ⟨_, rfl⟩
  obtain ⟨len, hlen⟩ : ∃ n, n = l.length := ⟨_, rfl⟩
  rw [← hr, ← hlen]
  have Hr := Lib.hid hr
  have Hlen := Lib.hid hlen
  have HN := Lib.hid hN
  rw [← hlen] at hl
  clear hr hlen hN
  go_enter Tryz.func104, Tryz.ntmps104
  go_wp2_with fail
  obtain ⟨w1, hw1⟩ : ∃ w1, w1 = w.alloc (.cells #[.int .u64 (P : Int), .int .u64 (Q : Int), .int .u64 (G : Int), .int .u64 (H : Int), R] 25) := ⟨_, rfl⟩
  have hb1 : Below w.heap.size w w1 := by rw [hw1]; exact (Below.refl _ _).alloc (Nat.le_refl _) _
  have hs1 : w1.heap.size = w.heap.size + 1 := by rw [hw1]; simp
  have hc1 : w1.cell? ⟨w.heap.size, 0, none⟩ = some (.int .u64 (P : Int)) := by rw [hw1, World.cell?_alloc_new]; rfl
  rw [← hw1]
  have Hb1 := Lib.hid hb1
  have HN1 := Lib.hid (HN.out.below hb1)
  clear hw1 hb1 HN
  go_loopw [5, 7, 10] (fun nv _ iv wr => ∃ k n : Nat, iv = .int .i64 (k : Int) ∧ nv = .int .u64 (n : Int) ∧ k ≤ len ∧ n < 18446744073709551616 ∧ n = (l.take k).foldl (fun n x => mulM n x P) 1 ∧ ∃ q, wr = w1.drewN q) (fun _ _ iv _ => len - (intOf iv).toNat)
  case atStart => exact ⟨0, 1, rfl, rfl, by omega, by omega, rfl, 0, rfl⟩
  case round =>
    obtain ⟨k, n, rfl, rfl, hk, hn, hnk, q, rfl⟩ := hrel
    have Hnk := Lib.hid hnk
    clear hnk
    by_cases hkl : k < len
    · have d1 : decide ((k : Int) < (len : Int)) = true := decide_eq_true (by omega)
      obtain ⟨x, hx⟩ : ∃ x, l[k]? = some x := ⟨_, List.getElem?_eq_getElem (by rw [← Hlen.out]; exact hkl)⟩
      obtain ⟨a, rfl, hcell⟩ := HN1.out.cells k x hx
      have hxs := HN1.out.small x (List.mem_of_getElem? hx)
      have hnx := foldl_take (P := P) hx Hnk.out
      have hnb := mulM_lt n x P
      obtain ⟨n2, hn2⟩ : ∃ n2, n2 = mulM n x P := ⟨_, rfl⟩
      rw [← hn2] at hnx hnb
      have Hn2 := Lib.hid hn2
      have Hnx := Lib.hid hnx
      have hki : (k : Int) < (len : Int) := by omega
      clear hn2 hnx hx
      go_wp2_with fail
      refine (mul_any n x P _ hn hxs hP).mono ?_
      rw [← Hn2.out]
      rintro e w' ⟨rfl, n1, rfl⟩
      go_wp2_with fail
      go_roundw
      case rel => exact ⟨k + 1, n2, by go_num, rfl, by omega, by omega, Hnx.out, _, rfl⟩
      case measure => simp [intOf]; omega
    · have d1 : decide ((k : Int) < (len : Int)) = false := decide_eq_false (by omega)
      have hres : n = r := by rw [Hr.out, Hnk.out, List.take_of_length_le (by rw [← Hlen.out]; omega)]; rfl
      subst hres
      go_wp2_with fail
      go_ret
      exact ⟨rfl, below_drewN Hb1.out _⟩

set_option maxRecDepth 100000 in
set_option maxHeartbeats 1000000 in
theorem refProd_any (P Q G H : Nat) (R : Value) (A : Option Addr) (cap : Nat) (l : List Nat) (w : World) (hP : P < 18446744073709551616) (hl : l.length < 9223372036854775807) (hN : Nums w A cap l) :
    Calls Tryz.prog 153 #[gval P Q G H R, .slice A l.length cap] w fun e w' => e = .returned (.int .u64 (prodG P l : Int)) ∧ Below w.heap.size w w' := by
  unfold gval
  obtain ⟨r, hr⟩ : ∃ r, r = prodG P l := ⟨_, rfl⟩
  obtain ⟨len, hlen⟩ : ∃ n, n = l.length := ⟨_, rfl⟩
  rw [← hr, ← hlen]
  have Hr := Lib.hid hr
  have Hlen := Lib.hid hlen
  have HN := Lib.hid hN
  rw [← hlen] at hl
  clear hr hlen hN
  go_enter Tryz.func153, Tryz.ntmps153
  go_wp2_with fail
  obtain ⟨w1, hw1⟩ : ∃ w1, w1 = w.alloc (.cells #[.int .u64 (P : Int), .int .u64 (Q : Int), .int .u64 (G : Int), .int .u64 (H : Int), R] 25) := ⟨_, rfl⟩
  have hb1 : Below w.heap.size w w1 := by rw [hw1]; exact (Below.refl _ _).alloc (Nat.le_refl _) _
  have hs1 : w1.heap.size = w.heap.size + 1 := by rw [hw1]; simp
  have hc1 : w1.cell? ⟨w.heap.size, 0, none⟩ = some (.int .u64 (P : Int)) := by rw [hw1, World.cell?_alloc_new]; rfl
  rw [← hw1]
  have Hb1 := Lib.hid hb1
  have HN1 := Lib.hid (HN.out.below hb1)
  clear hw1 hb1 HN
  go_loopw [5, 6] (fun nv iv wr => ∃ k n : Nat, iv = .int .i64 (k : Int) ∧ nv = .int .u64 (n : Int) ∧ k ≤ len ∧ n < 18446744073709551616 ∧ n = (l.take k).foldl (fun n x => mulM n x P) 1 ∧ Below w1.heap.size w1 wr) (fun _ iv _ => len - (intOf iv).toNat)
  case atStart => exact ⟨0, 1, rfl, rfl, by omega, by omega, rfl, Below.refl _ _⟩
  case round =>
    obtain ⟨k, n, rfl, rfl, hk, hn, hnk, hbr⟩ := hrel
    have Hbr := Lib.hid hbr
    have hcr := below_cell hbr hc1
    clear hbr
    have Hnk := Lib.hid hnk
    clear hnk
    by_cases hkl : k < len
    · have d1 : decide ((k : Int) < (len : Int)) = true := decide_eq_true (by omega)
      obtain ⟨x, hx⟩ : ∃ x, l[k]? = some x := ⟨_, List.getElem?_eq_getElem (by rw [← Hlen.out]; exact hkl)⟩
      obtain ⟨a, rfl, hcell⟩ := HN1.out.cells k x hx
      have hcell := below_cell Hbr.out hcell
      have hxs := HN1.out.small x (List.mem_of_getElem? hx)
      have hnx := foldl_take (P := P) hx Hnk.out
      have hnb := mulM_lt n x P
      obtain ⟨n2, hn2⟩ : ∃ n2, n2 = mulM n x P := ⟨_, rfl⟩
      have HP := fun W => (refMul_any n x P W hn hxs hP).mono (fun e w' h => (⟨h.1, h.2.symm⟩ : _ ∧ w' = W))
      rw [← hn2] at hnx hnb HP
      have Hnx := Lib.hid hnx
      have hki : (k : Int) < (len : Int) := by omega
      clear hn2 hnx hx
      go_wp2_with fail
      go_quiet ((go_at_call 111; exact Calls.quiet_of_same (HP _)))
      go_wp2_with fail
      go_roundw
      case rel => exact ⟨k + 1, n2, by go_num, rfl, by omega, by omega, Hnx.out, below_drewN Hbr.out _⟩
      case measure => simp [intOf]; omega
    · have d1 : decide ((k : Int) < (len : Int)) = false := decide_eq_false (by omega)
      have hres : n = r := by rw [Hr.out, Hnk.out, List.take_of_length_le (by rw [← Hlen.out]; omega)]; rfl
      subst hres
      go_wp2_with fail
      go_ret
      exact ⟨rfl, below_trans Hb1.out Hbr.out⟩
end Go.Proofs.YtbpenkaficiodaaGreat

namespace Go.Proofs.YtbpenkaficiodaaGreat
open Go.RowKit

/-- Bounded: what is summed takes up to 2^40 bytes. -/
abbrev SumLim : Nat := 1099511627776

set_option maxRecDepth 100000 in
set_option maxHeartbeats 400000 in
theorem bytes_any (n size : Nat) (w : World) (h1 : 1 ≤ size) (h2 : size ≤ 8) :
    Calls Tryz.prog 175 #[.int .u64 (n : Int), .int .i64 (size : Int)] w fun e w' => e = .returned (.string (str (be size n))) ∧ Below w.heap.size w w' := by
  go_enter Tryz.func175, Tryz.ntmps175
  go_wp2
  go_loopw [5, 6] (fun v i wr => ∃ (k : Nat) (z : Int), k ≤ size ∧ z = (size : Int) - 1 - k ∧ i = .int .i64 z ∧ Own wr w.heap.size 5 v (vbytes ((be size n).take k)) ∧ Below w.heap.size w wr) (fun _ i _ => (intOf i + 1).toNat)
  case atStart => exact ⟨0, _, by omega, by simp, rfl, by simpa [vbytes] using Own.nil w w.heap.size 5, Below.refl _ _⟩
  case round =>
    obtain ⟨k, z, hk, hz, rfl, hown, hb⟩ := hrel
    have Hown := Lib.hid hown
    have Hb := Lib.hid hb
    have Hz := Lib.hid hz
    have z1 : z ≤ 7 := by omega
    have z2 : -1 ≤ z := by omega
    clear hown hb hz
    by_cases hlt : k < size
    · have z0 : 0 ≤ z := by have := Hz.out; omega
      have hz8 : (8 * z).toNat = 8 * (size - 1 - k) := by have := Hz.out; omega
      have hl : (vbytes ((be size n).take k)).length = k := by rw [vbytes_length, List.length_take, be_length]; omega
      have hval : (Value.int .u8 ((n : Int) / 2 ^ (8 * z).toNat % 256)) = .int .u8 (((UInt8.ofNat (n / 256 ^ (size - 1 - k))).toNat : Nat) : Int) := by
        rw [hz8, be_val]
      have hstep := be_take_succ size n k hlt
      have Hval := Lib.hid hval
      have Hstep := Lib.hid hstep
      have Hl := Lib.hid hl
      clear hval hstep hz8 hl
      go_wp2_with (at_builtin; go_must (refine ap1 Hown.out Hb.out Tryz.underlying_bytes Tryz.info_u8 rfl (by omega) (by rw [Hl.out]; omega) rfl _ _ rfl rfl rfl rfl ?_; intro v1 w1 hown1 hb1 hg1; rw [Hval.out, show ∀ c : UInt8, [Value.int .u8 (c.toNat : Int)] = vbytes [c] from fun _ => rfl, ← vbytes_append, ← Hstep.out] at hown1; have Hown1 := Lib.hid hown1; have Hb1 := Lib.hid hb1; clear hown1 hb1 hg1))
      go_roundw
      case rel => exact ⟨k + 1, z - 1, by omega, by have := Hz.out; push_cast; omega, by go_num, Hown1.out, Hb1.out⟩
      case measure => simp [intOf]; omega
    · have z0 : z < 0 := by have := Hz.out; omega
      have hk' : k = size := by omega
      have hstr : ∀ W, Own W w.heap.size 5 u5 (vbytes ((be size n).take k)) → (convert 201 9 u5).run Tryz.prog W = .ok (.string (str (be size n))) W := by
        intro W h
        rw [hk', List.take_of_length_le (by rw [be_length]; omega)] at h
        exact Own.string Tryz.underlying_bytes Tryz.underlying_u8 Tryz.underlying_str h
      have hs1 := hstr _ Hown.out
      clear hk' hstr
      go_wp2
      go_ret
      exact ⟨rfl, Hb.out⟩

set_option maxRecDepth 100000 in
set_option maxHeartbeats 400000 in
theorem rturn_any (n : Nat) (x : W32) (z : Int) (hz : z = (n : Int)) (w : World) (h1 : 1 ≤ n) (h2 : n ≤ 31) :
    Calls Tryz.prog 198 #[v32 x, .int .i64 z] w fun e w' => e = .returned (v32 (x.rotateRight n)) ∧ ∃ m, w' = w.drewN m := by
  subst hz
  have hl := w32_shl x (32 - n)
  have hr := w32_shr x n
  have ho := w32_or (x >>> n) (x <<< (32 - n))
  have hs : (32 : Int) - (n : Int) = ((32 - n : Nat) : Int) := by omega
  have hw : IntKind.i64.wrap ((32 : Int) - (n : Int)) = ((32 - n : Nat) : Int) := by rw [IntWalk.i64_in _ (by omega)]; exact hs
  rw [← rot_eq x n h1 h2, BitVec.or_comm]
  go_enter Tryz.func198, Tryz.ntmps198
  go_wp2
  go_quiet (fail)
  go_wp2
  go_ret
  exact ⟨by simp, nq, rfl⟩
end Go.Proofs.YtbpenkaficiodaaGreat

/- Numbers as bytes: the reference's walk. -/
namespace Go.Proofs.YtbpenkaficiodaaGreat
open Go.RowKit

def numsText (l : List Nat) : List UInt8 := l.flatMap (be 8)
theorem numsText_length (l : List Nat) : (numsText l).length = 8 * l.length := by
  induction l with
  | nil => rfl
  | cons x l ih => rw [numsText, List.flatMap_cons, List.length_append, be_length]; show 8 + (numsText l).length = _; rw [ih, List.length_cons]; omega
theorem numsText_take {l : List Nat} {k x : Nat} (h : l[k]? = some x) : numsText (l.take (k + 1)) = numsText (l.take k) ++ be 8 x := by
  rw [List.take_add_one, h, numsText, List.flatMap_append]; simp [numsText]

set_option maxRecDepth 100000 in
set_option maxHeartbeats 1000000 in
theorem refNumbers_any (X : Option Addr) (capX : Nat) (V : List Nat) (w : World) (hX : Nums w X capX V) (hXl : V.length < 1000000) :
    Calls Tryz.prog 165 #[.slice X V.length capX] w fun e w' => e = .returned (.string (str (numsText V))) ∧ Below w.heap.size w w' := by
  obtain ⟨nX, hnX⟩ : ∃ n, n = V.length := ⟨_, rfl⟩
  obtain ⟨res, hres⟩ : ∃ s, s = numsText V := ⟨_, rfl⟩
  rw [← hnX, ← hres]
  have Hres := Lib.hid hres
  have HX0 := Lib.hid hX
  have HnX := Lib.hid hnX
  have hXl' : nX < 1000000 := by omega
  clear hres hX hnX hXl
  go_enter Tryz.func165, Tryz.ntmps165
  go_wp2_with fail
  go_loopw [3, 4] (fun sv kv wr => ∃ k : Nat, kv = .int .i64 (k : Int) ∧ k ≤ nX ∧ sv = .string (str (numsText (V.take k))) ∧ Below w.heap.size w wr) (fun _ kv _ => nX - (intOf kv).toNat)
  case atStart => exact ⟨0, rfl, by omega, rfl, Below.refl _ _⟩
  case round =>
    obtain ⟨k, rfl, hk, rfl, hbr⟩ := hrel
    have Hbr := Lib.hid hbr
    clear hbr
    by_cases hkl : k < nX
    · have d8 : decide ((k : Int) < (nX : Int)) = true := decide_eq_true (by omega)
      have hki : (k : Int) < (nX : Int) := by omega
      obtain ⟨x, hx⟩ : ∃ x, V[k]? = some x := ⟨_, List.getElem?_eq_getElem (by rw [← HnX.out]; exact hkl)⟩
      obtain ⟨ax, hAx, hxc⟩ := HX0.out.cells k x hx
      subst hAx
      have hxc := below_cell Hbr.out hxc
      have hxs := HX0.out.small x (List.mem_of_getElem? hx)
      have hnx := numsText_take hx
      have hln : (numsText (V.take k)).length = 8 * k := by rw [numsText_length, List.length_take, ← HnX.out]; omega
      have va := str_add Tryz.prog (numsText (V.take k)) (be 8 x) (by rw [hln, be_length]; omega)
      rw [← hnx] at va
      obtain ⟨s1, hs1⟩ : ∃ s, s = numsText (V.take k) := ⟨_, rfl⟩
      obtain ⟨s2, hs2⟩ : ∃ s, s = numsText (V.take (k + 1)) := ⟨_, rfl⟩
      rw [← hs1, ← hs2] at va
      rw [← hs1]
      have Hs2 := Lib.hid hs2
      have hcon := fun W => bytes_any x 8 W (by omega) (by omega)
      have Hcon := Lib.hid hcon
      clear hx hnx hln hs1 hs2 hcon
      go_wp2_with (go_at_call 175; refine (Hcon.out _).mono ?_; rintro e w2 ⟨rfl, hb2⟩; have Hb2 := Lib.hid hb2; clear hb2)
      go_roundw
      case rel => exact ⟨k + 1, by go_num, by omega, by rw [Hs2.out], below_trans Hbr.out Hb2.out⟩
      case measure => simp [intOf]; omega
    · have d8 : decide ((k : Int) < (nX : Int)) = false := decide_eq_false (by omega)
      have hr : res = numsText (V.take k) := by rw [Hres.out, List.take_of_length_le (by rw [← HnX.out]; omega)]
      have Hr := Lib.hid hr
      clear hr
      go_wp2_with fail
      go_ret
      exact ⟨by rw [Hr.out]; rfl, Hbr.out⟩
end Go.Proofs.YtbpenkaficiodaaGreat

/- A row that the call owns, whatever lies marked behind it; append of a slice's cells, or of a string's bytes, to it. -/
namespace Go.Proofs.YtbpenkaficiodaaGreat
open Go.RowKit

/-- No cell of the block is frozen. -/
def Loose (n : Nat) (fz : Nat × Nat) : Prop := ∀ o, o < n → (decide (fz.1 ≤ o) && decide (o < fz.2)) = false

/-- The slice v of n elements of sz cells owns the cells xs; its block lies from B on. -/
def Row (w : World) (B : Nat) (e : TypeId) (sz : Nat) (v : Value) (n : Nat) (xs : List Value) : Prop :=
  xs.length = n * sz ∧ ((v = .slice none 0 0 ∧ n = 0) ∨
    ∃ g cap cur fz, v = .slice (some ⟨g, 0, none⟩) n cap ∧ B ≤ g ∧ w.heap[g]? = some (.cells cur e fz) ∧ Loose cur.size fz ∧ n ≤ cap ∧ cap ≤ maxLen ∧ cur.size = cap * sz ∧ cur.toList.take (n * sz) = xs)

theorem Row.nil (w : World) (B : Nat) (e : TypeId) (sz : Nat) : Row w B e sz (.slice none 0 0) 0 [] := ⟨by simp, .inl ⟨rfl, rfl⟩⟩
theorem Row.block {w : World} {B : Nat} {e : TypeId} {sz n : Nat} {v : Value} {xs : List Value} (h : Row w B e sz v n xs) (k : Nat) (hk : v.ownBlock = some k) : B ≤ k ∧ k < w.heap.size := by
  rcases h.2 with ⟨rfl, _⟩ | ⟨g, cap, cur, fz, rfl, hb, hg, _⟩
  · simp [Value.ownBlock] at hk
  · simp [Value.ownBlock] at hk
    subst hk
    exact ⟨hb, (Array.getElem?_eq_some_iff.1 hg).1⟩
theorem Row.kept {w w1 : World} {B : Nat} {e : TypeId} {sz n : Nat} {v : Value} {xs : List Value} (h : Row w B e sz v n xs) {row : Option Nat} (hg : w.grownBy w1 row) (hne : v.ownBlock = none ∨ v.ownBlock ≠ row) : Row w1 B e sz v n xs := by
  refine ⟨h.1, ?_⟩
  rcases h.2 with hn | ⟨g, cap, cur, fz, rfl, hb, hgg, rest⟩
  · exact .inl hn
  · exact .inr ⟨g, cap, cur, fz, rfl, hb, (hg.block g (Array.getElem?_eq_some_iff.1 hgg).1 (by simpa [Value.ownBlock] using hne)).trans hgg, rest⟩
theorem Row.below {w w1 : World} {B : Nat} {e : TypeId} {sz n : Nat} {v : Value} {xs : List Value} (h : Row w B e sz v n xs) (hb : Below w.heap.size w w1) : Row w1 B e sz v n xs :=
  h.kept (grownBy_of_below hb none) (by cases v.ownBlock <;> simp)
theorem Row.slice {w : World} {B : Nat} {e : TypeId} {sz n : Nat} {v : Value} {xs : List Value} (h : Row w B e sz v n xs) : ∃ A c, v = .slice A n c := by
  rcases h.2 with ⟨rfl, rfl⟩ | ⟨g, cap, cur, fz, rfl, _⟩
  · exact ⟨none, 0, rfl⟩
  · exact ⟨_, cap, rfl⟩
/-- Where there is an element, the row lies in a block. -/
theorem Row.form {w : World} {B : Nat} {e : TypeId} {sz n : Nat} {v : Value} {xs : List Value} (h : Row w B e sz v n xs) (hn : 0 < n) :
    ∃ g cap, v = .slice (some ⟨g, 0, none⟩) n cap ∧ B ≤ g ∧ g < w.heap.size ∧ n ≤ cap ∧ (∀ j u, xs[j]? = some u → w.cell? ⟨g, j, none⟩ = some u ∧ w.frozen? ⟨g, j, none⟩ = false) := by
  rcases h.2 with ⟨_, h0⟩ | ⟨g, cap, cur, fz, rfl, hb, hg, hl, hnc, _, hcs, ht⟩
  · omega
  · refine ⟨g, cap, rfl, hb, (Array.getElem?_eq_some_iff.1 hg).1, hnc, fun j u hu => ?_⟩
    rw [← ht, List.getElem?_take] at hu
    split at hu
    · have hj : cur[j]? = some u := by simpa using hu
      refine ⟨by simp [World.cell?, hg, hj], ?_⟩
      have := hl j (Array.getElem?_eq_some_iff.1 hj).1
      simpa [World.frozen?, hg] using this
    · cases hu

theorem setCells_heap (g : Nat) (e : TypeId) (fz : Nat × Nat) : ∀ (vs : List Value) (o : Nat) (w : World) (cur : Array Value), w.heap[g]? = some (.cells cur e fz) → o + vs.length ≤ cur.size →
    ∃ arr : Array Value, (w.setCells g o vs).heap[g]? = some (.cells arr e fz) ∧ arr.toList = cur.toList.take o ++ vs ++ cur.toList.drop (o + vs.length) ∧ w.grownBy (w.setCells g o vs) (some g)
  | [], o, w, cur, h, _ => ⟨cur, h, by simp, grown_refl _ _⟩
  | v :: r, o, w, cur, h, hl => by
    have hl' : o + (r.length + 1) ≤ cur.size := hl
    have h1 : (w.setCell ⟨g, o, none⟩ v).heap[g]? = some (.cells (cur.setIfInBounds o v) e fz) := by simp [World.setCell, Array.getElem?_modify, h]
    obtain ⟨arr, ha, hb, hc⟩ := setCells_heap g e fz r (o + 1) (w.setCell ⟨g, o, none⟩ v) (cur.setIfInBounds o v) h1 (by simp; omega)
    refine ⟨arr, ha, ?_, grown_trans (grown_set w g o v) hc⟩
    rw [hb]
    have hlen : o < cur.toList.length := by simp; omega
    have e1 : (cur.setIfInBounds o v).toList = cur.toList.set o v := by simp
    rw [e1, List.take_set, List.drop_set_of_lt (by omega)]
    have e2 : (cur.toList.take (o + 1)).set o v = cur.toList.take o ++ [v] := by
      rw [List.take_succ_eq_append_getElem hlen, List.set_append_right _ _ (by simp; omega)]
      have : min o cur.size = o := by simp at hlen; omega
      simp [List.length_take, this]
    rw [e2]
    simp [Nat.add_assoc, Nat.add_comm 1]

theorem run_append_row {P : Program} (w : World) (B : Nat) (t t2 ty e : TypeId) (d2 : TypeDesc) (ht : P.underlying t = some (.slice e)) (ht2 : P.underlying t2 = some d2) (hd2 : (match d2 with | .slice _ => true | .string => true | _ => false) = true)
    (i : TypeInfo) (z : Value) (sz bytes : Nat) (hi : P.info? e = some i) (hz : i.zero = some z) (hsz : i.size = sz) (hby : i.bytes = bytes) (hzs : z.cells.size = sz) (hpos : 0 < sz)
    (v : Value) (n : Nat) (xs : List Value) (hown : Row w B e sz v n xs) (x : Value) (m : Nat) (news : List Value) (hnl : news.length = m * sz) (hlen : ∀ w : World, (Builtin.lenOf x).run P w = .ok m w)
    (hf : (Builtin.firstCells sz m x).run P w = .ok news.toArray w) (hf' : (Builtin.firstCells sz m x).run P w.drew = .ok news.toArray w.drew) (h1 : ∀ u ∈ news, u.oneCell' = true)
    (h63 : n + m ≤ maxLen) (hbytes : (n + m) * bytes ≤ 140737488355328) (hB : B ≤ w.heap.size) :
    ∃ v' w', (Builtin.append_ #[t, t2] ty #[v, x]).run P w = .ok v' w' ∧ Row w' B e sz v' (n + m) (xs ++ news) ∧ w.grownBy w' v.ownBlock := by
  subst hsz
  subst hby
  have hsmall : n + m ≤ 9223372036854775807 := by simp only [maxLen] at h63; omega
  have hxl := hown.1
  have hall : (xs ++ news).length = (n + m) * i.size := by rw [List.length_append, hxl, hnl, Nat.add_mul]
  have hgrown : ∀ (old : Nat), old < n + m → ∀ (row : Option Nat),
      Row (w.drew.alloc (.cells (xs.toArray ++ news.toArray ++ Builtin.zeroCells z.cells (grownCap w (n + m) old e - (n + m))) e)) B e i.size (.slice (some ⟨w.heap.size, 0, none⟩) (n + m) (grownCap w (n + m) old e)) (n + m) (xs ++ news) ∧
      w.grownBy (w.drew.alloc (.cells (xs.toArray ++ news.toArray ++ Builtin.zeroCells z.cells (grownCap w (n + m) old e - (n + m))) e)) row := by
    intro old ho row
    have hge := grownCap_ge w (n + m) old e
    have hcm : grownCap w (n + m) old e ≤ maxLen := grownCap_le_maxLen w (n + m) old e h63
    refine ⟨⟨hall, .inr ⟨w.heap.size, _, _, (0, 0), rfl, hB, heap_alloc_new w.drew _, fun o _ => by simp, hge, hcm, ?_, ?_⟩⟩, ⟨rfl, rfl, rfl, by simp, fun k hk _ => Below.heap_alloc w.drew _ k hk⟩⟩
    · simp only [Array.size_append, List.size_toArray, size_zeroCells, hzs, hxl, hnl, ← Nat.add_mul]
      congr 1
      omega
    · simp only [Array.toList_append, List.append_assoc]
      rw [← List.append_assoc, ← hall]
      exact List.take_left
  rcases hown.2 with ⟨rfl, rfl⟩ | ⟨g, cap, cur, fz, rfl, hbg, hg, hloose, hnc, hcm, hcs, htake⟩
  · obtain rfl : xs = [] := List.eq_nil_of_length_eq_zero (by simpa using hxl)
    by_cases hm : m = 0
    · subst hm
      obtain rfl : news = [] := List.eq_nil_of_length_eq_zero (by simpa using hnl)
      refine ⟨.slice none 0 0, w, ?_, Row.nil w B e i.size, grown_refl _ _⟩
      cases d2 <;> simp at hd2
      all_goals simp [Builtin.append_, run_underlying ht, run_underlying ht2, sizeOf, typeInfo, hi, hlen, hf]
      all_goals simp [Builtin.lenOf]
    · have hn0 : ¬ (0 + m ≤ 0) := by omega
      have h63' : ¬ (9223372036854775807 < (m : Int)) := by omega
      have h48 := growslice_fits (need := 0 + m) (old := 0) (by omega) hbytes
      have h48' : ¬ (281474976710656 < Builtin.nextslicecap m 0 * i.bytes) := by simp only [Nat.zero_add] at h48; omega
      have hgr := hgrown 0 (by omega) (Value.ownBlock (.slice none 0 0))
      refine ⟨_, _, ?_, hgr.1, hgr.2⟩
      cases d2 <;> simp at hd2
      all_goals simp [Builtin.append_, run_underlying ht, run_underlying ht2, sizeOf, typeInfo, zeroValue, hi, hz, hlen, hm, h63', h48', Question.forced, hf', newRow, grownCap, run_firstCells_none]
  · by_cases hroom : n + m ≤ cap
    · have hfit : n * i.size + news.length ≤ cur.size := by rw [hnl, hcs, ← Nat.add_mul]; exact Nat.mul_le_mul_right _ hroom
      obtain ⟨arr, ha, hb, hc⟩ := setCells_heap g e fz news (n * i.size) w cur hg hfit
      have hst := run_storeCells_cells (P := P) g (n * i.size) news 0 w (fun j hj => by
          have : (n * i.size + 0 + j) < cur.size := by omega
          simp [World.cell?, hg]; omega) (fun j hj => by
          have := hloose (n * i.size + 0 + j) (by omega)
          simpa [World.frozen?, hg] using this) h1
      simp only [Nat.add_zero] at hst
      refine ⟨.slice (some ⟨g, 0, none⟩) (n + m) cap, _, ?_, ⟨hall, .inr ⟨g, cap, arr, fz, rfl, hbg, ha, ?_, hroom, hcm, ?_, ?_⟩⟩, hc⟩
      · cases d2 <;> simp at hd2
        all_goals simp [Builtin.append_, run_underlying ht, run_underlying ht2, sizeOf, typeInfo, hi, hlen, hroom, hf, Addr.add_lit, hst]
      · have hs : arr.size = cur.size := by
          have := congrArg List.length hb
          simp at this; omega
        rw [hs]; exact hloose
      · have := congrArg List.length hb
        simp at this; omega
      · rw [hb, htake, ← hall]
        exact List.take_left
    · have hholds : ∀ j u, xs[j]? = some u → w.drew.cell? ((⟨g, 0, none⟩ : Addr).add j) = some u := by
        intro j u hu
        have hadd : (⟨g, 0, none⟩ : Addr).add j = ⟨g, j, none⟩ := by unfold Addr.add; split <;> simp_all
        rw [hadd]
        rw [← htake, List.getElem?_take] at hu
        split at hu
        · have hj : cur[j]? = some u := by simpa using hu
          show w.cell? _ = _
          simp [World.cell?, hg, hj]
        · cases hu
      have hfo := run_firstCells_some (P := P) w.drew i.size n ⟨g, 0, none⟩ n cap xs hxl hholds
      have h63' : ¬ (9223372036854775807 < ((n : Int) + (m : Int))) := by omega
      have h48 := growslice_fits (need := n + m) (old := cap) (by omega) hbytes
      have h48' : ¬ (281474976710656 < Builtin.nextslicecap (n + m) cap * i.bytes) := by omega
      have hgr := hgrown cap (by omega) (Value.ownBlock (.slice (some ⟨g, 0, none⟩) n cap))
      refine ⟨_, _, ?_, hgr.1, hgr.2⟩
      cases d2 <;> simp at hd2
      all_goals simp [Builtin.append_, run_underlying ht, run_underlying ht2, sizeOf, typeInfo, zeroValue, hi, hz, hlen, hroom, h63', h48', Question.forced, hf', hfo, newRow, grownCap]
      all_goals (congr 2; apply Array.ext'; simp [List.append_assoc])
section
variable {P : Program} {ops : Array Oper} {rest : List Oper} {o : Oper} {a : Act} {Q : Exit → Act → World → Prop}
/-- append(v, s...) of a string's bytes. -/
theorem ap_str {W : World} {B : Nat} {t t2 e : TypeId} (ht : P.underlying t = some (.slice e)) (ht2 : P.underlying t2 = some .string) (hinfo : (P.info? e).map (fun i => (i.zero, i.size, i.bytes)) = some (some (.int .u8 0), 1, 1))
    {v : Value} {l m : List UInt8} (HO : Row W B e 1 v l.length (vbytes l)) (hl : l.length + m.length ≤ 140737488355328) (hB : B ≤ W.heap.size)
    (hgd : o.guard = none) (s x : Operand) (ho : o.op = .call { callee := .builtin .append, args := #[s, x], argTypes := #[t, t2] }) (hs : a.eval s = v) (hx : a.eval x = .string (str m))
    (h : ∀ v1 w1, Row w1 B e 1 v1 (l ++ m).length (vbytes (l ++ m)) → W.grownBy w1 v.ownBlock → wpList P ops Q rest (a.put o.dst v1) w1) :
    wpList P ops Q (o :: rest) a W := by
  obtain ⟨i, hi, hz3⟩ := Option.map_eq_some_iff.1 hinfo
  simp only [Prod.mk.injEq] at hz3
  obtain ⟨hz0, hz1, hz2⟩ := hz3
  have hmax : l.length + m.length ≤ maxLen := by simp only [maxLen]; omega
  obtain ⟨v', w', hr, hrow, hg⟩ := run_append_row (P := P) W B t t2 o.type e .string ht ht2 rfl i (.int .u8 0) 1 1 hi hz0 hz1 hz2 rfl (by omega) v l.length (vbytes l) HO (.string (str m)) m.length (vbytes m)
    (by rw [vbytes_length]; omega) (fun w => by simp [Builtin.lenOf, str_size])
    (by have := Lib.run_firstCells_string (P := P) W 1 (str m); rw [str_size] at this; rw [this]; simp [Lib.strCells, vbytes, str])
    (by have := Lib.run_firstCells_string (P := P) W.drew 1 (str m); rw [str_size] at this; rw [this]; simp [Lib.strCells, vbytes, str])
    (by intro u hu; simp only [vbytes, List.mem_map] at hu; obtain ⟨c, _, rfl⟩ := hu; rfl) hmax (by omega) hB
  refine wpList_plain hgd fun K hK => ?_
  unfold Oper.wp execOp
  simp only [ho, resolve, invoke, builtin, Sem.run_bind, Sem.run_pure, Result.andThen_ok, List.map_toArray, List.map_cons, List.map_nil, hs, hx, hr]
  refine hK _ _ (h v' w' ?_ hg)
  rw [vbytes_append, List.length_append]; exact hrow
/-- append(v, y) of one element of one cell: the world is that in which y's own block was laid. -/
theorem ap_one {W : World} {B : Nat} {t e : TypeId} {z : Value} {bytes : Nat} (ht : P.underlying t = some (.slice e)) (hinfo : (P.info? e).map (fun i => (i.zero, i.size, i.bytes)) = some (some z, 1, bytes)) (hz : z.cells.size = 1)
    {v y : Value} {xs : List Value} (HO : Row W B e 1 v xs.length xs) (h1 : y.oneCell' = true) (hb0 : 0 < bytes) (hl : (xs.length + 1) * bytes ≤ 140737488355328) (hB : B ≤ W.heap.size)
    (hgd : o.guard = none) (s x : Operand) (ho : o.op = .call { callee := .builtin .append, args := #[s, x], argTypes := #[t, t] }) (hs : a.eval s = v) (hx : a.eval x = .slice (some ⟨W.heap.size, 0, none⟩) 1 1)
    (h : ∀ v1 w1, Row w1 B e 1 v1 (xs ++ [y]).length (xs ++ [y]) → W.grownBy w1 v.ownBlock → wpList P ops Q rest (a.put o.dst v1) w1) :
    wpList P ops Q (o :: rest) a (W.alloc (.cells #[y] e)) := by
  obtain ⟨i, hi, hz3⟩ := Option.map_eq_some_iff.1 hinfo
  simp only [Prod.mk.injEq] at hz3
  obtain ⟨hz0, hz1, hz2⟩ := hz3
  have hlen : xs.length + 1 ≤ 140737488355328 := Nat.le_trans (Nat.le_mul_of_pos_right _ hb0) hl
  have hcell := cell_one_new W y e
  have HO' : Row (W.alloc (.cells #[y] e)) B e 1 v xs.length xs := HO.kept (row := none) (grown_alloc W _ _) (by cases v.ownBlock <;> simp)
  obtain ⟨v', w', hr, hrow, hg⟩ := run_append_row (P := P) (W.alloc (.cells #[y] e)) B t t o.type e (.slice e) ht ht rfl i z 1 bytes hi hz0 hz1 hz2 hz (by omega) v xs.length xs HO' (.slice (some ⟨W.heap.size, 0, none⟩) 1 1) 1 [y]
    rfl (fun w => by simp [Builtin.lenOf]) (run_firstCells_some (P := P) _ 1 1 _ 1 1 [y] rfl hcell) (run_firstCells_some (P := P) _ 1 1 _ 1 1 [y] rfl (fun j u hj => hcell j u hj)) (by simpa using h1) (by simp only [maxLen]; omega) hl (by simp; omega)
  refine wpList_plain hgd fun K hK => ?_
  unfold Oper.wp execOp
  simp only [ho, resolve, invoke, builtin, Sem.run_bind, Sem.run_pure, Result.andThen_ok, List.map_toArray, List.map_cons, List.map_nil, hs, hx, hr]
  refine hK _ _ (h v' w' (by simpa using hrow) ?_)
  exact ⟨hg.os, hg.tape, hg.output, by have := hg.size; simp at this; omega, fun k hk hne => by
    rw [hg.block k (by simp; omega) hne]; exact Below.heap_alloc W _ k hk⟩
end

/-- What '[]byte(s)' has made. -/
theorem row_bytes (w : World) (e : TypeId) (l : List UInt8) (hl : l.length ≤ maxLen) :
    Row (Lib.bytesWorld w e (str l)) w.heap.size e 1 (.slice (some ⟨w.heap.size, 0, none⟩) l.length (grownCap w l.length 0 e)) l.length (vbytes l) ∧ Below w.heap.size w (Lib.bytesWorld w e (str l)) := by
  have hsz : (str l).size = l.length := str_size l
  have hge := grownCap_ge w l.length 0 e
  have hcs : (Lib.bytesCells w e (str l)).size = grownCap w l.length 0 e := by
    simp only [Lib.bytesCells, Array.size_append, Array.size_map, Array.size_replicate]
    have : (str l).data.size = l.length := by simp [str]
    rw [this, hsz]; omega
  refine ⟨⟨by rw [vbytes_length]; omega, .inr ⟨w.heap.size, grownCap w l.length 0 e, Lib.bytesCells w e (str l), _, rfl, Nat.le_refl _, Lib.bytesWorld_at_new w e (str l), ?_, hge, grownCap_le_maxLen w _ _ _ hl, by rw [hcs]; omega, ?_⟩⟩, ⟨rfl, rfl, rfl, by rw [Lib.bytesWorld_size]; omega, fun k hk => Lib.bytesWorld_at_old w e _ k hk⟩⟩
  · intro o ho
    simp; omega
  · simp only [Lib.bytesCells, Array.toList_append, Array.toList_map, Nat.mul_one]
    rw [List.take_left' (by simp [str])]
    simp [vbytes, str]
theorem run_bytes_of {P : Program} {src dst e : TypeId} (hs : P.underlying src = some .string) (hd : P.underlying dst = some (.slice e)) (he : P.underlying e = some (.int .u8)) (l : List UInt8) (w : World) :
    (convert src dst (.string (str l))).run P w = .ok (.slice (some ⟨w.heap.size, 0, none⟩) l.length (grownCap w l.length 0 e)) (Lib.bytesWorld w e (str l)) := by
  have := Lib.run_convert_string_bytes (P := P) w src dst e (str l) hs hd he
  rwa [str_size] at this
/-- string(v). -/
theorem Row.string {P : Program} {w : World} {B : Nat} {src dst e : TypeId} {v : Value} {l : List UInt8} (hs : P.underlying src = some (.slice e)) (he : P.underlying e = some (.int .u8)) (hd : P.underlying dst = some .string)
    (h : Row w B e 1 v l.length (vbytes l)) : (convert src dst v).run P w = .ok (.string (str l)) w := by
  rcases Nat.eq_zero_or_pos l.length with h0 | h0
  · obtain rfl : l = [] := List.eq_nil_of_length_eq_zero h0
    obtain ⟨A, c, rfl⟩ := h.slice
    cases A with
    | none => exact run_convert_bytes_nil w src e hs he 0 c dst hd
    | some ad =>
      rcases h.2 with ⟨hn, _⟩ | ⟨g, cap, cur, fz, hv, _⟩
      · cases hn
      · injection hv with hv _ _
        injection hv with hv
        subst hv
        have hx := run_convert_bytes_arg (P := P) w src e hs he g 0 0 c [] rfl (fun i hi => by omega) dst hd
        exact hx
  · obtain ⟨g, cap, rfl, _, _, _, hc⟩ := h.form h0
    have hx := run_convert_bytes_arg (P := P) w src e hs he g 0 l.length cap (l.map fun c => (c.toNat : Int)) (by simp) (fun i hi => ?_) dst hd
    · rw [hx]
      congr 2
      simp only [strOfNums, str, List.map_map]
      congr 2
      conv => rhs; rw [← List.map_id l]
      apply List.map_congr_left
      intro c _
      simp
    · have := (hc i (.int .u8 ((l.map fun c => (c.toNat : Int)).getD i 0)) (by simp [vbytes, hi])).1
      simpa using this

/-- An element of one cell is stored. -/
theorem Row.store {w : World} {B : Nat} {e : TypeId} {g n cap : Nat} {xs : List Value} (h : Row w B e 1 (.slice (some ⟨g, 0, none⟩) n cap) n xs) (j : Nat) (u : Value) :
    Row (w.setCell ⟨g, j, none⟩ u) B e 1 (.slice (some ⟨g, 0, none⟩) n cap) n (xs.set j u) := by
  refine ⟨by rw [List.length_set]; exact h.1, ?_⟩
  rcases h.2 with ⟨hn, _⟩ | ⟨g', cap', cur, fz, hv, hb, hg, hl, hnc, hcm, hcs, ht⟩
  · cases hn
  · injection hv with hv _ hc
    injection hv with hv
    injection hv with hv
    subst hv hc
    refine .inr ⟨g, cap, cur.setIfInBounds j u, fz, rfl, hb, by simp [World.setCell, Array.getElem?_modify, hg], by simpa using hl, hnc, hcm, by simpa using hcs, ?_⟩
    rw [← ht, Array.toList_setIfInBounds, List.take_set]

end Go.Proofs.YtbpenkaficiodaaGreat

/- append(v, y...) of a slice's elements to a row that the call owns; a builder that is written while other blocks stand. -/
namespace Go.Proofs.YtbpenkaficiodaaGreat
open Go.RowKit
section
variable {P : Program} {ops : Array Oper} {rest : List Oper} {o : Oper} {a : Act} {Q : Exit → Act → World → Prop}
theorem ap_slice {W : World} {B : Nat} {t e : TypeId} {z : Value} {sz bytes : Nat} (ht : P.underlying t = some (.slice e)) (hinfo : (P.info? e).map (fun i => (i.zero, i.size, i.bytes)) = some (some z, sz, bytes)) (hz : z.cells.size = sz) (hpos : 0 < sz)
    {v : Value} {n : Nat} {xs : List Value} (HO : Row W B e sz v n xs) {A : Option Addr} {m cap : Nat} {news : List Value} (hnl : news.length = m * sz) (hcells : ∀ j u, news[j]? = some u → ∃ b, A = some b ∧ W.cell? (b.add j) = some u)
    (h1 : ∀ u ∈ news, u.oneCell' = true) (hm : n + m ≤ maxLen) (hl : (n + m) * bytes ≤ 140737488355328) (hB : B ≤ W.heap.size)
    (hgd : o.guard = none) (s x : Operand) (ho : o.op = .call { callee := .builtin .append, args := #[s, x], argTypes := #[t, t] }) (hs : a.eval s = v) (hx : a.eval x = .slice A m cap)
    (h : ∀ v1 w1, Row w1 B e sz v1 (n + m) (xs ++ news) → W.grownBy w1 v.ownBlock → wpList P ops Q rest (a.put o.dst v1) w1) :
    wpList P ops Q (o :: rest) a W := by
  obtain ⟨i, hi, hz3⟩ := Option.map_eq_some_iff.1 hinfo
  simp only [Prod.mk.injEq] at hz3
  obtain ⟨hz0, hz1, hz2⟩ := hz3
  have hfirst : ∀ w' : World, w'.heap = W.heap → (Builtin.firstCells sz m (.slice A m cap)).run P w' = .ok news.toArray w' := by
    intro w' hw
    cases A with
    | none =>
      have hn : news = [] := by
        cases news with
        | nil => rfl
        | cons u r => obtain ⟨b, hb, _⟩ := hcells 0 u rfl; cases hb
      subst hn
      exact run_firstCells_none (P := P) w' sz m m cap
    | some b =>
      refine run_firstCells_some (P := P) w' sz m b m cap news hnl fun j u hj => ?_
      obtain ⟨b', hb, hc⟩ := hcells j u hj
      injection hb with hb
      subst hb
      rw [World.cell?, hw]
      exact hc
  obtain ⟨v', w', hr, hrow, hg⟩ := run_append_row (P := P) W B t t o.type e (.slice e) ht ht rfl i z sz bytes hi hz0 hz1 hz2 hz hpos v n xs HO (.slice A m cap) m news hnl
    (fun w => by simp [Builtin.lenOf]) (hfirst W rfl) (hfirst W.drew rfl) h1 hm hl hB
  refine wpList_plain hgd fun K hK => ?_
  unfold Oper.wp execOp
  simp only [ho, resolve, invoke, builtin, Sem.run_bind, Sem.run_pure, Result.andThen_ok, List.map_toArray, List.map_cons, List.map_nil, hs, hx, hr]
  exact hK _ _ (h v' w' hrow hg)
end
/-- A row's block, as it stands. -/
theorem Row.obj {w : World} {B : Nat} {e : TypeId} {sz n : Nat} {v : Value} {xs : List Value} (h : Row w B e sz v n xs) (hn : 0 < n) :
    ∃ g cap cur fz, v = .slice (some ⟨g, 0, none⟩) n cap ∧ B ≤ g ∧ n ≤ cap ∧ w.heap[g]? = some (.cells cur e fz) ∧ (∀ (j : Nat) (u : Value), xs[j]? = some u → cur[j]? = some u) := by
  rcases h.2 with ⟨_, h0⟩ | ⟨g, cap, cur, fz, rfl, hb, hg, hl, hnc, _, hcs, ht⟩
  · omega
  · refine ⟨g, cap, cur, fz, rfl, hb, hnc, hg, fun j u hu => ?_⟩
    rw [← ht, List.getElem?_take] at hu
    split at hu
    · simpa using hu
    · cases hu
theorem obj_cell {w : World} {g : Nat} {cur : Array Value} {e : TypeId} {fz : Nat × Nat} (h : w.heap[g]? = some (.cells cur e fz)) (j : Nat) : w.cell? ⟨g, j, none⟩ = cur[j]? := by
  simp [World.cell?, h]
theorem Bld.fresh {w : World} {b : Nat} (h : w.heap[b]? = some (.cells #[.pointer none, .slice none 0 0] 214 (0, 0))) : Bld w b [] :=
  .inl ⟨Nat.le_refl _, .slice none 0 0, h, World.ownsRowF_nil _ _ _ _, by simp [Value.ownBlock]⟩
theorem Bld.writeK (b : Nat) (l m : List UInt8) (w : World) (h : Bld w b l) (hl : l.length + m.length ≤ 140737488355328) :
    Calls Tryz.prog 185 #[.pointer (some ⟨b, 0, none⟩), .string (str m)] w fun e w' => e = .returned (.tuple #[.int .i64 (m.length : Int), .nilIface]) ∧ Bld w' b (l ++ m) ∧ Below b w w' ∧ Lib.OthersKept 5 (some b) w w' := by
  refine (Any.Builder_WriteString_k Tryz.bl166 Tryz.bl_Extra b b _ (str m) w h (by rw [str_size]; simpa [Lib.byteCells] using hl) (Nat.le_of_lt h.lt)).mono ?_
  rintro e w' ⟨rfl, h1, h2, h3⟩
  refine ⟨by rw [str_size], .inr ?_, h2, h3⟩
  have : Lib.byteCells (l ++ m) = Lib.byteCells l ++ Lib.strCells (str m) := by simp [Lib.byteCells, Lib.strCells, str]
  rw [this]; exact h1
end Go.Proofs.YtbpenkaficiodaaGreat

/- The digest's sum: the exported function. -/
namespace Go.Proofs.YtbpenkaficiodaaGreat
open Go.RowKit

set_option maxRecDepth 100000 in
set_option maxHeartbeats 400000 in
theorem sumTop_any (l : List UInt8) (w : World) (hl : l.length ≤ 1099511627776) :
    Calls Tryz.prog 187 #[.string (str l)] w fun e w' => e = .returned (.string (str (sha l))) ∧ Below w.heap.size w w' := by
  go_enter Tryz.func187, Tryz.ntmps187
  go_wp2_with (go_at_call 196; refine (sum_any w.heap.size (str l) _ (.inl (Blk.of _ _ _ _ rfl)) (by rw [str_size]; exact hl)).mono ?_; rintro e w1 ⟨rfl, hM1, hg1⟩; have Hg1 := Lib.hid hg1; clear hM1 hg1; rw [str_list])
  go_ret
  exact ⟨rfl, below_of_grown ((Below.refl _ _).alloc (Nat.le_refl _) _) Hg1.out (Nat.le_refl _)⟩
end Go.Proofs.YtbpenkaficiodaaGreat

/- A block that is known whole, as a row. -/
namespace Go.Proofs.YtbpenkaficiodaaGreat
open Go.RowKit
theorem Row.of_blk {w : World} {b : Nat} {T : TypeId} {cs : List Value} (h : Blk w b T cs) (n : Nat) (hn : cs.length = n) (hm : n ≤ maxLen) : Row w b T 1 (.slice (some ⟨b, 0, none⟩) n n) n cs := by
  refine ⟨by omega, .inr ⟨b, n, cs.toArray, (0, 0), rfl, Nat.le_refl _, h, fun o _ => by simp, Nat.le_refl _, hm, by simp [hn], ?_⟩⟩
  simp [List.take_of_length_le (show cs.length ≤ n by omega)]

theorem row_low {w : World} {B B' : Nat} {e : TypeId} {sz n : Nat} {v : Value} {xs : List Value} (h : Row w B e sz v n xs) (hB : B' ≤ B) : Row w B' e sz v n xs := by
  refine ⟨h.1, ?_⟩
  rcases h.2 with hn | ⟨g, cap, cur, fz, rfl, hb, rest⟩
  · exact .inl hn
  · exact .inr ⟨g, cap, cur, fz, rfl, Nat.le_trans hB hb, rest⟩
end Go.Proofs.YtbpenkaficiodaaGreat

/- Numbers of labels and parts: the program's walk. -/
namespace Go.Proofs.YtbpenkaficiodaaGreat
open Go.RowKit

def lenText (s : List UInt8) : List UInt8 := be 8 s.length ++ s
def numText (l : List (List UInt8)) : List UInt8 := l.flatMap lenText
def numStep (q n : Nat) (c : UInt8) : Nat := addM (mulM n 256 q) c.toNat q
def numberOf (label : List UInt8) (parts : List (List UInt8)) (q : Nat) : Nat := ((sha (numText (label :: parts))).take 16).foldl (numStep q) 0
theorem numText_take (l : List (List UInt8)) (k : Nat) (x : List UInt8) (h : l[k]? = some x) : numText (l.take (k + 1)) = numText (l.take k) ++ lenText x := by
  obtain ⟨hk, rfl⟩ := List.getElem?_eq_some_iff.1 h
  unfold numText
  rw [List.take_succ_eq_append_getElem hk, List.flatMap_append]
  simp
def totalLen (l : List (List UInt8)) : Nat := (l.map List.length).sum
theorem numText_length (l : List (List UInt8)) : (numText l).length = 8 * l.length + totalLen l := by
  unfold numText totalLen
  induction l with
  | nil => rfl
  | cons x l ih => simp only [List.flatMap_cons, List.length_append, List.length_cons, List.map_cons, List.sum_cons, lenText, be_length, ih]; omega
theorem numText_take_le (l : List (List UInt8)) (k : Nat) : (numText (l.take k)).length ≤ (numText l).length := by
  unfold numText
  conv => rhs; rw [← List.take_append_drop k l, List.flatMap_append, List.length_append]
  omega
theorem numStep_le (q n : Nat) (c : UInt8) : numStep q n c ≤ 4611686018427387904 := addM_lt _ _ _
theorem fold_take (q : Nat) (l : List UInt8) (k : Nat) (c : UInt8) (h : l[k]? = some c) : (l.take (k + 1)).foldl (numStep q) 0 = numStep q ((l.take k).foldl (numStep q) 0) c := by
  obtain ⟨hk, rfl⟩ := List.getElem?_eq_some_iff.1 h
  rw [List.take_succ_eq_append_getElem hk, List.foldl_append]
  rfl
theorem fold_le (q : Nat) (l : List UInt8) (n : Nat) (h : n ≤ 4611686018427387904) : l.foldl (numStep q) n ≤ 4611686018427387904 := by
  induction l generalizing n with
  | nil => exact h
  | cons c l ih => exact ih _ (numStep_le _ _ _)

theorem Tryz.info_str : (Tryz.prog.info? 9).map (fun i => (i.zero, i.size, i.bytes)) = some (some (.string ⟨#[]⟩), 1, 16) := by kernel_rfl
theorem Tryz.und_strs : Tryz.prog.underlying 193 = some (.slice 9) := by kernel_rfl

set_option maxRecDepth 100000 in
set_option maxHeartbeats 2000000 in
theorem number_text (label : List UInt8) (A : Option Addr) (cap : Nat) (parts : List (List UInt8)) (q : Nat) (w : World) (hp : Strs w A cap parts) (hq : q < 18446744073709551616) (hT : (numText (label :: parts)).length ≤ 1099511627776) (hlen : parts.length ≤ 1099511627776) :
    Calls Tryz.prog 163 #[.string (str label), .slice A parts.length cap, .int .u64 (q : Int)] w fun e w' => e = .returned (.int .u64 (numberOf label parts q : Int)) ∧ Below w.heap.size w w' := by
  have Hp := Lib.hid hp
  obtain ⟨r, hr⟩ : ∃ r, r = numberOf label parts q := ⟨_, rfl⟩
  rw [← hr]
  have Hr := Lib.hid hr
  clear hr
  obtain ⟨L, hL⟩ : ∃ L, L = label :: parts := ⟨_, rfl⟩
  have hLl : L.length = parts.length + 1 := by rw [hL]; rfl
  have HL := Lib.hid hL
  have HLl := Lib.hid hLl
  have hTL : (numText L).length ≤ 1099511627776 := by rw [hL]; exact hT
  clear hp hL hT
  have hB0 : Bld ((w.alloc (.cells #[.pointer none, .slice none 0 0] 214)).alloc (.cells #[.string (str label)] 9)) w.heap.size [] := (Bld.new w).below ((Below.refl _ _).alloc (Nat.le_refl _) _)
  have hR0 : Row ((w.alloc (.cells #[.pointer none, .slice none 0 0] 214)).alloc (.cells #[.string (str label)] 9)) (w.heap.size + 1) 9 1 (.slice (some ⟨w.heap.size + 1, 0, none⟩) 1 1) 1 [.string (str label)] := by
    have := Row.of_blk (Blk.of (w.alloc (.cells #[.pointer none, .slice none 0 0] 214)) 9 #[.string (str label)] [.string (str label)] rfl) 1 rfl (by simp [maxLen])
    simpa using this
  have hc0 : ∀ j u, (parts.map fun x => Value.string (str x))[j]? = some u → ∃ b, A = some b ∧ ((w.alloc (.cells #[.pointer none, .slice none 0 0] 214)).alloc (.cells #[.string (str label)] 9)).cell? (b.add j) = some u := by
    intro j u hu
    rw [List.getElem?_map] at hu
    obtain ⟨x, hx, rfl⟩ := Option.map_eq_some_iff.1 hu
    obtain ⟨b, hb, hc⟩ := Hp.out.cells j x hx
    exact ⟨b, hb, below_cell (((Below.refl w.heap.size w).alloc (Nat.le_refl _) _).alloc (by simp) _) hc⟩
  have HB0 := Lib.hid hB0
  have HR0 := Lib.hid hR0
  have HC0 := Lib.hid hc0
  clear hB0 hR0 hc0
  go_enter Tryz.func163, Tryz.ntmps163
  go_wp2_with (at_builtin; go_must (refine ap_slice (news := parts.map fun x => Value.string (str x)) Tryz.und_strs Tryz.info_str rfl (by omega) HR0.out (by simp) HC0.out (by intro u hu; obtain ⟨x, _, rfl⟩ := List.mem_map.1 hu; rfl) (by simp only [maxLen]; omega) (by omega) (by simp) rfl _ _ rfl rfl rfl ?_; intro v1 w1 hr1 hg1; obtain ⟨g, cp1, cur, fz, rfl, hgb, hnc, hgo, hgc⟩ := Row.obj hr1 (by omega); have Hgo := Lib.hid hgo; have Hgc := Lib.hid hgc; have Hg1 := Lib.hid hg1; clear hr1 hg1 hgo hgc))
  have hgL : ∀ (k : Nat) x, L[k]? = some x → cur[k]? = some (.string (str x)) := by
    intro k x hx
    refine Hgc.out k _ ?_
    rw [HL.out] at hx
    cases k with
    | zero =>
      simp only [List.getElem?_cons_zero, Option.some.injEq] at hx
      subst hx; rfl
    | succ k =>
      simp only [List.getElem?_cons_succ] at hx
      show (parts.map fun x => Value.string (str x))[k]? = _
      rw [List.getElem?_map, hx]; rfl
  have hB1 : Bld w1 w.heap.size [] := by
    refine Bld.fresh ((Hg1.out.block w.heap.size (by simp; omega) (by simp [Value.ownBlock])).trans ?_)
    exact (Below.heap_alloc _ _ _ (by simp)).trans (heap_alloc_new w _)
  have hb1 : Below w.heap.size w w1 := below_of_grown (((Below.refl _ _).alloc (Nat.le_refl _) _).alloc (by simp) _) Hg1.out (by show w.heap.size ≤ w.heap.size + 1; omega)
  have HgL := Lib.hid hgL
  have HB1 := Lib.hid hB1
  have Hb1 := Lib.hid hb1
  clear hgL hB1 hb1 HC0 HR0 HB0 Hg1 Hgc Hp
  obtain ⟨n, hn⟩ : ∃ n, n = parts.length := ⟨_, rfl⟩
  rw [← hn] at hlen
  rw [← hn] at HLl
  rw [← hn]
  clear hn
  go_loopw [18] (fun y wr => ∃ k : Nat, k ≤ n + 1 ∧ y = .int .i64 (k : Int) ∧ Bld wr w.heap.size (numText (L.take k)) ∧ wr.heap[g]? = some (.cells cur 9 fz) ∧ Below w.heap.size w wr) (fun y _ => n + 1 - (intOf y).toNat)
  case atStart => exact ⟨0, by omega, rfl, HB1.out, Hgo.out, Hb1.out⟩
  case round =>
    obtain ⟨k, hk, rfl, hB, hG, hb⟩ := hrel
    have HB := Lib.hid hB
    have HG := Lib.hid hG
    have Hb := Lib.hid hb
    clear hB hG hb HB1 Hgo Hb1
    by_cases hlt : k < n + 1
    · have d1 : decide ((k : Int) < 1 + (n : Int)) = true := decide_eq_true (by omega)
      have hkL : k < L.length := by rw [HLl.out]; exact hlt
      obtain ⟨x, hx⟩ : ∃ x, L[k]? = some x := ⟨_, List.getElem?_eq_getElem hkL⟩
      have hcell : wr.cell? ⟨g, k, none⟩ = some (.string (str x)) := by rw [obj_cell HG.out]; exact HgL.out k x hx
      have hnx := numText_take L k x hx
      have hxl : x.length ≤ 1099511627776 := by
        have h1 := numText_take_le L (k + 1)
        rw [hnx, List.length_append, lenText, List.length_append, be_length] at h1
        omega
      have hMb : (numText (L.take k)).length + (lenText x).length ≤ 140737488355328 := by
        have h1 := numText_take_le L (k + 1)
        rw [hnx, List.length_append] at h1
        omega
      obtain ⟨M, hM⟩ : ∃ M, M = numText (L.take k) := ⟨_, rfl⟩
      rw [← hM] at HB hMb
      rw [← hM] at hnx
      have hsz := str_size x
      obtain ⟨xl, hxl2⟩ : ∃ xl, xl = x.length := ⟨_, rfl⟩
      rw [← hxl2] at hsz hxl
      have hcv : IntKind.u64.wrap (xl : Int) = (xl : Int) := by rw [IntKind.wrap_u64]; omega
      have ha := str_add Tryz.prog (be 8 xl) x (by rw [be_length]; omega)
      obtain ⟨T, hT⟩ : ∃ T, T = be 8 xl ++ x := ⟨_, rfl⟩
      have hT2 : lenText x = T := by rw [hT, hxl2]; rfl
      rw [← hT] at ha
      rw [hT2] at hnx hMb
      have Hnx := Lib.hid hnx
      have k1 : (k : Int) < 1 + (n : Int) := by omega
      have k2 : k < 1 + n := by omega
      clear hM hnx hT hT2 hx hkL hxl2
      go_wp2_with fail
      refine (number_any xl 8 _ (by omega) (by omega)).mono ?_
      rintro e w2 ⟨rfl, hb2⟩
      have hgl : g < wr.heap.size := (Array.getElem?_eq_some_iff.1 HG.out).1
      have HB2 := Lib.hid (HB.out.below hb2)
      have HG2 := Lib.hid ((hb2.block g hgl).trans HG.out)
      have Hb2 := Lib.hid (below_trans Hb.out hb2)
      have hs2 := Hb.out.size
      have hs3 := hb2.size
      clear hb2 HB HG Hb
      go_wp2_with fail
      refine (Bld.writeK _ _ _ _ HB2.out hMb).mono ?_
      rintro e w3 ⟨rfl, hB3, hb3, hO3⟩
      rw [← Hnx.out] at hB3
      have HB3 := Lib.hid hB3
      have HG3 := Lib.hid (hO3 g _ HG2.out (by intro h; injection h with h; omega) (by intro c f h; injection h with _ h; exact absurd h (by decide)))
      have Hb3 := Lib.hid (Hb2.out.trans hb3)
      clear hB3 hO3 hb3 HB2 HG2 Hb2
      go_wp2_with fail
      go_roundw
      case rel => exact ⟨k + 1, by omega, by go_num, HB3.out, HG3.out, Hb3.out⟩
      case measure => simp [intOf]; omega
    · have d1 : decide ((k : Int) < 1 + (n : Int)) = false := decide_eq_false (by omega)
      have hLk : L.take k = L := List.take_of_length_le (by rw [HLl.out]; omega)
      obtain ⟨T, hT⟩ : ∃ T, T = numText L := ⟨_, rfl⟩
      have hB := HB.out
      rw [hLk, ← hT] at hB
      have HB2 := Lib.hid hB
      obtain ⟨h, hh⟩ : ∃ h, h = sha T := ⟨_, rfl⟩
      have hhl : h.length = 32 := by rw [hh, sha_length]
      have hsz : (str h).size = 32 := by rw [str_size, hhl]
      have hex : (str h).extract 0 16 = str (h.take 16) := str_take h 16
      obtain ⟨b, hbb⟩ : ∃ b, b = h.take 16 := ⟨_, rfl⟩
      have hbl : b.length = 16 := by rw [hbb, List.length_take, hhl]; rfl
      rw [← hbb] at hex
      have hTl : T.length ≤ 1099511627776 := by rw [hT]; exact hTL
      have hfin : r = b.foldl (numStep q) 0 := by rw [Hr.out, numberOf, ← HL.out, ← hT, ← hh, ← hbb]
      have Hfin := Lib.hid hfin
      have Hh := Lib.hid hh
      clear hB hLk hT hh hbb hfin hhl HB
      go_wp2_with fail
      refine (Bld.string _ _ _ HB2.out).mono ?_
      rintro e w2 ⟨rfl, _, hb2⟩
      have Hb2 := Lib.hid (Hb.out.trans hb2)
      clear hb2 Hb HB2 HG
      go_wp2_with fail
      refine (sumTop_any T _ hTl).mono ?_
      rintro e w3 ⟨rfl, hb3⟩
      rw [← Hh.out]
      have Hb3 := Lib.hid (below_trans Hb2.out hb3)
      clear hb3 Hb2
      have a2 := fun W : World => run_bytes_of (P := Tryz.prog) Tryz.underlying_str Tryz.underlying_bytes Tryz.underlying_u8 b W
      have hR := row_bytes w3 5 b (by rw [hbl]; simp [maxLen])
      rw [hbl] at hR
      have a3 := a2 w3
      rw [hbl] at a3
      clear a2
      have HR := Lib.hid hR
      clear hR
      go_wp2_with fail
      clear a3
      obtain ⟨cp2, hcp2⟩ : ∃ c, c = grownCap w3 16 0 5 := ⟨_, rfl⟩
      have hR := HR.out
      rw [← hcp2] at hR ⊢
      have HR := Lib.hid hR
      clear hR hcp2
      generalize Lib.bytesWorld w3 5 (str b) = w4 at *
      go_loopw [10, 35] (fun x y wr => ∃ j z : Nat, j ≤ 16 ∧ y = .int .i64 (j : Int) ∧ x = .int .u64 (z : Int) ∧ z ≤ 4611686018427387904 ∧ z = (b.take j).foldl (numStep q) 0 ∧ Row wr w3.heap.size 5 1 (.slice (some ⟨w3.heap.size, 0, none⟩) 16 cp2) 16 (vbytes b) ∧ Below w3.heap.size w3 wr) (fun _ y _ => 16 - (intOf y).toNat)
      case atStart => exact ⟨0, 0, by omega, rfl, rfl, by omega, rfl, HR.out.1, HR.out.2⟩
      case round =>
        obtain ⟨j, z, hj, rfl, rfl, hz, hzf, hrow, hbl2⟩ := hrel
        have Hzf := Lib.hid hzf
        have Hb4 := Lib.hid hbl2
        clear hzf hbl2 HR
        by_cases hj16 : j < 16
        · have c1 : decide ((j : Int) < 16) = true := decide_eq_true (by omega)
          have c2 : (j : Int) < 16 := by omega
          obtain ⟨c, hc⟩ : ∃ c, b[j]? = some c := ⟨_, List.getElem?_eq_getElem (by omega)⟩
          obtain ⟨g2, cap2, hv2, _, _, _, hcells⟩ := hrow.form (by omega)
          injection hv2 with hv3 _ hv4
          injection hv3 with hv3
          injection hv3 with hv3
          subst hv3 hv4
          have hcell := (hcells j (.int .u8 (c.toNat : Int)) (by rw [vbytes, List.getElem?_map, hc]; rfl)).1
          have hft := fold_take q b j c hc
          rw [← Hzf.out] at hft
          have hcb := c.toNat_lt
          obtain ⟨m1, hm1⟩ : ∃ m, m = mulM z 256 q := ⟨_, rfl⟩
          have hm1b : m1 ≤ 4611686018427387904 := by rw [hm1]; exact mulM_lt _ _ _
          obtain ⟨z2, hz2⟩ : ∃ m, m = addM m1 c.toNat q := ⟨_, rfl⟩
          have hz2b : z2 ≤ 4611686018427387904 := by rw [hz2]; exact addM_lt _ _ _
          have hft2 : (b.take (j + 1)).foldl (numStep q) 0 = z2 := by rw [hft, numStep, ← hm1, ← hz2]
          have Hm1 := Lib.hid hm1
          have Hz2 := Lib.hid hz2
          have Hft := Lib.hid hft2
          have Hrow := Lib.hid hrow
          clear hc hcells hft hft2 hm1 hz2 hrow
          go_wp2_with fail
          refine (mul_any z 256 q _ (by omega) (by omega) hq).mono ?_
          rintro e w5 ⟨rfl, n1, rfl⟩
          rw [← Hm1.out]
          go_wp2_with fail
          refine (add_any m1 c.toNat q _ (by omega) (by omega) hq).mono ?_
          rintro e w6 ⟨rfl, n2, rfl⟩
          rw [← Hz2.out]
          go_wp2_with fail
          go_roundw
          case rel => exact ⟨j + 1, z2, by omega, by go_num, rfl, hz2b, Hft.out.symm, Hrow.out, below_drewN Hb4.out _⟩
          case measure => simp [intOf]; omega
        · have c1 : decide ((j : Int) < 16) = false := decide_eq_false (by omega)
          have hzr : z = r := by rw [Hzf.out, Hfin.out, List.take_of_length_le (by omega)]
          have Hb5 := Lib.hid (Hb3.out.trans (Hb4.out.mono Hb3.out.size))
          clear hrow Hb4 Hb3
          subst hzr
          go_wp2_with fail
          go_ret
          exact ⟨rfl, Hb5.out⟩
end Go.Proofs.YtbpenkaficiodaaGreat

/- append to a slice of length and capacity nought at some address; texts in a row. -/
namespace Go.Proofs.YtbpenkaficiodaaGreat
open Go.RowKit

theorem run_append_zero {P : Program} (w : World) (B : Nat) (t ty e : TypeId) (ht : P.underlying t = some (.slice e))
    (i : TypeInfo) (z : Value) (sz bytes : Nat) (hi : P.info? e = some i) (hz : i.zero = some z) (hsz : i.size = sz) (hby : i.bytes = bytes) (hzs : z.cells.size = sz) (_hpos : 0 < sz)
    (b : Addr) (x : Value) (m : Nat) (news : List Value) (hnl : news.length = m * sz) (hm : 0 < m) (hlen : ∀ w : World, (Builtin.lenOf x).run P w = .ok m w)
    (hf' : (Builtin.firstCells sz m x).run P w.drew = .ok news.toArray w.drew)
    (h63 : m ≤ maxLen) (hbytes : m * bytes ≤ 140737488355328) (hB : B ≤ w.heap.size) :
    ∃ v' w', (Builtin.append_ #[t, t] ty #[.slice (some b) 0 0, x]).run P w = .ok v' w' ∧ Row w' B e sz v' m news ∧ w.grownBy w' none := by
  subst hsz
  subst hby
  have hge := grownCap_ge w m 0 e
  have hcm : grownCap w m 0 e ≤ maxLen := grownCap_le_maxLen w m 0 e h63
  have hrow : Row (w.drew.alloc (.cells (news.toArray ++ Builtin.zeroCells z.cells (grownCap w m 0 e - m)) e)) B e i.size (.slice (some ⟨w.heap.size, 0, none⟩) m (grownCap w m 0 e)) m news := by
    refine ⟨hnl, .inr ⟨w.heap.size, _, _, (0, 0), rfl, hB, heap_alloc_new w.drew _, fun o _ => by simp, hge, hcm, ?_, ?_⟩⟩
    · simp only [Array.size_append, List.size_toArray, size_zeroCells, hzs, hnl, ← Nat.add_mul]
      congr 1
      omega
    · simp only [Array.toList_append]
      rw [← hnl]
      exact List.take_left
  have hgr : w.grownBy (w.drew.alloc (.cells (news.toArray ++ Builtin.zeroCells z.cells (grownCap w m 0 e - m)) e)) none :=
    ⟨rfl, rfl, rfl, by simp, fun k hk _ => Below.heap_alloc w.drew _ k hk⟩
  have hfo := run_firstCells_some (P := P) w.drew i.size 0 b 0 0 [] (by simp) (fun j u hj => by simp at hj)
  have hn0 : ¬ (0 + m ≤ 0) := by omega
  have hm0 : ¬ m = 0 := by omega
  have h63' : ¬ (9223372036854775807 < (m : Int)) := by simp only [maxLen] at h63; omega
  have h48 := growslice_fits (need := 0 + m) (old := 0) (by omega) (by simpa using hbytes)
  have h48' : ¬ (281474976710656 < Builtin.nextslicecap m 0 * i.bytes) := by simp only [Nat.zero_add] at h48; omega
  refine ⟨_, _, ?_, hrow, hgr⟩
  simp [Builtin.append_, run_underlying ht, sizeOf, typeInfo, zeroValue, hi, hz, hlen, hm0, h63', h48', Question.forced, hf', hfo, newRow, grownCap]
section
variable {P : Program} {ops : Array Oper} {rest : List Oper} {o : Oper} {a : Act} {Q : Exit → Act → World → Prop}
/-- A row that the call owns, or nothing yet at whatever address. -/
def RowZ (w : World) (B : Nat) (e : TypeId) (v : Value) (xs : List Value) : Prop := (xs = [] ∧ ∃ X, v = .slice (some X) 0 0) ∨ Row w B e 1 v xs.length xs
theorem RowZ.kept {w w1 : World} {B : Nat} {e : TypeId} {v : Value} {xs : List Value} (h : RowZ w B e v xs) (hb : Below w.heap.size w w1) : RowZ w1 B e v xs := h.imp id (·.below hb)
theorem RowZ.row {w : World} {B : Nat} {e : TypeId} {v : Value} {xs : List Value} (h : RowZ w B e v xs) (hn : 0 < xs.length) : Row w B e 1 v xs.length xs := by
  rcases h with ⟨rfl, _⟩ | h
  · simp at hn
  · exact h
/-- append(v, y) where y's own block was laid just now. -/
theorem ap_oneZ {W : World} {B : Nat} {t e : TypeId} {z : Value} {bytes : Nat} (ht : P.underlying t = some (.slice e)) (hinfo : (P.info? e).map (fun i => (i.zero, i.size, i.bytes)) = some (some z, 1, bytes)) (hz : z.cells.size = 1)
    {v y : Value} {xs : List Value} (HO : RowZ W B e v xs) (h1 : y.oneCell' = true) (hb0 : 0 < bytes) (hl : (xs.length + 1) * bytes ≤ 140737488355328) (hB : B ≤ W.heap.size)
    (hgd : o.guard = none) (s x : Operand) (ho : o.op = .call { callee := .builtin .append, args := #[s, x], argTypes := #[t, t] }) (hs : a.eval s = v) (hx : a.eval x = .slice (some ⟨W.heap.size, 0, none⟩) 1 1)
    (h : ∀ v1 w1, Row w1 B e 1 v1 (xs ++ [y]).length (xs ++ [y]) → Below B W w1 → wpList P ops Q rest (a.put o.dst v1) w1) :
    wpList P ops Q (o :: rest) a (W.alloc (.cells #[y] e)) := by
  rcases HO with ⟨rfl, X, rfl⟩ | HO
  · obtain ⟨i, hi, hz3⟩ := Option.map_eq_some_iff.1 hinfo
    simp only [Prod.mk.injEq] at hz3
    obtain ⟨hz0, hz1, hz2⟩ := hz3
    have hcell := cell_one_new W y e
    have hb1 : bytes ≤ 140737488355328 := by simpa using hl
    obtain ⟨v', w', hr, hrow, hg⟩ := run_append_zero (P := P) (W.alloc (.cells #[y] e)) B t o.type e ht i z 1 bytes hi hz0 hz1 hz2 hz (by omega) X (.slice (some ⟨W.heap.size, 0, none⟩) 1 1) 1 [y] rfl (by omega)
      (fun w => by simp [Builtin.lenOf]) (run_firstCells_some (P := P) _ 1 1 _ 1 1 [y] rfl (fun j u hj => hcell j u hj)) (by simp [maxLen]) (by omega) (by simp; omega)
    refine wpList_plain hgd fun K hK => ?_
    unfold Oper.wp execOp
    simp only [ho, resolve, invoke, builtin, Sem.run_bind, Sem.run_pure, Result.andThen_ok, List.map_toArray, List.map_cons, List.map_nil, hs, hx, hr]
    refine hK _ _ (h v' w' (by simpa using hrow) ?_)
    exact ⟨hg.os, hg.tape, hg.output, by have := hg.size; simp at this; omega, fun k hk => by
      rw [hg.block k (by simp; omega) (by simp)]; exact Below.heap_alloc W _ k (by omega)⟩
  · refine ap_one ht hinfo hz HO h1 hb0 hl hB hgd s x ho hs hx ?_
    intro v1 w1 hr hg
    refine h v1 w1 hr ⟨hg.os, hg.tape, hg.output, by have := hg.size; omega, fun k hk => hg.block k (by omega) ?_⟩
    intro hk2
    have := HO.block k hk2.symm
    omega
end
theorem Strs.drop {w : World} {A : Option Addr} {cap : Nat} {l : List (List UInt8)} (h : Strs w A cap l) (d : Nat) (hd : d ≤ l.length) : Strs w (if cap = d then A else A.map (·.add d)) (cap - d) (l.drop d) := by
  have hl := h.len
  refine ⟨by simp; omega, fun i x hx => ?_⟩
  rw [List.getElem?_drop] at hx
  have hi := (List.getElem?_eq_some_iff.1 hx).1
  obtain ⟨a, ha, hc⟩ := h.cells (d + i) x hx
  rw [if_neg (by omega), ha]
  exact ⟨_, rfl, by rw [addr_add]; exact hc⟩
/-- A text as a value. -/
def tv (x : List UInt8) : Value := .string (str x)
theorem Row.strs {w : World} {B : Nat} {e : TypeId} {v : Value} {l : List (List UInt8)} (h : Row w B e 1 v l.length (l.map tv)) (hn : 0 < l.length) :
    ∃ g cap, v = .slice (some ⟨g, 0, none⟩) l.length cap ∧ B ≤ g ∧ g < w.heap.size ∧ Strs w (some ⟨g, 0, none⟩) cap l := by
  obtain ⟨g, cap, rfl, hb, hg, hc, hcells⟩ := h.form hn
  refine ⟨g, cap, rfl, hb, hg, hc, fun i x hx => ⟨_, rfl, ?_⟩⟩
  have := (hcells i (tv x) (by rw [List.getElem?_map, hx]; rfl)).1
  have ha : (⟨g, 0, none⟩ : Addr).add i = ⟨g, i, none⟩ := by unfold Addr.add; split <;> simp_all
  rw [ha]; exact this
/-- append(v, y) as a step of a region. -/
theorem step_oneZ {P : Program} {ops : Array Oper} {o : Oper} {a : Act} {K : Act → World → Prop} {Q : Exit → Act → World → Prop} {E : Prop} {W : World} {B : Nat} {t e : TypeId} {z : Value} {bytes : Nat} (ht : P.underlying t = some (.slice e)) (hinfo : (P.info? e).map (fun i => (i.zero, i.size, i.bytes)) = some (some z, 1, bytes)) (hz : z.cells.size = 1)
    {v y : Value} {xs : List Value} (HO : RowZ W B e v xs) {ad : Addr} (hc : W.cell? ad = some y) (h1 : y.oneCell' = true) (hb0 : 0 < bytes) (hl : (xs.length + 1) * bytes ≤ 140737488355328) (hB : B ≤ W.heap.size)
    (hgd : o.guard = none) (s x : Operand) (ho : o.op = .call { callee := .builtin .append, args := #[s, x], argTypes := #[t, t] }) (hs : a.eval s = v) (hx : a.eval x = .slice (some ad) 1 1)
    (h : ∀ v1 w1, Row w1 B e 1 v1 (xs ++ [y]).length (xs ++ [y]) → Below B W w1 → K (a.put o.dst v1) w1) :
    if Region.wanted o (yielded ops a.tmps) = true then Oper.wp P o a W K Q else E := by
  rw [if_pos (by simp [Region.wanted, hgd])]
  obtain ⟨i, hi, hz3⟩ := Option.map_eq_some_iff.1 hinfo
  simp only [Prod.mk.injEq] at hz3
  obtain ⟨hz0, hz1, hz2⟩ := hz3
  have hcell : ∀ j u, [y][j]? = some u → W.cell? (ad.add j) = some u := by
    intro j u hj
    cases j with
    | zero =>
      simp only [List.getElem?_cons_zero, Option.some.injEq] at hj
      subst hj; exact hc
    | succ j => simp at hj
  have hfc := run_firstCells_some (P := P) W 1 1 ad 1 1 [y] rfl hcell
  have hfd := run_firstCells_some (P := P) W.drew 1 1 ad 1 1 [y] rfl hcell
  have hl1 : xs.length + 1 ≤ 140737488355328 := Nat.le_trans (Nat.le_mul_of_pos_right _ hb0) hl
  have hb1 : bytes ≤ 140737488355328 := Nat.le_trans (Nat.le_mul_of_pos_left _ (by omega)) hl
  rcases HO with ⟨rfl, X, rfl⟩ | HO
  · obtain ⟨v', w', hr, hrow, hg⟩ := run_append_zero (P := P) W B t o.type e ht i z 1 bytes hi hz0 hz1 hz2 hz (by omega) X (.slice (some ad) 1 1) 1 [y] rfl (by omega)
      (fun w => by simp [Builtin.lenOf]) hfd (by simp [maxLen]) (by omega) hB
    unfold Oper.wp execOp
    simp only [ho, resolve, invoke, builtin, Sem.run_bind, Sem.run_pure, Result.andThen_ok, List.map_toArray, List.map_cons, List.map_nil, hs, hx, hr]
    exact h v' w' (by simpa using hrow) ⟨hg.os, hg.tape, hg.output, hg.size, fun k hk => hg.block k (by omega) (by simp)⟩
  · obtain ⟨v', w', hr, hrow, hg⟩ := run_append_row (P := P) W B t t o.type e (.slice e) ht ht rfl i z 1 bytes hi hz0 hz1 hz2 hz (by omega) v xs.length xs HO (.slice (some ad) 1 1) 1 [y]
      rfl (fun w => by simp [Builtin.lenOf]) hfc hfd (by simpa using h1) (by simp only [maxLen]; omega) hl hB
    unfold Oper.wp execOp
    simp only [ho, resolve, invoke, builtin, Sem.run_bind, Sem.run_pure, Result.andThen_ok, List.map_toArray, List.map_cons, List.map_nil, hs, hx, hr]
    refine h v' w' (by simpa using hrow) ⟨hg.os, hg.tape, hg.output, hg.size, fun k hk => hg.block k (by omega) ?_⟩
    intro hk2
    have := HO.block k hk2.symm
    omega
end Go.Proofs.YtbpenkaficiodaaGreat

/- How many exponents a claim is about: the program's walk: what stands in its closure. -/
namespace Go.Proofs.YtbpenkaficiodaaGreat
open Go.RowKit

def glist (P Q G H : Nat) (R : Value) : List Value := [.int .u64 (P : Int), .int .u64 (Q : Int), .int .u64 (G : Int), .int .u64 (H : Int), R]

set_option maxRecDepth 100000 in
set_option maxHeartbeats 1000000 in
theorem out_any (P Q G H x b : Nat) (R : Value) (w : World) (hP : P < 18446744073709551616) (hQ : Q < 18446744073709551616) (hx : x < 18446744073709551616) (hB : Blk w b 25 (glist P Q G H R)) :
    Calls Tryz.prog 131 #[.int .u64 (x : Int), .pointer (some ⟨b, 0, none⟩)] w fun e w' => e = .returned (.bool (!inG P Q x)) ∧ Below w.heap.size w w' := by
  have c0 := hB.cell 0
  have c1 := hB.cell 1
  have c2 := hB.cell 2
  have c3 := hB.cell 3
  have c4 := hB.cell 4
  simp only [glist, List.getElem?_cons_zero, List.getElem?_cons_succ] at c0 c1 c2 c3 c4
  clear hB
  obtain ⟨r, hr⟩ : ∃ r, r = inG P Q x := ⟨_, rfl⟩
  have Hr := Lib.hid hr
  rw [← hr]
  clear hr
  go_enter Tryz.func131, Tryz.ntmps131
  go_wp2_with fail
  refine (in_any P Q G H x R _ hP hQ hx).mono ?_
  rw [← Hr.out]
  rintro e w' ⟨rfl, hb⟩
  go_wp2_with fail
  go_ret
  exact ⟨rfl, hb⟩

theorem any_not_take {P Q k x : Nat} {l : List Nat} (h : l[k]? = some x) (hk : (l.take k).any (fun x => !inG P Q x) = false) (hx : inG P Q x = true) : (l.take (k + 1)).any (fun x => !inG P Q x) = false := by
  rw [List.take_add_one, h, List.any_append, hk]; simp [hx]
theorem any_yes {P Q k x : Nat} {l : List Nat} (h : l[k]? = some x) (hx : inG P Q x = false) : l.any (fun x => !inG P Q x) = true := by
  rw [List.any_eq_true]; exact ⟨x, List.mem_of_getElem? h, by rw [hx]; rfl⟩

set_option maxRecDepth 100000 in
set_option maxHeartbeats 1000000 in
theorem index_any (P Q G H b : Nat) (R : Value) (A : Option Addr) (cap : Nat) (l : List Nat) (w : World) (hP : P < 18446744073709551616) (hQ : Q < 18446744073709551616) (hl : l.length < 9223372036854775808) (hB : Blk w b 25 (glist P Q G H R)) (hN : Nums w A cap l) :
    Calls Tryz.prog 172 #[.slice A l.length cap, .func (.func 131) #[] #[.pointer (some ⟨b, 0, none⟩)]] w fun e w' => (∃ z : Int, e = .returned (.int .i64 z) ∧ decide (0 ≤ z) = l.any (fun x => !inG P Q x)) ∧ Below w.heap.size w w' := by
  obtain ⟨r, hr⟩ : ∃ r, r = l.any (fun x => !inG P Q x) := ⟨_, rfl⟩
  obtain ⟨len, hlen⟩ : ∃ n, n = l.length := ⟨_, rfl⟩
  rw [← hr, ← hlen]
  have Hr := Lib.hid hr
  have Hlen := Lib.hid hlen
  have HN := Lib.hid hN
  have HB := Lib.hid hB
  have hbl := hB.lt
  rw [← hlen] at hl
  clear hr hlen hN hB
  go_enter Tryz.func172, Tryz.ntmps172
  go_wp2_with fail
  go_loopw [5, 8] (fun _ iv wr => ∃ k : Nat, iv = .int .i64 (k : Int) ∧ k ≤ len ∧ (l.take k).any (fun x => !inG P Q x) = false ∧ Below w.heap.size w wr) (fun _ iv _ => len - (intOf iv).toNat)
  case atStart => exact ⟨0, rfl, by omega, by simp, Below.refl _ _⟩
  case round =>
    obtain ⟨k, rfl, hk, hnk, hbr⟩ := hrel
    have Hnk := Lib.hid hnk
    have Hbr := Lib.hid hbr
    clear hnk hbr
    by_cases hkl : k < len
    · have d1 : decide ((k : Int) < (len : Int)) = true := decide_eq_true (by omega)
      obtain ⟨x, hx⟩ : ∃ x, l[k]? = some x := ⟨_, List.getElem?_eq_getElem (by rw [← Hlen.out]; exact hkl)⟩
      obtain ⟨a, rfl, hcell⟩ := HN.out.cells k x hx
      have hcell := below_cell Hbr.out hcell
      have hxs := HN.out.small x (List.mem_of_getElem? hx)
      have hki : (k : Int) < (len : Int) := by omega
      have Hx := Lib.hid hx
      clear hx
      cases hin : inG P Q x with
      | true =>
        have Hin := Lib.hid hin
        clear hin
        go_wp2_with (go_at_call 131; refine (out_any P Q G H x b R _ hP hQ hxs (HB.out.below Hbr.out hbl)).mono ?_; rw [Hin.out]; rintro e w2 ⟨rfl, hb2⟩; have Hb2 := Lib.hid hb2; clear hb2)
        go_roundw
        case rel => exact ⟨k + 1, by go_num, by omega, any_not_take Hx.out Hnk.out Hin.out, below_trans Hbr.out Hb2.out⟩
        case measure => simp [intOf]; omega
      | false =>
        have Hin := Lib.hid hin
        have hres : r = true := by rw [Hr.out]; exact any_yes Hx.out hin
        clear hin
        go_wp2_with (go_at_call 131; refine (out_any P Q G H x b R _ hP hQ hxs (HB.out.below Hbr.out hbl)).mono ?_; rw [Hin.out]; rintro e w2 ⟨rfl, hb2⟩; have Hb2 := Lib.hid hb2; clear hb2)
        go_ret
        exact ⟨⟨_, rfl, by rw [hres]; exact decide_eq_true (by omega)⟩, below_trans Hbr.out Hb2.out⟩
    · have d1 : decide ((k : Int) < (len : Int)) = false := decide_eq_false (by omega)
      have hres : r = false := by rw [Hr.out, ← Hnk.out, List.take_of_length_le (by rw [← Hlen.out]; omega)]
      go_wp2_with fail
      go_ret
      exact ⟨⟨_, rfl, by rw [hres]; rfl⟩, Hbr.out⟩

set_option maxRecDepth 100000 in
set_option maxHeartbeats 1000000 in
theorem contains_any (P Q G H b : Nat) (R : Value) (A : Option Addr) (cap : Nat) (l : List Nat) (w : World) (hP : P < 18446744073709551616) (hQ : Q < 18446744073709551616) (hl : l.length < 9223372036854775808) (hB : Blk w b 25 (glist P Q G H R)) (hN : Nums w A cap l) :
    Calls Tryz.prog 132 #[.slice A l.length cap, .func (.func 131) #[] #[.pointer (some ⟨b, 0, none⟩)]] w fun e w' => e = .returned (.bool (l.any (fun x => !inG P Q x))) ∧ Below w.heap.size w w' := by
  have HI := Lib.hid (index_any P Q G H b R A cap l w hP hQ hl hB hN)
  obtain ⟨r, hr⟩ : ∃ r, r = l.any (fun x => !inG P Q x) := ⟨_, rfl⟩
  rw [← hr]
  have Hr := Lib.hid hr
  clear hr hB hN
  go_enter Tryz.func132, Tryz.ntmps132
  go_wp2_with fail
  refine HI.out.mono ?_
  rw [← Hr.out]
  rintro e w' ⟨⟨z, rfl, hz⟩, hb⟩
  go_wp2_with fail
  go_ret
  exact ⟨rfl, hb⟩
end Go.Proofs.YtbpenkaficiodaaGreat

/- How many exponents a claim is about: the program's walk. -/
namespace Go.Proofs.YtbpenkaficiodaaGreat
open Go.RowKit

def cval (A : Option Addr) (capT nT : Nat) (B : Option Addr) (capB nB : Nat) : Value := .agg #[.slice A nT capT, .slice B nB capB]
def outs (P Q : Nat) (r : List Nat) : Bool := r.any (fun x => !inG P Q x)
def rowOk (P Q n : Nat) (r : List Nat) : Bool := decide (r.length = n) && decide (n ≤ 64) && !outs P Q r
def sizeC (P Q : Nat) (T : List Nat) (L : List (List Nat)) : Nat :=
  if T.length = 0 ∨ 64 < T.length ∨ L.length ≠ T.length then 0
  else if outs P Q T then 0
  else if L.all (rowOk P Q (L.headD []).length) then (L.headD []).length else 0
theorem sizeC_len {P Q : Nat} {T : List Nat} {L : List (List Nat)} (h : T.length = 0 ∨ 64 < T.length ∨ L.length ≠ T.length) : sizeC P Q T L = 0 := if_pos h
theorem sizeC_out {P Q : Nat} {T : List Nat} {L : List (List Nat)} (h2 : outs P Q T = true) : sizeC P Q T L = 0 := by
  unfold sizeC; split <;> simp [h2]
theorem sizeC_rows {P Q n : Nat} {T : List Nat} {L : List (List Nat)} (h : ¬(T.length = 0 ∨ 64 < T.length ∨ L.length ≠ T.length)) (h2 : outs P Q T = false) (hn : n = (L.headD []).length) : sizeC P Q T L = if L.all (rowOk P Q n) then n else 0 := by
  rw [sizeC, if_neg h, h2, hn]; rfl
theorem rows_take {P Q n k : Nat} {rs : List NumV} {r : NumV} (h : rs[k]? = some r) (hk : ((rs.take k).all fun r => rowOk P Q n r.l) = true) (hx : rowOk P Q n r.l = true) : ((rs.take (k + 1)).all fun r => rowOk P Q n r.l) = true := by
  rw [List.take_add_one, h, List.all_append, hk]; simp [hx]
theorem rows_no {P Q n k : Nat} {rs : List NumV} {r : NumV} (h : rs[k]? = some r) (hx : rowOk P Q n r.l = false) : (rs.all fun r => rowOk P Q n r.l) = false := by
  rw [List.all_eq_false]; exact ⟨r, List.mem_of_getElem? h, by rw [hx]; simp⟩
theorem rows_map {P Q n : Nat} {rs : List NumV} : ((rs.map (·.l)).all (rowOk P Q n)) = rs.all fun r => rowOk P Q n r.l := by rw [List.all_map]; rfl

set_option maxRecDepth 100000 in
set_option maxHeartbeats 2000000 in
theorem size_any (P Q G H : Nat) (R : Value) (A : Option Addr) (capT : Nat) (T : List Nat) (B : Option Addr) (capB : Nat) (rs : List NumV) (w : World) (hP : P < 18446744073709551616) (hQ : Q < 18446744073709551616) (hT : Nums w A capT T) (hR : Grid w B capB rs)
    (hTl : T.length < 9223372036854775808) (hRl : rs.length < 9223372036854775808) (hrl : ∀ r ∈ rs, r.l.length < 9223372036854775808) :
    Calls Tryz.prog 58 #[gval P Q G H R, cval A capT T.length B capB rs.length] w fun e w' => e = .returned (.int .i64 (sizeC P Q T (rs.map (·.l)) : Int)) ∧ Below w.heap.size w w' := by
  unfold gval cval
  have hmf : ∀ (fn : Fn) (first cap : Array Value) (w : World), (Instr.makeFunc fn first cap).run Tryz.prog w = .ok (.func fn first cap) w := fun _ _ _ _ => rfl
  obtain ⟨nT, hnT⟩ : ∃ n, n = T.length := ⟨_, rfl⟩
  obtain ⟨nB, hnB⟩ : ∃ n, n = rs.length := ⟨_, rfl⟩
  have hb0 : Below w.heap.size w ((w.alloc (.cells #[.int .u64 (P : Int), .int .u64 (Q : Int), .int .u64 (G : Int), .int .u64 (H : Int), R] 25)).alloc (.cells #[.slice A nT capT, .slice B nB capB] 83)) :=
    ((Below.refl _ _).alloc (Nat.le_refl _) _).alloc (by simp) _
  have hg0 : Blk ((w.alloc (.cells #[.int .u64 (P : Int), .int .u64 (Q : Int), .int .u64 (G : Int), .int .u64 (H : Int), R] 25)).alloc (.cells #[.slice A nT capT, .slice B nB capB] 83)) w.heap.size 25 (glist P Q G H R) :=
    (Blk.of w _ _ _ rfl).alloc _
  have hc0 : Blk ((w.alloc (.cells #[.int .u64 (P : Int), .int .u64 (Q : Int), .int .u64 (G : Int), .int .u64 (H : Int), R] 25)).alloc (.cells #[.slice A nT capT, .slice B nB capB] 83)) (w.heap.size + 1) 83 [.slice A nT capT, .slice B nB capB] := by
    have := Blk.of (w.alloc (.cells #[.int .u64 (P : Int), .int .u64 (Q : Int), .int .u64 (G : Int), .int .u64 (H : Int), R] 25)) 83 #[.slice A nT capT, .slice B nB capB] _ rfl
    rwa [show (w.alloc (.cells #[.int .u64 (P : Int), .int .u64 (Q : Int), .int .u64 (G : Int), .int .u64 (H : Int), R] 25)).heap.size = w.heap.size + 1 by simp] at this
  have hT0 := hT.below hb0
  have hR0 := hR.below hb0
  have hk := contains_any P Q G H w.heap.size R A capT T _ hP hQ hTl hg0 hT0
  rw [← hnT] at hk ⊢
  rw [← hnB]
  have Hk := Lib.hid hk
  have Hb0 := Lib.hid hb0
  have Hg0 := Lib.hid hg0
  have Hc0 := Lib.hid hc0
  have HR0 := Lib.hid hR0
  have HnT := Lib.hid hnT
  have HnB := Lib.hid hnB
  have hTl' : nT < 9223372036854775808 := by omega
  have hRl' : nB < 9223372036854775808 := by omega
  obtain ⟨res, hres⟩ : ∃ s, s = sizeC P Q T (rs.map (·.l)) := ⟨_, rfl⟩
  rw [← hres]
  have Hres := Lib.hid hres
  have Hrl := Lib.hid hrl
  clear hres hk hb0 hg0 hc0 hR0 hT0 hR hT hTl hRl hnT hnB hrl
  by_cases h1 : nT = 0
  · have d1 : ((nT : Int) == 0) = true := by rw [beq_iff_eq]; omega
    have hr : res = 0 := by rw [Hres.out]; exact sizeC_len (.inl (by rw [← HnT.out]; exact h1))
    subst hr
    clear h1
    go_enter Tryz.func58, Tryz.ntmps58
    go_wp2_with fail
    go_ret
    exact ⟨rfl, Hb0.out⟩
  have d1 : ((nT : Int) == 0) = false := by rw [beq_eq_false_iff_ne]; omega
  by_cases h2 : 64 < nT
  · have d2 : decide ((64 : Int) < (nT : Int)) = true := decide_eq_true (by omega)
    have hr : res = 0 := by rw [Hres.out]; exact sizeC_len (.inr (.inl (by rw [← HnT.out]; exact h2)))
    subst hr
    go_enter Tryz.func58, Tryz.ntmps58
    go_wp2_with fail
    go_ret
    exact ⟨rfl, Hb0.out⟩
  have d2 : decide ((64 : Int) < (nT : Int)) = false := decide_eq_false (by omega)
  by_cases h3 : nB = nT
  case neg =>
    have d3 : ((nB : Int) != (nT : Int)) = true := by rw [bne_iff_ne]; omega
    have hr : res = 0 := by rw [Hres.out]; exact sizeC_len (.inr (.inr (by rw [← HnT.out, List.length_map, ← HnB.out]; exact h3)))
    subst hr
    go_enter Tryz.func58, Tryz.ntmps58
    go_wp2_with fail
    go_ret
    exact ⟨rfl, Hb0.out⟩
  subst h3
  cases ho : outs P Q T with
  | true =>
    have hr : res = 0 := by rw [Hres.out]; exact sizeC_out ho
    subst hr
    have Ho := Lib.hid ho
    clear ho
    go_enter Tryz.func58, Tryz.ntmps58
    go_wp2_with (go_at_call 132; refine Hk.out.mono ?_; rintro e w2 ⟨rfl, hb2⟩; rw [show (T.any fun x => !inG P Q x) = true from Ho.out]; have Hb2 := Lib.hid hb2; clear hb2)
    go_ret
    exact ⟨rfl, below_trans Hb0.out Hb2.out⟩
  | false =>
    have Ho := Lib.hid ho
    obtain ⟨r0, hr0⟩ : ∃ r, rs[0]? = some r := ⟨_, List.getElem?_eq_getElem (by rw [← HnB.out]; omega)⟩
    obtain ⟨n, hn⟩ : ∃ n, n = r0.l.length := ⟨_, rfl⟩
    have hr : res = if rs.all (fun r => rowOk P Q n r.l) then n else 0 := by
      rw [Hres.out, sizeC_rows (n := n) (by rw [← HnT.out, List.length_map, ← HnB.out]; omega) ho ?_, rows_map]
      rw [hn]
      cases rs with
      | nil => simp at hr0
      | cons a l => simp at hr0; subst hr0; rfl
    have Hr := Lib.hid hr
    have hn64 : n < 9223372036854775808 := by rw [hn]; exact Hrl.out r0 (List.mem_of_getElem? hr0)
    have Hr0 := Lib.hid hr0
    have Hn := Lib.hid hn
    obtain ⟨b, rfl, hcell0⟩ := HR0.out.cells 0 r0 hr0
    have hv0 : r0.val = .slice r0.A n r0.cap := by rw [hn]; rfl
    rw [hv0, addr_zero] at hcell0
    have Hcell0 := Lib.hid hcell0
    have hB1 : (0 : Int) < (nB : Int) := by omega
    have hB0 : 0 < nB := by omega
    clear ho hr hr0 hn hv0 hcell0 Hres
    go_enter Tryz.func58, Tryz.ntmps58
    go_wp2_with (go_at_call 132; refine Hk.out.mono ?_; rintro e w2 ⟨rfl, hb2⟩; rw [show (T.any fun x => !inG P Q x) = false from Ho.out]; have hcell0 := below_cell hb2 Hcell0.out; have hcl0 := (Hc0.out.below hb2 Hc0.out.lt).cell 0; have hcl1 := (Hc0.out.below hb2 Hc0.out.lt).cell 1; have HR2 := Lib.hid (HR0.out.below hb2); have HG2 := Lib.hid (Hg0.out.below hb2 Hg0.out.lt); have Hb02 := Lib.hid (below_trans Hb0.out hb2); simp only [List.getElem?_cons_zero, List.getElem?_cons_succ] at hcl0 hcl1; clear hb2)
    have hgl := HG2.out.lt
    clear Hb0 Hg0 Hc0 HR0 Hk Hcell0 hcl0 hcl1
    go_loopw [8, 43] (fun _ iv wr => ∃ k : Nat, iv = .int .i64 (k : Int) ∧ k ≤ nB ∧ ((rs.take k).all fun r => rowOk P Q n r.l) = true ∧ Below w2.heap.size w2 wr) (fun _ iv _ => nB - (intOf iv).toNat)
    case atStart => exact ⟨0, rfl, by omega, by simp, Below.refl _ _⟩
    case round =>
      obtain ⟨k, rfl, hk, hnk, hbr⟩ := hrel
      have Hnk := Lib.hid hnk
      have Hbr := Lib.hid hbr
      clear hnk hbr hcell0
      by_cases hkl : k < nB
      · have d4 : decide ((k : Int) < (nB : Int)) = true := decide_eq_true (by omega)
        have hki : (k : Int) < (nB : Int) := by omega
        obtain ⟨r, hr⟩ : ∃ r, rs[k]? = some r := ⟨_, List.getElem?_eq_getElem (by rw [← HnB.out]; exact hkl)⟩
        obtain ⟨b', hb', hcell⟩ := HR2.out.cells k r hr
        injection hb' with hb'
        subst hb'
        have hcell := below_cell Hbr.out hcell
        obtain ⟨m, hm⟩ : ∃ m, m = r.l.length := ⟨_, rfl⟩
        have hv : r.val = .slice r.A m r.cap := by rw [hm]; rfl
        rw [hv] at hcell
        have hmb : m < 9223372036854775808 := by rw [hm]; exact Hrl.out r (List.mem_of_getElem? hr)
        have hcon := contains_any P Q G H w.heap.size R r.A r.cap r.l _ hP hQ (by rw [← hm]; exact hmb) (HG2.out.below Hbr.out hgl) ((HR2.out.nums r (List.mem_of_getElem? hr)).below Hbr.out)
        rw [← hm] at hcon
        have Hcon := Lib.hid hcon
        have Hr1 := Lib.hid hr
        have Hm := Lib.hid hm
        clear hcon hr hm hv
        by_cases hmn : m = n
        case neg =>
          have d5 : ((m : Int) != (n : Int)) = true := by rw [bne_iff_ne]; omega
          have hres : res = 0 := by
            rw [Hr.out, rows_no Hr1.out (by simp only [rowOk, ← Hm.out, decide_eq_false hmn]; rfl)]; rfl
          subst hres
          clear hmn
          go_wp2_with fail
          go_ret
          exact ⟨rfl, below_trans Hb02.out Hbr.out⟩
        subst hmn
        by_cases h64 : 64 < m
        · have d5 : decide ((64 : Int) < (m : Int)) = true := decide_eq_true (by omega)
          have hres : res = 0 := by
            rw [Hr.out, rows_no Hr1.out (by simp only [rowOk, decide_eq_false (show ¬m ≤ 64 by omega)]; simp)]; rfl
          subst hres
          go_wp2_with fail
          go_ret
          exact ⟨rfl, below_trans Hb02.out Hbr.out⟩
        have d5 : decide ((64 : Int) < (m : Int)) = false := decide_eq_false (by omega)
        cases ho : outs P Q r.l with
        | true =>
          have hres : res = 0 := by
            rw [Hr.out, rows_no Hr1.out (by simp only [rowOk, ho]; simp)]; rfl
          subst hres
          have Ho1 := Lib.hid ho
          clear ho
          go_wp2_with (go_at_call 132; refine Hcon.out.mono ?_; rintro e w3 ⟨rfl, hb3⟩; rw [show (r.l.any fun x => !inG P Q x) = true from Ho1.out]; have Hb3 := Lib.hid hb3; clear hb3)
          go_ret
          exact ⟨rfl, below_trans Hb02.out (below_trans Hbr.out Hb3.out)⟩
        | false =>
          have hok : rowOk P Q m r.l = true := by
            simp only [rowOk, ho, ← Hm.out, decide_eq_true (show m ≤ 64 by omega)]; simp
          have hnx := rows_take Hr1.out Hnk.out hok
          have Ho1 := Lib.hid ho
          have Hnx := Lib.hid hnx
          clear ho hok hnx
          go_wp2_with (go_at_call 132; refine Hcon.out.mono ?_; rintro e w3 ⟨rfl, hb3⟩; rw [show (r.l.any fun x => !inG P Q x) = false from Ho1.out]; have Hb3 := Lib.hid hb3; clear hb3)
          go_roundw
          case rel => exact ⟨k + 1, by go_num, by omega, Hnx.out, below_trans Hbr.out Hb3.out⟩
          case measure => simp [intOf]; omega
      · have d4 : decide ((k : Int) < (nB : Int)) = false := decide_eq_false (by omega)
        have hres : res = n := by
          have h := Hnk.out
          rw [List.take_of_length_le (by rw [← HnB.out]; omega)] at h
          rw [Hr.out, h]; rfl
        subst hres
        go_wp2_with fail
        go_ret
        exact ⟨rfl, below_trans Hb02.out Hbr.out⟩
end Go.Proofs.YtbpenkaficiodaaGreat

/- A region that draws its order, whose operations only read and whose callees leave the old blocks as they are (they may draw and lay blocks): walked once, in the order of the text. -/
namespace Go.Proofs.YtbpenkaficiodaaGreat
open Go.RowKit Go.BigFrame

/-- A world in which w's blocks stand as in w. -/
structure Later (w : World) where
  val : World
  below : Below w.heap.size w val
instance (w : World) : Inhabited (Later w) := ⟨⟨w, Below.refl _ _⟩⟩
theorem Later.cell {w : World} {a : Addr} {v : Value} (h : w.cell? a = some v) (p : Later w) : p.val.cell? a = some v := below_cell p.below h
theorem region_calm {P : Program} {id : Nat} {Q : Exit → Act → World → Prop} {a : Act} {w : World} {l : List Oper} (hm : P.follows .mixedOrders = true) (hB : Region.lexB .any l.toArray = true)
    (h : wpQuiet P l.toArray (fun w' => ∃ p : Later w, w' = p.val) (fun a' => ∀ w', (∃ p : Later w, w' = p.val) → Q .normal a' w') l a) : (Code.region id l.toArray true).wp P Q a w :=
  wp_region_quiet (C := fun w' => ∃ p : Later w, w' = p.val) hm hB ⟨⟨_, (Below.refl _ _).drew⟩, rfl⟩ (by simpa using h)
theorem calm_of {P : Program} {f : FuncId} {args : Array Value} {w : World} {p : Later w} {v : Value}
    (h : Calls P f args p.val fun e w' => e = .returned v ∧ Below p.val.heap.size p.val w') : Calls P f args p.val fun e w'' => e = .returned v ∧ ∃ q : Later w, w'' = q.val :=
  h.mono fun _ w' ⟨he, hb⟩ => ⟨he, ⟨w', below_trans p.below hb⟩, rfl⟩
theorem calm_drew {P : Program} {f : FuncId} {args : Array Value} {w : World} {p : Later w} {v : Value}
    (h : Calls P f args p.val fun e w' => e = .returned v ∧ ∃ n, w' = p.val.drewN n) : Calls P f args p.val fun e w'' => e = .returned v ∧ ∃ q : Later w, w'' = q.val :=
  h.mono fun _ w' ⟨he, n, hb⟩ => ⟨he, ⟨w', by rw [hb]; exact below_drewN p.below n⟩, rfl⟩
theorem calm_same {P : Program} {f : FuncId} {args : Array Value} {w : World} {p : Later w} {v : Value}
    (h : Calls P f args p.val fun e w' => e = .returned v ∧ p.val = w') : Calls P f args p.val fun e w'' => e = .returned v ∧ ∃ q : Later w, w'' = q.val :=
  h.mono fun _ w' ⟨he, hb⟩ => ⟨he, p, hb.symm⟩

end Go.Proofs.YtbpenkaficiodaaGreat
