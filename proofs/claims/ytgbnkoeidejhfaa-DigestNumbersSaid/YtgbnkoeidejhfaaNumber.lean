/- Numbers of labels and parts: the program's walk. -/
import Derived.Test.YtgbnkoeidejhfaaAp
import Derived.Test.YtgbnkoeidejhfaaMod
import Derived.Test.YtgbnkoeidejhfaaDigM
import Derived.Test.YtgbnkoeidejhfaaStrs
import Derived.Test.YtgbnkoeidejhfaaBlks
namespace Go.Proofs.Ytgbnkoeidejhfaa
open Go.RowKit

def lenText (s : List UInt8) : List UInt8 := be 8 s.length ++ s
def numText (l : List (List UInt8)) : List UInt8 := l.flatMap lenText
def numStep (q n : Nat) (c : UInt8) : Nat := addM (mulM n 256 q) c.toNat q
def numberOf (label : List UInt8) (parts : List (List UInt8)) (q : Nat) : Nat := ((sha (numText (label :: parts))).take 16).foldl (numStep q) 0
theorem numText_take (l : List (List UInt8)) (k : Nat) (x : List UInt8) (h : l[k]? = some x) : numText (l.take (k + 1)) = numText (l.take k) ++ lenText x := by
  obtain ⟨hk, rfl⟩ := List.getElem?_eq_some_iff.1 h
  unfold numText
  rw [List.take_succ_eq_append_getElem hk, List.flatMap_append]
  simp
def totalLen (l : List (List UInt8)) : Nat := (l.map List.length).sum
theorem numText_length (l : List (List UInt8)) : (numText l).length = 8 * l.length + totalLen l := by
  unfold numText totalLen
  induction l with
  | nil => rfl
  | cons x l ih => simp only [List.flatMap_cons, List.length_append, List.length_cons, List.map_cons, List.sum_cons, lenText, be_length, ih]; omega
theorem numText_take_le (l : List (List UInt8)) (k : Nat) : (numText (l.take k)).length ≤ (numText l).length := by
  unfold numText
  conv => rhs; rw [← List.take_append_drop k l, List.flatMap_append, List.length_append]
  omega
theorem numStep_le (q n : Nat) (c : UInt8) : numStep q n c ≤ 4611686018427387904 := addM_lt _ _ _
theorem fold_take (q : Nat) (l : List UInt8) (k : Nat) (c : UInt8) (h : l[k]? = some c) : (l.take (k + 1)).foldl (numStep q) 0 = numStep q ((l.take k).foldl (numStep q) 0) c := by
  obtain ⟨hk, rfl⟩ := List.getElem?_eq_some_iff.1 h
  rw [List.take_succ_eq_append_getElem hk, List.foldl_append]
  rfl
theorem fold_le (q : Nat) (l : List UInt8) (n : Nat) (h : n ≤ 4611686018427387904) : l.foldl (numStep q) n ≤ 4611686018427387904 := by
  induction l generalizing n with
  | nil => exact h
  | cons c l ih => exact ih _ (numStep_le _ _ _)

theorem Try.info_str : (Try.prog.info? 9).map (fun i => (i.zero, i.size, i.bytes)) = some (some (.string ⟨#[]⟩), 1, 16) := by kernel_rfl
theorem Try.und_strs : Try.prog.underlying 30 = some (.slice 9) := by kernel_rfl

set_option maxRecDepth 100000 in
set_option maxHeartbeats 2000000 in
theorem number_text (label : List UInt8) (A : Option Addr) (cap : Nat) (parts : List (List UInt8)) (q : Nat) (w : World) (hp : Strs w A cap parts) (hq : q < 18446744073709551616) (hT : (numText (label :: parts)).length ≤ 1099511627776) (hlen : parts.length ≤ 1099511627776) :
    Calls Try.prog 25 #[.string (str label), .slice A parts.length cap, .int .u64 (q : Int)] w fun e w' => e = .returned (.int .u64 (numberOf label parts q : Int)) ∧ Below w.heap.size w w' := by
  have Hp := Lib.hid hp
  obtain ⟨r, hr⟩ : ∃ r, r = numberOf label parts q := ⟨_, rfl⟩
  rw [← hr]
  have Hr := Lib.hid hr
  clear hr
  obtain ⟨L, hL⟩ : ∃ L, L = label :: parts := ⟨_, rfl⟩
  have hLl : L.length = parts.length + 1 := by rw [hL]; rfl
  have HL := Lib.hid hL
  have HLl := Lib.hid hLl
  have hTL : (numText L).length ≤ 1099511627776 := by rw [hL]; exact hT
  clear hp hL hT
  have hB0 : Bld ((w.alloc (.cells #[.pointer none, .slice none 0 0] 71)).alloc (.cells #[.string (str label)] 9)) w.heap.size [] := (Bld.new w).below ((Below.refl _ _).alloc (Nat.le_refl _) _)
  have hR0 : Row ((w.alloc (.cells #[.pointer none, .slice none 0 0] 71)).alloc (.cells #[.string (str label)] 9)) (w.heap.size + 1) 9 1 (.slice (some ⟨w.heap.size + 1, 0, none⟩) 1 1) 1 [.string (str label)] := by
    have := Row.of_blk (Blk.of (w.alloc (.cells #[.pointer none, .slice none 0 0] 71)) 9 #[.string (str label)] [.string (str label)] rfl) 1 rfl (by simp [maxLen])
    simpa using this
  have hc0 : ∀ j u, (parts.map fun x => Value.string (str x))[j]? = some u → ∃ b, A = some b ∧ ((w.alloc (.cells #[.pointer none, .slice none 0 0] 71)).alloc (.cells #[.string (str label)] 9)).cell? (b.add j) = some u := by
    intro j u hu
    rw [List.getElem?_map] at hu
    obtain ⟨x, hx, rfl⟩ := Option.map_eq_some_iff.1 hu
    obtain ⟨b, hb, hc⟩ := Hp.out.cells j x hx
    exact ⟨b, hb, below_cell (((Below.refl w.heap.size w).alloc (Nat.le_refl _) _).alloc (by simp) _) hc⟩
  have HB0 := Lib.hid hB0
  have HR0 := Lib.hid hR0
  have HC0 := Lib.hid hc0
  clear hB0 hR0 hc0
  go_enter Try.func25, Try.ntmps25
  go_wp2_with (at_builtin; go_must (refine ap_slice (news := parts.map fun x => Value.string (str x)) Try.und_strs Try.info_str rfl (by omega) HR0.out (by simp) HC0.out (by intro u hu; obtain ⟨x, _, rfl⟩ := List.mem_map.1 hu; rfl) (by simp only [maxLen]; omega) (by omega) (by simp) rfl _ _ rfl rfl rfl ?_; intro v1 w1 hr1 hg1; obtain ⟨g, cp1, cur, fz, rfl, hgb, hnc, hgo, hgc⟩ := Row.obj hr1 (by omega); have Hgo := Lib.hid hgo; have Hgc := Lib.hid hgc; have Hg1 := Lib.hid hg1; clear hr1 hg1 hgo hgc))
  have hgL : ∀ (k : Nat) x, L[k]? = some x → cur[k]? = some (.string (str x)) := by
    intro k x hx
    refine Hgc.out k _ ?_
    rw [HL.out] at hx
    cases k with
    | zero =>
      simp only [List.getElem?_cons_zero, Option.some.injEq] at hx
      subst hx; rfl
    | succ k =>
      simp only [List.getElem?_cons_succ] at hx
      show (parts.map fun x => Value.string (str x))[k]? = _
      rw [List.getElem?_map, hx]; rfl
  have hB1 : Bld w1 w.heap.size [] := by
    refine Bld.fresh ((Hg1.out.block w.heap.size (by simp; omega) (by simp [Value.ownBlock])).trans ?_)
    exact (Below.heap_alloc _ _ _ (by simp)).trans (heap_alloc_new w _)
  have hb1 : Below w.heap.size w w1 := below_of_grown (((Below.refl _ _).alloc (Nat.le_refl _) _).alloc (by simp) _) Hg1.out (by show w.heap.size ≤ w.heap.size + 1; omega)
  have HgL := Lib.hid hgL
  have HB1 := Lib.hid hB1
  have Hb1 := Lib.hid hb1
  clear hgL hB1 hb1 HC0 HR0 HB0 Hg1 Hgc Hp
  obtain ⟨n, hn⟩ : ∃ n, n = parts.length := ⟨_, rfl⟩
  rw [← hn] at hlen
  rw [← hn] at HLl
  rw [← hn]
  clear hn
  go_loopw [18] (fun y wr => ∃ k : Nat, k ≤ n + 1 ∧ y = .int .i64 (k : Int) ∧ Bld wr w.heap.size (numText (L.take k)) ∧ wr.heap[g]? = some (.cells cur 9 fz) ∧ Below w.heap.size w wr) (fun y _ => n + 1 - (intOf y).toNat)
  case atStart => exact ⟨0, by omega, rfl, HB1.out, Hgo.out, Hb1.out⟩
  case round =>
    obtain ⟨k, hk, rfl, hB, hG, hb⟩ := hrel
    have HB := Lib.hid hB
    have HG := Lib.hid hG
    have Hb := Lib.hid hb
    clear hB hG hb HB1 Hgo Hb1
    by_cases hlt : k < n + 1
    · have d1 : decide ((k : Int) < 1 + (n : Int)) = true := decide_eq_true (by omega)
      have hkL : k < L.length := by rw [HLl.out]; exact hlt
      obtain ⟨x, hx⟩ : ∃ x, L[k]? = some x := ⟨_, List.getElem?_eq_getElem hkL⟩
      have hcell : wr.cell? ⟨g, k, none⟩ = some (.string (str x)) := by rw [obj_cell HG.out]; exact HgL.out k x hx
      have hnx := numText_take L k x hx
      have hxl : x.length ≤ 1099511627776 := by
        have h1 := numText_take_le L (k + 1)
        rw [hnx, List.length_append, lenText, List.length_append, be_length] at h1
        omega
      have hMb : (numText (L.take k)).length + (lenText x).length ≤ 140737488355328 := by
        have h1 := numText_take_le L (k + 1)
        rw [hnx, List.length_append] at h1
        omega
      obtain ⟨M, hM⟩ : ∃ M, M = numText (L.take k) := ⟨_, rfl⟩
      rw [← hM] at HB hMb
      rw [← hM] at hnx
      have hsz := str_size x
      obtain ⟨xl, hxl2⟩ : ∃ xl, xl = x.length := ⟨_, rfl⟩
      rw [← hxl2] at hsz hxl
      have hcv : IntKind.u64.wrap (xl : Int) = (xl : Int) := by rw [IntKind.wrap_u64]; omega
      have ha := str_add Try.prog (be 8 xl) x (by rw [be_length]; omega)
      obtain ⟨T, hT⟩ : ∃ T, T = be 8 xl ++ x := ⟨_, rfl⟩
      have hT2 : lenText x = T := by rw [hT, hxl2]; rfl
      rw [← hT] at ha
      rw [hT2] at hnx hMb
      have Hnx := Lib.hid hnx
      have k1 : (k : Int) < 1 + (n : Int) := by omega
      have k2 : k < 1 + n := by omega
      clear hM hnx hT hT2 hx hkL hxl2
      go_wp2_with fail
      refine (number_any xl 8 _ (by omega) (by omega)).mono ?_
      rintro e w2 ⟨rfl, hb2⟩
      have hgl : g < wr.heap.size := (Array.getElem?_eq_some_iff.1 HG.out).1
      have HB2 := Lib.hid (HB.out.below hb2)
      have HG2 := Lib.hid ((hb2.block g hgl).trans HG.out)
      have Hb2 := Lib.hid (below_trans Hb.out hb2)
      have hs2 := Hb.out.size
      have hs3 := hb2.size
      clear hb2 HB HG Hb
      go_wp2_with fail
      refine (Bld.writeK _ _ _ _ HB2.out hMb).mono ?_
      rintro e w3 ⟨rfl, hB3, hb3, hO3⟩
      rw [← Hnx.out] at hB3
      have HB3 := Lib.hid hB3
      have HG3 := Lib.hid (hO3 g _ HG2.out (by intro h; injection h with h; omega) (by intro c f h; injection h with _ h; exact absurd h (by decide)))
      have Hb3 := Lib.hid (Hb2.out.trans hb3)
      clear hB3 hO3 hb3 HB2 HG2 Hb2
      go_wp2_with fail
      go_roundw
      case rel => exact ⟨k + 1, by omega, by go_num, HB3.out, HG3.out, Hb3.out⟩
      case measure => simp [intOf]; omega
    · have d1 : decide ((k : Int) < 1 + (n : Int)) = false := decide_eq_false (by omega)
      have hLk : L.take k = L := List.take_of_length_le (by rw [HLl.out]; omega)
      obtain ⟨T, hT⟩ : ∃ T, T = numText L := ⟨_, rfl⟩
      have hB := HB.out
      rw [hLk, ← hT] at hB
      have HB2 := Lib.hid hB
      obtain ⟨h, hh⟩ : ∃ h, h = sha T := ⟨_, rfl⟩
      have hhl : h.length = 32 := by rw [hh, sha_length]
      have hsz : (str h).size = 32 := by rw [str_size, hhl]
      have hex : (str h).extract 0 16 = str (h.take 16) := str_take h 16
      obtain ⟨b, hbb⟩ : ∃ b, b = h.take 16 := ⟨_, rfl⟩
      have hbl : b.length = 16 := by rw [hbb, List.length_take, hhl]; rfl
      rw [← hbb] at hex
      have hTl : T.length ≤ 1099511627776 := by rw [hT]; exact hTL
      have hfin : r = b.foldl (numStep q) 0 := by rw [Hr.out, numberOf, ← HL.out, ← hT, ← hh, ← hbb]
      have Hfin := Lib.hid hfin
      have Hh := Lib.hid hh
      clear hB hLk hT hh hbb hfin hhl HB
      go_wp2_with fail
      refine (Bld.string _ _ _ HB2.out).mono ?_
      rintro e w2 ⟨rfl, _, hb2⟩
      have Hb2 := Lib.hid (Hb.out.trans hb2)
      clear hb2 Hb HB2 HG
      go_wp2_with fail
      refine (sumTop_any T _ hTl).mono ?_
      rintro e w3 ⟨rfl, hb3⟩
      rw [← Hh.out]
      have Hb3 := Lib.hid (below_trans Hb2.out hb3)
      clear hb3 Hb2
      have a2 := fun W : World => run_bytes_of (P := Try.prog) Try.underlying_str Try.underlying_bytes Try.underlying_u8 b W
      have hR := row_bytes w3 5 b (by rw [hbl]; simp [maxLen])
      rw [hbl] at hR
      have a3 := a2 w3
      rw [hbl] at a3
      clear a2
      have HR := Lib.hid hR
      clear hR
      go_wp2_with fail
      clear a3
      obtain ⟨cp2, hcp2⟩ : ∃ c, c = grownCap w3 16 0 5 := ⟨_, rfl⟩
      have hR := HR.out
      rw [← hcp2] at hR ⊢
      have HR := Lib.hid hR
      clear hR hcp2
      generalize Lib.bytesWorld w3 5 (str b) = w4 at *
      go_loopw [10, 35] (fun x y wr => ∃ j z : Nat, j ≤ 16 ∧ y = .int .i64 (j : Int) ∧ x = .int .u64 (z : Int) ∧ z ≤ 4611686018427387904 ∧ z = (b.take j).foldl (numStep q) 0 ∧ Row wr w3.heap.size 5 1 (.slice (some ⟨w3.heap.size, 0, none⟩) 16 cp2) 16 (vbytes b) ∧ Below w3.heap.size w3 wr) (fun _ y _ => 16 - (intOf y).toNat)
      case atStart => exact ⟨0, 0, by omega, rfl, rfl, by omega, rfl, HR.out.1, HR.out.2⟩
      case round =>
        obtain ⟨j, z, hj, rfl, rfl, hz, hzf, hrow, hbl2⟩ := hrel
        have Hzf := Lib.hid hzf
        have Hb4 := Lib.hid hbl2
        clear hzf hbl2 HR
        by_cases hj16 : j < 16
        · have c1 : decide ((j : Int) < 16) = true := decide_eq_true (by omega)
          have c2 : (j : Int) < 16 := by omega
          obtain ⟨c, hc⟩ : ∃ c, b[j]? = some c := ⟨_, List.getElem?_eq_getElem (by omega)⟩
          obtain ⟨g2, cap2, hv2, _, _, _, hcells⟩ := hrow.form (by omega)
          injection hv2 with hv3 _ hv4
          injection hv3 with hv3
          injection hv3 with hv3
          subst hv3 hv4
          have hcell := (hcells j (.int .u8 (c.toNat : Int)) (by rw [vbytes, List.getElem?_map, hc]; rfl)).1
          have hft := fold_take q b j c hc
          rw [← Hzf.out] at hft
          have hcb := c.toNat_lt
          obtain ⟨m1, hm1⟩ : ∃ m, m = mulM z 256 q := ⟨_, rfl⟩
          have hm1b : m1 ≤ 4611686018427387904 := by rw [hm1]; exact mulM_lt _ _ _
          obtain ⟨z2, hz2⟩ : ∃ m, m = addM m1 c.toNat q := ⟨_, rfl⟩
          have hz2b : z2 ≤ 4611686018427387904 := by rw [hz2]; exact addM_lt _ _ _
          have hft2 : (b.take (j + 1)).foldl (numStep q) 0 = z2 := by rw [hft, numStep, ← hm1, ← hz2]
          have Hm1 := Lib.hid hm1
          have Hz2 := Lib.hid hz2
          have Hft := Lib.hid hft2
          have Hrow := Lib.hid hrow
          clear hc hcells hft hft2 hm1 hz2 hrow
          go_wp2_with fail
          refine (mul_any z 256 q _ (by omega) (by omega) hq).mono ?_
          rintro e w5 ⟨rfl, n1, rfl⟩
          rw [← Hm1.out]
          go_wp2_with fail
          refine (add_any m1 c.toNat q _ (by omega) (by omega) hq).mono ?_
          rintro e w6 ⟨rfl, n2, rfl⟩
          rw [← Hz2.out]
          go_wp2_with fail
          go_roundw
          case rel => exact ⟨j + 1, z2, by omega, by go_num, rfl, hz2b, Hft.out.symm, Hrow.out, below_drewN Hb4.out _⟩
          case measure => simp [intOf]; omega
        · have c1 : decide ((j : Int) < 16) = false := decide_eq_false (by omega)
          have hzr : z = r := by rw [Hzf.out, Hfin.out, List.take_of_length_le (by omega)]
          have Hb5 := Lib.hid (Hb3.out.trans (Hb4.out.mono Hb3.out.size))
          clear hrow Hb4 Hb3
          subst hzr
          go_wp2_with fail
          go_ret
          exact ⟨rfl, Hb5.out⟩
end Go.Proofs.Ytgbnkoeidejhfaa
