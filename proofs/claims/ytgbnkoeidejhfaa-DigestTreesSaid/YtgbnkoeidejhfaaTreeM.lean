import Derived.Test.YtgbnkoeidejhfaaTreeL
import Derived.Deep.RegionHeld3
namespace Go.Proofs.Ytgbnkoeidejhfaa
open Go.RowKit

theorem below_alloc_size (w : World) (o : Obj) : w.heap.size ≤ (w.alloc o).heap.size := by simp
theorem up2_take (R : List (List UInt8)) (j : Nat) (a b : List UInt8) (ha : R[2 * j]? = some a) (hb : R[2 * j + 1]? = some b) : ((up2 R).take (j + 1)).map tv = ((up2 R).take j).map tv ++ [tv (sha (1 :: (a ++ b)))] := by
  have hg := up2_get R j
  rw [ha, hb] at hg
  simp only at hg
  obtain ⟨hk, he⟩ := List.getElem?_eq_some_iff.1 hg
  rw [List.take_succ_eq_append_getElem hk, he, List.map_append]
  rfl

set_option maxRecDepth 100000 in
set_option maxHeartbeats 2000000 in
theorem climbL3_any (R : List (List UInt8)) (A : Option Addr) (cap : Nat) (X : Addr) (wo : World) (Q : Exit → Act → World → Prop) (hR : Strs wo A cap R) (h32 : All32 R) (hlen : R.length ≤ 1073741824) (x0 x1 x2 x3 x4 x5 x6 x8 x9 x11 x12 x13 x14 x15 x16 x17 x18 x19 x20 x21 x22 x23 x24 x25 x26 x27 x28 x29 x30 x31 x32 x33 x34 x35 x36 x37 x38 x39 x40 x41 x42 x43 x44 x45 x46 x47 x48 x49 x50 x51 x52 x53 x54 x55 x56 x57 x58 x59 x60 x61 x62 x63 x64 x65 x66 x67 x68 x69 x70 : Value)
    (hexit : ∀ (u50 u51 u52 u53 u54 u55 u56 u57 u58 u59 u60 u61 u62 u63 u64 : Value) (v : Value) (A' : Option Addr) (cp m j : Nat) (w' : World), m + 2 * j = R.length → m ≤ 1 → RowZ w' wo.heap.size 9 v (((up2 R).take j).map tv) → Strs w' A' cp (R.drop (2 * j)) → Below wo.heap.size wo w' →
      Q (.exit 4) ⟨List.toArray (x0 :: x1 :: x2 :: x3 :: x4 :: x5 :: x6 :: .slice A' m cp :: x8 :: x9 :: v :: x11 :: x12 :: x13 :: x14 :: x15 :: x16 :: x17 :: x18 :: x19 :: x20 :: x21 :: x22 :: x23 :: x24 :: x25 :: x26 :: x27 :: x28 :: x29 :: x30 :: x31 :: x32 :: x33 :: x34 :: x35 :: x36 :: x37 :: x38 :: x39 :: x40 :: x41 :: x42 :: x43 :: x44 :: x45 :: x46 :: x47 :: x48 :: x49 :: u50 :: u51 :: u52 :: u53 :: u54 :: u55 :: u56 :: u57 :: u58 :: u59 :: u60 :: u61 :: u62 :: u63 :: u64 :: x65 :: x66 :: x67 :: x68 :: x69 :: x70 :: []), []⟩ w') :
    (Code.loop climbL3).wp Try.prog Q ⟨List.toArray (x0 :: x1 :: x2 :: x3 :: x4 :: x5 :: x6 :: .slice A R.length cap :: x8 :: x9 :: .slice (some X) 0 0 :: x11 :: x12 :: x13 :: x14 :: x15 :: x16 :: x17 :: x18 :: x19 :: x20 :: x21 :: x22 :: x23 :: x24 :: x25 :: x26 :: x27 :: x28 :: x29 :: x30 :: x31 :: x32 :: x33 :: x34 :: x35 :: x36 :: x37 :: x38 :: x39 :: x40 :: x41 :: x42 :: x43 :: x44 :: x45 :: x46 :: x47 :: x48 :: x49 :: x50 :: x51 :: x52 :: x53 :: x54 :: x55 :: x56 :: x57 :: x58 :: x59 :: x60 :: x61 :: x62 :: x63 :: x64 :: x65 :: x66 :: x67 :: x68 :: x69 :: x70 :: []), []⟩ wo := by
  have Hexit := Lib.hid hexit
  have HR := Lib.hid hR
  have H32 := Lib.hid h32
  obtain ⟨n, hn⟩ : ∃ n, n = R.length := ⟨_, rfl⟩
  rw [← hn] at Hexit hlen
  rw [← hn]
  have Hn := Lib.hid hn
  clear hexit hR h32 hn
  conv => arg 2; arg 1; whnf
  go_loopw [7, 10] (fun x v wr => ∃ (m j cp : Nat) (A' : Option Addr), m + 2 * j = n ∧ x = .slice A' m cp ∧ RowZ wr wo.heap.size 9 v (((up2 R).take j).map tv) ∧ Strs wo A' cp (R.drop (2 * j)) ∧ Below wo.heap.size wo wr) (fun x _ _ => match x with | .slice _ m _ => m | _ => 0)
  case atStart => exact ⟨n, 0, cap, A, by omega, rfl, .inl ⟨by simp, X, rfl⟩, by simpa using HR.out, Below.refl _ _⟩
  case round =>
    obtain ⟨m, j, cp, A', hmj, rfl, hrow, hst, hb⟩ := hrel
    have Hrow := Lib.hid hrow
    have Hst := Lib.hid hst
    have Hb := Lib.hid hb
    clear hrow hst hb HR
    by_cases hm : 1 < m
    · have d1 : decide ((1 : Int) < (m : Int)) = true := decide_eq_true (by omega)
      have m1 : (0 : Int) < (m : Int) := by omega
      have m2 : (1 : Int) < (m : Int) := by omega
      have m3 : 1 < m := hm
      have m0 : 0 < m := by omega
      have m4 : (2 : Int) ≤ (m : Int) := by omega
      have ha1 : 2 * j < R.length := by rw [← Hn.out]; omega
      have hb1 : 2 * j + 1 < R.length := by rw [← Hn.out]; omega
      obtain ⟨a, ha⟩ : ∃ a, R[2 * j]? = some a := ⟨_, List.getElem?_eq_getElem ha1⟩
      obtain ⟨b, hbb⟩ : ∃ b, R[2 * j + 1]? = some b := ⟨_, List.getElem?_eq_getElem hb1⟩
      have ha32 := H32.out a (List.mem_of_getElem? ha)
      have hb32 := H32.out b (List.mem_of_getElem? hbb)
      obtain ⟨p, rfl, hc0⟩ := Hst.out.cells 0 a (by rw [List.getElem?_drop, Nat.add_zero]; exact ha)
      obtain ⟨p', hp', hc1⟩ := Hst.out.cells 1 b (by rw [List.getElem?_drop]; exact hbb)
      injection hp' with hp'
      subst hp'
      have hpb : p.block < wo.heap.size := World.block_lt_of_cell? wo _ hc0
      have hc0 : wr.cell? p = some (.string (str a)) := below_cell Hb.out hc0
      have hc1 : wr.cell? ⟨p.block, p.off + 1, none⟩ = some (.string (str b)) := below_cell (a := ⟨p.block, p.off + 1, none⟩) Hb.out hc1
      obtain ⟨y, hy⟩ : ∃ y, y = sha (1 :: (a ++ b)) := ⟨_, rfl⟩
      have htk := up2_take R j a b ha hbb
      rw [← hy] at htk
      have hul : (((up2 R).take j).map tv).length = j := by
        rw [List.length_map, List.length_take, up2_length, ← Hn.out]; omega
      have hdr : (R.drop (2 * j)).drop 2 = R.drop (2 * (j + 1)) := by rw [List.drop_drop]; rfl
      have hdl : 2 ≤ (R.drop (2 * j)).length := by rw [List.length_drop]; omega
      have hcp : 2 ≤ cp := Nat.le_trans hdl Hst.out.len
      have hmc : m ≤ cp := by
        have h1 := Hst.out.len
        have h2 := Hn.out
        rw [List.length_drop] at h1
        omega
      have hst2 := Hst.out.drop 2 hdl
      rw [hdr] at hst2
      obtain ⟨us, hus⟩ : ∃ us, us = ((up2 R).take j).map tv := ⟨_, rfl⟩
      have hrow := Hrow.out
      rw [← hus] at hrow htk hul
      have Hrow2 := Lib.hid hrow
      have Hy := Lib.hid hy
      have Htk := Lib.hid htk
      have hbytes : (us.length + 1) * 16 ≤ 140737488355328 := by rw [hul]; omega
      have Hst2 := Lib.hid hst2
      clear hy htk hul hdr hdl hst2 hus hrow Hrow Hst ha hbb ha1 hb1 Hn
      go_wp2_with fail
      go_region_held3 (fun w' => w'.cell? p = some (.string (str a)) ∧ w'.cell? ⟨p.block, p.off + 1, none⟩ = some (.string (str b))) ((first | go_keep | (exact ⟨below_cell hb4 hc0, below_cell hb4 hc1⟩) | (exact ⟨(hb5.cell (p := p) hpb).trans (below_cell ((Below.refl _ w4).alloc (Nat.le_refl _) _) (below_cell hb4 hc0)), (hb5.cell (p := ⟨p.block, p.off + 1, none⟩) hpb).trans (below_cell ((Below.refl _ w4).alloc (Nat.le_refl _) _) (below_cell hb4 hc1))⟩))) ((first | (go_at_call 37; refine (node_any a b _ (by omega) (by omega)).mono ?_; rintro e w4 ⟨rfl, hb4⟩; rw [← Hy.out]) | (refine step_oneZ Try.un_strs Try.inf_str rfl (RowZ.kept (RowZ.kept (w := wr.drew) Hrow2.out hb4) ((Below.refl _ _).alloc (Nat.le_refl _) _)) (cell_one_new _ _ _ 0 _ rfl) rfl (by omega) hbytes (Nat.le_trans Hb.out.size (Nat.le_trans (m := w4.heap.size) hb4.size (below_alloc_size w4 _))) rfl _ _ rfl rfl rfl ?_; intro v1 w5 hr5 hb5)))
      rw [show us ++ [Value.string (str y)] = ((up2 R).take (j + 1)).map tv from Htk.out.symm] at hr5
      have Hr5 := Lib.hid hr5
      have Hb5 : Hid (Below wo.heap.size wo w5) :=
        ((Hb.out.drew.trans (hb4.mono Hb.out.size)).alloc (Nat.le_trans Hb.out.size hb4.size) _).trans hb5
      clear hr5 hb4 hb5 Hrow2 Hb hc0 hc1 Htk
      by_cases hc2 : cp = 2
      · have hst5 := Hst2.out
        rw [if_pos hc2] at hst5
        have Hst5 := Lib.hid hst5
        subst hc2
        clear hst5 Hst2
        go_wp2_with fail
        go_roundw
        case rel => exact ⟨0, j + 1, 0, some p, by omega, by rfl, .inr Hr5.out, Hst5.out, Hb5.out⟩
        case measure => simp; omega
      · have hst5 := Hst2.out
        rw [if_neg hc2] at hst5
        have Hst5 := Lib.hid hst5
        clear hst5 Hst2
        go_wp2_with fail
        go_roundw
        case rel => exact ⟨m - 2, j + 1, cp - 2, some (p.add 2), by omega, by rfl, .inr Hr5.out, Hst5.out, Hb5.out⟩
        case measure => simp; omega
    · have d1 : decide ((1 : Int) < (m : Int)) = false := decide_eq_false (by omega)
      clear H32
      go_wp2_with fail
      exact Hexit.out _ _ _ _ _ _ _ _ _ _ _ _ _ _ _ _ A' cp m j _ hmj (by omega) Hrow.out (Hst.out.below Hb.out) Hb.out
end Go.Proofs.Ytgbnkoeidejhfaa
