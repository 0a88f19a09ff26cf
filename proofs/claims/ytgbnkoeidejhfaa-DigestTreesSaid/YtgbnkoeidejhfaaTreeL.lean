/- The program's climb from the leaves to the root: its loops. -/
import Derived.Test.YtgbnkoeidejhfaaTreesP
import Derived.Test.YtgbnkoeidejhfaaApZ
import Derived.Test.YtgbnkoeidejhfaaApW
import Derived.Test.YtgbnkoeidejhfaaDigN
import Derived.Test.YtgbnkoeidejhfaaBlks
import Derived.Test.YtgbnkoeidejhfaaLoops
namespace Go.Proofs.Ytgbnkoeidejhfaa
open Go.RowKit

theorem Try.inf_str : (Try.prog.info? 9).map (fun i => (i.zero, i.size, i.bytes)) = some (some (.string ⟨#[]⟩), 1, 16) := by kernel_rfl
theorem Try.un_strs : Try.prog.underlying 30 = some (.slice 9) := by kernel_rfl
noncomputable def climbL1 : Code := nthLoop (Try.f38.body.getD .skip) 0
noncomputable def climbL2 : Code := nthLoop (Try.f38.body.getD .skip) 1
noncomputable def climbL3 : Code := nthLoop climbL2 0

set_option maxRecDepth 100000 in
set_option maxHeartbeats 2000000 in
theorem climbL1_any (l : List (List UInt8)) (A : Option Addr) (cap : Nat) (w : World) (hp : Strs w A cap l) (hlen : ∀ x ∈ l, x.length ≤ 1099511627775) (hn : l.length ≤ 1073741824) (w0 : World) (Q : Exit → Act → World → Prop)
    (h0 : Blk w0 w.heap.size 9 (List.replicate l.length (Value.string ⟨#[]⟩))) (hb0 : Below w.heap.size w w0) (x0 x1 x2 x3 x4 x5 x6 x8 x9 x10 x11 x12 x13 x14 x15 x16 x17 x21 x22 x23 x24 x25 x26 x27 x28 x29 x30 x31 x32 x33 x34 x35 x36 x37 x38 x39 x40 x41 x42 x43 x44 x45 x46 x47 x48 x49 x50 x51 x52 x53 x54 x55 x56 x57 x58 x59 x60 x61 x62 x63 x64 x65 x66 x67 x68 x69 x70 : Value)
    (hexit : ∀ (u8 u9 u20 u21 u22 u23 u24 u25 u26 u27 u28 u29 u30 : Value) (w' : World), Blk w' w.heap.size 9 ((leafs l).map tv) → Below w.heap.size w w' → Q (.exit 0) ⟨List.toArray (x0 :: x1 :: x2 :: x3 :: x4 :: x5 :: x6 :: .slice (some ⟨w.heap.size, 0, none⟩) l.length l.length :: u8 :: u9 :: x10 :: x11 :: x12 :: x13 :: x14 :: x15 :: x16 :: x17 :: .slice A l.length cap :: .int .i64 (l.length : Int) :: u20 :: u21 :: u22 :: u23 :: u24 :: u25 :: u26 :: u27 :: u28 :: u29 :: u30 :: x31 :: x32 :: x33 :: x34 :: x35 :: x36 :: x37 :: x38 :: x39 :: x40 :: x41 :: x42 :: x43 :: x44 :: x45 :: x46 :: x47 :: x48 :: x49 :: x50 :: x51 :: x52 :: x53 :: x54 :: x55 :: x56 :: x57 :: x58 :: x59 :: x60 :: x61 :: x62 :: x63 :: x64 :: x65 :: x66 :: x67 :: x68 :: x69 :: x70 :: []), []⟩ w') :
    (Code.loop climbL1).wp Try.prog Q ⟨List.toArray (x0 :: x1 :: x2 :: x3 :: x4 :: x5 :: x6 :: .slice (some ⟨w.heap.size, 0, none⟩) l.length l.length :: x8 :: x9 :: x10 :: x11 :: x12 :: x13 :: x14 :: x15 :: x16 :: x17 :: .slice A l.length cap :: .int .i64 (l.length : Int) :: .int .i64 0 :: x21 :: x22 :: x23 :: x24 :: x25 :: x26 :: x27 :: x28 :: x29 :: x30 :: x31 :: x32 :: x33 :: x34 :: x35 :: x36 :: x37 :: x38 :: x39 :: x40 :: x41 :: x42 :: x43 :: x44 :: x45 :: x46 :: x47 :: x48 :: x49 :: x50 :: x51 :: x52 :: x53 :: x54 :: x55 :: x56 :: x57 :: x58 :: x59 :: x60 :: x61 :: x62 :: x63 :: x64 :: x65 :: x66 :: x67 :: x68 :: x69 :: x70 :: []), []⟩ w0 := by
  have Hexit := Lib.hid hexit
  have H0 := Lib.hid h0
  have Hb0 := Lib.hid hb0
  have Hp := Lib.hid hp
  have Hlen := Lib.hid hlen
  obtain ⟨n, hn2⟩ : ∃ n, n = l.length := ⟨_, rfl⟩
  rw [← hn2] at Hexit H0 hn
  rw [← hn2]
  have Hn := Lib.hid hn2
  clear hexit h0 hb0 hp hlen hn2
  conv => arg 2; arg 1; whnf
  go_loopw [20] (fun y wr => ∃ k : Nat, k ≤ n ∧ y = .int .i64 (k : Int) ∧ Blk wr w.heap.size 9 (((leafs l).take k).map tv ++ List.replicate (n - k) (Value.string ⟨#[]⟩)) ∧ Below w.heap.size w wr) (fun y _ => n - (intOf y).toNat)
  case atStart => exact ⟨0, by omega, rfl, by simpa using H0.out, Hb0.out⟩
  case round =>
    obtain ⟨k, hk, rfl, hA, hB⟩ := hrel
    have HA := Lib.hid hA
    have HB := Lib.hid hB
    clear hA hB H0 Hb0
    have hll : (leafs l).length = n := by rw [leafs_length, Hn.out]
    by_cases hlt : k < n
    · have d1 : decide ((k : Int) < (n : Int)) = true := decide_eq_true (by omega)
      have k1 : (k : Int) < (n : Int) := by omega
      have hkl : k < l.length := by rw [← Hn.out]; exact hlt
      obtain ⟨x, hx⟩ : ∃ x, l[k]? = some x := ⟨_, List.getElem?_eq_getElem hkl⟩
      obtain ⟨a, rfl, hc⟩ := Hp.out.cells k x hx
      have hcx := below_cell HB.out hc
      have hxl := Hlen.out x (List.mem_of_getElem? hx)
      obtain ⟨y, hy⟩ : ∃ y, y = sha (0 :: x) := ⟨_, rfl⟩
      have hly : (leafs l)[k]? = some y := by rw [hy]; simp [leafs, hx]
      have htk : (((leafs l).take k).map tv).length = k := by rw [List.length_map, List.length_take]; omega
      have hcell : (((leafs l).take k).map tv ++ List.replicate (n - k) (Value.string ⟨#[]⟩))[k]? = some (.string ⟨#[]⟩) := by
        rw [List.getElem?_append_right (by omega), htk, Nat.sub_self, List.getElem?_replicate, if_pos (by omega)]
      have hset : (((leafs l).take k).map tv ++ List.replicate (n - k) (Value.string ⟨#[]⟩)).set k (tv y) = ((leafs l).take (k + 1)).map tv ++ List.replicate (n - (k + 1)) (Value.string ⟨#[]⟩) := by
        have hkl2 : k < (leafs l).length := by omega
        have hye : (leafs l)[k] = y := by
          rw [List.getElem?_eq_getElem hkl2] at hly
          exact Option.some.inj hly
        rw [List.set_append_right _ _ (by omega), htk, Nat.sub_self, show n - k = (n - (k + 1)) + 1 by omega, List.replicate_succ, List.set_cons_zero, List.take_succ_eq_append_getElem hkl2, hye, List.map_append, List.append_assoc]
        rfl
      have Hy := Lib.hid hy
      have Hset := Lib.hid hset
      have Hcell := Lib.hid hcell
      clear hy hly htk hset hcell hx hkl hc hll
      go_wp2_with fail
      refine (leaf_any x _ (by omega)).mono ?_
      rintro e w2 ⟨rfl, hb2⟩
      rw [← Hy.out]
      have hA2 := HA.out.below hb2 HA.out.lt
      have z1 : w2.cell? ⟨w.heap.size, k, none⟩ = some (.string ⟨#[]⟩) := by rw [hA2.cell]; exact Hcell.out
      have z2 := hA2.frozen k
      have hA3 := hA2.set k (tv y)
      rw [Hset.out] at hA3
      have HA3 : Hid (Blk (w2.setCell ⟨w.heap.size, k, none⟩ (.string (str y))) w.heap.size 9 (((leafs l).take (k + 1)).map tv ++ List.replicate (n - (k + 1)) (Value.string ⟨#[]⟩))) := hA3
      have HB3 : Hid (Below w.heap.size w (w2.setCell ⟨w.heap.size, k, none⟩ (.string (str y)))) := below_set (below_trans HB.out hb2) (Nat.le_refl _) k _
      clear hA2 hA3 hb2 HA HB
      go_wp2_with fail
      go_roundw
      case rel => exact ⟨k + 1, by omega, by go_num, HA3.out, HB3.out⟩
      case measure => simp [intOf]; omega
    · have d1 : decide ((k : Int) < (n : Int)) = false := decide_eq_false (by omega)
      have hA := HA.out
      rw [show n - k = 0 by omega, List.replicate_zero, List.append_nil, List.take_of_length_le (by omega)] at hA
      have HA2 := Lib.hid hA
      clear hA HA hll
      go_wp2_with fail
      exact Hexit.out _ _ _ _ _ _ _ _ _ _ _ _ _ _ HA2.out HB.out
end Go.Proofs.Ytgbnkoeidejhfaa
