import Derived.Test.YtgbnkoeidejhfaaDigK
namespace Go.Proofs.Ytgbnkoeidejhfaa
open Go.RowKit

def macKey (k : List UInt8) : List UInt8 := if 64 < k.length then sha k else k
theorem macKey_length (k : List UInt8) : (macKey k).length ≤ 64 := by
  unfold macKey
  split
  · rw [sha_length]; omega
  · omega
/-- HMAC. -/
def hmac (k s : List UInt8) : List UInt8 := sha (padKey (macKey k) 92 ++ sha (padKey (macKey k) 54 ++ s))
theorem hmac_length (k s : List UInt8) : (hmac k s).length = 32 := sha_length _
theorem Ready.grown {w w1 : World} {b : Nat} (h : Ready w b) {row : Option Nat} (hg : w.grownBy w1 row) (hne : some b ≠ row) : Ready w1 b := h.imp (·.grown hg hne) (·.grown hg hne)

set_option maxRecDepth 100000 in
set_option maxHeartbeats 1000000 in
/-- What mac does once the key is short: the world is the one at the closure's making. -/
theorem mac_any (b : Nat) (k s : List UInt8) (w : World) (hM : Ready w b) (hk : k.length ≤ 1099511627776) (hs : s.length ≤ 549755813888) :
    Calls Try.prog 31 #[.pointer (some ⟨b, 0, none⟩), .string (str k), .string (str s)] w fun e w' => e = .returned (.string (str (hmac k s))) ∧ Maker w' b 1 0 kList ∧ w.grownBy w' (some b) := by
  have hmf : ∀ (fn : Fn) (first cap : Array Value) (w : World), (Instr.makeFunc fn first cap).run Try.prog w = .ok (.func fn first cap) w := fun _ _ _ _ => rfl
  have hszk := str_size k
  have hb := hM.lt
  have p92 : (92 : Int) = ((92 : UInt8).toNat : Int) := rfl
  have p54 : (54 : Int) = ((54 : UInt8).toNat : Int) := rfl
  by_cases h : 64 < k.length
  · have b64 : decide ((64 : Int) < (k.length : Int)) = true := decide_eq_true (by omega)
    have hmk : macKey k = sha k := by rw [macKey, if_pos h]
    have Hmk := Lib.hid hmk
    have HM := Lib.hid (hM.alloc (.cells #[.string (str k)] 9))
    have hK : (sha k).length ≤ 64 := by rw [sha_length]; omega
    have hkc0 : (w.alloc (.cells #[.string (str k)] 9)).cell? ⟨w.heap.size, 0, none⟩ = some (.string (str k)) := by simp
    have hkb : Blk (w.alloc (.cells #[.string (str k)] 9)) w.heap.size 9 [.string (str k)] := Blk.of _ _ _ _ rfl
    have Hkb := Lib.hid hkb
    clear hM hmk p92 p54 hkb
    go_enter Try.func31, Try.ntmps31
    go_wp2_with fail
    refine (sum_any b (str k) _ HM.out (by rw [str_size]; omega)).mono ?_
    rintro e w1 ⟨rfl, hM1, hg1⟩
    rw [str_list]
    have hkb1 := Hkb.out.grown hg1 (by simp; omega)
    have hc1 := hkb1.cell 0
    have hf1 := hkb1.frozen 0
    have hkb2 := hkb1.set 0 (.string (str (sha k)))
    have hkc : (w1.setCell ⟨w.heap.size, 0, none⟩ (.string (str (sha k)))).cell? ⟨w.heap.size, 0, none⟩ = some (.string (str (sha k))) := hkb2.cell 0
    have HM1 := Lib.hid (Ready.grown (.inr hM1) (grown_set w1 w.heap.size 0 (.string (str (sha k)))) (by simp; omega))
    have HG1 : Hid (w.grownBy (w1.setCell ⟨w.heap.size, 0, none⟩ (.string (str (sha k)))) (some b)) := by
      have g1 := grown_trans (grown_alloc w (.cells #[.string (str k)] 9) (some b)) hg1
      exact ⟨g1.os, g1.tape, g1.output, by simpa [World.setCell] using g1.size, fun i hi hne => (Below.heap_setCell w1 _ _ i (by simp; omega)).trans (g1.block i hi hne)⟩
    clear hM1 hg1 hkb1 hkb2 hkc0
    go_wp2_with fail
    obtain ⟨x1, hx1⟩ : ∃ x, x = padKey (sha k) 54 ++ s := ⟨_, rfl⟩
    obtain ⟨y1, hy1⟩ : ∃ x, x = padKey (sha k) 92 := ⟨_, rfl⟩
    obtain ⟨y2, hy2⟩ : ∃ x, x = padKey (sha k) 54 := ⟨_, rfl⟩
    obtain ⟨s1, hs1⟩ : ∃ x, x = sha x1 := ⟨_, rfl⟩
    obtain ⟨x2, hx2⟩ : ∃ x, x = y1 ++ s1 := ⟨_, rfl⟩
    have l1 : x1.length = 64 + s.length := by rw [hx1, List.length_append, padKey_length _ _ hK]
    have l2 : x2.length = 96 := by rw [hx2, List.length_append, hy1, padKey_length _ _ hK, hs1, sha_length]
    have a1 := str_add Try.prog y2 s (by rw [hy2, padKey_length _ _ hK]; omega)
    have a2 := str_add Try.prog y1 s1 (by rw [hy1, padKey_length _ _ hK, hs1, sha_length]; omega)
    rw [← hx2] at a2
    rw [hy2, ← hx1, ← hy2] at a1
    have hfin : hmac k s = sha x2 := by rw [hmac, Hmk.out, ← hx1, ← hs1, ← hy1, ← hx2]
    have Hfin := Lib.hid hfin
    have Hy1 := Lib.hid hy1
    have Hy2 := Lib.hid hy2
    have Hs1 := Lib.hid hs1
    clear hfin hx1 hx2 hy1 hy2 hs1
    refine (pad_any ⟨w.heap.size, 0, none⟩ (sha k) 92 _ hK hkc).mono ?_
    rintro e w2 ⟨rfl, hb2⟩
    rw [← Hy1.out]
    have hkc2 := below_cell hb2 hkc
    have HM2 := Lib.hid (HM1.out.grown (grownBy_of_below hb2 none) (by simp))
    have HG2 := Lib.hid (grown_trans HG1.out (grownBy_of_below hb2 (some b)))
    clear hb2
    go_wp2_with fail
    refine (pad_any ⟨w.heap.size, 0, none⟩ (sha k) 54 _ hK hkc2).mono ?_
    rintro e w3 ⟨rfl, hb3⟩
    rw [← Hy2.out]
    have HM3 := Lib.hid (HM2.out.grown (grownBy_of_below hb3 none) (by simp))
    have HG3 := Lib.hid (grown_trans HG2.out (grownBy_of_below hb3 (some b)))
    clear hb3 hkc2
    go_wp2_with fail
    refine (sum_any b (str x1) _ HM3.out (by rw [str_size]; omega)).mono ?_
    rintro e w4 ⟨rfl, hM4, hg4⟩
    rw [str_list, ← Hs1.out]
    have HM4 := Lib.hid hM4
    have HG4 := Lib.hid (grown_trans HG3.out hg4)
    clear hM4 hg4
    go_wp2_with fail
    refine (sum_any b (str x2) _ (.inr HM4.out) (by rw [str_size]; omega)).mono ?_
    rintro e w5 ⟨rfl, hM5, hg5⟩
    rw [str_list, ← Hfin.out]
    have HM5 := Lib.hid hM5
    have HG5 := Lib.hid (grown_trans HG4.out hg5)
    clear hM5 hg5
    go_wp2_with fail
    go_ret
    exact ⟨rfl, HM5.out, HG5.out⟩
  · have b64 : decide ((64 : Int) < (k.length : Int)) = false := decide_eq_false (by omega)
    have hmk : macKey k = k := by rw [macKey, if_neg h]
    have Hmk := Lib.hid hmk
    have HM := Lib.hid (hM.alloc (.cells #[.string (str k)] 9))
    have hkc : (w.alloc (.cells #[.string (str k)] 9)).cell? ⟨w.heap.size, 0, none⟩ = some (.string (str k)) := by simp
    clear hM hmk p92 p54
    go_enter Try.func31, Try.ntmps31
    go_wp2_with fail
    obtain ⟨x1, hx1⟩ : ∃ x, x = padKey k 54 ++ s := ⟨_, rfl⟩
    obtain ⟨y1, hy1⟩ : ∃ x, x = padKey k 92 := ⟨_, rfl⟩
    obtain ⟨y2, hy2⟩ : ∃ x, x = padKey k 54 := ⟨_, rfl⟩
    obtain ⟨s1, hs1⟩ : ∃ x, x = sha x1 := ⟨_, rfl⟩
    obtain ⟨x2, hx2⟩ : ∃ x, x = y1 ++ s1 := ⟨_, rfl⟩
    have l1 : x1.length = 64 + s.length := by rw [hx1, List.length_append, padKey_length _ _ (by omega)]
    have l2 : x2.length = 96 := by rw [hx2, List.length_append, hy1, padKey_length _ _ (by omega), hs1, sha_length]
    have a1 := str_add Try.prog y2 s (by rw [hy2, padKey_length _ _ (by omega)]; omega)
    have a2 := str_add Try.prog y1 s1 (by rw [hy1, padKey_length _ _ (by omega), hs1, sha_length]; omega)
    rw [← hx2] at a2
    rw [hy2, ← hx1, ← hy2] at a1
    have hfin : hmac k s = sha x2 := by rw [hmac, Hmk.out, ← hx1, ← hs1, ← hy1, ← hx2]
    have Hfin := Lib.hid hfin
    have Hy1 := Lib.hid hy1
    have Hy2 := Lib.hid hy2
    have Hs1 := Lib.hid hs1
    clear hfin hx1 hx2 hy1 hy2 hs1
    refine (pad_any ⟨w.heap.size, 0, none⟩ k 92 _ (by omega) hkc).mono ?_
    rintro e w2 ⟨rfl, hb2⟩
    rw [← Hy1.out]
    have hkc2 := below_cell hb2 hkc
    have HM2 := Lib.hid (HM.out.grown (grownBy_of_below hb2 none) (by simp))
    have HG2 := Lib.hid (grown_trans (grown_alloc w _ (some b)) (grownBy_of_below hb2 (some b)))
    clear hb2
    go_wp2_with fail
    refine (pad_any ⟨w.heap.size, 0, none⟩ k 54 _ (by omega) hkc2).mono ?_
    rintro e w3 ⟨rfl, hb3⟩
    rw [← Hy2.out]
    have HM3 := Lib.hid (HM2.out.grown (grownBy_of_below hb3 none) (by simp))
    have HG3 := Lib.hid (grown_trans HG2.out (grownBy_of_below hb3 (some b)))
    clear hb3 hkc2
    go_wp2_with fail
    refine (sum_any b (str x1) _ HM3.out (by rw [str_size]; omega)).mono ?_
    rintro e w4 ⟨rfl, hM4, hg4⟩
    rw [str_list, ← Hs1.out]
    have HM4 := Lib.hid hM4
    have HG4 := Lib.hid (grown_trans HG3.out hg4)
    clear hM4 hg4
    go_wp2_with fail
    refine (sum_any b (str x2) _ (.inr HM4.out) (by rw [str_size]; omega)).mono ?_
    rintro e w5 ⟨rfl, hM5, hg5⟩
    rw [str_list, ← Hfin.out]
    have HM5 := Lib.hid hM5
    have HG5 := Lib.hid (grown_trans HG4.out hg5)
    clear hM5 hg5
    go_wp2_with fail
    go_ret
    exact ⟨rfl, HM5.out, HG5.out⟩
end Go.Proofs.Ytgbnkoeidejhfaa
