import Derived.Test.YtgbnkoeidejhfaaTreeR
import Derived.Test.YtgbnkoeidejhfaaDigO
namespace Go.Proofs.Ytgbnkoeidejhfaa
open Go.RowKit

set_option maxRecDepth 100000 in
set_option maxHeartbeats 1000000 in
theorem refRoot_any (l : List (List UInt8)) (A : Option Addr) (cap : Nat) (w : World) (hp : Strs w A cap l) (hlen : ∀ x ∈ l, x.length ≤ 1099511627775) (hl : l.length ≤ 1073741824) :
    Calls Try.prog 23 #[.slice A l.length cap] w fun e w' => e = .returned (.string (str (rootOf l))) ∧ Below w.heap.size w w' := by
  by_cases hn : l = []
  · subst hn
    have hc : ({ data := #[] } : ByteArray) = str [] := rfl
    have hr : rootOf [] = sha [] := if_pos rfl
    rw [hr]
    clear hr hlen hp
    go_enter Try.func23, Try.ntmps23
    go_wp2_with fail
    refine (refSum_any [] _ (by simp)).mono ?_
    rintro e w1 ⟨rfl, hb1⟩
    have Hb1 := Lib.hid hb1
    clear hb1
    go_wp2_with fail
    go_ret
    exact ⟨rfl, Hb1.out⟩
  · have hl1 : 1 ≤ l.length := by
      cases l with
      | nil => exact absurd rfl hn
      | cons => simp
    have hr : rootOf l = rootG l.length (leafs l) := if_neg hn
    obtain ⟨root, hroot⟩ : ∃ r, r = rootOf l := ⟨_, rfl⟩
    rw [← hroot] at hr
    rw [← hroot]
    have hll := leafs_length l
    have h32 := leafs_32 l
    have d0 : ((l.length : Int) == 0) = false := by rw [beq_eq_false_iff_ne]; omega
    have Hp := Lib.hid hp
    have Hlen := Lib.hid hlen
    have Hr := Lib.hid hr.symm
    have H32 := Lib.hid h32
    have Hll := Lib.hid hll
    clear hp hlen hr h32 hll hroot
    go_enter Try.func23, Try.ntmps23
    go_wp2_with fail
    refine (leaves_any l A cap _ Hp.out Hlen.out hl).mono ?_
    rintro e w1 ⟨A1, c1, rfl, hs1, _, hb1⟩
    have Hs1 := Lib.hid hs1
    have Hb1 := Lib.hid hb1
    clear hs1 hb1
    go_wp2_with fail
    go_loopw [3] (fun v wr => ∃ (f : Nat) (R : List (List UInt8)) (A' : Option Addr) (c n : Nat), v = .slice A' n c ∧ n = R.length ∧ 1 ≤ n ∧ n ≤ f ∧ n ≤ 1073741824 ∧ All32 R ∧ Strs wr A' c R ∧ rootG f R = root ∧ Below w.heap.size w wr) (fun v _ => match v with | .slice _ n _ => n | _ => 0)
    case atStart => exact ⟨l.length, leafs l, A1, c1, l.length, rfl, Hll.out.symm, hl1, by omega, hl, H32.out, Hs1.out, Hr.out, Hb1.out⟩
    case round =>
      obtain ⟨f, R, A', c, n, rfl, hn2, hn1, hnf, hnl, hR, hs, hrt, hb⟩ := hrel
      have Hn := Lib.hid hn2
      have HR := Lib.hid hR
      have Hs := Lib.hid hs
      have Hb := Lib.hid hb
      have Hrt := Lib.hid hrt
      clear hn2 hR hs hb hrt Hs1 Hb1 Hr
      by_cases h1 : 1 < n
      · have d1 : decide ((1 : Int) < (n : Int)) = true := decide_eq_true (by omega)
        obtain ⟨f, rfl⟩ : ∃ k, f = k + 1 := ⟨f - 1, by omega⟩
        have hrt2 : rootG f (up2 R) = root := by rw [← Hrt.out]; simp [rootG, show ¬ R.length ≤ 1 by rw [← Hn.out]; omega]
        have hul := up2_length R
        rw [← Hn.out] at hul
        have Hrt2 := Lib.hid hrt2
        have Hul := Lib.hid hul
        have hRl : R.length ≤ 1073741824 := by rw [← Hn.out]; exact hnl
        clear hrt2 hul
        rw [Hn.out]
        have d1 : decide ((1 : Int) < (R.length : Int)) = true := by rw [← Hn.out]; exact d1
        go_wp2_with fail
        refine (above_any R A' c _ Hs.out HR.out hRl).mono ?_
        rintro e w2 ⟨A2, c2, rfl, hs2, _, hb2⟩
        have Hs2 := Lib.hid hs2
        have Hb2 := Lib.hid (below_trans Hb.out hb2)
        clear hs2 hb2
        go_wp2_with fail
        go_roundw
        case rel => exact ⟨f, up2 R, A2, c2, _, rfl, rfl, by rw [Hul.out]; omega, by rw [Hul.out]; omega, by rw [Hul.out]; omega, up2_32 R HR.out, Hs2.out, Hrt2.out, Hb2.out⟩
        case measure => have := Hul.out; have := Hn.out; simp; omega
      · have d1 : decide ((1 : Int) < (n : Int)) = false := decide_eq_false (by omega)
        have hone := one_of_len (R := R) (by rw [← Hn.out]; omega) (by rw [← Hn.out]; omega) f (by rw [← Hn.out]; omega)
        rw [Hrt.out] at hone
        have hs := Hs.out
        rw [hone] at hs
        obtain ⟨a, rfl, hc⟩ := hs.cells 0 root rfl
        have hc0 : wr.cell? a = some (.string (str root)) := hc
        have hn1' : n = 1 := by omega
        subst hn1'
        clear hone hs hc Hs Hrt
        go_wp2_with fail
        go_ret
        exact ⟨rfl, Hb.out⟩
end Go.Proofs.Ytgbnkoeidejhfaa
