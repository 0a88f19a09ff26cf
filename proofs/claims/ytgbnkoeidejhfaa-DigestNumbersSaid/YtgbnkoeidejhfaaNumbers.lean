import Derived.Test.YtgbnkoeidejhfaaRefNumber
import Derived.Test.YtgbnkoeidejhfaaFew
import Derived.Test.YtgbnkoeidejhfaaDigJ
namespace Go.Proofs.Ytgbnkoeidejhfaa
open Go.RowKit

theorem number_awake : (numberOf [97] [] 1000003 == 0) = false := by decide +kernel
theorem total_eq (l : List (List UInt8)) : totalLen l = total l := rfl

set_option maxRecDepth 100000 in
set_option maxHeartbeats 1000000 in
theorem numbers_walk (label : List UInt8) (A : Option Addr) (cap : Nat) (parts : List (List UInt8)) (q : Nat) (w : World) (hp : Strs w A cap parts) (hlen : ∀ x ∈ parts, x.length ≤ 140737488355328) (hl : label.length ≤ 140737488355328) (hq : q < 18446744073709551616) :
    Calls Try.prog 9 #[.string (str label), .slice A parts.length cap, .int .u64 (q : Int)] w fun e w' => e = .returned (.bool true) ∧ Below w.heap.size w w' := by
  have hsz := str_size label
  have Hp := Lib.hid hp
  have ca : ({ data := #[97] } : ByteArray) = str [97] := rfl
  obtain ⟨N, hN⟩ : ∃ N, N = numberOf [97] [] 1000003 := ⟨_, rfl⟩
  have hN0 : ((N : Int) == 0) = false := by
    have h := number_awake
    rw [← hN] at h
    rw [beq_eq_false_iff_ne] at h ⊢
    omega
  have HN := Lib.hid hN
  clear hp hN
  go_enter Try.func9, Try.ntmps9
  go_wp2_with fail
  refine (awake_any _).mono ?_
  rintro e w0 ⟨rfl, hb0⟩
  have HB0 := Lib.hid hb0
  clear hb0
  go_wp2_with fail
  refine (number_text [97] none 0 [] 1000003 _ ⟨Nat.le_refl _, fun i x hx => by simp at hx⟩ (by omega) (by simp [numText, lenText, be_length]) (by simp)).mono ?_
  rintro e w1 ⟨rfl, hb1⟩
  rw [← HN.out]
  have HB1 := Lib.hid (below_trans HB0.out hb1)
  have Hp1 := Lib.hid (Hp.out.below HB1.out)
  clear hb1 HB0 Hp
  by_cases h1 : 1000 < label.length
  · have d1 : decide ((1000 : Int) < (label.length : Int)) = true := decide_eq_true (by omega)
    go_wp2_with fail
    go_ret
    exact ⟨rfl, HB1.out⟩
  have d1 : decide ((1000 : Int) < (label.length : Int)) = false := decide_eq_false (by omega)
  by_cases hf : fewB parts = false
  · go_wp2_with fail
    refine (few_any A cap parts _ Hp1.out hlen).mono ?_
    rintro e w' ⟨rfl, rfl⟩
    go_wp2_with fail
    go_ret
    exact ⟨rfl, HB1.out⟩
  have hf : fewB parts = true := by simpa using hf
  obtain ⟨hy1, hy2⟩ := fewB_yes hf
  have hTl : (numText (label :: parts)).length ≤ 1099511627776 := by
    rw [numText_length]
    have : totalLen (label :: parts) = label.length + total parts := by simp [totalLen, total]
    rw [this, List.length_cons]
    omega
  go_wp2_with fail
  refine (few_any A cap parts _ Hp1.out hlen).mono ?_
  rintro e w' ⟨rfl, rfl⟩
  go_wp2_with fail
  refine (number_text label A cap parts q _ Hp1.out hq hTl (by omega)).mono ?_
  rintro e w2 ⟨rfl, hb2⟩
  have HB2 := Lib.hid (below_trans HB1.out hb2)
  have Hp2 := Lib.hid (Hp1.out.below hb2)
  clear hb2
  go_wp2_with fail
  refine (refNumber_any label A cap parts q _ Hp2.out hq hTl (by omega)).mono ?_
  rintro e w3 ⟨rfl, hb3⟩
  have HB3 := Lib.hid (below_trans HB2.out hb3)
  clear hb3
  go_wp2_with fail
  go_ret
  exact ⟨by simp, HB3.out⟩
end Go.Proofs.Ytgbnkoeidejhfaa
