/- Up to 200 texts of up to 5000 bytes in all. -/
import Derived.Test.YtgbnkoeidejhfaaDigN
import Derived.Test.YtgbnkoeidejhfaaStrs
namespace Go.Proofs.Ytgbnkoeidejhfaa
open Go.RowKit

def total (l : List (List UInt8)) : Nat := (l.map List.length).sum
theorem total_take_succ (l : List (List UInt8)) (k : Nat) (x : List UInt8) (h : l[k]? = some x) : total (l.take (k + 1)) = total (l.take k) + x.length := by
  have hk := (List.getElem?_eq_some_iff.1 h)
  obtain ⟨hk, rfl⟩ := hk
  unfold total
  rw [List.take_succ_eq_append_getElem hk, List.map_append, List.sum_append]
  simp only [List.map_cons, List.map_nil, List.sum_cons, List.sum_nil, Nat.add_zero]
theorem total_take_le (l : List (List UInt8)) (k : Nat) : total (l.take k) ≤ total l := by
  unfold total
  conv => rhs; rw [← List.take_append_drop k l]
  simp only [List.map_append, List.sum_append]
  omega
def fewB (l : List (List UInt8)) : Bool := decide (l.length ≤ 200) && decide (total l ≤ 5000)
theorem fewB_yes {l : List (List UInt8)} (h : fewB l = true) : l.length ≤ 200 ∧ total l ≤ 5000 := by
  simpa [fewB] using h
theorem len_le_total {l : List (List UInt8)} {x : List UInt8} (h : x ∈ l) : x.length ≤ total l := by
  unfold total
  induction l with
  | nil => cases h
  | cons y l ih =>
    simp only [List.map_cons, List.sum_cons]
    rcases List.mem_cons.1 h with rfl | h
    · omega
    · have := ih h; omega

set_option maxRecDepth 100000 in
set_option maxHeartbeats 400000 in
theorem few_any (A : Option Addr) (cap : Nat) (l : List (List UInt8)) (w : World) (hp : Strs w A cap l) (hlen : ∀ x ∈ l, x.length ≤ 140737488355328) :
    Calls Try.prog 17 #[.slice A l.length cap] w fun e w' => e = .returned (.bool (fewB l)) ∧ w = w' := by
  obtain ⟨n, hn⟩ : ∃ n, n = l.length := ⟨_, rfl⟩
  have Hn := Lib.hid hn
  rw [← hn]
  clear hn
  have Hp := Lib.hid hp
  have Hlen := Lib.hid hlen
  clear hp hlen
  by_cases h200 : 200 < n
  · have b1 : decide ((200 : Int) < (n : Int)) = true := decide_eq_true (by omega)
    have hres : fewB l = false := by unfold fewB; rw [decide_eq_false (by rw [← Hn.out]; omega)]; rfl
    rw [hres]
    clear hres
    go_enter Try.func17, Try.ntmps17
    go_wp2_with fail
    go_ret
    exact ⟨rfl, rfl⟩
  · have b1 : decide ((200 : Int) < (n : Int)) = false := decide_eq_false (by omega)
    obtain ⟨r, hr⟩ : ∃ r, r = fewB l := ⟨_, rfl⟩
    have Hr := Lib.hid hr
    rw [← hr]
    clear hr
    go_enter Try.func17, Try.ntmps17
    go_wp2_with fail
    go_loop [3, 11] (fun t i => ∃ k z : Nat, k ≤ n ∧ z ≤ 5000 ∧ i = .int .i64 (k : Int) ∧ t = .int .i64 (z : Int) ∧ z = total (l.take k)) (fun _ i => n - (intOf i).toNat)
    case atStart => exact ⟨0, 0, by omega, by omega, rfl, rfl, rfl⟩
    case round =>
      obtain ⟨k, z, hk, hz, rfl, rfl, hzt⟩ := hrel
      have Hzt := Lib.hid hzt
      clear hzt
      by_cases hlt : k < n
      · have b2 : decide ((k : Int) < (n : Int)) = true := decide_eq_true (by omega)
        obtain ⟨x, hx⟩ : ∃ x, l[k]? = some x := ⟨_, List.getElem?_eq_getElem (by rw [← Hn.out]; exact hlt)⟩
        obtain ⟨a, ha, hc⟩ := Hp.out.cells k x hx
        have hxl := Hlen.out x (List.mem_of_getElem? hx)
        have hxs := str_size x
        have hts := total_take_succ l k x hx
        have hle := total_take_le l (k + 1)
        rw [← Hzt.out] at hts
        obtain ⟨y, hy⟩ : ∃ y, y = z + x.length := ⟨_, rfl⟩
        have Hts := Lib.hid (hts.trans hy.symm)
        have Hle := Lib.hid hle
        obtain ⟨xl, hxl2⟩ : ∃ xl, xl = x.length := ⟨_, rfl⟩
        rw [← hxl2] at hxs hxl
        have hyz : (z : Int) + (xl : Int) = (y : Int) := by omega
        have hyb : y ≤ 281474976710656 := by omega
        clear hts hle hy hxl2
        subst ha
        by_cases hbig : 5000 < y
        · have b3 : decide ((5000 : Int) < (y : Int)) = true := decide_eq_true (by omega)
          have hres : r = false := by
            rw [Hr.out]; unfold fewB
            rw [decide_eq_false (p := total l ≤ 5000) (by have := Hle.out; have := Hts.out; omega)]; simp
          subst hres
          go_wp2_with fail
          go_ret
          exact ⟨rfl, rfl⟩
        · have b3 : decide ((5000 : Int) < (y : Int)) = false := decide_eq_false (by omega)
          go_wp2_with fail
          go_round
          case rel => exact ⟨k + 1, y, by omega, by omega, by go_num, rfl, Hts.out.symm⟩
          case measure => simp [intOf]; omega
      · have b2 : decide ((k : Int) < (n : Int)) = false := decide_eq_false (by omega)
        have hres : r = true := by
          rw [Hr.out]; unfold fewB
          have hkn : l.take k = l := List.take_of_length_le (by rw [← Hn.out]; omega)
          have hzt := Hzt.out
          rw [hkn] at hzt
          rw [decide_eq_true (p := l.length ≤ 200) (by rw [← Hn.out]; omega), decide_eq_true (p := total l ≤ 5000) (by omega)]; rfl
        subst hres
        go_wp2_with fail
        go_ret
        exact ⟨rfl, rfl⟩
end Go.Proofs.Ytgbnkoeidejhfaa
