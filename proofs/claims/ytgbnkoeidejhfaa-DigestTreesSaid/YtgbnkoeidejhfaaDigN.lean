import Derived.Test.YtgbnkoeidejhfaaDigM
namespace Go.Proofs.Ytgbnkoeidejhfaa
open Go.RowKit

set_option maxRecDepth 100000 in
set_option maxHeartbeats 400000 in
theorem leaf_any (l : List UInt8) (w : World) (hl : l.length ≤ 1099511627775) :
    Calls Try.prog 36 #[.string (str l)] w fun e w' => e = .returned (.string (str (sha (0 :: l)))) ∧ Below w.heap.size w w' := by
  have hc : ({ data := #[0] } : ByteArray) = str [0] := rfl
  have ha := str_add Try.prog [0] l (by simp; omega)
  obtain ⟨x, hx⟩ : ∃ x, x = (0 : UInt8) :: l := ⟨_, rfl⟩
  rw [show [(0 : UInt8)] ++ l = 0 :: l from rfl, ← hx] at ha
  have hxl : x.length ≤ 1099511627776 := by rw [hx]; simp; omega
  rw [← hx]
  clear hx
  go_enter Try.func36, Try.ntmps36
  go_wp2_with (go_at_call 11; refine (sumTop_any x _ hxl).mono ?_; rintro e w1 ⟨rfl, hb1⟩; have Hb1 := Lib.hid hb1; clear hb1)
  go_ret
  exact ⟨rfl, Hb1.out⟩

set_option maxRecDepth 100000 in
set_option maxHeartbeats 400000 in
theorem node_any (l m : List UInt8) (w : World) (hl : l.length ≤ 549755813887) (hm : m.length ≤ 549755813887) :
    Calls Try.prog 37 #[.string (str l), .string (str m)] w fun e w' => e = .returned (.string (str (sha (1 :: (l ++ m))))) ∧ Below w.heap.size w w' := by
  have hc : ({ data := #[1] } : ByteArray) = str [1] := rfl
  obtain ⟨y, hy⟩ : ∃ y, y = (1 : UInt8) :: l := ⟨_, rfl⟩
  have ha := str_add Try.prog [1] l (by simp; omega)
  rw [show [(1 : UInt8)] ++ l = 1 :: l from rfl, ← hy] at ha
  obtain ⟨x, hx⟩ : ∃ x, x = y ++ m := ⟨_, rfl⟩
  have hyl : y.length = l.length + 1 := by rw [hy]; rfl
  have ha2 := str_add Try.prog y m (by omega)
  rw [← hx] at ha2
  have hxl : x.length ≤ 1099511627776 := by rw [hx, List.length_append]; omega
  rw [show (1 : UInt8) :: (l ++ m) = x from by rw [hx, hy]; rfl]
  clear hx hy hyl
  go_enter Try.func37, Try.ntmps37
  go_wp2_with (go_at_call 11; refine (sumTop_any x _ hxl).mono ?_; rintro e w1 ⟨rfl, hb1⟩; have Hb1 := Lib.hid hb1; clear hb1)
  go_ret
  exact ⟨rfl, Hb1.out⟩
end Go.Proofs.Ytgbnkoeidejhfaa
