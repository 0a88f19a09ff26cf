import Derived.Test.YtgbnkoeidejhfaaTreeT
namespace Go.Proofs.Ytgbnkoeidejhfaa
open Go.RowKit

set_option maxRecDepth 100000 in
set_option maxHeartbeats 2000000 in
theorem trees_walk (l : List (List UInt8)) (A : Option Addr) (cap : Nat) (i : Int) (w : World) (hp : Strs w A cap l) (hlen : ∀ x ∈ l, x.length ≤ 140737488355328) (hi1 : -9223372036854775808 ≤ i) (hi2 : i ≤ 9223372036854775807) :
    Calls Try.prog 8 #[.slice A l.length cap, .int .i64 i] w fun e w' => e = .returned (.bool true) ∧ Below w.heap.size w w' := by
  have Hp := Lib.hid hp
  clear hp
  go_enter Try.func8, Try.ntmps8
  go_wp2_with fail
  refine (awake_any _).mono ?_
  rintro e w0 ⟨rfl, hb0⟩
  have HB0 := Lib.hid hb0
  have Hp0 := Lib.hid (Hp.out.below hb0)
  clear hb0 Hp
  by_cases hf : fewB l = false
  · go_wp2_with fail
    refine (few_any A cap l _ Hp0.out hlen).mono ?_
    rintro e w' ⟨rfl, rfl⟩
    go_wp2_with fail
    go_ret
    exact ⟨rfl, HB0.out⟩
  have hf : fewB l = true := by simpa using hf
  obtain ⟨hy1, hy2⟩ := fewB_yes hf
  have hlen5 : ∀ x ∈ l, x.length ≤ 1099511627775 := fun x hx => by have := len_le_total hx; omega
  have Hlen5 := Lib.hid hlen5
  have hl30 : l.length ≤ 1073741824 := by omega
  obtain ⟨root, hroot⟩ : ∃ r, r = rootOf l := ⟨_, rfl⟩
  have Hroot := Lib.hid hroot
  have hss := str_eq_yes (rfl : root = root)
  clear hlen5 hroot
  go_wp2_with fail
  refine (few_any A cap l _ Hp0.out hlen).mono ?_
  rintro e w' ⟨rfl, rfl⟩
  clear hlen
  go_wp2_with fail
  refine (rootTop_any l A cap _ Hp0.out Hlen5.out hl30).mono ?_
  rintro e w1 ⟨rfl, hb1⟩
  rw [← Hroot.out]
  have HB1 := Lib.hid (below_trans HB0.out hb1)
  have Hp1 := Lib.hid (Hp0.out.below hb1)
  clear hb1 HB0 Hp0
  by_cases hio : i < 0 ∨ (l.length : Int) ≤ i
  · go_wp2_with fail
    refine (path_no l A cap i _ hio).mono ?_
    rintro e w' ⟨rfl, rfl⟩
    go_wp2_with fail
    refine (refPath_no l A cap i _ hio).mono ?_
    rintro e w' ⟨rfl, rfl⟩
    go_wp2_with fail
    refine (refRoot_any l A cap _ Hp1.out Hlen5.out hl30).mono ?_
    rintro e w2 ⟨rfl, hb2⟩
    rw [← Hroot.out]
    have HB2 := Lib.hid (below_trans HB1.out hb2)
    clear hb2 HB1 Hp1
    go_wp2_with fail
    refine (same_yes [] none none 0 0 _ ⟨Nat.le_refl _, fun i x hx => by simp at hx⟩ ⟨Nat.le_refl _, fun i x hx => by simp at hx⟩ (by simp)).mono ?_
    rintro e w3 ⟨rfl, q, rfl⟩
    have HB3 := Lib.hid (below_drewN HB2.out q)
    go_wp2_with fail
    go_ret
    exact ⟨rfl, HB3.out⟩
  · obtain ⟨k, rfl⟩ : ∃ k : Nat, i = (k : Int) := ⟨i.toNat, by omega⟩
    have hk : k < l.length := by omega
    obtain ⟨x, hx⟩ : ∃ x, l[k]? = some x := ⟨_, List.getElem?_eq_getElem hk⟩
    have hxl : x.length ≤ 1099511627775 := Hlen5.out x (List.mem_of_getElem? hx)
    have hcl := climb_of_path l k x (by omega) hx
    obtain ⟨ps, hps⟩ : ∃ p, p = pathOf l k := ⟨_, rfl⟩
    rw [← hps, ← Hroot.out] at hcl
    have hpl : ps.length ≤ 1073741824 := by
      have := pathG_le l.length (leafs l) k
      rw [hps, pathOf]; omega
    have Hps := Lib.hid hps
    have Hcl := Lib.hid hcl
    have Hx := Lib.hid hx
    have k1 : (k : Int) < (l.length : Int) := by omega
    have k0 : 0 ≤ (k : Int) := by omega
    clear hps hcl hx hio
    go_wp2_with fail
    refine (path_yes l A cap k _ Hp1.out Hlen5.out hl30 hk).mono ?_
    rw [← Hps.out]
    rintro e w2 ⟨A2, c2, rfl, hs2, hb2⟩
    have Hs2 := Lib.hid hs2
    have HB2 := Lib.hid (below_trans HB1.out hb2)
    have Hp2 := Lib.hid (Hp1.out.below hb2)
    clear hs2 hb2 HB1 Hp1
    go_wp2_with fail
    refine (refPath_yes l A cap k _ Hp2.out Hlen5.out hl30 hk).mono ?_
    rw [← Hps.out]
    rintro e w3 ⟨A3, c3, rfl, hs3, hb3⟩
    have Hs3 := Lib.hid hs3
    have Hs23 := Lib.hid (Hs2.out.below hb3)
    have HB3 := Lib.hid (below_trans HB2.out hb3)
    have Hp3 := Lib.hid (Hp2.out.below hb3)
    clear hs3 hb3 HB2 Hp2 Hs2
    go_wp2_with fail
    refine (refRoot_any l A cap _ Hp3.out Hlen5.out hl30).mono ?_
    rintro e w4 ⟨rfl, hb4⟩
    rw [← Hroot.out]
    have HB4 := Lib.hid (below_trans HB3.out hb4)
    have Hp4 := Lib.hid (Hp3.out.below hb4)
    have Hs24 := Lib.hid (Hs23.out.below hb4)
    have Hs34 := Lib.hid (Hs3.out.below hb4)
    clear hb4 HB3 Hp3 Hs23 Hs3
    go_wp2_with fail
    refine (same_yes ps A2 A3 c2 c3 _ Hs24.out Hs34.out hpl).mono ?_
    rintro e w5 ⟨rfl, q, rfl⟩
    have HB5 := Lib.hid (below_drewN HB4.out q)
    have Hs25 := Lib.hid (Hs24.out.below (below_drewN (Below.refl _ w4) q))
    obtain ⟨a, rfl, hc⟩ := Hp4.out.cells k x Hx.out
    have hc5 : (w4.drewN q).cell? (a.add k) = some (.string (str x)) := hc
    clear hc HB4 Hp4 Hs24 Hs34 Hx
    generalize w4.drewN q = w5 at *
    go_wp2_with fail
    refine (climb_some x root (k : Int) (l.length : Int) A2 c2 ps _ Hcl.out hxl Hs25.out (by omega) (by omega) (by omega) (by omega) (by omega)).mono ?_
    rintro e w6 ⟨rfl, hb6⟩
    have HB6 := Lib.hid (below_trans HB5.out hb6)
    clear hb6
    go_wp2_with fail
    go_ret
    exact ⟨by simp, HB6.out⟩
end Go.Proofs.Ytgbnkoeidejhfaa
