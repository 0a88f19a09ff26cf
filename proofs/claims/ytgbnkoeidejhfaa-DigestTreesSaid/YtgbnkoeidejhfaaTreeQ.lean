/- Path of a tree; the reference's leaves, rows above, Root, Path. -/
import Derived.Test.YtgbnkoeidejhfaaTreeP
import Derived.Test.YtgbnkoeidejhfaaRefSum
import Derived.Deep.RegionHeld3
namespace Go.Proofs.Ytgbnkoeidejhfaa
open Go.RowKit

set_option maxRecDepth 100000 in
set_option maxHeartbeats 400000 in
theorem path_no (l : List (List UInt8)) (A : Option Addr) (cap : Nat) (i : Int) (w : World) (h : i < 0 ∨ (l.length : Int) ≤ i) :
    Calls Try.prog 21 #[.slice A l.length cap, .int .i64 i] w fun e w' => e = .returned (.tuple #[.slice none 0 0, .bool false]) ∧ w = w' := by
  by_cases h1 : i < 0
  · have d1 : decide (i < 0) = true := decide_eq_true h1
    go_enter Try.func21, Try.ntmps21
    go_wp2_with fail
    go_ret2
    exact ⟨rfl, rfl⟩
  · have d1 : decide (i < 0) = false := decide_eq_false h1
    have d2 : decide ((l.length : Int) ≤ i) = true := decide_eq_true (by omega)
    go_enter Try.func21, Try.ntmps21
    go_wp2_with fail
    go_ret2
    exact ⟨rfl, rfl⟩

set_option maxRecDepth 100000 in
set_option maxHeartbeats 400000 in
theorem path_yes (l : List (List UInt8)) (A : Option Addr) (cap i : Nat) (w : World) (hp : Strs w A cap l) (hlen : ∀ x ∈ l, x.length ≤ 1099511627775) (hl : l.length ≤ 1073741824) (hi : i < l.length) :
    Calls Try.prog 21 #[.slice A l.length cap, .int .i64 (i : Int)] w fun e w' => ∃ A' c, e = .returned (.tuple #[.slice A' (pathOf l i).length c, .bool true]) ∧ Strs w' A' c (pathOf l i) ∧ Below w.heap.size w w' := by
  have d1 : decide ((i : Int) < 0) = false := decide_eq_false (by omega)
  have d2 : decide ((l.length : Int) ≤ (i : Int)) = false := decide_eq_false (by omega)
  have hp1 : Strs (w.alloc (.cells #[.slice none 0 0] 30)) A cap l := hp.below ((Below.refl _ _).alloc (Nat.le_refl _) _)
  have Hp := Lib.hid hp1
  have Hlen := Lib.hid hlen
  have hmf : ∀ (fn : Fn) (first cap : Array Value) (w : World), (Instr.makeFunc fn first cap).run Try.prog w = .ok (.func fn first cap) w := fun _ _ _ _ => rfl
  obtain ⟨ps, hps⟩ : ∃ p, p = pathOf l i := ⟨_, rfl⟩
  rw [← hps]
  have Hps := Lib.hid hps
  have hBk : Blk (w.alloc (.cells #[.slice none 0 0] 30)) w.heap.size 30 [.slice none 0 0] := Blk.of _ _ _ _ rfl
  have HBk := Lib.hid hBk
  clear hp hp1 hlen hps hBk
  go_enter Try.func21, Try.ntmps21
  go_wp2_with fail
  refine (climbAll_any (some w.heap.size) l A cap i _ Hp.out Hlen.out hl (by omega) (fun pb h => by injection h with h; subst h; exact ⟨by simp, HBk.out⟩)).mono ?_
  rintro e w1 ⟨rfl, hg, g, hpb, v, hb, hr, _⟩
  rw [← Hps.out] at hr
  obtain ⟨A', c, rfl, hs⟩ := hr.strsAll
  have c0 : w1.cell? ⟨w.heap.size, 0, none⟩ = some (.slice A' ps.length c) := hb.cell 0
  have Hs := Lib.hid hs
  have HB : Hid (Below w.heap.size w w1) := ((Below.refl w.heap.size w).alloc (Nat.le_refl _) _).trans (⟨hg.os, hg.tape, hg.output, hg.size, fun k hk => hg.block k (by simp; omega) (by intro h; injection h with h; omega)⟩)
  clear hs hr hb hg
  go_wp2_with fail
  go_ret2
  exact ⟨A', c, rfl, Hs.out, HB.out⟩

set_option maxRecDepth 100000 in
set_option maxHeartbeats 1000000 in
theorem leaves_any (l : List (List UInt8)) (A : Option Addr) (cap : Nat) (w : World) (hp : Strs w A cap l) (hlen : ∀ x ∈ l, x.length ≤ 1099511627775) (hl : l.length ≤ 1073741824) :
    Calls Try.prog 41 #[.slice A l.length cap] w fun e w' => ∃ A' c, e = .returned (.slice A' l.length c) ∧ Strs w' A' c (leafs l) ∧ (∀ a, A' = some a → w.heap.size ≤ a.block) ∧ Below w.heap.size w w' := by
  have Hp := Lib.hid hp
  have Hlen := Lib.hid hlen
  obtain ⟨n, hn⟩ : ∃ n, n = l.length := ⟨_, rfl⟩
  rw [← hn] at hl
  rw [← hn]
  have Hn := Lib.hid hn
  clear hp hlen hn
  go_enter Try.func41, Try.ntmps41
  go_wp2_with fail
  go_loopw [3, 4] (fun v y wr => ∃ k : Nat, k ≤ n ∧ y = .int .i64 (k : Int) ∧ Row wr w.heap.size 9 1 v k (((leafs l).take k).map tv) ∧ Below w.heap.size w wr) (fun _ y _ => n - (intOf y).toNat)
  case atStart => exact ⟨0, by omega, rfl, Row.nil _ _ _ _, Below.refl _ _⟩
  case round =>
    obtain ⟨k, hk, rfl, hr, hb⟩ := hrel
    have Hr := Lib.hid hr
    have Hb := Lib.hid hb
    clear hr hb
    have hll : (leafs l).length = n := by rw [leafs_length, Hn.out]
    by_cases hlt : k < n
    · have d1 : decide ((k : Int) < (n : Int)) = true := decide_eq_true (by omega)
      have k1 : (k : Int) < (n : Int) := by omega
      have hkl : k < l.length := by rw [← Hn.out]; exact hlt
      obtain ⟨x, hx⟩ : ∃ x, l[k]? = some x := ⟨_, List.getElem?_eq_getElem hkl⟩
      obtain ⟨a, rfl, hc⟩ := Hp.out.cells k x hx
      have hcx := below_cell Hb.out hc
      have hxl := Hlen.out x (List.mem_of_getElem? hx)
      have e0 : ({ data := #[0] } : ByteArray) = str [0] := rfl
      have s0 := str_add Try.prog [0] x (by simp; omega)
      obtain ⟨S0, hS0⟩ : ∃ S, S = (0 : UInt8) :: x := ⟨_, rfl⟩
      rw [show [(0 : UInt8)] ++ x = 0 :: x from rfl, ← hS0] at s0
      have hS0l : S0.length ≤ 1099511627776 := by rw [hS0]; simp; omega
      obtain ⟨y, hy⟩ : ∃ y, y = sha S0 := ⟨_, rfl⟩
      have hkl2 : k < (leafs l).length := by omega
      have htk : ((leafs l).take (k + 1)).map tv = ((leafs l).take k).map tv ++ [Value.string (str y)] := by
        have hye : (leafs l)[k] = y := by
          have : (leafs l)[k]? = some y := by rw [hy, hS0]; simp [leafs, hx]
          rw [List.getElem?_eq_getElem hkl2] at this
          exact Option.some.inj this
        rw [List.take_succ_eq_append_getElem hkl2, hye, List.map_append]
        rfl
      have hul : (((leafs l).take k).map tv).length = k := by rw [List.length_map, List.length_take]; omega
      obtain ⟨us, hus⟩ : ∃ us, us = ((leafs l).take k).map tv := ⟨_, rfl⟩
      have hr := Hr.out
      rw [← hus] at htk hul hr
      have hr2 : Row wr w.heap.size 9 1 u3 us.length us := by rw [hul]; exact hr
      have Hr2 := Lib.hid hr2
      have Htk := Lib.hid htk
      have Hul := Lib.hid hul
      have Hy := Lib.hid hy
      have hby : (us.length + 1) * 16 ≤ 140737488355328 := by rw [hul]; omega
      clear hr2 htk hul hy hus hr hS0 hx hkl hkl2 hll Hr hc
      go_wp2_with (first | (go_at_call 12; refine (refSum_any S0 _ hS0l).mono ?_; rintro e w2 ⟨rfl, hb2⟩; rw [← Hy.out]; have Hr3 := Lib.hid (Hr2.out.below hb2); have Hb2 := Lib.hid (below_trans Hb.out hb2); clear hb2) | (at_builtin; go_must (refine ap_one Try.un_strs Try.inf_str rfl Hr3.out rfl (by omega) hby Hb2.out.size rfl _ _ rfl rfl rfl ?_; intro v1 w3 hr3 hg3; rw [show (us ++ [Value.string (str y)]).length = k + 1 from by rw [List.length_append, Hul.out]; rfl] at hr3; rw [← Htk.out] at hr3; have Hr4 := Lib.hid hr3; have Hb3 := Lib.hid (Hb2.out.grown hg3 Hb2.out.size (fun q hq => (Hr3.out.block q hq).1)); clear hr3 hg3)))
      go_roundw
      case rel => exact ⟨k + 1, by omega, by go_num, Hr4.out, Hb3.out⟩
      case measure => simp [intOf]; omega
    · have d1 : decide ((k : Int) < (n : Int)) = false := decide_eq_false (by omega)
      have hr := Hr.out
      rw [List.take_of_length_le (by omega)] at hr
      have hkn : k = (leafs l).length := by omega
      rw [hkn] at hr
      obtain ⟨A', c, rfl, hs, hab⟩ := hr.strsAllB
      have Hab := Lib.hid hab
      clear hab
      rw [hll]
      have Hs := Lib.hid hs
      clear hs hr hll hkn Hr
      go_wp2_with fail
      go_ret
      exact ⟨A', c, rfl, Hs.out, Hab.out, Hb.out⟩
end Go.Proofs.Ytgbnkoeidejhfaa
