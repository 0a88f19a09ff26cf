import Derived.Test.YtgbnkoeidejhfaaDigB
import Derived.StillTailTactics
import Derived.Defers
import Derived.Laws.LoneSync
namespace Go.Proofs.Ytgbnkoeidejhfaa
open Go.RowKit

theorem Try.mixed : Try.prog.follows .mixedOrders = true := by kernel_rfl

/-- A maker's cells: once, and K. -/
def mk (d s : Int) (ks : List W32) : List Value := [.int .u32 d, .int .i32 s, .int .u32 0] ++ ks.map v32
abbrev Maker (w : World) (b : Nat) (d s : Int) (ks : List W32) : Prop := Blk w b 61 (mk d s ks)
/-- K as far as the primes below p + 2 go. -/
def kTo (p : Nat) : List W32 := (prs p).map kOf ++ List.replicate (64 - (prs p).length) 0
theorem kTo_length (p : Nat) (h : (prs p).length ≤ 64) : (kTo p).length = 64 := by simp [kTo]; omega
theorem kTo_no (p : Nat) (h : isPr (p + 2) = false) : kTo (p + 1) = kTo p := by simp [kTo, prs, h]
theorem kTo_yes (p : Nat) (h : isPr (p + 2) = true) (hl : (prs p).length < 64) : kTo (p + 1) = (kTo p).set (prs p).length (kOf (p + 2)) := by
  obtain ⟨m, hm⟩ : ∃ m, 64 - (prs p).length = m + 1 := ⟨63 - (prs p).length, by omega⟩
  have e : 64 - ((prs p).length + 1) = m := by omega
  simp [kTo, prs, h, hm, e, List.replicate_succ]
theorem mk_set (d s : Int) (ks : List W32) (i : Nat) (x : W32) : (mk d s ks).set (3 + i) (v32 x) = mk d s (ks.set i x) := by
  rw [Nat.add_comm]
  simp [mk, List.map_set]
theorem mk_cell (d s : Int) (ks : List W32) (i : Nat) (h : i < ks.length) : (mk d s ks)[3 + i]? = some (v32 (ks.getD i 0)) := by
  rw [Nat.add_comm]
  simp [mk, List.getD_eq_getElem?_getD, h]
theorem kTo_end : kTo 310 = kList := by
  simp [kTo, prs_k, prs_all]

theorem behind_still (q : Nat) (z : Int) (hz : z = (q : Int)) (hq : q < 65536) (w : World) :
    Calls Try.prog 57 #[.int .u64 z] w fun e w' => e = .returned (v32 (kOf q)) ∧ w' = w := by
  subst hz
  exact (behind_any q w hq).mono fun _ _ ⟨he, hw⟩ => ⟨he, hw.symm⟩

set_option maxRecDepth 100000 in
set_option maxHeartbeats 1000000 in
theorem fill_any (pl : Addr) (b : Nat) (w : World) (hpb : ¬ b = pl.block) (hp : w.cell? pl = some (.pointer (some ⟨b, 0, none⟩))) (hM : Maker w b 0 1 (List.replicate 64 0)) :
    Calls Try.prog 56 #[.pointer (some pl)] w fun e w' => e = .returned (.tuple #[]) ∧ Maker w' b 0 1 kList ∧ w.grownBy w' (some b) ∧ w'.heap.size = w.heap.size := by
  go_enter Try.func56, Try.ntmps56
  go_wp2
  go_loopw [1, 2] (fun x y wr => ∃ p : Nat, p ≤ 310 ∧ x = .int .i64 ((prs p).length : Int) ∧ y = .int .u64 ((p : Int) + 2) ∧ Maker wr b 0 1 (kTo p) ∧ w.grownBy wr (some b) ∧ wr.heap.size = w.heap.size) (fun _ y _ => 400 - (intOf y).toNat)
  case atStart => exact ⟨0, by omega, rfl, rfl, hM, grown_refl _ _, rfl⟩
  case round =>
    obtain ⟨p, hp310, rfl, rfl, hMr, hg, hsz⟩ := hrel
    by_cases hlt : (prs p).length < 64
    · have hp309 : p < 310 := by
        rcases Nat.lt_or_ge p 310 with h | h
        · exact h
        · have := prs_mono 310 p h; have := prs_all; omega
      have HM := Lib.hid hMr
      have Hg := Lib.hid hg
      have Hsz := Lib.hid hsz
      have Hlt := Lib.hid hlt
      have hpl : wr.cell? pl = some (.pointer (some ⟨b, 0, none⟩)) := hg.cell hp (by simp; omega)
      clear hMr hg hsz hM hp
      obtain ⟨l, hl⟩ : ∃ l, l = (prs p).length := ⟨_, rfl⟩
      rw [← hl] at hlt ⊢
      have Hl := Lib.hid hl
      clear hl
      go_wp2
      go_loop [3, 4] (fun x y => ∃ (f d : Nat) (c : Bool), f + d = 22 ∧ 2 ≤ d ∧ d ≤ 19 ∧ trial (p + 2) f d c = isPr (p + 2) ∧ x = .bool c ∧ y = .int .u64 (d : Int)) (fun _ y => 30 - (intOf y).toNat)
      case atStart => exact ⟨20, 2, true, rfl, by omega, by omega, rfl, rfl, rfl⟩
      case round =>
        obtain ⟨f, d, c, hfd, hd2, hd19, htr, rfl, rfl⟩ := hrel
        obtain ⟨f, rfl⟩ : ∃ g, f = g + 1 := ⟨f - 1, by omega⟩
        have hd2' : (d : Int) * (d : Int) ≤ 361 := by exact_mod_cast Nat.mul_le_mul hd19 hd19
        have hd2'' : 0 ≤ (d : Int) * (d : Int) := by exact_mod_cast Nat.zero_le (d * d)
        by_cases hdd : d * d ≤ p + 2
        · have hd17 : d ≤ 17 := by
            rcases Nat.lt_or_ge 17 d with h | h
            · have := Nat.mul_le_mul h h; omega
            · exact h
          have hdd' : decide ((d : Int) * (d : Int) ≤ (p : Int) + 2) = true := by simp; exact_mod_cast hdd
          have htr' : trial (p + 2) f (d + 1) (c && (p + 2) % d != 0) = isPr (p + 2) := by rw [← htr]; simp [trial, hdd]
          have hm : ((p : Int) + 2) % (d : Int) = (((p + 2) % d : Nat) : Int) := by simp
          obtain ⟨m, hmm⟩ : ∃ m, m = (p + 2) % d := ⟨_, rfl⟩
          rw [← hmm] at hm htr'
          have Htr := Lib.hid htr'
          clear htr htr' hmm hdd
          cases c with
          | false =>
            go_wp2
            go_round
            case rel => exact ⟨f, d + 1, false, by omega, by omega, by omega, Htr.out, rfl, by go_num⟩
            case measure => simp [intOf]; omega
          | true =>
            by_cases hm0 : m = 0
            · have hm1 : ((m : Int) != 0) = false := by simp; omega
              go_wp2
              go_round
              case rel => exact ⟨f, d + 1, false, by omega, by omega, by omega, by have := Htr.out; rw [hm0] at this; exact this, rfl, by go_num⟩
              case measure => simp [intOf]; omega
            · have hm1 : ((m : Int) != 0) = true := by simp; omega
              go_wp2
              go_round
              case rel => exact ⟨f, d + 1, true, by omega, by omega, by omega, by have := Htr.out; rw [show (m != 0) = true by simp [hm0]] at this; exact this, rfl, by go_num⟩
              case measure => simp [intOf]; omega
        · have hdd' : decide ((d : Int) * (d : Int) ≤ (p : Int) + 2) = false := by simp; exact_mod_cast Nat.lt_of_not_le hdd
          have htr' : c = isPr (p + 2) := by rw [← htr]; simp [trial, hdd]
          have Htr := Lib.hid htr'
          clear htr htr' hdd
          cases c with
          | false =>
            have hno := kTo_no p Htr.out.symm
            have Hno := Lib.hid hno
            clear hno
            have hlen : (prs (p + 1)).length = (prs p).length := by simp [prs, Htr.out.symm]
            have Hlen := Lib.hid hlen
            clear hlen
            go_wp2
            go_roundw
            case rel => exact ⟨p + 1, by omega, by rw [Hlen.out, Hl.out], by go_num, by rw [Hno.out]; exact HM.out, Hg.out, Hsz.out⟩
            case measure => simp [intOf]; omega
          | true =>
            have hyes := kTo_yes p Htr.out.symm (by have := Hlt.out; omega)
            have hlen : (prs (p + 1)).length = (prs p).length + 1 := by simp [prs, Htr.out.symm]
            have Hlen := Lib.hid hlen
            have Hyes := Lib.hid hyes
            have hkl := kTo_length p (by have := Hlt.out; omega)
            have hcell : wr.cell? ⟨b, 3 + l, none⟩ = some (v32 ((kTo p).getD l 0)) := by
              rw [HM.out.cell, mk_cell _ _ _ _ (by rw [hkl]; exact hlt)]
            have hfr := HM.out.frozen (3 + l)
            have hset := HM.out.set (3 + l) (v32 (kOf (p + 2)))
            rw [mk_set, show (kTo p).set l (kOf (p + 2)) = kTo (p + 1) from by rw [Hl.out, ← hyes]] at hset
            have Hset := Lib.hid hset
            clear hlen hyes hkl hset
            go_wp2_with fail
            refine wp_region_still_tail 7 Try.mixed (by kernel_rfl) ?_
            simp only [List.take_succ_cons, List.take_zero, List.drop_succ_cons, List.drop_zero]
            still_step
            still_step
            still_step
            still_call (behind_still (p + 2) _ (by push_cast; rfl) (by omega) _)
            still_step
            still_step
            still_step
            refine wpStill_nil ?_
            go_wp2
            go_roundw
            case rel => exact ⟨p + 1, by omega, by rw [Hlen.out, ← Hl.out]; go_num, by go_num, Hset.out, grown_trans Hg.out (grown_set_drew wr b (3 + l) _), (by simpa [World.setCell] using Hsz.out)⟩
            case measure => simp [intOf]; omega
    · have hp : p = 310 := by
        rcases Nat.lt_or_ge p 310 with h | h
        · have := prs_mono p 309 (by omega); have := prs_309; omega
        · omega
      have hM' : Maker wr b 0 1 kList := by rw [← kTo_end, ← hp]; exact hMr
      have HM := Lib.hid hM'
      have Hg := Lib.hid hg
      have Hsz := Lib.hid hsz
      clear hM' hg hsz hMr hp
      go_wp2
      go_end0
      exact ⟨rfl, HM.out, Hg.out, Hsz.out⟩

/-! ### sync.Once, one goroutine -/
theorem o_disable (w : World) : (callFunc 83 #[]).run Try.prog w = .ok (.value (.tuple #[])) w := run_call_mark0 Try.func83 (by kernel_rfl) (by kernel_rfl) (by kernel_rfl) .disable (by kernel_rfl) w
theorem o_enable (w : World) : (callFunc 85 #[]).run Try.prog w = .ok (.value (.tuple #[])) w := run_call_mark0 Try.func85 (by kernel_rfl) (by kernel_rfl) (by kernel_rfl) .enable (by kernel_rfl) w
theorem o_acquire (a : Addr) (w : World) : (callFunc 86 #[.pointer (some a)]).run Try.prog w = .ok (.value (.tuple #[])) w := run_call_marked Try.func86 (by kernel_rfl) (by kernel_rfl) (by kernel_rfl) .acquire (by kernel_rfl) a w
theorem o_releaseMerge (a : Addr) (w : World) : (callFunc 88 #[.pointer (some a)]).run Try.prog w = .ok (.value (.tuple #[])) w := run_call_marked Try.func88 (by kernel_rfl) (by kernel_rfl) (by kernel_rfl) .releaseMerge (by kernel_rfl) a w

theorem o_store (a : Addr) (x : Value) (u : FrameMode) (w : World) (hc : w.cell? a = some x) (hz : w.frozen? a = false) :
    CallsD Try.prog 76 #[.pointer (some a), .bool true] u w fun e u' w' => u' = u ∧ (e = .returned (.tuple #[]) ∧ w' = w.drew.setCell a (.int .u32 1)) := by
  have hc' : w.drew.cell? a = some x := by go_simp
  have hz' : w.drew.frozen? a = false := by go_simp
  have hst := run_call_store (P := Try.prog) Try.func81 (by kernel_rfl) (by kernel_rfl) (by kernel_rfl) (by kernel_rfl) (k := .u32) (y := 1) hc' hz'
  go_enter_d Try.func76, Try.ntmps76
  go_wp2
  go_region_calls
  all_goals (go_end0; exact ⟨rfl, rfl⟩)

set_option maxRecDepth 100000 in
theorem o_unlock (a : Addr) (u : FrameMode) (w : World) (hc : w.cell? a = some (.int .i32 1)) (hz : w.frozen? a = false) :
    CallsD Try.prog 75 #[.pointer (some a)] u w fun e u' w' => u' = u ∧ (e = .returned (.tuple #[]) ∧ w' = w.setCell a (.int .i32 0)) := by
  have hd := o_disable
  have he := o_enable
  have hr := o_releaseMerge
  have hadd := run_call_add (P := Try.prog) Try.func89 (by kernel_rfl) (by kernel_rfl) (by kernel_rfl) .i32 (by kernel_rfl) (y := -1) (s := 0) hc hz (by simp [go_sem]; rfl)
  have hcv := run_convert_to_unsafe (P := Try.prog) (src := 113) (dst := 96) Try.underlying113 Try.underlying96 (by kernel_rfl) hc
  go_enter_d Try.func75, Try.ntmps75
  go_wp2
  go_end0
  go_wp2
  go_end0
  exact ⟨rfl, rfl⟩

set_option maxRecDepth 100000 in
theorem o_lock (a : Addr) (w : World) (hc : w.cell? a = some (.int .i32 0)) (hz : w.frozen? a = false) :
    Calls Try.prog 74 #[.pointer (some a)] w fun e w' => e = .returned (.tuple #[]) ∧ w' = w.setCell a (.int .i32 1) := by
  have hd := o_disable
  have he := o_enable
  have ha := o_acquire
  have hcas := run_call_cas_hit (P := Try.prog) Try.func84 (by kernel_rfl) (by kernel_rfl) (by kernel_rfl) .i32 (by kernel_rfl) (y := 1) hc hz
  have hc' : (w.setCell a (.int .i32 1)).cell? a = some (.int .i32 1) := World.cell?_setCell_same w a _ hc
  have hcv := run_convert_to_unsafe (P := Try.prog) (src := 113) (dst := 96) Try.underlying113 Try.underlying96 (by kernel_rfl) hc'
  go_enter Try.func74, Try.ntmps74
  go_wp2
  first | go_end0 | (simp only [Exit.inBlock, Exit.then]; refine bodyPost_ret (results_none rfl _ _ _) rfl ?_) | refine bodyPost_ret (results_none rfl _ _ _) rfl ?_
  go_wp2
  go_end0
  exact ⟨rfl, rfl⟩
end Go.Proofs.Ytgbnkoeidejhfaa
