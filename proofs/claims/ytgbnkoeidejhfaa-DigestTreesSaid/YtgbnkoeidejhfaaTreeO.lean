import Derived.Test.YtgbnkoeidejhfaaTreeN
namespace Go.Proofs.Ytgbnkoeidejhfaa
open Go.RowKit

theorem Strs.block {w w' : World} {g cap : Nat} {l : List (List UInt8)} (h : Strs w (some ⟨g, 0, none⟩) cap l) (hg : w'.heap[g]? = w.heap[g]?) : Strs w' (some ⟨g, 0, none⟩) cap l := by
  refine ⟨h.len, fun i x hx => ?_⟩
  obtain ⟨a, ha, hc⟩ := h.cells i x hx
  refine ⟨a, ha, ?_⟩
  injection ha with ha
  subst ha
  have hb : ((⟨g, 0, none⟩ : Addr).add i).block = g := by unfold Addr.add; split <;> rfl
  rw [World.cell?, hb, hg]
  rw [World.cell?, hb] at hc
  exact hc
theorem one_of_len {R : List (List UInt8)} (h1 : 1 ≤ R.length) (h2 : R.length ≤ 1) (f : Nat) (hf : R.length ≤ f) : R = [rootG f R] := by
  match R, h1, h2 with
  | [x], _, _ =>
    cases f with
    | zero => simp at hf
    | succ f => simp [rootG]
theorem path_end (f : Nat) (R : List (List UInt8)) (i : Nat) (h : R.length ≤ 1) : pathG f R i = [] := by
  cases f with
  | zero => rfl
  | succ f => simp [pathG, h]

set_option maxRecDepth 100000 in
set_option maxHeartbeats 8000000 in
theorem climbL2_any (o : Option Nat) (w0 : World) (i0 f0 g0 c0 : Nat) (R0 full : List (List UInt8)) (root : List UInt8) (wS : World) (Q : Exit → Act → World → Prop) (hst0 : Strs wS (some ⟨g0, 0, none⟩) c0 R0) (hg0 : w0.heap.size ≤ g0) (h32 : All32 R0) (hf0 : R0.length ≤ f0) (h10 : 1 ≤ R0.length) (hl0 : R0.length ≤ 1073741824)
    (hi0 : i0 ≤ 1073741824) (hroot : rootG f0 R0 = root) (hfull : pathG f0 R0 i0 = full) (hfl : full.length ≤ 1073741824) (hP : PathAt w0.heap.size o wS g0 []) (hgr : w0.grownBy wS o) (x0 x3 x4 x5 x6 x8 x9 x10 x11 x12 x13 x14 x15 x16 x17 x18 x19 x20 x21 x22 x23 x24 x25 x26 x27 x28 x29 x30 x31 x32 x33 x34 x35 x36 x37 x38 x39 x40 x41 x42 x43 x44 x45 x46 x47 x48 x49 x50 x51 x52 x53 x54 x55 x56 x57 x58 x59 x60 x61 x62 x63 x64 x65 x66 x67 x68 x69 x70 : Value)
    (hexit : ∀ (u10 u31 u32 u33 u34 u35 u36 u37 u38 u39 u40 u41 u42 u43 u44 u45 u46 u47 u48 u49 u50 u51 u52 u53 u54 u55 u56 u57 u58 u59 u60 u61 u62 u63 u64 u65 u66 u67 : Value) (i' g cp : Nat) (w' : World), Strs w' (some ⟨g, 0, none⟩) cp [root] → PathAt w0.heap.size o w' g full → w0.grownBy w' o →
      Q (.exit 2) ⟨List.toArray (x0 :: .int .i64 (i' : Int) :: besideV o :: x3 :: x4 :: x5 :: x6 :: .slice (some ⟨g, 0, none⟩) 1 cp :: x8 :: x9 :: u10 :: x11 :: x12 :: x13 :: x14 :: x15 :: x16 :: x17 :: x18 :: x19 :: x20 :: x21 :: x22 :: x23 :: x24 :: x25 :: x26 :: x27 :: x28 :: x29 :: x30 :: u31 :: u32 :: u33 :: u34 :: u35 :: u36 :: u37 :: u38 :: u39 :: u40 :: u41 :: u42 :: u43 :: u44 :: u45 :: u46 :: u47 :: u48 :: u49 :: u50 :: u51 :: u52 :: u53 :: u54 :: u55 :: u56 :: u57 :: u58 :: u59 :: u60 :: u61 :: u62 :: u63 :: u64 :: u65 :: u66 :: u67 :: x68 :: x69 :: x70 :: []), []⟩ w') :
    (Code.loop climbL2).wp Try.prog Q ⟨List.toArray (x0 :: .int .i64 (i0 : Int) :: besideV o :: x3 :: x4 :: x5 :: x6 :: .slice (some ⟨g0, 0, none⟩) R0.length c0 :: x8 :: x9 :: x10 :: x11 :: x12 :: x13 :: x14 :: x15 :: x16 :: x17 :: x18 :: x19 :: x20 :: x21 :: x22 :: x23 :: x24 :: x25 :: x26 :: x27 :: x28 :: x29 :: x30 :: x31 :: x32 :: x33 :: x34 :: x35 :: x36 :: x37 :: x38 :: x39 :: x40 :: x41 :: x42 :: x43 :: x44 :: x45 :: x46 :: x47 :: x48 :: x49 :: x50 :: x51 :: x52 :: x53 :: x54 :: x55 :: x56 :: x57 :: x58 :: x59 :: x60 :: x61 :: x62 :: x63 :: x64 :: x65 :: x66 :: x67 :: x68 :: x69 :: x70 :: []), []⟩ wS := by
  have Hexit := Lib.hid hexit
  have Hst0 := Lib.hid hst0
  have H320 := Lib.hid h32
  have Hroot := Lib.hid hroot
  have Hfull := Lib.hid hfull
  have HP := Lib.hid hP
  have Hgr := Lib.hid hgr
  clear hexit hst0 h32 hroot hfull hP hgr
  conv => arg 2; arg 1; whnf
  go_loopw [1, 7] (fun x y wr => ∃ (f i2 : Nat) (R : List (List UInt8)) (g cp : Nat) (ps : List (List UInt8)), x = .int .i64 (i2 : Int) ∧ y = .slice (some ⟨g, 0, none⟩) R.length cp ∧ 1 ≤ R.length ∧ R.length ≤ f ∧ R.length ≤ 1073741824 ∧ i2 ≤ 1073741824 ∧ All32 R ∧
    Strs wr (some ⟨g, 0, none⟩) cp R ∧ w0.heap.size ≤ g ∧ rootG f R = root ∧ ps ++ pathG f R i2 = full ∧ PathAt w0.heap.size o wr g ps ∧ w0.grownBy wr o) (fun _ y _ => match y with | .slice _ m _ => m | _ => 0)
  case atStart => exact ⟨f0, i0, R0, g0, c0, [], rfl, rfl, h10, hf0, hl0, hi0, H320.out, Hst0.out, hg0, Hroot.out, Hfull.out, HP.out, Hgr.out⟩
  case round =>
    obtain ⟨wo, rfl⟩ : ∃ wo : World, wo = wr := ⟨_, rfl⟩
    obtain ⟨f, i2, R, g, cp, ps, rfl, rfl, hR1, hRf, hRl, hi2, h32, hst, hg, hrt, hpt, hpa, hgr⟩ := hrel
    have H32 := Lib.hid h32
    have HS := Lib.hid hst
    have HPA := Lib.hid hpa
    have HG := Lib.hid hgr
    clear Hst0 H320 Hroot Hfull HP Hgr h32 hst hpa hgr
    by_cases h1 : R.length ≤ 1
    · have hone := one_of_len hR1 h1 f hRf
      have hlen1 : R.length = 1 := by omega
      rw [hrt] at hone
      have hps : ps = full := by rw [path_end f R i2 h1, List.append_nil] at hpt; exact hpt
      have hS := HS.out
      have hPA := HPA.out
      rw [hone] at hS
      rw [hps] at hPA
      have HS2 := Lib.hid hS
      have HPA2 := Lib.hid hPA
      clear hone hps hS hPA hrt hpt HS HPA H32
      rw [hlen1]
      clear hlen1
      go_wp2_with fail
      exact Hexit.out _ _ _ _ _ _ _ _ _ _ _ _ _ _ _ _ _ _ _ _ _ _ _ _ _ _ _ _ _ _ _ _ _ _ _ _ _ _ i2 g cp _ HS2.out HPA2.out HG.out
    · obtain ⟨f, rfl⟩ : ∃ k, f = k + 1 := ⟨f - 1, by omega⟩
      have hrt2 : rootG f (up2 R) = root := by rw [← hrt]; simp [rootG, h1]
      have hpt2 : ps ++ (R[i2 ^^^ 1]?.toList ++ pathG f (up2 R) (i2 / 2)) = full := by rw [← hpt]; simp [pathG, h1]
      have HRt := Lib.hid hrt2
      obtain ⟨n, hn⟩ : ∃ n, n = R.length := ⟨_, rfl⟩
      have Hn := Lib.hid hn
      have d1 : decide ((1 : Int) < (R.length : Int)) = true := decide_eq_true (by omega)
      obtain ⟨mx, hmx⟩ : ∃ m, m = i2 ^^^ 1 := ⟨_, rfl⟩
      have hx := i64_xor_one i2 (by omega)
      have hmle := xor_one_le i2
      rw [← hmx] at hx hmle hpt2
      clear hrt hpt hrt2 hn hmx
      by_cases hnb : mx < R.length
      · have d2 : decide ((mx : Int) < (R.length : Int)) = true := decide_eq_true (by omega)
        have k1 : (mx : Int) < (R.length : Int) := by omega
        obtain ⟨y, hy⟩ : ∃ y, R[mx]? = some y := ⟨_, List.getElem?_eq_getElem hnb⟩
        rw [hy] at hpt2
        have hpt3 : (ps ++ [y]) ++ pathG f (up2 R) (i2 / 2) = full := by rw [← hpt2]; simp
        have hpl : ps.length ≤ 1073741824 := by
          have := congrArg List.length hpt3
          simp at this
          omega
        have HPt := Lib.hid hpt3
        obtain ⟨a, ha, hc⟩ := HS.out.cells mx y hy
        injection ha with ha
        subst ha
        have hcy : wo.cell? ⟨g, mx, none⟩ = some (.string (str y)) := by
          have e : (⟨g, 0, none⟩ : Addr).add mx = ⟨g, mx, none⟩ := by unfold Addr.add; split <;> simp_all
          rw [← e]; exact hc
        clear hpt2 hpt3 hy hc
        cases o with
        | none =>
          simp only [besideV]
          go_wp2_with fail
          refine (root1_any y _).mono ?_
          rintro e w' ⟨rfl, rfl⟩
          have HS5 := HS
          have HPA5 : Hid (PathAt w0.heap.size none wo g (ps ++ [y])) := trivial
          have HG5 := HG
          clear HS HPA HG hcy
          have hs5 := HG5.out.size
          go_wp2_with fail
          refine climbL3_any R (some ⟨g, 0, none⟩) cp ⟨g, 0, none⟩ wo _ HS5.out H32.out hRl _ _ _ _ _ _ _ _ _ _ _ _ _ _ _ _ _ _ _ _ _ _ _ _ _ _ _ _ _ _ _ _ _ _ _ _ _ _ _ _ _ _ _ _ _ _ _ _ _ _ _ _ _ _ _ _ _ _ _ _ _ _ _ _ _ _ _ _ _ ?_
          intro y50 y51 y52 y53 y54 y55 y56 y57 y58 y59 y60 y61 y62 y63 y64 v A' cp2 m j w2 hmj hm1 hrow hst2 hb2
          have hul := up2_length R
          have hparts := up2_parts R j m hmj hm1
          have hj1 : 1 ≤ j := by omega
          have hjl : (((up2 R).take j).map tv).length = j := by rw [List.length_map, List.length_take]; omega
          have hrow1 := hrow.row (by omega)
          have hdl : ((R.drop (2 * j)).map tv).length = m := by rw [List.length_map, List.length_drop]; omega
          have hcells : ∀ k u, ((R.drop (2 * j)).map tv)[k]? = some u → ∃ b, A' = some b ∧ w2.cell? (b.add k) = some u := by
            intro k u hu
            rw [List.getElem?_map] at hu
            obtain ⟨x, hx, rfl⟩ := Option.map_eq_some_iff.1 hu
            exact hst2.cells k x hx
          have hall : ((up2 R).take j).map tv ++ (R.drop (2 * j)).map tv = (up2 R).map tv := by rw [← List.map_append, hparts]
          have hub : w2.heap.size ≥ wo.heap.size := hb2.size
          rw [hjl] at hrow1
          have Hrow := Lib.hid hrow1
          have Hcells := Lib.hid hcells
          have Hall := Lib.hid hall
          have Hb2 := Lib.hid hb2
          have Hdl := Lib.hid hdl
          have hjm : j + m = (up2 R).length := by omega
          have Hjm := Lib.hid hjm
          have hbytes : (j + m) * 16 ≤ 140737488355328 := by omega
          have hbm : j + m ≤ maxLen := by simp only [maxLen]; omega
          clear hul hparts hjl hrow1 hcells hall hrow hst2 hb2 hdl hjm hmj hm1
          go_wp2_with (at_builtin; go_must (refine ap_slice (news := (R.drop (2 * j)).map tv) Try.un_strs Try.inf_str rfl (by omega) Hrow.out (by rw [Hdl.out]; omega) Hcells.out (by intro u hu; obtain ⟨x, _, rfl⟩ := List.mem_map.1 hu; rfl) hbm hbytes hub rfl _ _ rfl rfl rfl ?_; intro v1 w3 hr3 hg3; rw [Hall.out, Hjm.out] at hr3; obtain ⟨g3, cp3, rfl, hg31, hg32, hst3⟩ := Row.strs hr3 (by have := Hjm.out; omega); have Hst3 := Lib.hid hst3; have Hb3 : Hid (Below wo.heap.size wo w3) := below_of_grown_ge Hb2.out hg3 (fun k hk => (Hrow.out.block k hk).1); have HR3 := Lib.hid hr3; clear hr3 hg3 hst3))
          go_roundw
          case rel => exact ⟨f, i2 / 2, up2 R, g3, cp3, (ps ++ [y]), by go_num, rfl, by have := Hjm.out; omega, by have := up2_length R; omega, by have := up2_length R; omega, by omega, up2_32 R H32.out, Hst3.out, by omega, HRt.out, HPt.out, HPA5.out.below Hb3.out hg31, grown_below HG5.out Hb3.out⟩
          case measure => have := up2_length R; simp; omega
        | some pb =>
          simp only [besideV]
          go_wp2_with fail
          obtain ⟨hpb, v, hbv, hrv, hnv⟩ := HPA.out
          have hs0 := HG.out.size
          have hgl : g < wo.heap.size := World.block_lt_of_cell? wo _ hcy
          refine (path1_any pb w0.heap.size ps v _ y hpb hs0 hbv hrv hpl).mono ?_
          rintro e w5 ⟨rfl, v', hb5, hr5, hv5, ho5, ht5, hu5, hz5, hk5⟩
          have hgk : w5.heap[g]? = wo.heap[g]? := hk5 g hgl (by omega) (fun he => hnv he.symm)
          have hS5 := HS.out.block hgk
          have hPA5 : PathAt w0.heap.size (some pb) w5 g (ps ++ [y]) := by
            refine ⟨hpb, v', hb5, hr5, fun he => ?_⟩
            rcases hv5 with h | h
            · exact hnv (h.symm.trans he)
            · rw [h] at he; injection he with he; omega
          have hG5 : w0.grownBy w5 (some pb) := by
            have h0 := HG.out
            refine ⟨ho5.trans h0.os, ht5.trans h0.tape, hu5.trans h0.output, Nat.le_trans h0.size hz5, fun k hk hne => ?_⟩
            refine (hk5 k (by omega) (fun h => hne (by rw [h])) (fun h => ?_)).trans (h0.block k hk hne)
            have := (hrv.block k h.symm).1
            omega
          have HS5 := Lib.hid hS5
          have HPA5 := Lib.hid hPA5
          have HG5 := Lib.hid hG5
          clear hbv hrv hnv hb5 hr5 hv5 ho5 ht5 hu5 hk5 hgk hS5 hPA5 hG5 HS HPA HG hcy hgl hs0
          obtain ⟨wo, rfl⟩ : ∃ w : World, w = w5 := ⟨_, rfl⟩
          have hs5 := HG5.out.size
          go_wp2_with fail
          refine climbL3_any R (some ⟨g, 0, none⟩) cp ⟨g, 0, none⟩ wo _ HS5.out H32.out hRl _ _ _ _ _ _ _ _ _ _ _ _ _ _ _ _ _ _ _ _ _ _ _ _ _ _ _ _ _ _ _ _ _ _ _ _ _ _ _ _ _ _ _ _ _ _ _ _ _ _ _ _ _ _ _ _ _ _ _ _ _ _ _ _ _ _ _ _ _ ?_
          intro y50 y51 y52 y53 y54 y55 y56 y57 y58 y59 y60 y61 y62 y63 y64 v A' cp2 m j w2 hmj hm1 hrow hst2 hb2
          have hul := up2_length R
          have hparts := up2_parts R j m hmj hm1
          have hj1 : 1 ≤ j := by omega
          have hjl : (((up2 R).take j).map tv).length = j := by rw [List.length_map, List.length_take]; omega
          have hrow1 := hrow.row (by omega)
          have hdl : ((R.drop (2 * j)).map tv).length = m := by rw [List.length_map, List.length_drop]; omega
          have hcells : ∀ k u, ((R.drop (2 * j)).map tv)[k]? = some u → ∃ b, A' = some b ∧ w2.cell? (b.add k) = some u := by
            intro k u hu
            rw [List.getElem?_map] at hu
            obtain ⟨x, hx, rfl⟩ := Option.map_eq_some_iff.1 hu
            exact hst2.cells k x hx
          have hall : ((up2 R).take j).map tv ++ (R.drop (2 * j)).map tv = (up2 R).map tv := by rw [← List.map_append, hparts]
          have hub : w2.heap.size ≥ wo.heap.size := hb2.size
          rw [hjl] at hrow1
          have Hrow := Lib.hid hrow1
          have Hcells := Lib.hid hcells
          have Hall := Lib.hid hall
          have Hb2 := Lib.hid hb2
          have Hdl := Lib.hid hdl
          have hjm : j + m = (up2 R).length := by omega
          have Hjm := Lib.hid hjm
          have hbytes : (j + m) * 16 ≤ 140737488355328 := by omega
          have hbm : j + m ≤ maxLen := by simp only [maxLen]; omega
          clear hul hparts hjl hrow1 hcells hall hrow hst2 hb2 hdl hjm hmj hm1
          go_wp2_with (at_builtin; go_must (refine ap_slice (news := (R.drop (2 * j)).map tv) Try.un_strs Try.inf_str rfl (by omega) Hrow.out (by rw [Hdl.out]; omega) Hcells.out (by intro u hu; obtain ⟨x, _, rfl⟩ := List.mem_map.1 hu; rfl) hbm hbytes hub rfl _ _ rfl rfl rfl ?_; intro v1 w3 hr3 hg3; rw [Hall.out, Hjm.out] at hr3; obtain ⟨g3, cp3, rfl, hg31, hg32, hst3⟩ := Row.strs hr3 (by have := Hjm.out; omega); have Hst3 := Lib.hid hst3; have Hb3 : Hid (Below wo.heap.size wo w3) := below_of_grown_ge Hb2.out hg3 (fun k hk => (Hrow.out.block k hk).1); have HR3 := Lib.hid hr3; clear hr3 hg3 hst3))
          go_roundw
          case rel => exact ⟨f, i2 / 2, up2 R, g3, cp3, (ps ++ [y]), by go_num, rfl, by have := Hjm.out; omega, by have := up2_length R; omega, by have := up2_length R; omega, by omega, up2_32 R H32.out, Hst3.out, by omega, HRt.out, HPt.out, HPA5.out.below Hb3.out hg31, grown_below HG5.out Hb3.out⟩
          case measure => have := up2_length R; simp; omega
      · have d2 : decide ((mx : Int) < (R.length : Int)) = false := decide_eq_false (by omega)
        have hpt3 : ps ++ pathG f (up2 R) (i2 / 2) = full := by
          rw [List.getElem?_eq_none (by omega)] at hpt2
          simpa using hpt2
        have HPt := Lib.hid hpt3
        have HS5 := HS
        have HPA5 := HPA
        have HG5 := HG
        clear hpt2 hpt3 HS HPA HG
        have hs5 := HG5.out.size
        go_wp2_with fail
        refine climbL3_any R (some ⟨g, 0, none⟩) cp ⟨g, 0, none⟩ wo _ HS5.out H32.out hRl _ _ _ _ _ _ _ _ _ _ _ _ _ _ _ _ _ _ _ _ _ _ _ _ _ _ _ _ _ _ _ _ _ _ _ _ _ _ _ _ _ _ _ _ _ _ _ _ _ _ _ _ _ _ _ _ _ _ _ _ _ _ _ _ _ _ _ _ _ ?_
        intro y50 y51 y52 y53 y54 y55 y56 y57 y58 y59 y60 y61 y62 y63 y64 v A' cp2 m j w2 hmj hm1 hrow hst2 hb2
        have hul := up2_length R
        have hparts := up2_parts R j m hmj hm1
        have hj1 : 1 ≤ j := by omega
        have hjl : (((up2 R).take j).map tv).length = j := by rw [List.length_map, List.length_take]; omega
        have hrow1 := hrow.row (by omega)
        have hdl : ((R.drop (2 * j)).map tv).length = m := by rw [List.length_map, List.length_drop]; omega
        have hcells : ∀ k u, ((R.drop (2 * j)).map tv)[k]? = some u → ∃ b, A' = some b ∧ w2.cell? (b.add k) = some u := by
          intro k u hu
          rw [List.getElem?_map] at hu
          obtain ⟨x, hx, rfl⟩ := Option.map_eq_some_iff.1 hu
          exact hst2.cells k x hx
        have hall : ((up2 R).take j).map tv ++ (R.drop (2 * j)).map tv = (up2 R).map tv := by rw [← List.map_append, hparts]
        have hub : w2.heap.size ≥ wo.heap.size := hb2.size
        rw [hjl] at hrow1
        have Hrow := Lib.hid hrow1
        have Hcells := Lib.hid hcells
        have Hall := Lib.hid hall
        have Hb2 := Lib.hid hb2
        have Hdl := Lib.hid hdl
        have hjm : j + m = (up2 R).length := by omega
        have Hjm := Lib.hid hjm
        have hbytes : (j + m) * 16 ≤ 140737488355328 := by omega
        have hbm : j + m ≤ maxLen := by simp only [maxLen]; omega
        clear hul hparts hjl hrow1 hcells hall hrow hst2 hb2 hdl hjm hmj hm1
        go_wp2_with (at_builtin; go_must (refine ap_slice (news := (R.drop (2 * j)).map tv) Try.un_strs Try.inf_str rfl (by omega) Hrow.out (by rw [Hdl.out]; omega) Hcells.out (by intro u hu; obtain ⟨x, _, rfl⟩ := List.mem_map.1 hu; rfl) hbm hbytes hub rfl _ _ rfl rfl rfl ?_; intro v1 w3 hr3 hg3; rw [Hall.out, Hjm.out] at hr3; obtain ⟨g3, cp3, rfl, hg31, hg32, hst3⟩ := Row.strs hr3 (by have := Hjm.out; omega); have Hst3 := Lib.hid hst3; have Hb3 : Hid (Below wo.heap.size wo w3) := below_of_grown_ge Hb2.out hg3 (fun k hk => (Hrow.out.block k hk).1); have HR3 := Lib.hid hr3; clear hr3 hg3 hst3))
        go_roundw
        case rel => exact ⟨f, i2 / 2, up2 R, g3, cp3, ps, by go_num, rfl, by have := Hjm.out; omega, by have := up2_length R; omega, by have := up2_length R; omega, by omega, up2_32 R H32.out, Hst3.out, by omega, HRt.out, HPt.out, HPA5.out.below Hb3.out hg31, grown_below HG5.out Hb3.out⟩
        case measure => have := up2_length R; simp; omega
end Go.Proofs.Ytgbnkoeidejhfaa
