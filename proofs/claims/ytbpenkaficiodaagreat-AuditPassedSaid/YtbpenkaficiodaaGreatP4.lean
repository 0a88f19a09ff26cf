/- Joined texts, part 4: contracts of the functions that the laws reach, and what is needed for them. -/
import Derived.Shelf.Strings.BuilderK
import Derived.WalkKit
import Derived.StillTail
import Derived.Deep.Quiet
import Derived.BigQuiet
import Derived.Deep.RegionHeld3
import Derived.Test.YtbpenkaficiodaaGreatP3
/- How many exponents a claim is about: the reference's walk. -/
namespace Go.Proofs.YtbpenkaficiodaaGreat
open Go.RowKit

theorem gcells {w : World} {b : Nat} {t : TypeId} {P Q G H : Nat} {R : Value} (h : Blk w b t (glist P Q G H R)) :
    w.cell? ⟨b, 0, none⟩ = some (.int .u64 (P : Int)) ∧ w.cell? ⟨b, 1, none⟩ = some (.int .u64 (Q : Int)) ∧ w.cell? ⟨b, 2, none⟩ = some (.int .u64 (G : Int)) ∧ w.cell? ⟨b, 3, none⟩ = some (.int .u64 (H : Int)) ∧ w.cell? ⟨b, 4, none⟩ = some R := by
  have c0 := h.cell 0
  have c1 := h.cell 1
  have c2 := h.cell 2
  have c3 := h.cell 3
  have c4 := h.cell 4
  exact ⟨c0, c1, c2, c3, c4⟩
theorem two_cells {w : World} {b : Nat} {t : TypeId} {x y : Value} (h : Blk w b t [x, y]) : w.cell? ⟨b, 0, none⟩ = some x ∧ w.cell? ⟨b, 1, none⟩ = some y := by
  have c0 := h.cell 0
  have c1 := h.cell 1
  exact ⟨c0, c1⟩
theorem sizeC_small {P Q n : Nat} {T : List Nat} {rs : List NumV} {r0 : NumV} (h0 : rs[0]? = some r0) (hn : n = r0.l.length) (h : n = 0 ∨ 64 < n) : sizeC P Q T (rs.map (·.l)) = 0 := by
  have hh : ((rs.map (·.l)).headD []).length = n := by
    cases rs with
    | nil => simp at h0
    | cons a l => simp at h0; subst h0; exact hn.symm
  unfold sizeC
  rw [hh]
  split
  · rfl
  · split
    · rfl
    · split
      · rename_i hall
        rcases h with h | h
        · exact h
        · exfalso
          rw [List.all_eq_true] at hall
          have := hall r0.l (List.mem_map.2 ⟨r0, List.mem_of_getElem? h0, rfl⟩)
          simp only [rowOk, Bool.and_eq_true, decide_eq_true_eq] at this
          omega
      · rfl
theorem any_not_yet {P Q k x : Nat} {l : List Nat} (h : l[k]? = some x) (hx : inG P Q x = false) : outs P Q l = true := any_yes h hx

set_option maxRecDepth 100000 in
set_option maxHeartbeats 4000000 in
theorem refSize_any (P Q G H : Nat) (R : Value) (A : Option Addr) (capT : Nat) (T : List Nat) (B : Option Addr) (capB : Nat) (rs : List NumV) (w : World) (hP : P < 18446744073709551616) (hQ : Q < 18446744073709551616) (hT : Nums w A capT T) (hR : Grid w B capB rs)
    (hTl : T.length < 9223372036854775807) (hRl : rs.length < 9223372036854775807) (hrl : ∀ r ∈ rs, r.l.length < 9223372036854775807) :
    Calls Tryz.prog 189 #[gval P Q G H R, cval A capT T.length B capB rs.length] w fun e w' => e = .returned (.int .i64 (sizeC P Q T (rs.map (·.l)) : Int)) ∧ Below w.heap.size w w' := by
  unfold gval cval
  obtain ⟨nT, hnT⟩ : ∃ n, n = T.length := ⟨_, rfl⟩
  obtain ⟨nB, hnB⟩ : ∃ n, n = rs.length := ⟨_, rfl⟩
  have hb0 : Below w.heap.size w ((w.alloc (.cells #[.int .u64 (P : Int), .int .u64 (Q : Int), .int .u64 (G : Int), .int .u64 (H : Int), R] 25)).alloc (.cells #[.slice A nT capT, .slice B nB capB] 83)) :=
    ((Below.refl _ _).alloc (Nat.le_refl _) _).alloc (by simp) _
  have hg0 : Blk ((w.alloc (.cells #[.int .u64 (P : Int), .int .u64 (Q : Int), .int .u64 (G : Int), .int .u64 (H : Int), R] 25)).alloc (.cells #[.slice A nT capT, .slice B nB capB] 83)) w.heap.size 25 (glist P Q G H R) :=
    (Blk.of w _ _ _ rfl).alloc _
  have hc0 : Blk ((w.alloc (.cells #[.int .u64 (P : Int), .int .u64 (Q : Int), .int .u64 (G : Int), .int .u64 (H : Int), R] 25)).alloc (.cells #[.slice A nT capT, .slice B nB capB] 83)) (w.heap.size + 1) 83 [.slice A nT capT, .slice B nB capB] := by
    have := Blk.of (w.alloc (.cells #[.int .u64 (P : Int), .int .u64 (Q : Int), .int .u64 (G : Int), .int .u64 (H : Int), R] 25)) 83 #[.slice A nT capT, .slice B nB capB] _ rfl
    rwa [show (w.alloc (.cells #[.int .u64 (P : Int), .int .u64 (Q : Int), .int .u64 (G : Int), .int .u64 (H : Int), R] 25)).heap.size = w.heap.size + 1 by simp] at this
  have hT0 := hT.below hb0
  have hR0 := hR.below hb0
  rw [← hnT]
  rw [← hnB]
  have Hb0 := Lib.hid hb0
  have Hg0 := Lib.hid hg0
  have Hc0 := Lib.hid hc0
  have HT0 := Lib.hid hT0
  have HR0 := Lib.hid hR0
  have HnT := Lib.hid hnT
  have HnB := Lib.hid hnB
  have hTl' : nT < 9223372036854775807 := by omega
  have hRl' : nB < 9223372036854775807 := by omega
  obtain ⟨res, hres⟩ : ∃ s, s = sizeC P Q T (rs.map (·.l)) := ⟨_, rfl⟩
  rw [← hres]
  have Hres := Lib.hid hres
  have Hrl := Lib.hid hrl
  clear hres hb0 hg0 hc0 hR0 hT0 hR hT hTl hRl hnT hnB hrl
  by_cases h1 : nT < 1
  · have d1 : decide ((nT : Int) < 1) = true := decide_eq_true (by omega)
    have hr : res = 0 := by rw [Hres.out]; exact sizeC_len (.inl (by rw [← HnT.out]; omega))
    subst hr
    clear h1
    go_enter Tryz.func189, Tryz.ntmps189
    go_wp2_with fail
    go_ret
    exact ⟨rfl, Hb0.out⟩
  have d1 : decide ((nT : Int) < 1) = false := decide_eq_false (by omega)
  by_cases h2 : 64 < nT
  · have d2 : decide ((64 : Int) < (nT : Int)) = true := decide_eq_true (by omega)
    have hr : res = 0 := by rw [Hres.out]; exact sizeC_len (.inr (.inl (by rw [← HnT.out]; exact h2)))
    subst hr
    go_enter Tryz.func189, Tryz.ntmps189
    go_wp2_with fail
    go_ret
    exact ⟨rfl, Hb0.out⟩
  have d2 : decide ((64 : Int) < (nT : Int)) = false := decide_eq_false (by omega)
  by_cases h3 : nB = nT
  case neg =>
    have d3 : ((nB : Int) != (nT : Int)) = true := by rw [bne_iff_ne]; omega
    have hr : res = 0 := by rw [Hres.out]; exact sizeC_len (.inr (.inr (by rw [← HnT.out, List.length_map, ← HnB.out]; exact h3)))
    subst hr
    go_enter Tryz.func189, Tryz.ntmps189
    go_wp2_with fail
    go_ret
    exact ⟨rfl, Hb0.out⟩
  subst h3
  obtain ⟨r0, hr0⟩ : ∃ r, rs[0]? = some r := ⟨_, List.getElem?_eq_getElem (by rw [← HnB.out]; omega)⟩
  obtain ⟨n, hn⟩ : ∃ n, n = r0.l.length := ⟨_, rfl⟩
  have hsm := fun h => sizeC_small (P := P) (Q := Q) (n := n) (T := T) hr0 hn h
  have hr : outs P Q T = false → res = if rs.all (fun r => rowOk P Q n r.l) then n else 0 := fun ho => by
    rw [Hres.out, sizeC_rows (n := n) (by rw [← HnT.out, List.length_map, ← HnB.out]; omega) ho ?_, rows_map]
    rw [hn]
    cases rs with
    | nil => simp at hr0
    | cons a l => simp at hr0; subst hr0; rfl
  have Hr := Lib.hid hr
  have hn64 : n < 9223372036854775807 := by rw [hn]; exact Hrl.out r0 (List.mem_of_getElem? hr0)
  obtain ⟨b, rfl, hcell0⟩ := HR0.out.cells 0 r0 hr0
  have hv0 : r0.val = .slice r0.A n r0.cap := by rw [hn]; rfl
  rw [hv0, addr_zero] at hcell0
  have hB1 : (0 : Int) < (nB : Int) := by omega
  have hB0 : 0 < nB := by omega
  have Hsm := Lib.hid hsm
  clear hr hr0 hn hv0 hsm
  by_cases h4 : n < 1
  · have d4 : decide ((n : Int) < 1) = true := decide_eq_true (by omega)
    have hr : res = 0 := by rw [Hres.out]; exact Hsm.out (.inl (by omega))
    subst hr
    clear h4
    go_enter Tryz.func189, Tryz.ntmps189
    go_wp2_with fail
    go_ret
    exact ⟨rfl, Hb0.out⟩
  have d4 : decide ((n : Int) < 1) = false := decide_eq_false (by omega)
  by_cases h5 : 64 < n
  · have d5 : decide ((64 : Int) < (n : Int)) = true := decide_eq_true (by omega)
    have hr : res = 0 := by rw [Hres.out]; exact Hsm.out (.inr (by omega))
    subst hr
    go_enter Tryz.func189, Tryz.ntmps189
    go_wp2_with fail
    go_ret
    exact ⟨rfl, Hb0.out⟩
  have d5 : decide ((64 : Int) < (n : Int)) = false := decide_eq_false (by omega)
  go_enter Tryz.func189, Tryz.ntmps189
  go_wp2_with fail
  obtain ⟨W1, hW1⟩ : ∃ W1, W1 = (w.alloc (.cells #[.int .u64 (P : Int), .int .u64 (Q : Int), .int .u64 (G : Int), .int .u64 (H : Int), R] 25)).alloc (.cells #[.slice A nB capT, .slice (some b) nB capB] 83) := ⟨_, rfl⟩
  rw [← hW1] at Hb0 Hg0 Hc0 HT0 HR0 hcell0 ⊢
  clear hW1 hcell0
  have hgl := Hg0.out.lt
  have hcl := Hc0.out.lt
  go_loopw [6] (fun iv wr => ∃ j : Nat, iv = .int .i64 (j : Int) ∧ j ≤ nB ∧ (T.take j).any (fun x => !inG P Q x) = false ∧ ((rs.take j).all fun r => rowOk P Q n r.l) = true ∧ Below W1.heap.size W1 wr) (fun iv _ => nB - (intOf iv).toNat)
  case atStart => exact ⟨0, rfl, by omega, by simp, by simp, Below.refl _ _⟩
  case round =>
    obtain ⟨j, rfl, hj, hTj, hrj, hbr⟩ := hrel
    have HTj := Lib.hid hTj
    have Hrj := Lib.hid hrj
    have Hbr := Lib.hid hbr
    have hcc := two_cells (Hc0.out.below hbr hcl)
    obtain ⟨f0, f1⟩ := hcc
    clear hTj hrj hbr
    by_cases hjl : j < nB
    · have d6 : decide ((j : Int) < (nB : Int)) = true := decide_eq_true (by omega)
      have hji : (j : Int) < (nB : Int) := by omega
      obtain ⟨g0, g1, g2, g3, g4⟩ := gcells (Hg0.out.below Hbr.out hgl)
      obtain ⟨x, hx⟩ : ∃ x, T[j]? = some x := ⟨_, List.getElem?_eq_getElem (by rw [← HnT.out]; exact hjl)⟩
      obtain ⟨at', hA, htc⟩ := HT0.out.cells j x hx
      subst hA
      have htc := below_cell Hbr.out htc
      have hxs := HT0.out.small x (List.mem_of_getElem? hx)
      obtain ⟨r, hr⟩ : ∃ r, rs[j]? = some r := ⟨_, List.getElem?_eq_getElem (by rw [← HnB.out]; exact hjl)⟩
      obtain ⟨b', hb', hrc⟩ := HR0.out.cells j r hr
      injection hb' with hb'
      subst hb'
      have hrc := below_cell Hbr.out hrc
      obtain ⟨m, hm⟩ : ∃ m, m = r.l.length := ⟨_, rfl⟩
      have hv : r.val = .slice r.A m r.cap := by rw [hm]; rfl
      rw [hv] at hrc
      have hmb : m < 9223372036854775807 := by rw [hm]; exact Hrl.out r (List.mem_of_getElem? hr)
      have hN := HR0.out.nums r (List.mem_of_getElem? hr)
      have HN := Lib.hid hN
      have Hx := Lib.hid hx
      have Hr1 := Lib.hid hr
      have Hm := Lib.hid hm
      clear hr hm hv hN hx
      cases hin : inG P Q x with
      | false =>
        have hres : res = 0 := by rw [Hres.out]; exact sizeC_out (any_not_yet Hx.out hin)
        subst hres
        have Hin := Lib.hid hin
        clear hin
        go_wp2_with fail
        have l0 := Later.cell g0
        have l1 := Later.cell g1
        have l2 := Later.cell g2
        have l3 := Later.cell g3
        have l4 := Later.cell g4
        have l5 := Later.cell f0
        have l6 := Later.cell f1
        have l7 := Later.cell htc
        have l8 := Later.cell hrc
        have hcon := fun W => refIn_any P Q G H x R W hP hQ hxs
        rw [Hin.out] at hcon
        (refine region_calm (by kernel_rfl) (by kernel_rfl) ?_; (repeat (go_big_quiet_step ((go_at_call 20; exact calm_of (hcon _))))); refine wpQuiet_nil ?_; intro wq hw'; obtain ⟨pq, hpq⟩ := hw'; have hbq := pq.below; rw [← hpq] at hbq; clear hpq pq; try dsimp only)
        clear l0 l1 l2 l3 l4 l5 l6 l7 l8 hcon
        have Hbq := Lib.hid hbq
        clear hbq
        go_wp2_with fail
        go_ret
        exact ⟨rfl, below_trans Hb0.out (below_trans Hbr.out Hbq.out)⟩
      | true =>
        have Hin := Lib.hid hin
        clear hin
        by_cases hmn : m = n
        case neg =>
          have d7 : ((m : Int) != (n : Int)) = true := by rw [bne_iff_ne]; omega
          have hno : (rs.all fun r => rowOk P Q n r.l) = false := rows_no Hr1.out (by simp only [rowOk, ← Hm.out, decide_eq_false hmn]; rfl)
          have hres : res = 0 := by
            cases ho : outs P Q T with
            | true => rw [Hres.out]; exact sizeC_out ho
            | false => rw [Hr.out ho, hno]; rfl
          subst hres
          clear hmn hno
          go_wp2_with fail
          have l0 := Later.cell g0
          have l1 := Later.cell g1
          have l2 := Later.cell g2
          have l3 := Later.cell g3
          have l4 := Later.cell g4
          have l5 := Later.cell f0
          have l6 := Later.cell f1
          have l7 := Later.cell htc
          have l8 := Later.cell hrc
          have hcon := fun W => refIn_any P Q G H x R W hP hQ hxs
          rw [Hin.out] at hcon
          (refine region_calm (by kernel_rfl) (by kernel_rfl) ?_; (repeat (go_big_quiet_step ((go_at_call 20; exact calm_of (hcon _))))); refine wpQuiet_nil ?_; intro wq hw'; obtain ⟨pq, hpq⟩ := hw'; have hbq := pq.below; rw [← hpq] at hbq; clear hpq pq; try dsimp only)
          clear l0 l1 l2 l3 l4 l5 l6 l7 l8 hcon
          have Hbq := Lib.hid hbq
          clear hbq
          go_wp2_with fail
          go_ret
          exact ⟨rfl, below_trans Hb0.out (below_trans Hbr.out Hbq.out)⟩
        subst hmn
        have htk := any_not_take Hx.out HTj.out Hin.out
        have Htk := Lib.hid htk
        clear htk
        go_wp2_with fail
        have l0 := Later.cell g0
        have l1 := Later.cell g1
        have l2 := Later.cell g2
        have l3 := Later.cell g3
        have l4 := Later.cell g4
        have l5 := Later.cell f0
        have l6 := Later.cell f1
        have l7 := Later.cell htc
        have l8 := Later.cell hrc
        have hcon := fun W => refIn_any P Q G H x R W hP hQ hxs
        rw [Hin.out] at hcon
        (refine region_calm (by kernel_rfl) (by kernel_rfl) ?_; (repeat (go_big_quiet_step ((go_at_call 20; exact calm_of (hcon _))))); refine wpQuiet_nil ?_; intro wq hw'; obtain ⟨pq, hpq⟩ := hw'; have hbq := pq.below; rw [← hpq] at hbq; clear hpq pq; try dsimp only)
        clear l0 l1 l2 l3 l4 l5 l6 l7 l8 hcon
        have Hbq := Lib.hid hbq
        clear hbq
        have Hbr2 := Lib.hid (below_trans Hbr.out Hbq.out)
        go_wp2_with fail
        go_loopw [7] (fun kv wr2 => ∃ k : Nat, kv = .int .i64 (k : Int) ∧ k ≤ m ∧ (r.l.take k).any (fun x => !inG P Q x) = false ∧ Below wq.heap.size wq wr2) (fun kv _ => m - (intOf kv).toNat)
        case atStart => exact ⟨0, rfl, by omega, by simp, Below.refl _ _⟩
        case round =>
          obtain ⟨k, rfl, hk, hnk, hbr2⟩ := hrel
          have Hnk := Lib.hid hnk
          have Hbw := Lib.hid hbr2
          have Hbk := Lib.hid (below_trans Hbr2.out hbr2)
          clear hnk hbr2 g0 g1 g2 g3 g4 f0 f1 htc hrc Hbq
          by_cases hkl : k < m
          · have d8 : decide ((k : Int) < (m : Int)) = true := decide_eq_true (by omega)
            have hki : (k : Int) < (m : Int) := by omega
            obtain ⟨g0, g1, g2, g3, g4⟩ := gcells (Hg0.out.below Hbk.out hgl)
            obtain ⟨f0, f1⟩ := two_cells (Hc0.out.below Hbk.out hcl)
            obtain ⟨b'', hb'', hrc⟩ := HR0.out.cells j r Hr1.out
            injection hb'' with hb''
            subst hb''
            have hrc := below_cell Hbk.out hrc
            rw [show r.val = .slice r.A m r.cap by rw [Hm.out]; rfl] at hrc
            obtain ⟨y, hy⟩ : ∃ y, r.l[k]? = some y := ⟨_, List.getElem?_eq_getElem (by rw [← Hm.out]; exact hkl)⟩
            obtain ⟨a2, hA2, hyc⟩ := HN.out.cells k y hy
            rw [hA2] at hrc
            have hyc := below_cell Hbk.out hyc
            have hys := HN.out.small y (List.mem_of_getElem? hy)
            have Hy := Lib.hid hy
            have l0 := Later.cell g0
            have l1 := Later.cell g1
            have l2 := Later.cell g2
            have l3 := Later.cell g3
            have l4 := Later.cell g4
            have l5 := Later.cell f0
            have l6 := Later.cell f1
            have l7 := Later.cell hyc
            have l8 := Later.cell hrc
            have hcon := fun W => refIn_any P Q G H y R W hP hQ hys
            clear hy
            cases hin2 : inG P Q y with
            | false =>
              have hno : (rs.all fun r => rowOk P Q m r.l) = false := rows_no Hr1.out (by simp only [rowOk, any_not_yet Hy.out hin2]; simp)
              have hres : res = 0 := by
                cases ho : outs P Q T with
                | true => rw [Hres.out]; exact sizeC_out ho
                | false => rw [Hr.out ho, hno]; rfl
              subst hres
              rw [hin2] at hcon
              clear hno hin2
              go_wp2_with fail
              (refine region_calm (by kernel_rfl) (by kernel_rfl) ?_; (repeat (go_big_quiet_step ((go_at_call 20; exact calm_of (hcon _))))); refine wpQuiet_nil ?_; intro wq hw'; obtain ⟨pq, hpq⟩ := hw'; have hbq := pq.below; rw [← hpq] at hbq; clear hpq pq; try dsimp only)
              have Hbq := Lib.hid hbq
              clear hbq l0 l1 l2 l3 l4 l5 l6 l7 l8 hcon
              go_wp2_with fail
              go_ret
              exact ⟨rfl, below_trans Hb0.out (below_trans Hbk.out Hbq.out)⟩
            | true =>
              rw [hin2] at hcon
              have hnx := any_not_take Hy.out Hnk.out hin2
              have Hnx := Lib.hid hnx
              clear hin2 hnx
              go_wp2_with fail
              (refine region_calm (by kernel_rfl) (by kernel_rfl) ?_; (repeat (go_big_quiet_step ((go_at_call 20; exact calm_of (hcon _))))); refine wpQuiet_nil ?_; intro wq hw'; obtain ⟨pq, hpq⟩ := hw'; have hbq := pq.below; rw [← hpq] at hbq; clear hpq pq; try dsimp only)
              have Hbq := Lib.hid hbq
              clear hbq l0 l1 l2 l3 l4 l5 l6 l7 l8 hcon
              go_wp2_with fail
              go_roundw
              case rel => exact ⟨k + 1, by go_num, by omega, Hnx.out, below_trans Hbw.out Hbq.out⟩
              case measure => simp [intOf]; omega
          · have d8 : decide ((k : Int) < (m : Int)) = false := decide_eq_false (by omega)
            have hok : rowOk P Q m r.l = true := by
              have h := Hnk.out
              rw [List.take_of_length_le (by rw [← Hm.out]; omega)] at h
              simp only [rowOk, outs, h, ← Hm.out, decide_eq_true (show m ≤ 64 by omega)]; simp
            have hnx := rows_take Hr1.out Hrj.out hok
            have Hnx := Lib.hid hnx
            clear hok hnx
            go_wp2_with fail
            go_roundw
            case rel => exact ⟨j + 1, by go_num, by omega, Htk.out, Hnx.out, Hbk.out⟩
            case measure => simp [intOf]; omega
    · have d6 : decide ((j : Int) < (nB : Int)) = false := decide_eq_false (by omega)
      have hres : res = n := by
        have h1 := HTj.out
        have h2 := Hrj.out
        rw [List.take_of_length_le (by rw [← HnT.out]; omega)] at h1
        rw [List.take_of_length_le (by rw [← HnB.out]; omega)] at h2
        rw [Hr.out h1, h2]; rfl
      subst hres
      go_wp2_with fail
      go_ret
      exact ⟨rfl, below_trans Hb0.out Hbr.out⟩
end Go.Proofs.YtbpenkaficiodaaGreat

/- The image of exponents: the law, without a program. -/
namespace Go.Proofs.YtbpenkaficiodaaGreat
open Go.RowKit

def imgStep (P Q x : Nat) (p : Nat × Nat) : Nat := mulM x (expG P Q p.1 p.2) P
def imgRow (P Q : Nat) (W row : List Nat) : Nat := (row.zip W).foldl (imgStep P Q) 1
def imgO (P Q : Nat) (T : List Nat) (L : List (List Nat)) (W : List Nat) : Option (List Nat) :=
  if sizeC P Q T L = 0 ∨ W.length ≠ sizeC P Q T L then none else some (L.map (imgRow P Q W))
def u64s (l : List Nat) : List Value := l.map fun (x : Nat) => .int .u64 (x : Int)
/-- What is handed back: numbers, and that there are some; or none. -/
def OutNums (B : Nat) (res : Option (List Nat)) (e : Ending) (w' : World) : Prop := match res with
  | none => e = .returned (.tuple #[.slice none 0 0, .bool false])
  | some l => ∃ v, e = .returned (.tuple #[v, .bool true]) ∧ Row w' B 22 1 v l.length (u64s l)
theorem sizeC_pos {P Q n : Nat} {T : List Nat} {rs : List NumV} (h : n = sizeC P Q T (rs.map (·.l))) (hn : n ≠ 0) :
    rs.length = T.length ∧ 1 ≤ rs.length ∧ rs.length ≤ 64 ∧ n ≤ 64 ∧ ∀ r ∈ rs, r.l.length = n ∧ outs P Q r.l = false := by
  rw [sizeC] at h
  split at h
  · omega
  · rename_i h1
    split at h
    · omega
    · split at h
      · rename_i hall
        rw [← h] at hall
        have hr : ∀ r ∈ rs, r.l.length = n ∧ n ≤ 64 ∧ outs P Q r.l = false := fun r hr => by
          have := List.all_eq_true.1 hall r.l (List.mem_map.2 ⟨r, hr, rfl⟩)
          simpa [rowOk, and_assoc] using this
        rw [List.length_map] at h1
        have hl1 : 1 ≤ rs.length := by omega
        refine ⟨by omega, by omega, by omega, ?_, fun r hr' => ⟨(hr r hr').1, (hr r hr').2.2⟩⟩
        cases rs with
        | nil => simp at hl1
        | cons a l => exact (hr a (by simp)).2.1
      · omega
theorem imgStep_take {P Q k x b y : Nat} {row W : List Nat} (hb : row[k]? = some b) (hy : W[k]? = some y) (hx : x = ((row.zip W).take k).foldl (imgStep P Q) 1) :
    mulM x (expG P Q b y) P = ((row.zip W).take (k + 1)).foldl (imgStep P Q) 1 := by
  have hz : (row.zip W)[k]? = some (b, y) := by rw [List.getElem?_zip_eq_some]; exact ⟨hb, hy⟩
  rw [List.take_add_one, hz, List.foldl_append, ← hx]; rfl
theorem imgs_take {P Q j : Nat} {W : List Nat} {rs : List NumV} {r : NumV} (h : rs[j]? = some r) :
    ((rs.take (j + 1)).map fun r => imgRow P Q W r.l) = ((rs.take j).map fun r => imgRow P Q W r.l) ++ [imgRow P Q W r.l] := by
  rw [List.take_add_one, h, List.map_append]; rfl
theorem imgRow_le (P Q : Nat) (W row : List Nat) : imgRow P Q W row < 18446744073709551616 := by
  unfold imgRow
  generalize row.zip W = l
  suffices h : ∀ x, x < 18446744073709551616 → l.foldl (imgStep P Q) x < 18446744073709551616 from h 1 (by omega)
  induction l with
  | nil => exact fun x hx => hx
  | cons p l ih => exact fun x hx => ih _ (by have := mulM_lt x (expG P Q p.1 p.2) P; show mulM x _ P < _; omega)
theorem step_bound {P Q k : Nat} {row W : List Nat} : ((row.zip W).take k).foldl (imgStep P Q) 1 < 18446744073709551616 := by
  generalize (row.zip W).take k = l
  suffices h : ∀ x, x < 18446744073709551616 → l.foldl (imgStep P Q) x < 18446744073709551616 from h 1 (by omega)
  induction l with
  | nil => exact fun x hx => hx
  | cons p l ih => exact fun x hx => ih _ (by have := mulM_lt x (expG P Q p.1 p.2) P; show mulM x _ P < _; omega)
theorem Tryz.un_nums : Tryz.prog.underlying 40 = some (.slice 22) := by kernel_rfl
theorem Tryz.inf_u64 : (Tryz.prog.info? 22).map (fun i => (i.zero, i.size, i.bytes)) = some (some (.int .u64 0), 1, 8) := by kernel_rfl
end Go.Proofs.YtbpenkaficiodaaGreat

/- The image of exponents: the reference's walk. -/
namespace Go.Proofs.YtbpenkaficiodaaGreat
open Go.RowKit

theorem imgO_none {P Q : Nat} {T : List Nat} {L : List (List Nat)} {W : List Nat} (h : sizeC P Q T L = 0 ∨ W.length ≠ sizeC P Q T L) : imgO P Q T L W = none := if_pos h
theorem imgO_some {P Q : Nat} {T : List Nat} {L : List (List Nat)} {W : List Nat} (h : ¬(sizeC P Q T L = 0 ∨ W.length ≠ sizeC P Q T L)) : imgO P Q T L W = some (L.map (imgRow P Q W)) := if_neg h
theorem rows_imgs {P Q : Nat} {W : List Nat} {rs : List NumV} : (rs.map (·.l)).map (imgRow P Q W) = rs.map fun r => imgRow P Q W r.l := by rw [List.map_map]; rfl

set_option maxRecDepth 100000 in
set_option maxHeartbeats 4000000 in
theorem refImage_any (P Q G H : Nat) (R : Value) (A : Option Addr) (capT : Nat) (T : List Nat) (B : Option Addr) (capB : Nat) (rs : List NumV) (X : Option Addr) (capX : Nat) (V : List Nat) (w : World) (hP : P < 18446744073709551616) (hQ : Q < 18446744073709551616) (hQ2 : 2 ≤ Q) (hT : Nums w A capT T) (hR : Grid w B capB rs) (hX : Nums w X capX V)
    (hTl : T.length < 9223372036854775807) (hRl : rs.length < 9223372036854775807) (hrl : ∀ r ∈ rs, r.l.length < 9223372036854775807) (hXl : V.length < 9223372036854775807) :
    Calls Tryz.prog 169 #[gval P Q G H R, cval A capT T.length B capB rs.length, .slice X V.length capX] w fun e w' => OutNums w.heap.size (imgO P Q T (rs.map (·.l)) V) e w' ∧ Below w.heap.size w w' := by
  have hsz := fun W0 hb => refSize_any P Q G H R A capT T B capB rs W0 hP hQ (hT.below (w1 := W0) hb) (hR.below hb) hTl hRl hrl
  unfold gval cval at hsz ⊢
  obtain ⟨nT, hnT⟩ : ∃ n, n = T.length := ⟨_, rfl⟩
  obtain ⟨nB, hnB⟩ : ∃ n, n = rs.length := ⟨_, rfl⟩
  obtain ⟨nX, hnX⟩ : ∃ n, n = V.length := ⟨_, rfl⟩
  have hb0 : Below w.heap.size w ((w.alloc (.cells #[.int .u64 (P : Int), .int .u64 (Q : Int), .int .u64 (G : Int), .int .u64 (H : Int), R] 25)).alloc (.cells #[.slice A nT capT, .slice B nB capB] 83)) :=
    ((Below.refl _ _).alloc (Nat.le_refl _) _).alloc (by simp) _
  have hg0 : Blk ((w.alloc (.cells #[.int .u64 (P : Int), .int .u64 (Q : Int), .int .u64 (G : Int), .int .u64 (H : Int), R] 25)).alloc (.cells #[.slice A nT capT, .slice B nB capB] 83)) w.heap.size 25 (glist P Q G H R) :=
    (Blk.of w _ _ _ rfl).alloc _
  have hc0 : Blk ((w.alloc (.cells #[.int .u64 (P : Int), .int .u64 (Q : Int), .int .u64 (G : Int), .int .u64 (H : Int), R] 25)).alloc (.cells #[.slice A nT capT, .slice B nB capB] 83)) (w.heap.size + 1) 83 [.slice A nT capT, .slice B nB capB] := by
    have := Blk.of (w.alloc (.cells #[.int .u64 (P : Int), .int .u64 (Q : Int), .int .u64 (G : Int), .int .u64 (H : Int), R] 25)) 83 #[.slice A nT capT, .slice B nB capB] _ rfl
    rwa [show (w.alloc (.cells #[.int .u64 (P : Int), .int .u64 (Q : Int), .int .u64 (G : Int), .int .u64 (H : Int), R] 25)).heap.size = w.heap.size + 1 by simp] at this
  have hsz0 := hsz _ hb0
  have hR0 := hR.below hb0
  have hX0 := hX.below hb0
  obtain ⟨sz, hs⟩ : ∃ s, s = sizeC P Q T (rs.map (·.l)) := ⟨_, rfl⟩
  obtain ⟨res, hres⟩ : ∃ s, s = imgO P Q T (rs.map (·.l)) V := ⟨_, rfl⟩
  rw [← hnT, ← hnB] at hsz0
  rw [← hs] at hsz0
  rw [← hnT, ← hnB, ← hnX, ← hres]
  have Hsz := Lib.hid hsz0
  have Hb0 := Lib.hid hb0
  have Hg0 := Lib.hid hg0
  have Hc0 := Lib.hid hc0
  have HX0 := Lib.hid hX0
  have HR0 := Lib.hid hR0
  have HnT := Lib.hid hnT
  have HnB := Lib.hid hnB
  have HnX := Lib.hid hnX
  have Hs := Lib.hid hs
  have hRl' : nB < 9223372036854775807 := by omega
  have hXl' : nX < 9223372036854775807 := by omega
  have Hres := Lib.hid hres
  have Hrl := Lib.hid hrl
  clear hres hb0 hg0 hc0 hR0 hX0 hR hT hX hTl hRl hXl hnT hnB hnX hrl hs hsz0 hsz
  by_cases h1 : sz = 0
  · have d1 : ((sz : Int) == 0) = true := by rw [beq_iff_eq]; omega
    have hr : res = none := by rw [Hres.out]; exact imgO_none (.inl (by rw [← Hs.out]; exact h1))
    subst hr
    clear h1
    go_enter Tryz.func169, Tryz.ntmps169
    go_wp2_with (go_at_call 189; refine Hsz.out.mono ?_; rintro e w2 ⟨rfl, hb2⟩; have Hb2 := Lib.hid hb2; clear hb2)
    go_ret2
    exact ⟨rfl, below_trans Hb0.out Hb2.out⟩
  have d1 : ((sz : Int) == 0) = false := by rw [beq_eq_false_iff_ne]; omega
  by_cases h2 : nX = sz
  case neg =>
    have d2 : ((nX : Int) != (sz : Int)) = true := by rw [bne_iff_ne]; omega
    have hr : res = none := by rw [Hres.out]; exact imgO_none (.inr (by rw [← Hs.out, ← HnX.out]; exact h2))
    subst hr
    clear h2
    go_enter Tryz.func169, Tryz.ntmps169
    go_wp2_with (go_at_call 189; refine Hsz.out.mono ?_; rintro e w2 ⟨rfl, hb2⟩; have Hb2 := Lib.hid hb2; clear hb2)
    go_ret2
    exact ⟨rfl, below_trans Hb0.out Hb2.out⟩
  subst h2
  obtain ⟨hlT, hB1, hB64, hn64, hrow⟩ := sizeC_pos Hs.out h1
  have hnTB : nT = nB := by rw [HnT.out, HnB.out]; exact hlT.symm
  subst hnTB
  rw [← HnB.out] at hB1 hB64
  have Hrow := Lib.hid hrow
  have hr : res = some (rs.map fun r => imgRow P Q V r.l) := by
    rw [Hres.out, imgO_some (by rw [← Hs.out, ← HnX.out]; omega), rows_imgs]
  subst hr
  clear hrow hlT Hrl Hres
  go_enter Tryz.func169, Tryz.ntmps169
  go_wp2_with (go_at_call 189; refine Hsz.out.mono ?_; rintro e w2 ⟨rfl, hb2⟩; have Hb2 := Lib.hid hb2; clear hb2)
  have HG2 := Lib.hid (Hg0.out.below Hb2.out Hg0.out.lt)
  have HC2 := Lib.hid (Hc0.out.below Hb2.out Hc0.out.lt)
  have HR2 := Lib.hid (HR0.out.below Hb2.out)
  have HX2 := Lib.hid (HX0.out.below Hb2.out)
  have Hb02 := Lib.hid (below_trans Hb0.out Hb2.out)
  have hgl := HG2.out.lt
  have hcl := HC2.out.lt
  clear Hg0 Hc0 HR0 HX0 Hb0 Hb2 Hsz
  go_loopw [9, 10] (fun v iv wr => ∃ j : Nat, iv = .int .i64 (j : Int) ∧ j ≤ nT ∧ Row wr w2.heap.size 22 1 v j (u64s ((rs.take j).map fun r => imgRow P Q V r.l)) ∧ Below w2.heap.size w2 wr) (fun _ iv _ => nT - (intOf iv).toNat)
  case atStart => exact ⟨0, rfl, by omega, Row.nil _ _ _ _, Below.refl _ _⟩
  case round =>
    obtain ⟨j, rfl, hj, hrow, hbr⟩ := hrel
    obtain ⟨Av, cv, rfl⟩ := hrow.slice
    have Hbr := Lib.hid hbr
    obtain ⟨f0, f1⟩ := two_cells (HC2.out.below hbr hcl)
    obtain ⟨us, hus⟩ : ∃ us, us = u64s ((rs.take j).map fun r => imgRow P Q V r.l) := ⟨_, rfl⟩
    rw [← hus] at hrow
    have hul : us.length = j := by have := hrow.1; omega
    have Hrw := Lib.hid hrow
    have Hus := Lib.hid hus
    have Hul := Lib.hid hul
    clear hbr hrow hus hul
    by_cases hjl : j < nT
    · have d6 : decide ((j : Int) < (nT : Int)) = true := decide_eq_true (by omega)
      have hji : (j : Int) < (nT : Int) := by omega
      obtain ⟨r, hr⟩ : ∃ r, rs[j]? = some r := ⟨_, List.getElem?_eq_getElem (by rw [← HnB.out]; exact hjl)⟩
      have hrl := (Hrow.out r (List.mem_of_getElem? hr)).1
      have Hrl := Lib.hid hrl
      have HN := Lib.hid (HR2.out.nums r (List.mem_of_getElem? hr))
      have Hr1 := Lib.hid hr
      clear hr hrl
      go_wp2_with fail
      go_loopw [11, 12] (fun xv kv wr2 => ∃ k x : Nat, kv = .int .i64 (k : Int) ∧ xv = .int .u64 (x : Int) ∧ k ≤ nX ∧ x < 18446744073709551616 ∧ x = ((r.l.zip V).take k).foldl (imgStep P Q) 1 ∧ Below wr.heap.size wr wr2) (fun _ kv _ => nX - (intOf kv).toNat)
      case atStart => exact ⟨0, 1, rfl, rfl, by omega, by omega, by simp, Below.refl _ _⟩
      case round =>
        obtain ⟨k, x, rfl, rfl, hk, hxb, hxk, hbr2⟩ := hrel
        have Hbw := Lib.hid hbr2
        have Hbk := Lib.hid (below_trans Hbr.out hbr2)
        have Hxk := Lib.hid hxk
        clear hbr2 hxk f0 f1
        by_cases hkl : k < nX
        · have d8 : decide ((k : Int) < (nX : Int)) = true := decide_eq_true (by omega)
          have hki : (k : Int) < (nX : Int) := by omega
          obtain ⟨g0, g1, g2, g3, g4⟩ := gcells (HG2.out.below Hbk.out hgl)
          obtain ⟨f0, f1⟩ := two_cells (HC2.out.below Hbk.out hcl)
          obtain ⟨b', hb', hrc⟩ := HR2.out.cells j r Hr1.out
          subst hb'
          have hrc := below_cell Hbk.out hrc
          rw [show r.val = .slice r.A nX r.cap by rw [← Hrl.out]; rfl] at hrc
          obtain ⟨y, hy⟩ : ∃ y, r.l[k]? = some y := ⟨_, List.getElem?_eq_getElem (by rw [Hrl.out]; exact hkl)⟩
          obtain ⟨a2, hA2, hyc⟩ := HN.out.cells k y hy
          rw [hA2] at hrc
          have hyc := below_cell Hbk.out hyc
          have hys := HN.out.small y (List.mem_of_getElem? hy)
          obtain ⟨z, hz⟩ : ∃ z, V[k]? = some z := ⟨_, List.getElem?_eq_getElem (by rw [← HnX.out]; exact hkl)⟩
          obtain ⟨x2, hX2, hzc⟩ := HX2.out.cells k z hz
          subst hX2
          have hzc := below_cell Hbk.out hzc
          have hzs := HX2.out.small z (List.mem_of_getElem? hz)
          have hnx := imgStep_take (P := P) (Q := Q) hy hz Hxk.out
          have heb : expG P Q y z < 18446744073709551616 := by have := powM_le y (z % Q) P; show powM _ _ _ < _; omega
          have hcon := fun W => refExp_any P Q G H y z R W hP hQ hQ2 hys hzs
          have hcon2 := fun W => refMul_any x (expG P Q y z) P W hxb heb hP
          have hmb := mulM_lt x (expG P Q y z) P
          obtain ⟨E, hE⟩ : ∃ E, E = expG P Q y z := ⟨_, rfl⟩
          rw [← hE] at hcon hcon2 hnx heb hmb
          obtain ⟨M, hM⟩ : ∃ M, M = mulM x E P := ⟨_, rfl⟩
          rw [← hM] at hcon2 hnx hmb
          have Hnx := Lib.hid hnx
          have l0 := Later.cell g0
          have l1 := Later.cell g1
          have l2 := Later.cell g2
          have l3 := Later.cell g3
          have l4 := Later.cell g4
          have l5 := Later.cell f0
          have l6 := Later.cell f1
          have l7 := Later.cell hyc
          have l8 := Later.cell hrc
          have l9 := Later.cell hzc
          clear hy hz hE hM hnx
          go_wp2_with fail
          (refine region_calm (by kernel_rfl) (by kernel_rfl) ?_; (repeat (go_big_quiet_step ((first | (go_at_call 74; exact calm_of (hcon _)) | (go_at_call 111; exact calm_same (hcon2 _)))))); refine wpQuiet_nil ?_; intro wq hw'; obtain ⟨pq, hpq⟩ := hw'; have hbq := pq.below; rw [← hpq] at hbq; clear hpq pq; try dsimp only)
          have Hbq := Lib.hid hbq
          clear hbq l0 l1 l2 l3 l4 l5 l6 l7 l8 l9 hcon hcon2
          go_wp2_with fail
          go_roundw
          case rel => exact ⟨k + 1, M, by go_num, rfl, by omega, by omega, Hnx.out, below_trans Hbw.out Hbq.out⟩
          case measure => simp [intOf]; omega
        · have d8 : decide ((k : Int) < (nX : Int)) = false := decide_eq_false (by omega)
          have hx : x = imgRow P Q V r.l := by
            rw [Hxk.out, List.take_of_length_le (by rw [List.length_zip, Hrl.out, ← HnX.out]; omega)]; rfl
          have hn2 : us ++ [Value.int .u64 (x : Int)] = u64s ((rs.take (j + 1)).map fun r => imgRow P Q V r.l) := by
            rw [imgs_take Hr1.out, ← hx, Hus.out]; simp [u64s]
          have Hn2 := Lib.hid hn2
          have hr2 : Row wr w2.heap.size 22 1 (.slice Av j cv) us.length us := by rw [Hul.out]; exact Hrw.out.below Hbw.out
          have Hr2 := Lib.hid hr2
          have hby : (us.length + 1) * 8 ≤ 140737488355328 := by rw [Hul.out]; omega
          clear hx hn2 hr2
          go_wp2_with (at_builtin; go_must (refine ap_one Tryz.un_nums Tryz.inf_u64 rfl Hr2.out rfl (by omega) hby Hbk.out.size rfl _ _ rfl rfl rfl ?_; intro v1 w3 hr3 hg3; rw [show (us ++ [Value.int .u64 (x : Int)]).length = j + 1 from by rw [List.length_append, Hul.out]; rfl] at hr3; rw [Hn2.out] at hr3; have Hr4 := Lib.hid hr3; have Hb3 := Lib.hid (Hbk.out.grown hg3 Hbk.out.size (fun q hq => (Hr2.out.block q hq).1)); clear hr3 hg3))
          go_roundw
          case rel => exact ⟨j + 1, by go_num, by omega, Hr4.out, Hb3.out⟩
          case measure => simp [intOf]; omega
    · have d6 : decide ((j : Int) < (nT : Int)) = false := decide_eq_false (by omega)
      have hjn : j = nT := by omega
      have hfin : Row wr w.heap.size 22 1 (.slice Av j cv) (rs.map fun r => imgRow P Q V r.l).length (u64s (rs.map fun r => imgRow P Q V r.l)) := by
        have h := Hrw.out
        rw [Hus.out, List.take_of_length_le (by rw [← HnB.out]; omega)] at h
        rw [List.length_map, ← HnB.out, ← hjn]
        exact row_low h (by have := Hb02.out.size; omega)
      have Hfin := Lib.hid hfin
      clear hfin hjn
      go_wp2_with fail
      go_ret2
      exact ⟨⟨_, rfl, Hfin.out⟩, below_trans Hb02.out Hbr.out⟩
end Go.Proofs.YtbpenkaficiodaaGreat

/- Challenges: what they are made of: plain. -/
namespace Go.Proofs.YtbpenkaficiodaaGreat
open Go.RowKit

def chalParts (P Q G H : Nat) (T : List Nat) (L : List (List Nat)) (C : List Nat) : List (List UInt8) := ([numsText [P, Q, G, H], numsText T] ++ L.map numsText) ++ [numsText C]
def chal (label : List UInt8) (P Q G H : Nat) (T : List Nat) (L : List (List Nat)) (C : List Nat) : Nat := numberOf label (chalParts P Q G H T L C) Q
/-- The texts ahead of the kth row. -/
def chalUpto (P Q G H : Nat) (T : List Nat) (rs : List NumV) (k : Nat) : List (List UInt8) := [numsText [P, Q, G, H], numsText T] ++ (rs.take k).map fun r => numsText r.l
theorem chalUpto_next {P Q G H : Nat} {T : List Nat} {rs : List NumV} {k : Nat} {r : NumV} (h : rs[k]? = some r) : chalUpto P Q G H T rs k ++ [numsText r.l] = chalUpto P Q G H T rs (k + 1) := by
  unfold chalUpto; rw [List.take_add_one, h, List.map_append, List.append_assoc]; rfl
theorem chalUpto_all {P Q G H : Nat} {T : List Nat} {rs : List NumV} {k : Nat} (h : rs.length ≤ k) {C : List Nat} : chalUpto P Q G H T rs k ++ [numsText C] = chalParts P Q G H T (rs.map (·.l)) C := by
  unfold chalUpto chalParts; rw [List.take_of_length_le h, List.map_map]; rfl
theorem chalUpto_length {P Q G H : Nat} {T : List Nat} {rs : List NumV} {k : Nat} (h : k ≤ rs.length) : (chalUpto P Q G H T rs k).length = 2 + k := by
  unfold chalUpto; rw [List.length_append, List.length_map, List.length_take]; simp; omega
theorem rows_total {rs : List NumV} (h : ∀ r ∈ rs, r.l.length ≤ 10000) : totalLen (rs.map fun r => numsText r.l) ≤ 80000 * rs.length := by
  induction rs with
  | nil => simp [totalLen]
  | cons r rs ih =>
    have h1 := ih (fun x hx => h x (List.mem_cons_of_mem _ hx))
    have h2 := h r (by simp)
    unfold totalLen at *
    simp only [List.map_cons, List.sum_cons, List.length_cons, numsText_length] at *
    omega
theorem totalLen_append (a b : List (List UInt8)) : totalLen (a ++ b) = totalLen a + totalLen b := by simp [totalLen]
theorem chal_bound {P Q G H : Nat} {T : List Nat} {rs : List NumV} {C : List Nat} {label : List UInt8} (hl : label.length ≤ 1000000) (hT : T.length ≤ 10000) (hR : rs.length ≤ 10000) (hr : ∀ r ∈ rs, r.l.length ≤ 10000) (hC : C.length ≤ 10000) :
    (numText (label :: chalParts P Q G H T (rs.map (·.l)) C)).length ≤ 1099511627776 ∧ (chalParts P Q G H T (rs.map (·.l)) C).length ≤ 1099511627776 := by
  have h1 := rows_total hr
  have h2 : (rs.map (·.l)).map numsText = rs.map fun r => numsText r.l := by rw [List.map_map]; rfl
  rw [numText_length]
  unfold chalParts
  rw [h2]
  have h3 : totalLen (label :: ([numsText [P, Q, G, H], numsText T] ++ List.map (fun r => numsText r.l) rs ++ [numsText C])) = label.length + (totalLen [numsText [P, Q, G, H], numsText T] + totalLen (rs.map fun r => numsText r.l) + totalLen [numsText C]) := by
    rw [← totalLen_append, ← totalLen_append]; rfl
  rw [h3]
  have h4 : totalLen [numsText [P, Q, G, H], numsText T] ≤ 80032 := by
    simp only [totalLen, List.map_cons, List.map_nil, List.sum_cons, List.sum_nil, numsText_length, List.length_cons, List.length_nil]; omega
  have h5 : totalLen [numsText C] ≤ 80000 := by
    simp only [totalLen, List.map_cons, List.map_nil, List.sum_cons, List.sum_nil, numsText_length]; omega
  simp only [List.length_cons, List.length_append, List.length_map, List.length_nil]
  omega
/-- A slice of numbers that was built just now. -/
theorem nums_new (w : World) (l : List Nat) (t : TypeId) (hs : ∀ x ∈ l, x < 18446744073709551616) : Nums (w.alloc (.cells (l.map fun (x : Nat) => Value.int .u64 (x : Int)).toArray t)) (some ⟨w.heap.size, 0, none⟩) l.length l := by
  refine ⟨Nat.le_refl _, fun i x hx => ⟨_, rfl, ?_⟩, hs⟩
  rw [show (⟨w.heap.size, 0, none⟩ : Addr).add i = ⟨w.heap.size, i, none⟩ by unfold Addr.add; split <;> simp_all]
  rw [World.cell?_alloc_new]
  simp [List.getElem?_map, hx]
theorem numsText_le {l : List Nat} {n : Nat} (h : l.length ≤ n) : (numsText l).length ≤ 8 * n := by rw [numsText_length]; omega
end Go.Proofs.YtbpenkaficiodaaGreat

/- strings.Builder's WriteByte: the shelf's contract laid at this translation by hand; what a walk says of it. -/
namespace Go.Proofs
open Go.Shelf
def Tryz.bw_ren : Go.Shelf.Ren := ⟨fun | 240 => 195 | 276 => 200 | 167 => 183 | n => n, fun | 0 => 0 | 3 => 3 | 4 => 4 | 5 => 5 | 9 => 9 | 20 => 20 | 37 => 201 | 70 => 212 | 72 => 214 | 75 => 216 | 80 => 218 | 164 => 247 | n => n, fun | n => n⟩
theorem Tryz.bw167 : Lays.n167 Tryz.prog Tryz.bw_ren := {
  mixed := by kernel_rfl
  f167 := Tryz.func183.trans (congrArg some (by kernel_rfl))
  f240 := Tryz.func195.trans (congrArg some (by kernel_rfl))
  f276 := Tryz.func200.trans (congrArg some (by kernel_rfl))
  t0 := Tryz.underlying0
  a0 := Tryz.isAgg0
  z0 := Tryz.sizeOf0
  v0 := Tryz.zeroValue0
  t4 := Tryz.underlying4
  a4 := Tryz.isAgg4
  z4 := Tryz.sizeOf4
  v4 := Tryz.zeroValue4
  t9 := Tryz.underlying9
  a9 := Tryz.isAgg9
  z9 := Tryz.sizeOf9
  v9 := Tryz.zeroValue9
  t20 := Tryz.underlying20
  a20 := Tryz.isAgg20
  z20 := Tryz.sizeOf20
  v20 := Tryz.zeroValue20
  t37 := Tryz.underlying201
  a37 := Tryz.isAgg201
  z37 := Tryz.sizeOf201
  v37 := Tryz.zeroValue201
  t70 := Tryz.underlying212
  a70 := Tryz.isAgg212
  z70 := Tryz.sizeOf212
  v70 := Tryz.zeroValue212
  t72 := Tryz.underlying214
  a72 := Tryz.isAgg214
  z72 := Tryz.sizeOf214
  v72 := Tryz.zeroValue214
  t75 := Tryz.underlying216
  a75 := Tryz.isAgg216
  z75 := Tryz.sizeOf216
  v75 := Tryz.zeroValue216
  t164 := Tryz.underlying247
  a164 := Tryz.isAgg247
  z164 := Tryz.sizeOf247
  v164 := Tryz.zeroValue247
  t5 := Tryz.underlying5
  a5 := Tryz.isAgg5
  z5 := Tryz.sizeOf5
  v5 := Tryz.zeroValue5
}
theorem Tryz.bw_Extra : Builder.Extra Tryz.prog Tryz.bw_ren := {
  sizeBuilder := by kernel_rfl
  liesBuilder := by kernel_rfl
  t5 := Tryz.underlying5
  a5 := Tryz.isAgg5
  z5 := Tryz.sizeOf5
  v5 := Tryz.zeroValue5
  infoByte := by kernel_rfl
  cellsByte := by kernel_rfl
  sizeByte := by kernel_rfl
  neB5 := by decide }
end Go.Proofs
namespace Go.Proofs.YtbpenkaficiodaaGreat
open Go.RowKit Go.Shelf
theorem Bld.byte (b : Nat) (l : List UInt8) (c : UInt8) (w : World) (h : Bld w b l) (hl : l.length + 1 ≤ 140737488355328) :
    Calls Tryz.prog 183 #[.pointer (some ⟨b, 0, none⟩), .int .u8 (c.toNat : Int)] w fun e w' => e = .returned .nilIface ∧ Bld w' b (l ++ [c]) ∧ Below b w w' := by
  refine (Any.Builder_WriteByte_k Tryz.bw167 Tryz.bw_Extra b b _ (c.toNat : Int) w h (by simpa [Lib.byteCells] using hl) (Nat.le_of_lt h.lt)).mono ?_
  rintro e w' ⟨rfl, h1, h2, _⟩
  refine ⟨rfl, .inr ?_, h2⟩
  have : Lib.byteCells (l ++ [c]) = Lib.byteCells l ++ [.int .u8 (c.toNat : Int)] := by simp [Lib.byteCells]
  rw [this]; exact h1
end Go.Proofs.YtbpenkaficiodaaGreat

/- Numbers as bytes: the program's walk. -/
namespace Go.Proofs.YtbpenkaficiodaaGreat
open Go.RowKit

theorem be8_next (x m : Nat) (h : m < 8) (M : List UInt8) : M ++ (be 8 x).take (m + 1) = (M ++ (be 8 x).take m) ++ [UInt8.ofNat (x / 256 ^ (7 - m))] := by
  rw [be_take_succ 8 x m h, List.append_assoc]

set_option maxRecDepth 100000 in
set_option maxHeartbeats 2000000 in
theorem pnumbers_any (X : Option Addr) (capX : Nat) (V : List Nat) (w : World) (hX : Nums w X capX V) (hXl : V.length < 1000000) :
    Calls Tryz.prog 177 #[.slice X V.length capX] w fun e w' => e = .returned (.string (str (numsText V))) ∧ Below w.heap.size w w' := by
  obtain ⟨nX, hnX⟩ : ∃ n, n = V.length := ⟨_, rfl⟩
  obtain ⟨res, hres⟩ : ∃ s, s = numsText V := ⟨_, rfl⟩
  rw [← hnX, ← hres]
  have Hres := Lib.hid hres
  have HX0 := Lib.hid hX
  have HnX := Lib.hid hnX
  have HB0 := Lib.hid (Bld.new w)
  have Hb0 := Lib.hid ((Below.refl w.heap.size w).alloc (Nat.le_refl _) (.cells #[.pointer none, .slice none 0 0] 214))
  have hXl' : nX < 1000000 := by omega
  clear hres hX hnX hXl
  go_enter Tryz.func177, Tryz.ntmps177
  go_wp2_with fail
  obtain ⟨W1, hW1⟩ : ∃ W1, W1 = w.alloc (.cells #[.pointer none, .slice none 0 0] 214) := ⟨_, rfl⟩
  rw [← hW1] at HB0 Hb0 ⊢
  clear hW1
  go_loopw [5, 6, 9] (fun _ _ kv wr => ∃ k : Nat, kv = .int .i64 (k : Int) ∧ k ≤ nX ∧ Bld wr w.heap.size (numsText (V.take k)) ∧ Below w.heap.size w wr ∧ Nums wr X capX V) (fun _ _ kv _ => nX - (intOf kv).toNat)
  case atStart => exact ⟨0, rfl, by omega, HB0.out, Hb0.out, HX0.out.below Hb0.out⟩
  case round =>
    obtain ⟨k, rfl, hk, hB, hbr, hN⟩ := hrel
    have Hbr := Lib.hid hbr
    have HB := Lib.hid hB
    have HN := Lib.hid hN
    clear hbr hB hN
    by_cases hkl : k < nX
    · have d8 : decide ((k : Int) < (nX : Int)) = true := decide_eq_true (by omega)
      have hki : (k : Int) < (nX : Int) := by omega
      obtain ⟨x, hx⟩ : ∃ x, V[k]? = some x := ⟨_, List.getElem?_eq_getElem (by rw [← HnX.out]; exact hkl)⟩
      obtain ⟨ax, hAx, hxc⟩ := HN.out.cells k x hx
      have HAx := Lib.hid hAx
      have hnx := numsText_take hx
      have hln : (numsText (V.take k)).length ≤ 8000000 := by rw [numsText_length, List.length_take]; omega
      obtain ⟨M, hM⟩ : ∃ s, s = numsText (V.take k) := ⟨_, rfl⟩
      rw [← hM] at hnx hln HB
      have Hnx := Lib.hid hnx
      have Hln := Lib.hid hln
      clear hx hnx hM hAx hln
      rw [HAx.out]
      go_wp2_with fail
      go_loopw [6] (fun iv wr2 => ∃ (m : Nat) (z : Int), m ≤ 8 ∧ z = 56 - 8 * (m : Int) ∧ iv = .int .i64 z ∧ Bld wr2 w.heap.size (M ++ (be 8 x).take m) ∧ Below w.heap.size w wr2) (fun iv _ => (intOf iv + 8).toNat)
      case atStart => exact ⟨0, 56, by omega, by omega, rfl, by simpa using HB.out, Hbr.out⟩
      case round =>
        obtain ⟨m, z, hm, hz, rfl, hB2, hb2⟩ := hrel
        have HB2 := Lib.hid hB2
        have Hb2 := Lib.hid hb2
        have Hz := Lib.hid hz
        have z1 : z ≤ 56 := by omega
        have z2 : -8 ≤ z := by omega
        clear hB2 hb2 hz hxc
        by_cases hlt : m < 8
        · have z0 : 0 ≤ z := by have := Hz.out; omega
          have d9 : decide ((0 : Int) ≤ z) = true := decide_eq_true z0
          have hval : (Value.int .u8 ((x : Int) / 2 ^ z.toNat % 256)) = .int .u8 (((UInt8.ofNat (x / 256 ^ (7 - m))).toNat : Nat) : Int) := by
            rw [show z.toNat = 8 * (7 - m) by have := Hz.out; omega, be_val]
          have Hval := Lib.hid hval
          have hwr := Bld.byte w.heap.size (M ++ (be 8 x).take m) (UInt8.ofNat (x / 256 ^ (7 - m))) _ HB2.out (by have := Hln.out; rw [List.length_append, List.length_take]; omega)
          rw [← be8_next x m hlt M, ← Hval.out] at hwr
          have Hwr := Lib.hid hwr
          clear hval hwr
          go_wp2_with (go_at_call 183; refine Hwr.out.mono ?_; rintro e w3 ⟨rfl, hB3, hb3⟩; have HB3 := Lib.hid hB3; have Hb3 := Lib.hid (Below.trans Hb2.out hb3); clear hB3 hb3)
          go_roundw
          case rel => exact ⟨m + 1, z - 8, by omega, by have := Hz.out; push_cast; omega, by go_num, HB3.out, Hb3.out⟩
          case measure => simp [intOf]; omega
        · have z0 : z < 0 := by have := Hz.out; omega
          have d9 : decide ((0 : Int) ≤ z) = false := decide_eq_false (by omega)
          have hm8 : M ++ (be 8 x).take m = numsText (V.take (k + 1)) := by rw [Hnx.out, List.take_of_length_le (by rw [be_length]; omega)]
          have hBn := HB2.out
          rw [hm8] at hBn
          have HBn := Lib.hid hBn
          clear hm8 hBn
          go_wp2_with fail
          go_roundw
          case rel => exact ⟨k + 1, by go_num, by omega, HBn.out, Hb2.out, by rw [← HAx.out]; exact HX0.out.below Hb2.out⟩
          case measure => simp [intOf]; omega
    · have d8 : decide ((k : Int) < (nX : Int)) = false := decide_eq_false (by omega)
      have hr : numsText (V.take k) = res := by rw [Hres.out, List.take_of_length_le (by rw [← HnX.out]; omega)]
      have HB2 := HB.out
      rw [hr] at HB2
      have HB3 := Lib.hid HB2
      clear hr HB2
      go_wp2_with (go_at_call 184; refine (Bld.string w.heap.size _ _ HB3.out).mono ?_; rintro e w3 ⟨rfl, hB3, hb3⟩; have Hb3 := Lib.hid (Below.trans Hbr.out hb3); clear hB3 hb3)
      go_ret
      exact ⟨rfl, Hb3.out⟩
end Go.Proofs.YtbpenkaficiodaaGreat

/- A region that draws its order: calls that give one value in every world of a class, then a tail in one forced order. -/
namespace Go.Proofs.YtbpenkaficiodaaGreat
open Go.RowKit
section
variable {P : Program} {ops : Array Oper} {md : Region.Mode} {C : World → Prop}

/-- Whatever is picked, as long as the head's operations are not all listed. -/
def headQ (P : Program) (md : Region.Mode) (ops : Array Oper) (C : World → Prop) (n : Nat) (L : Array Bool → Act → Prop) : Nat → Array Bool → Act → Prop
  | 0, listed, a => L listed a
  | f + 1, listed, a => Region.ready md ops listed ≠ [] ∧ ∀ i ∈ Region.ready md ops listed, i < n ∧ qOp P ops C i (headQ P md ops C n L f (listed.setIfInBounds i true)) a

theorem wpAny_of_headQ {n g : Nat} {L : Array Bool → Act → Prop} {Q' : Exit → Act → World → Prop} (hL : ∀ listed a w, C w → L listed a → wpAny P md ops Q' g listed a w) :
    ∀ (f : Nat) (listed : Array Bool) (a : Act) (w : World), C w → headQ P md ops C n L f listed a → wpAny P md ops Q' (f + g) listed a w
  | 0, listed, a, w, hw, h => by rw [Nat.zero_add]; exact hL _ _ _ hw h
  | f + 1, listed, a, w, hw, h => by
    rw [show f + 1 + g = (f + g) + 1 by omega]
    exact ⟨fun h0 => absurd h0 h.1, fun i hi => wpOp_of_qOp hw (fun a' w' hw' h' => wpAny_of_headQ hL f _ a' w' hw' h') (h.2 i hi).2⟩

theorem headQ_first {n i : Nat} {oi : Oper} {v : Value} {L : Array Bool → Act → Prop} (hi : ops[i]? = some oi) (hsel : ∀ (j : Nat) (o : Oper) cs b, ops[j]? = some o → o.op ≠ .select cs b)
    (hs : Region.sinkB md ops n = true) (hc : Region.chainB md ops n = true) (hn : n < ops.size) (hin : i < n)
    (hdone : ∀ listed a, L listed a → ∀ j ∈ Region.ready md ops listed, n ≤ j) (f : Nat) :
    ∀ (listed : Array Bool) (a : Act), HeadInv md ops n listed →
      (∀ j oj, ops[j]? = some oj → j ≠ i → listed.getD j true = false → (∀ e ∈ oj.after, Region.binds md e = true → e.on ≠ i) → oi.apart ops oj = true) →
      i ∈ Region.ready md ops listed → YieldsIn P ops C oi v a →
      headQ P md ops C n L f (listed.setIfInBounds i true) (a.put oi.dst v) → headQ P md ops C n L (f + 1) listed a := by
  induction f with
  | zero =>
    intro listed a inv _ hr hy H
    have hun := (mem_ready.1 hr).1
    refine ⟨fun h => (by rw [h] at hr; cases hr), fun j hj => ?_⟩
    have hjn : j < n := Nat.lt_of_not_le fun h => tail_waits hs hc hn inv _ i rfl hin hun j h hj
    refine ⟨hjn, ?_⟩
    by_cases hji : j = i
    · subst hji; exact hy.qOp hi H
    · have := hdone _ _ H j (ready_mono hj hji)
      omega
  | succ f ih =>
    intro listed a inv hfree hr hy H
    have hun := (mem_ready.1 hr).1
    refine ⟨fun h => (by rw [h] at hr; cases hr), fun j hj => ?_⟩
    have hjn : j < n := Nat.lt_of_not_le fun h => tail_waits hs hc hn inv _ i rfl hin hun j h hj
    refine ⟨hjn, ?_⟩
    by_cases hji : j = i
    · subst hji; exact hy.qOp hi H
    · have h1 := (H.2 j (ready_mono hj hji)).2
      obtain ⟨hjun, oj, hoj, hall⟩ := mem_ready.1 hj
      have hnot : ∀ e ∈ oj.after, Region.binds md e = true → e.on ≠ i := fun e he hb heq => by
        have h1 := hall e he hb
        rw [heq, getD_both hun] at h1
        cases h1
      have h2 := qOp_put hoj (hfree j oj hoj hji hjun hnot) (fun cs b => hsel i oi cs b hi) (fun cs b => hsel j oj cs b hoj) hy h1
      have hfree' : ∀ k ok, ops[k]? = some ok → k ≠ i → (listed.setIfInBounds j true).getD k true = false →
          (∀ e ∈ ok.after, Region.binds md e = true → e.on ≠ i) → oi.apart ops ok = true := fun k ok hk hki hun' hno => by
        refine hfree k ok hk hki ?_ hno
        by_cases hjk : j = k
        · subst hjk; exact hjun
        · rw [getD_set_ne true hjk] at hun'; exact hun'
      refine qOp_mono (fun a' h3 => ih (listed.setIfInBounds j true) a' (inv.set hj hjn) hfree' (ready_mono hr (Ne.symm hji)) h3.1 ?_) h2
      rw [Array.setIfInBounds_comm _ _ hji]
      exact h3.2

theorem headQ_lex {n g : Nat} {Lq : Act → Prop} (hsel : Region.noSelect ops = true) (hs : Region.sinkB md ops n = true) (hc : Region.chainB md ops n = true) (hn : n < ops.size) :
    ∀ (l : List Oper) (k : Nat) (listed : Array Bool) (a : Act), (∀ j, j < l.length → l[j]? = ops[k + j]?) → k + l.length = n → HeadInv md ops n listed →
    Region.lexHead md ops g l.length k listed = true → wpQuiet P ops C Lq l a →
    headQ P md ops C n (fun listed' a' => Region.seqB md ops g n listed' = true ∧ Lq a') l.length listed a
  | [], k, listed, a, _, hk, _, hB, h => by
    have : k = n := by simpa using hk
    subst this
    exact ⟨by simpa [Region.lexHead] using hB, h⟩
  | o :: l, k, listed, a, hl, hk, inv, hB, h => by
    have h0 : ops[k]? = some o := by simpa using (hl 0 (by simp)).symm
    simp only [List.length_cons, Region.lexHead, Bool.and_eq_true] at hB
    obtain ⟨⟨hr, hf⟩, hB'⟩ := hB
    have hkn : k < n := by simp only [List.length_cons] at hk; omega
    have hr' : k ∈ Region.ready md ops listed := by simpa using hr
    have hst : qOp P ops C k (wpQuiet P ops C Lq l) a := by unfold qOp; simp only [h0]; exact h
    obtain ⟨v, hy, hK⟩ := yieldsIn_of_qOp h0 hst
    exact headQ_first h0 (Region.noSelect_spec hsel) hs hc hn hkn (fun listed' a' hL => seqB_ready hL.1) l.length listed a inv (Region.free_spec h0 hf) hr' hy
      (headQ_lex hsel hs hc hn l (k + 1) _ _ (fun j hj => by have := hl (j + 1) (by simp; omega); simpa [Nat.add_assoc, Nat.add_comm 1 j] using this) (by simp only [List.length_cons] at hk; omega) (inv.set hr' hkn) hB' hK)

theorem region_quiet_tail {id : Nat} {Q : Exit → Act → World → Prop} {a : Act} {w : World} {l : List Oper} (C : World → Prop) (n : Nat) (hm : P.follows .mixedOrders = true) (hB : Region.lexTailB .any l.toArray n = true)
    (hC : C { w with drawn := w.drawn + 1 })
    (h : wpQuiet P l.toArray C (fun a' => ∀ w', C w' → wpList P l.toArray Q (l.drop n) a' w') (l.take n) a) : (Code.region id l.toArray true).wp P Q a w := by
  simp only [Region.lexTailB, Bool.and_eq_true, decide_eq_true_eq] at hB
  obtain ⟨⟨⟨⟨hsel, hn⟩, hs⟩, hc⟩, hlex⟩ := hB
  have hn' : n < l.length := by simpa using hn
  have htl : (l.take n).length = n := by simp; omega
  have hdl : (l.drop n).length = l.toArray.size - n := by simp
  have inv0 : HeadInv .any l.toArray n (Array.replicate l.toArray.size false) :=
    ⟨by simp, fun j oj _ hl => (by rw [getD_replicate_false] at hl; cases hl), fun t _ ht => getD_in (by simpa using ht) (getD_replicate_false _ _)⟩
  have H := headQ_lex (C := C) (md := .any) (g := l.toArray.size - n) hsel hs hc hn (l.take n) 0 _ a (fun j hj => by
    have hj' : j < n := by rw [htl] at hj; exact hj
    simp [hj']) (by simpa using htl) inv0 (by rw [htl]; exact hlex) h
  refine wp_region_any hm ?_
  have G := wpAny_of_headQ (Q' := Q) (g := l.toArray.size - n) (fun listed a' w' hw' hL => by
    have hl1 : Region.seqB .any l.toArray (l.drop n).length n listed = true := by rw [hdl]; exact hL.1
    have hl2 := wpAny_of_seq (md := .any) (Q' := Q) (l.drop n) n listed a' w' (fun j => by simp) hl1 (hL.2 w' hw')
    rwa [hdl] at hl2) _ _ _ _ hC H
  rw [htl, show n + (l.toArray.size - n) = l.toArray.size by omega] at G
  exact G
end
end Go.Proofs.YtbpenkaficiodaaGreat

/- A region that draws its order: operations that only add blocks (calls, slices that are built, boxes), of whose values no more is known than a fact that later worlds keep: one walk in the order of the text serves every order; a tail in one forced order may follow. -/
namespace Go.Proofs.YtbpenkaficiodaaGreat
open Go.RowKit Go.BigFrame

/-- w's blocks stand in w'. -/
def Lat (w w' : World) : Prop := Below w.heap.size w w'
theorem Lat.refl (w : World) : Lat w w := Below.refl _ _
theorem Lat.trans {a b c : World} (h : Lat a b) (k : Lat b c) : Lat a c := below_trans h k
theorem Lat.cell {w w' : World} (h : Lat w w') {a : Addr} {v : Value} (hc : w.cell? a = some v) : w'.cell? a = some v := below_cell h hc

/-- What is told of the value in a marked slot. -/
def Know : Type := List (Nat × (Value → World → Prop))
def Know.at (t : Nat) (v : Value) (w : World) : List (Nat × (Value → World → Prop)) → Prop
  | [] => True
  | p :: l => if t = p.1 then p.2 v w else Know.at t v w l
def Know.has (t : Nat) : List (Nat × (Value → World → Prop)) → Bool
  | [] => false
  | p :: l => t == p.1 || Know.has t l
def Know.stable (K : List (Nat × (Value → World → Prop))) : Prop := ∀ t v w w', Know.at t v w K → Lat w w' → Know.at t v w' K
theorem Know.stable_nil : Know.stable [] := fun _ _ _ _ _ _ => trivial
theorem Know.stable_cons {s : Nat} {φ : Value → World → Prop} {l : List (Nat × (Value → World → Prop))} (h : ∀ v w w', φ v w → Lat w w' → φ v w') (hl : Know.stable l) : Know.stable ((s, φ) :: l) := by
  intro t v w w' ha hw
  unfold Know.at at *
  split
  · rename_i ht; simp only [ht, if_true] at ha; exact h _ _ _ ha hw
  · rename_i ht; simp only [ht, if_false] at ha; exact hl _ _ _ _ ha hw

section
variable {P : Program} {ops : Array Oper} {md : Region.Mode} {K : List (Nat × (Value → World → Prop))} {W0 : World}

def gadd (g : Nat → Value → Prop) (t : Nat) (v : Value) : Nat → Value → Prop := fun s x => (s = t ∧ x = v) ∨ g s x
def Known (K : List (Nat × (Value → World → Prop))) (g : Nat → Value → Prop) (w : World) : Prop := ∀ t v, g t v → Know.at t v w K
def slotOf (o : Oper) : Nat := o.dst.getD 0
def marked (K : List (Nat × (Value → World → Prop))) (o : Oper) : Bool := match o.dst with
  | some t => Know.has t K
  | none => false
/-- What an operation knows of what it looks at. -/
def depsOf (K : List (Nat × (Value → World → Prop))) (ops : Array Oper) (o : Oper) (g : Nat → Value → Prop) (w : World) : Prop := ∀ t, t ∈ o.looksAt ops → ∀ v, g t v → Know.at t v w K
def plainUpon (w : World) (v : Value) : Result Next → Prop
  | .ok (.value u) w' => w' = w ∧ u = v
  | .ok .skip w' => w' = w ∧ v = undef
  | _ => False
def looseUpon (P : Program) (φ : Value → World → Prop) (w : World) : Result Next → Prop
  | .ok (.value u) w' => Lat w w' ∧ φ u w'
  | .ok (.enter f args) w' => w' = w ∧ Calls P f args w (fun e w'' => ∃ v, e = .returned v ∧ Lat w w'' ∧ φ v w'')
  | _ => False

inductive Kind where
  | skip
  | plain (u : Value)
  | loose
def Does (P : Program) (ops : Array Oper) (K : List (Nat × (Value → World → Prop))) (W0 : World) (o : Oper) (a : Act) (g : Nat → Value → Prop) : Kind → Prop
  | .skip => Region.wanted o (yielded ops a.tmps) = false
  | .plain u => Region.wanted o (yielded ops a.tmps) = true ∧ marked K o = false ∧ ∀ w, Lat W0 w → depsOf K ops o g w → plainUpon w u ((execOp a.eval o).run P w)
  | .loose => Region.wanted o (yielded ops a.tmps) = true ∧ marked K o = true ∧ ∀ w, Lat W0 w → depsOf K ops o g w → looseUpon P (fun v w => Know.at (slotOf o) v w K) w ((execOp a.eval o).run P w)
def Valid (K : List (Nat × (Value → World → Prop))) (o : Oper) (w : World) (v : Value) : Kind → Prop
  | .skip => v = undef
  | .plain u => v = u
  | .loose => ∃ w', Lat w w' ∧ Know.at (slotOf o) v w' K
def behind (o : Oper) (g : Nat → Value → Prop) (v : Value) : Kind → Nat → Value → Prop
  | .loose => gadd g (slotOf o) v
  | _ => g

theorem Known.deps {g : Nat → Value → Prop} {w : World} (h : Known K g w) (o : Oper) : depsOf K ops o g w := fun t _ v hv => h t v hv
theorem Known.later (hK : Know.stable K) {g : Nat → Value → Prop} {w w' : World} (h : Known K g w) (hw : Lat w w') : Known K g w' := fun t v hv => hK _ _ _ _ (h t v hv) hw
theorem Known.add {g : Nat → Value → Prop} {w : World} {t : Nat} {v : Value} (h : Known K g w) (hv : Know.at t v w K) : Known K (gadd g t v) w := by
  intro s x hx
  rcases hx with ⟨rfl, rfl⟩ | hx
  · exact hv
  · exact h s x hx
theorem Known.less {o : Oper} {κ : Kind} {g : Nat → Value → Prop} {w : World} {v : Value} (h : Known K (behind o g v κ) w) : Known K g w := by
  cases κ with
  | loose => exact fun t x hx => h t x (.inr hx)
  | _ => exact h
theorem Valid.reach (hK : Know.stable K) {o : Oper} {κ : Kind} {g : Nat → Value → Prop} {w : World} {v : Value} (hg : Known K g w) (h : Valid K o w v κ) : ∃ w', Lat w w' ∧ Known K (behind o g v κ) w' := by
  cases κ with
  | loose => obtain ⟨w', hw, hv⟩ := h; exact ⟨w', hw, (hg.later hK hw).add hv⟩
  | _ => exact ⟨w, Lat.refl w, hg⟩
theorem Valid.at_later (hK : Know.stable K) {o : Oper} {κ : Kind} {g : Nat → Value → Prop} {w w1 w2 : World} {v : Value} (h : Valid K o w v κ) (hg : Known K (behind o g v κ) w1) (hw : Lat w1 w2) : Valid K o w2 v κ := by
  cases κ with
  | loose => exact ⟨w2, Lat.refl _, hK _ _ _ _ (hg _ _ (.inl ⟨rfl, rfl⟩)) hw⟩
  | skip => exact h
  | plain u => exact h
theorem behind_comm {oi oj : Oper} {κi κj : Kind} {g : Nat → Value → Prop} {v u : Value} : behind oj (behind oi g v κi) u κj = behind oi (behind oj g u κj) v κi := by
  cases κi <;> cases κj <;> try rfl
  funext s x
  apply propext
  exact or_left_comm
theorem deps_behind {oi oj : Oper} {κ : Kind} {g : Nat → Value → Prop} {v : Value} {w : World} (h : ∀ d, oi.dst = some d → d ∉ oj.looksAt ops) (hm : κ = .loose → marked K oi = true) :
    depsOf K ops oj (behind oi g v κ) w ↔ depsOf K ops oj g w := by
  cases κ with
  | loose =>
    have hd : ∃ d, oi.dst = some d := by
      have := hm rfl
      unfold marked at this
      split at this
      · exact ⟨_, by assumption⟩
      · cases this
    obtain ⟨d, hd⟩ := hd
    refine ⟨fun hh t ht x hx => hh t ht x (.inr hx), fun hh t ht x hx => ?_⟩
    rcases hx with ⟨rfl, _⟩ | hx
    · exact absurd ht (by rw [slotOf, hd]; exact h d hd)
    · exact hh t ht x hx
  | _ => exact Iff.rfl
theorem Does.marks {o : Oper} {a : Act} {g : Nat → Value → Prop} {κ : Kind} (h : Does P ops K W0 o a g κ) : κ = .loose → marked K o = true := by
  rintro rfl; exact h.2.1
theorem Does.unique {o : Oper} {a : Act} {g : Nat → Value → Prop} {κ κ' : Kind} {w : World} (h : Does P ops K W0 o a g κ) (h' : Does P ops K W0 o a g κ') (hw : Lat W0 w) (hg : Known K g w) : κ = κ' := by
  cases κ with
  | skip => cases κ' with
    | skip => rfl
    | plain u => exact absurd (h.symm.trans h'.1) (by simp)
    | loose => exact absurd (h.symm.trans h'.1) (by simp)
  | plain u => cases κ' with
    | skip => exact absurd (h'.symm.trans h.1) (by simp)
    | plain u' =>
      have h1 := h.2.2 w hw (hg.deps o)
      have h2 := h'.2.2 w hw (hg.deps o)
      generalize (execOp a.eval o).run P w = r at h1 h2
      cases r with
      | ok n w' =>
        cases n <;> simp only [plainUpon] at h1 h2
        · rw [← h1.2, ← h2.2]
        · rw [h1.2, h2.2]
      | halt x w' => simp only [plainUpon] at h1
    | loose => exact absurd (h.2.1.symm.trans h'.2.1) (by simp)
  | loose => cases κ' with
    | skip => exact absurd (h'.symm.trans h.1) (by simp)
    | plain u => exact absurd (h'.2.1.symm.trans h.2.1) (by simp)
    | loose => rfl
theorem Does.of_same {o : Oper} {a a' : Act} {g g' : Nat → Value → Prop} {κ : Kind} (h : Does P ops K W0 o a g κ) (he : execOp a'.eval o = execOp a.eval o)
    (hw : Region.wanted o (yielded ops a'.tmps) = Region.wanted o (yielded ops a.tmps)) (hd : ∀ w, depsOf K ops o g' w → depsOf K ops o g w) : Does P ops K W0 o a' g' κ := by
  cases κ with
  | skip => exact hw.trans h
  | plain u => exact ⟨hw.trans h.1, h.2.1, fun w h1 h2 => by rw [he]; exact h.2.2 w h1 (hd w h2)⟩
  | loose => exact ⟨hw.trans h.1, h.2.1, fun w h1 h2 => by rw [he]; exact h.2.2 w h1 (hd w h2)⟩
/-- It can be carried out: there is a value. -/
theorem Does.some {o : Oper} {a : Act} {g : Nat → Value → Prop} {κ : Kind} {w : World} (h : Does P ops K W0 o a g κ) (hw : Lat W0 w) (hg : Known K g w) : ∃ v, Valid K o w v κ := by
  cases κ with
  | skip => exact ⟨_, rfl⟩
  | plain u => exact ⟨_, rfl⟩
  | loose =>
    have h1 := h.2.2 w hw (hg.deps o)
    generalize (execOp a.eval o).run P w = r at h1
    cases r with
    | ok n w' =>
      cases n <;> simp only [looseUpon] at h1
      · exact ⟨_, w', h1⟩
      · obtain ⟨e, w'', fr, ⟨v, _, hl, hv⟩, _⟩ := h1.2 []
        exact ⟨v, w'', hl, hv⟩
    | halt x w' => simp only [looseUpon] at h1

/-- Operation number i comes up. -/
def sOp (P : Program) (ops : Array Oper) (K : List (Nat × (Value → World → Prop))) (W0 : World) (i : Nat) (next : Act → (Nat → Value → Prop) → Prop) (a : Act) (g : Nat → Value → Prop) (w : World) : Prop :=
  match ops[i]? with
  | none => next a g
  | some o => ∃ κ, Does P ops K W0 o a g κ ∧ ∀ v, Valid K o w v κ → next (a.put o.dst v) (behind o g v κ)
/-- Whatever is picked, as long as the first n operations are not all listed. -/
def anyO (P : Program) (md : Region.Mode) (ops : Array Oper) (K : List (Nat × (Value → World → Prop))) (W0 : World) (n : Nat) (L : Array Bool → Act → (Nat → Value → Prop) → Prop) : Nat → Array Bool → Act → (Nat → Value → Prop) → Prop
  | 0, listed, a, g => L listed a g
  | f + 1, listed, a, g => ∀ w, Lat W0 w → Known K g w → Region.ready md ops listed ≠ [] ∧ ∀ i ∈ Region.ready md ops listed, i < n ∧ sOp P ops K W0 i (anyO P md ops K W0 n L f (listed.setIfInBounds i true)) a g w

theorem wpOp_of_sOp (hK : Know.stable K) {i : Nat} {a : Act} {g : Nat → Value → Prop} {next : Act → (Nat → Value → Prop) → Prop} {K' : Act → World → Prop} {Q' : Exit → Act → World → Prop} {w : World} (hw : Lat W0 w) (hg : Known K g w)
    (h : ∀ a g w', Lat W0 w' → Known K g w' → next a g → K' a w') (hh : sOp P ops K W0 i next a g w) : wpOp P ops Q' i K' a w := by
  unfold sOp at hh
  unfold wpOp
  split
  · rename_i ho; simp only [ho] at hh; exact h _ _ _ hw hg hh
  · rename_i o ho
    simp only [ho] at hh
    obtain ⟨κ, hd, hn⟩ := hh
    cases κ with
    | skip =>
      simp only [Does] at hd
      rw [hd]
      exact h _ _ _ hw hg (hn _ rfl)
    | plain u =>
      rw [if_pos hd.1]
      refine .inl ?_
      have h1 := hd.2.2 w hw (hg.deps o)
      unfold Oper.wp
      generalize (execOp a.eval o).run P w = r at h1
      cases r with
      | ok n w' =>
        cases n <;> simp only [plainUpon] at h1 <;> simp only [Oper.upon]
        · obtain ⟨rfl, rfl⟩ := h1; exact h _ _ _ hw hg (hn _ rfl)
        · obtain ⟨rfl, rfl⟩ := h1; exact h _ _ _ hw hg (hn _ rfl)
      | halt x w' => simp only [plainUpon] at h1
    | loose =>
      rw [if_pos hd.1]
      refine .inl ?_
      have h1 := hd.2.2 w hw (hg.deps o)
      unfold Oper.wp
      generalize (execOp a.eval o).run P w = r at h1
      cases r with
      | ok n w' =>
        cases n <;> simp only [looseUpon] at h1 <;> simp only [Oper.upon]
        · exact h _ _ _ (hw.trans h1.1) ((hg.later hK h1.1).add h1.2) (hn _ ⟨_, h1⟩)
        · obtain ⟨rfl, h1⟩ := h1
          refine Calls.mono h1 ?_
          rintro e w'' ⟨v, rfl, hl, hv⟩
          exact h _ _ _ (hw.trans hl) ((hg.later hK hl).add hv) (hn _ ⟨_, hl, hv⟩)
      | halt x w' => simp only [looseUpon] at h1

theorem wpAny_of_anyO (hK : Know.stable K) {n gq : Nat} {L : Array Bool → Act → (Nat → Value → Prop) → Prop} {Q' : Exit → Act → World → Prop} (hL : ∀ listed a g w, Lat W0 w → Known K g w → L listed a g → wpAny P md ops Q' gq listed a w) :
    ∀ (f : Nat) (listed : Array Bool) (a : Act) (g : Nat → Value → Prop) (w : World), Lat W0 w → Known K g w → anyO P md ops K W0 n L f listed a g → wpAny P md ops Q' (f + gq) listed a w
  | 0, listed, a, g, w, hw, hg, h => by rw [Nat.zero_add]; exact hL _ _ _ _ hw hg h
  | f + 1, listed, a, g, w, hw, hg, h => by
    rw [show f + 1 + gq = (f + gq) + 1 by omega]
    obtain ⟨h1, h2⟩ := h w hw hg
    exact ⟨fun h0 => absurd h0 h1, fun i hi => wpOp_of_sOp hK hw hg (fun a' g' w' hw' hg' h' => wpAny_of_anyO hK hL f _ a' g' w' hw' hg' h') (h2 i hi).2⟩

theorem anyO_first (hK : Know.stable K) {n i : Nat} {oi : Oper} {κ : Kind} {L : Array Bool → Act → (Nat → Value → Prop) → Prop} (hi : ops[i]? = some oi) (hsel : ∀ (j : Nat) (o : Oper) cs b, ops[j]? = some o → o.op ≠ .select cs b) (hin : i < n)
    (hwait : ∀ listed : Array Bool, HeadInv md ops n listed → listed.getD i true = false → ∀ j ∈ Region.ready md ops listed, j < n)
    (hdone : ∀ listed a g, L listed a g → ∀ j ∈ Region.ready md ops listed, n ≤ j) (f : Nat) :
    ∀ (listed : Array Bool) (a : Act) (g : Nat → Value → Prop), HeadInv md ops n listed →
      (∀ j oj, ops[j]? = some oj → j ≠ i → listed.getD j true = false → (∀ e ∈ oj.after, Region.binds md e = true → e.on ≠ i) → oi.apart ops oj = true) →
      i ∈ Region.ready md ops listed → Does P ops K W0 oi a g κ →
      (∀ w, Lat W0 w → Known K g w → ∀ v, Valid K oi w v κ → anyO P md ops K W0 n L f (listed.setIfInBounds i true) (a.put oi.dst v) (behind oi g v κ)) → anyO P md ops K W0 n L (f + 1) listed a g := by
  induction f with
  | zero =>
    intro listed a g inv _ hr hy H w hw hg
    have hun := (mem_ready.1 hr).1
    refine ⟨fun h => (by rw [h] at hr; cases hr), fun j hj => ?_⟩
    have hjn : j < n := hwait listed inv hun j hj
    refine ⟨hjn, ?_⟩
    by_cases hji : j = i
    · subst hji
      unfold sOp
      simp only [hi]
      exact ⟨κ, hy, fun v hv => H w hw hg v hv⟩
    · obtain ⟨v, hv⟩ := hy.some hw hg
      have := hdone _ _ _ (H w hw hg v hv) j (ready_mono hj hji)
      omega
  | succ f ih =>
    intro listed a g inv hfree hr hy H w hw hg
    have hun := (mem_ready.1 hr).1
    refine ⟨fun h => (by rw [h] at hr; cases hr), fun j hj => ?_⟩
    have hjn : j < n := hwait listed inv hun j hj
    refine ⟨hjn, ?_⟩
    by_cases hji : j = i
    · subst hji
      unfold sOp
      simp only [hi]
      exact ⟨κ, hy, fun v hv => H w hw hg v hv⟩
    · obtain ⟨hjun, oj, hoj, hall⟩ := mem_ready.1 hj
      have hnot : ∀ e ∈ oj.after, Region.binds md e = true → e.on ≠ i := fun e he hb heq => by
        have h1 := hall e he hb
        rw [heq, getD_both hun] at h1
        cases h1
      obtain ⟨a1, a2, a3⟩ := Oper.apart_spec (hfree j oj hoj hji hjun hnot)
      have hfree' : ∀ k ok, ops[k]? = some ok → k ≠ i → (listed.setIfInBounds j true).getD k true = false →
          (∀ e ∈ ok.after, Region.binds md e = true → e.on ≠ i) → oi.apart ops ok = true := fun k ok hk hki hun' hno => by
        refine hfree k ok hk hki ?_ hno
        by_cases hjk : j = k
        · subst hjk; exact hjun
        · rw [getD_set_ne true hjk] at hun'; exact hun'
      -- what operation j does behind i, it does here
      have back : ∀ v κj, Does P ops K W0 oj (a.put oi.dst v) (behind oi g v κ) κj → Does P ops K W0 oj a g κj := fun v κj hd =>
        hd.of_same (execOp_put oj (fun cs b => hsel j oj cs b hoj) a oi.dst v a1).symm (wanted_put oj a oi.dst v a1).symm (fun w h => (deps_behind a1 hy.marks).2 h)
      have at1 : ∀ w1, Lat W0 w1 → Known K g w1 → ∀ v, Valid K oi w1 v κ → ∃ w2, Lat w1 w2 ∧ Known K (behind oi g v κ) w2 ∧ ∃ κj, Does P ops K W0 oj a g κj ∧ ∀ u, Valid K oj w2 u κj →
          anyO P md ops K W0 n L f ((listed.setIfInBounds i true).setIfInBounds j true) ((a.put oi.dst v).put oj.dst u) (behind oj (behind oi g v κ) u κj) := fun w1 hw1 hg1 v hv => by
        obtain ⟨w2, hl2, hg2⟩ := hv.reach hK hg1
        have h1 := ((H w1 hw1 hg1 v hv) w2 (hw1.trans hl2) hg2).2 j (ready_mono hj hji)
        have h2 := h1.2
        unfold sOp at h2
        simp only [hoj] at h2
        obtain ⟨κj, hd, hn⟩ := h2
        exact ⟨w2, hl2, hg2, κj, back v κj hd, hn⟩
      obtain ⟨v0, hv0⟩ := hy.some hw hg
      obtain ⟨_, _, _, κj, hdj, _⟩ := at1 w hw hg v0 hv0
      unfold sOp
      simp only [hoj]
      refine ⟨κj, hdj, fun u hu => ?_⟩
      refine ih (listed.setIfInBounds j true) (a.put oj.dst u) (behind oj g u κj) (inv.set hj hjn) hfree' (ready_mono hr (Ne.symm hji)) ?_ ?_
      · exact hy.of_same (execOp_put oi (fun cs b => hsel i oi cs b hi) a oj.dst u a3) (wanted_put oi a oj.dst u a3) (fun w h => (deps_behind a3 hdj.marks).1 h)
      · intro w1 hw1 hg1 v hv
        have hg1' := hg1.less
        obtain ⟨w2, hl2, hg2, κj', hdj', hn⟩ := at1 w1 hw1 hg1' v hv
        have hκ : κj' = κj := hdj'.unique hdj hw1 hg1'
        subst hκ
        have := hn u (hu.at_later hK hg1 hl2)
        rw [Array.setIfInBounds_comm _ _ hji, ← Act.put_comm a v u a2, behind_comm]
        exact this

/-- The walk in the order of the text. -/
def wpLoose (P : Program) (ops : Array Oper) (K : List (Nat × (Value → World → Prop))) (W0 : World) (Q : Act → (Nat → Value → Prop) → Prop) : List Oper → Act → (Nat → Value → Prop) → Prop
  | [], a, g => Q a g
  | o :: rest, a, g => ∃ κ, Does P ops K W0 o a g κ ∧ ∀ v w, Lat W0 w → Known K g w → Valid K o w v κ → wpLoose P ops K W0 Q rest (a.put o.dst v) (behind o g v κ)

theorem anyO_lex (hK : Know.stable K) {n gq : Nat} {Lq : Act → (Nat → Value → Prop) → Prop} (hsel : Region.noSelect ops = true) (hwait : ∀ i, i < n → ∀ listed : Array Bool, HeadInv md ops n listed → listed.getD i true = false → ∀ j ∈ Region.ready md ops listed, j < n) :
    ∀ (l : List Oper) (k : Nat) (listed : Array Bool) (a : Act) (g : Nat → Value → Prop), (∀ j, j < l.length → l[j]? = ops[k + j]?) → k + l.length = n → HeadInv md ops n listed →
    Region.lexHead md ops gq l.length k listed = true → wpLoose P ops K W0 Lq l a g →
    anyO P md ops K W0 n (fun listed' a' g' => Region.seqB md ops gq n listed' = true ∧ Lq a' g') l.length listed a g
  | [], k, listed, a, g, _, hk, _, hB, h => by
    have : k = n := by simpa using hk
    subst this
    exact ⟨by simpa [Region.lexHead] using hB, h⟩
  | o :: l, k, listed, a, g, hl, hk, inv, hB, h => by
    have h0 : ops[k]? = some o := by simpa using (hl 0 (by simp)).symm
    simp only [List.length_cons, Region.lexHead, Bool.and_eq_true] at hB
    obtain ⟨⟨hr, hf⟩, hB'⟩ := hB
    have hkn : k < n := by simp only [List.length_cons] at hk; omega
    have hr' : k ∈ Region.ready md ops listed := by simpa using hr
    obtain ⟨κ, hd, hn⟩ := h
    refine anyO_first hK h0 (Region.noSelect_spec hsel) hkn (fun listed inv hun => hwait k hkn listed inv hun) (fun listed' a' g' hL => seqB_ready hL.1) l.length listed a g inv (Region.free_spec h0 hf) hr' hd ?_
    intro w hw hg v hv
    exact anyO_lex hK hsel hwait l (k + 1) _ _ _ (fun j hj => by have := hl (j + 1) (by simp; omega); simpa [Nat.add_assoc, Nat.add_comm 1 j] using this) (by simp only [List.length_cons] at hk; omega) (inv.set hr' hkn) hB' (hn v w hw hg hv)

/-- The check of a region without a tail. -/
def looseB (md : Region.Mode) (ops : Array Oper) : Bool := Region.noSelect ops && Region.lexHead md ops 0 ops.size 0 (Array.replicate ops.size false)

theorem region_loose {id : Nat} {Q : Exit → Act → World → Prop} {a : Act} {w : World} {l : List Oper} (K : List (Nat × (Value → World → Prop))) (hK : Know.stable K) (hm : P.follows .mixedOrders = true) (hB : looseB .any l.toArray = true)
    (h : wpLoose P l.toArray K w (fun a' g => ∀ w', Lat w w' → Known K g w' → Q .normal a' w') l a (fun _ _ => False)) : (Code.region id l.toArray true).wp P Q a w := by
  simp only [looseB, Bool.and_eq_true] at hB
  obtain ⟨hsel, hlex⟩ := hB
  have inv0 : HeadInv .any l.toArray l.toArray.size (Array.replicate l.toArray.size false) :=
    ⟨by simp, fun j oj _ hl => (by rw [getD_replicate_false] at hl; cases hl), fun t h1 h2 => by omega⟩
  have H := anyO_lex (md := .any) (gq := 0) hK hsel (fun i hi listed inv hun j hj => by
    obtain ⟨_, o, ho, _⟩ := mem_ready.1 hj
    exact (Array.getElem?_eq_some_iff.1 ho).1) l 0 _ a _ (fun j hj => by simp) (by simp) inv0 (by simpa using hlex) h
  refine wp_region_any hm ?_
  have G := wpAny_of_anyO (Q' := Q) (gq := 0) hK (fun listed a' g' w' hw' hg' hL => ⟨by simpa [Region.seqB] using hL.1, hL.2 w' hw' hg'⟩) _ _ _ _ _ (show Lat w { w with drawn := w.drawn + 1 } from (Below.refl _ _).drew) (fun _ _ h => h.elim) H
  simpa using G

theorem region_loose_tail {id : Nat} {Q : Exit → Act → World → Prop} {a : Act} {w : World} {l : List Oper} (K : List (Nat × (Value → World → Prop))) (n : Nat) (hK : Know.stable K) (hm : P.follows .mixedOrders = true) (hB : Region.lexTailB .any l.toArray n = true)
    (h : wpLoose P l.toArray K w (fun a' g => ∀ w', Lat w w' → Known K g w' → wpList P l.toArray Q (l.drop n) a' w') (l.take n) a (fun _ _ => False)) : (Code.region id l.toArray true).wp P Q a w := by
  simp only [Region.lexTailB, Bool.and_eq_true, decide_eq_true_eq] at hB
  obtain ⟨⟨⟨⟨hsel, hn⟩, hs⟩, hc⟩, hlex⟩ := hB
  have hn' : n < l.length := by simpa using hn
  have htl : (l.take n).length = n := by simp; omega
  have hdl : (l.drop n).length = l.toArray.size - n := by simp
  have inv0 : HeadInv .any l.toArray n (Array.replicate l.toArray.size false) :=
    ⟨by simp, fun j oj _ hl => (by rw [getD_replicate_false] at hl; cases hl), fun t _ ht => getD_in (by simpa using ht) (getD_replicate_false _ _)⟩
  have H := anyO_lex (md := .any) (gq := l.toArray.size - n) hK hsel (fun i hi listed inv hun j hj => Nat.lt_of_not_le fun h => tail_waits hs hc hn inv _ i rfl hi hun j h hj) (l.take n) 0 _ a _ (fun j hj => by
    have hj' : j < n := by rw [htl] at hj; exact hj
    simp [hj']) (by simpa using htl) inv0 (by rw [htl]; exact hlex) h
  refine wp_region_any hm ?_
  have G := wpAny_of_anyO (Q' := Q) (gq := l.toArray.size - n) hK (fun listed a' g' w' hw' hg' hL => by
    have hl1 : Region.seqB .any l.toArray (l.drop n).length n listed = true := by rw [hdl]; exact hL.1
    have hl2 := wpAny_of_seq (md := .any) (Q' := Q) (l.drop n) n listed a' w' (fun j => by simp) hl1 (hL.2 w' hw' hg')
    rwa [hdl] at hl2) _ _ _ _ _ (show Lat w { w with drawn := w.drawn + 1 } from (Below.refl _ _).drew) (fun _ _ h => h.elim) H
  rw [htl, show n + (l.toArray.size - n) = l.toArray.size by omega] at G
  exact G

/-! ### Steps of the walk -/
section
variable {a : Act} {g : Nat → Value → Prop} {o : Oper} {rest : List Oper} {Q : Act → (Nat → Value → Prop) → Prop}
def plainB (o : Oper) : Bool := match o.op with
  | .move _ | .assign _ | .pick .. | .load .. | .binOp .. | .unOp .. | .convert .. | .fieldAddr .. | .field .. | .indexAddr .. | .index .. | .slice .. | .extract .. | .build .. | .makeFunc .. => true
  | .call c => match c.callee with
    | .builtin .len => true
    | _ => false
  | _ => false
theorem value_run {s : Sem Value} {w : World} {f : FuncId} {args : Array Value} {w' : World} : (do pure (Next.value (← s)) : Sem Next).run P w ≠ .ok (.enter f args) w' := by
  simp only [Sem.run_bind]
  cases s.run P w with
  | ok v w1 => simp [Result.andThen, Sem.run_pure]
  | halt x w1 => simp [Result.andThen]
theorem plain_run {ρ : Operand → Value} (hp : plainB o = true) {w : World} {f : FuncId} {args : Array Value} {w' : World} : (execOp ρ o).run P w ≠ .ok (.enter f args) w' := by
  unfold plainB at hp
  unfold execOp
  split at hp
  · rename_i h; simp only [h]; simp [Sem.run_pure]
  · rename_i h; simp only [h]; simp [Sem.run_pure]
  · rename_i h; simp only [h]; simp only [Sem.run_bind]; cases (asBool _).run P w <;> simp [Result.andThen, Sem.run_pure]
  all_goals first
    | (rename_i h; simp only [h]; exact value_run)
    | skip
  · rename_i c h
    split at hp
    · rename_i hc
      simp only [h, resolve, hc, invoke, builtin, Sem.run_bind, Sem.run_pure, Result.andThen_ok]
      generalize Sem.run P (Builtin.len_ c.argTypes o.type (Array.map ρ c.args)) w = r
      cases r <;> simp [Result.andThen]
    · cases hp
  · cases hp

theorem loose_nil (h : Q a g) : wpLoose P ops K W0 Q [] a g := h
theorem loose_skip (hw : Region.wanted o (yielded ops a.tmps) = false) (h : wpLoose P ops K W0 Q rest (a.put o.dst undef) g) : wpLoose P ops K W0 Q (o :: rest) a g :=
  ⟨.skip, hw, fun v w _ _ hv => by cases (show v = undef from hv); exact h⟩
theorem loose_plain (hw : Region.wanted o (yielded ops a.tmps) = true) (hm : marked K o = false) (hp : plainB o = true)
    (h : ∀ Kc : Act → Prop, (∀ a', wpLoose P ops K W0 Q rest a' g → Kc a') → o.quiet P a (fun w' => ∃ p : Later W0, w' = p.val) Kc) : wpLoose P ops K W0 Q (o :: rest) a g := by
  obtain ⟨v, hq, hn⟩ := h _ (fun _ h => h)
  refine ⟨.plain v, ⟨hw, hm, fun w hl _ => ?_⟩, fun u w _ _ hu => by cases (show u = v from hu); exact hn⟩
  have h1 := hq w ⟨⟨w, hl⟩, rfl⟩
  unfold Oper.quietAt at h1
  have h2 := fun f args w' => plain_run (P := P) (ρ := a.eval) (w := w) (f := f) (args := args) (w' := w') hp
  generalize (execOp a.eval o).run P w = r at h1 h2
  cases r with
  | ok n w' =>
    cases n <;> simp only [Oper.quietUpon] at h1
    · exact h1
    · exact h1
    · exact absurd rfl (h2 _ _ _)
  | halt x w' => exact h1
theorem marked_of {t : Nat} (hd : o.dst = some t) (hm : Know.has t K = true) : marked K o = true := by unfold marked; rw [hd]; exact hm
/-- A call whose value is told. -/
theorem loose_fix (t : Nat) (v : Value) {f : FuncId} {args : Array Value} (hr : ∀ w : World, (execOp a.eval o).run P w = .ok (.enter f args) w) (hw : Region.wanted o (yielded ops a.tmps) = true) (hd : o.dst = some t) (hm : Know.has t K = true)
    (hat : ∀ u w, Know.at t u w K ↔ u = v) (hc : ∀ w, Lat W0 w → depsOf K ops o g w → Calls P f args w fun e w' => e = .returned v ∧ Below w.heap.size w w')
    (h : wpLoose P ops K W0 Q rest (a.put (some t) v) (gadd g t v)) : wpLoose P ops K W0 Q (o :: rest) a g := by
  have hs : slotOf o = t := by rw [slotOf, hd]; rfl
  refine ⟨.loose, ⟨hw, marked_of hd hm, fun w hl hdp => ?_⟩, fun u w _ _ hu => ?_⟩
  · rw [hr w]
    exact ⟨rfl, (hc w hl hdp).mono fun e w' ⟨he, hb⟩ => ⟨v, he, hb, by rw [hs]; exact (hat _ _).2 rfl⟩⟩
  · obtain ⟨w', _, hu⟩ := hu
    rw [hs] at hu
    have := (hat _ _).1 hu
    subst this
    show wpLoose P ops K W0 Q rest (a.put o.dst u) (gadd g (slotOf o) u)
    rw [hd, hs]
    exact h
/-- A call of whose value a fact is told. -/
theorem loose_call (t : Nat) {f : FuncId} {args : Array Value} (hr : ∀ w : World, (execOp a.eval o).run P w = .ok (.enter f args) w) (hw : Region.wanted o (yielded ops a.tmps) = true) (hd : o.dst = some t) (hm : Know.has t K = true)
    (hc : ∀ w, Lat W0 w → depsOf K ops o g w → Calls P f args w fun e w' => ∃ v, e = .returned v ∧ Below w.heap.size w w' ∧ Know.at t v w' K)
    (h : ∀ v w, Lat W0 w → Know.at t v w K → wpLoose P ops K W0 Q rest (a.put (some t) v) (gadd g t v)) : wpLoose P ops K W0 Q (o :: rest) a g := by
  have hs : slotOf o = t := by rw [slotOf, hd]; rfl
  refine ⟨.loose, ⟨hw, marked_of hd hm, fun w hl hdp => ?_⟩, fun u w hl _ hu => ?_⟩
  · rw [hr w]
    exact ⟨rfl, (hc w hl hdp).mono fun e w' ⟨v, he, hb, hv⟩ => ⟨v, he, hb, by rw [hs]; exact hv⟩⟩
  · obtain ⟨w', hl', hu⟩ := hu
    rw [hs] at hu
    show wpLoose P ops K W0 Q rest (a.put o.dst u) (gadd g (slotOf o) u)
    rw [hd, hs]
    exact h u w' (hl.trans hl') hu
/-- What makes a block: a slice that is built, a box. -/
theorem loose_make (t : Nat) {V : World → Value} {W : World → World} (hr : ∀ w : World, (execOp a.eval o).run P w = .ok (.value (V w)) (W w)) (hw : Region.wanted o (yielded ops a.tmps) = true) (hd : o.dst = some t) (hm : Know.has t K = true)
    (hv : ∀ w, Lat W0 w → depsOf K ops o g w → Below w.heap.size w (W w) ∧ Know.at t (V w) (W w) K)
    (h : ∀ v w, Lat W0 w → Know.at t v w K → wpLoose P ops K W0 Q rest (a.put (some t) v) (gadd g t v)) : wpLoose P ops K W0 Q (o :: rest) a g := by
  have hs : slotOf o = t := by rw [slotOf, hd]; rfl
  refine ⟨.loose, ⟨hw, marked_of hd hm, fun w hl hdp => ?_⟩, fun u w hl _ hu => ?_⟩
  · rw [hr w]
    obtain ⟨h1, h2⟩ := hv w hl hdp
    exact ⟨h1, by rw [hs]; exact h2⟩
  · obtain ⟨w', hl', hu⟩ := hu
    rw [hs] at hu
    show wpLoose P ops K W0 Q rest (a.put o.dst u) (gadd g (slotOf o) u)
    rw [hd, hs]
    exact h u w' (hl.trans hl') hu
end
end
end Go.Proofs.YtbpenkaficiodaaGreat

/- A region by one loose walk, with a tail in one forced order ahead of which an extraction or a copy may still be open. -/
namespace Go.Proofs.YtbpenkaficiodaaGreat
open Go.RowKit Go.BigFrame
section
variable {P : Program} {ops : Array Oper} {md : Region.Mode} {K : List (Nat × (Value → World → Prop))} {W0 : World}

/-- What may float: its value hangs on no world. -/
def freeB (o : Oper) : Bool := match o.op with
  | .extract .. | .move _ | .assign _ => true
  | _ => false
theorem free_run {ρ : Operand → Value} {o : Oper} (hf : freeB o = true) {w : World} {u : Value} (h : plainUpon w u ((execOp ρ o).run P w)) (w' : World) : (execOp ρ o).run P w' = .ok (.value u) w' := by
  unfold freeB at hf
  unfold execOp at h ⊢
  split at hf
  · rename_i t ix ho
    simp only [ho] at h ⊢
    generalize ρ t = tv at h ⊢
    cases tv <;> simp only [Instr.extract, Sem.run_bind] at h ⊢
    case tuple vs =>
      revert h
      cases vs[ix]? with
      | none => simp [stuck, plainUpon, Result.andThen]
      | some v => simp only [Sem.run_pure, Result.andThen_ok, plainUpon]; rintro ⟨_, rfl⟩; rfl
    all_goals (revert h; simp [stuck, plainUpon, Result.andThen])
  · rename_i x ho
    simp only [ho, Sem.run_pure, plainUpon] at h ⊢
    rw [h.2]
  · rename_i x ho
    simp only [ho, Sem.run_pure, plainUpon] at h ⊢
    rw [h.2]
  · cases hf

def freeAt (ops : Array Oper) (i : Nat) : Bool := match ops[i]? with
  | some o => freeB o
  | none => false
/-- Each of the first n operations floats, or one behind it waits for it. -/
def sinkF (md : Region.Mode) (ops : Array Oper) (n : Nat) : Bool :=
  (List.range n).all fun i => freeAt ops i || (List.range (n + 1)).any fun j => decide (i < j) && Region.waitsFor md ops j i && (j == n || !freeAt ops j)

theorem tail_waitsF {n : Nat} {listed : Array Bool} (hs : sinkF md ops n = true) (hc : Region.chainB md ops n = true) (hn : n < ops.size) (inv : HeadInv md ops n listed) :
    ∀ (d i : Nat), n - i = d → i < n → freeAt ops i = false → listed.getD i true = false → ∀ t, n ≤ t → t ∉ Region.ready md ops listed := by
  intro d
  induction d using Nat.strongRecOn with
  | _ d ih =>
    intro i hd hi hfr hun t ht hr
    obtain ⟨_, ot, hot, hall⟩ := mem_ready.1 hr
    have htlt : t < ops.size := (Array.getElem?_eq_some_iff.1 hot).1
    by_cases htn : t = n
    · subst htn
      have h1 := List.all_eq_true.1 hs i (List.mem_range.2 hi)
      rw [hfr, Bool.false_or] at h1
      obtain ⟨j, hj, hj2⟩ := List.any_eq_true.1 h1
      simp only [Bool.and_eq_true, decide_eq_true_eq, Bool.or_eq_true, beq_iff_eq, Bool.not_eq_true'] at hj2
      obtain ⟨oj, hoj, e, he, hb, hon⟩ := Region.waitsFor_spec hj2.1.2
      have hjle : j ≤ t := by have := List.mem_range.1 hj; omega
      by_cases hjt : j = t
      · subst hjt
        have : oj = ot := Option.some.inj (hoj.symm.trans hot)
        subst this
        have h2 := hall e he hb
        rw [hon, getD_both hun] at h2
        cases h2
      · cases hl : listed.getD j false with
        | true =>
          have h2 := inv.closed j oj hoj hl e he hb
          rw [hon, getD_both hun] at h2
          cases h2
        | false =>
          have hjs : j < listed.size := by rw [inv.size]; omega
          exact ih (t - j) (by omega) j rfl (by omega) (hj2.2.resolve_left hjt) (getD_in hjs hl) t (Nat.le_refl _) hr
    · have h1 := List.all_eq_true.1 hc t (List.mem_range.2 htlt)
      simp only [Bool.or_eq_true, decide_eq_true_eq] at h1
      rcases h1 with h1 | h1
      · omega
      · obtain ⟨o', ho', e, he, hb, hon⟩ := Region.waitsFor_spec h1
        have : o' = ot := Option.some.inj (ho'.symm.trans hot)
        subst this
        have h2 := hall e he hb
        rw [hon, getD_both (inv.tail (t - 1) (by omega) (by omega))] at h2
        cases h2

/-- Whatever is picked: of the first n operations; or, where one behind them may come up, the rest's own meaning. -/
def anyF (P : Program) (md : Region.Mode) (ops : Array Oper) (K : List (Nat × (Value → World → Prop))) (W0 : World) (n gq : Nat) (Q' : Exit → Act → World → Prop) (L : Array Bool → Act → (Nat → Value → Prop) → Prop) : Nat → Array Bool → Act → (Nat → Value → Prop) → Prop
  | 0, listed, a, g => L listed a g
  | f + 1, listed, a, g => ∀ w, Lat W0 w → Known K g w → Region.ready md ops listed ≠ [] ∧ (∀ i ∈ Region.ready md ops listed, i < n → sOp P ops K W0 i (anyF P md ops K W0 n gq Q' L f (listed.setIfInBounds i true)) a g w) ∧
      (∀ j ∈ Region.ready md ops listed, n ≤ j → wpAny P md ops Q' (f + 1 + gq) listed a w)

theorem wpAny_of_anyF (hK : Know.stable K) {n gq : Nat} {L : Array Bool → Act → (Nat → Value → Prop) → Prop} {Q' : Exit → Act → World → Prop} (hL : ∀ listed a g w, Lat W0 w → Known K g w → L listed a g → wpAny P md ops Q' gq listed a w) :
    ∀ (f : Nat) (listed : Array Bool) (a : Act) (g : Nat → Value → Prop) (w : World), Lat W0 w → Known K g w → anyF P md ops K W0 n gq Q' L f listed a g → wpAny P md ops Q' (f + gq) listed a w
  | 0, listed, a, g, w, hw, hg, h => by rw [Nat.zero_add]; exact hL _ _ _ _ hw hg h
  | f + 1, listed, a, g, w, hw, hg, h => by
    obtain ⟨h1, h2, h3⟩ := h w hw hg
    by_cases ht : ∃ j ∈ Region.ready md ops listed, n ≤ j
    · obtain ⟨j, hj, hjn⟩ := ht
      exact h3 j hj hjn
    · rw [show f + 1 + gq = (f + gq) + 1 by omega]
      exact ⟨fun h0 => absurd h0 h1, fun i hi => wpOp_of_sOp hK hw hg (fun a' g' w' hw' hg' h' => wpAny_of_anyF hK hL f _ a' g' w' hw' hg' h') (h2 i hi (Nat.lt_of_not_le fun hle => ht ⟨i, hi, hle⟩))⟩

theorem Does.yields {o : Oper} {a : Act} {g : Nat → Value → Prop} {κ : Kind} {w : World} (h : Does P ops K W0 o a g κ) (hw : Lat W0 w) (hg : Known K g w) (hf : freeB o = true) (hm : marked K o = false) :
    ∃ v, Valid K o w v κ ∧ Yields P ops o v a ∧ behind o g v κ = g := by
  cases κ with
  | skip => exact ⟨undef, rfl, .inr ⟨h, rfl⟩, rfl⟩
  | plain u => exact ⟨u, rfl, .inl ⟨h.1, free_run hf (h.2.2 w hw (hg.deps o))⟩, rfl⟩
  | loose => exact absurd (h.2.1.symm.trans hm) (by simp)

theorem anyF_first (hK : Know.stable K) {n i gq : Nat} {oi : Oper} {κ : Kind} {L : Array Bool → Act → (Nat → Value → Prop) → Prop} {Q' : Exit → Act → World → Prop} (hL : ∀ listed a g w, Lat W0 w → Known K g w → L listed a g → wpAny P md ops Q' gq listed a w)
    (hQ : ∀ c a d v w, Q' (.panic c) (Act.put a d v) w → Q' (.panic c) a w) (hi : ops[i]? = some oi) (hsel : ∀ (j : Nat) (o : Oper) cs b, ops[j]? = some o → o.op ≠ .select cs b) (hin : i < n)
    (hwait : (∀ listed : Array Bool, HeadInv md ops n listed → listed.getD i true = false → ∀ j ∈ Region.ready md ops listed, j < n) ∨ (freeB oi = true ∧ marked K oi = false))
    (hdone : ∀ listed a g, L listed a g → ∀ j ∈ Region.ready md ops listed, n ≤ j) (f : Nat) :
    ∀ (listed : Array Bool) (a : Act) (g : Nat → Value → Prop), HeadInv md ops n listed →
      (∀ j oj, ops[j]? = some oj → j ≠ i → listed.getD j true = false → (∀ e ∈ oj.after, Region.binds md e = true → e.on ≠ i) → oi.apart ops oj = true) →
      i ∈ Region.ready md ops listed → Does P ops K W0 oi a g κ →
      (∀ w, Lat W0 w → Known K g w → ∀ v, Valid K oi w v κ → anyF P md ops K W0 n gq Q' L f (listed.setIfInBounds i true) (a.put oi.dst v) (behind oi g v κ)) → anyF P md ops K W0 n gq Q' L (f + 1) listed a g := by
  -- the third part: a tail operation may come up while i is open
  have third : ∀ (f : Nat) (listed : Array Bool) (a : Act) (g : Nat → Value → Prop) (w : World), Lat W0 w → Known K g w → HeadInv md ops n listed →
      (∀ j oj, ops[j]? = some oj → j ≠ i → listed.getD j true = false → (∀ e ∈ oj.after, Region.binds md e = true → e.on ≠ i) → oi.apart ops oj = true) →
      i ∈ Region.ready md ops listed → Does P ops K W0 oi a g κ →
      (∀ w, Lat W0 w → Known K g w → ∀ v, Valid K oi w v κ → anyF P md ops K W0 n gq Q' L f (listed.setIfInBounds i true) (a.put oi.dst v) (behind oi g v κ)) →
      ∀ j ∈ Region.ready md ops listed, n ≤ j → wpAny P md ops Q' (f + 1 + gq) listed a w := by
    intro f listed a g w hw hg inv hfree hr hy H j hj hjn
    rcases hwait with hwait | ⟨hf, hm⟩
    · have := hwait listed inv (mem_ready.1 hr).1 j hj
      omega
    · obtain ⟨v, hv, hyv, hb⟩ := hy.yields hw hg hf hm
      have h1 := H w hw hg v hv
      rw [hb] at h1
      rw [show f + 1 + gq = (f + gq) + 1 by omega]
      exact wpAny_first hi hsel (fun c a w h => hQ c a _ _ w h) (f + gq) listed a w hfree hr hyv (wpAny_of_anyF hK hL f _ _ _ _ hw hg h1)
  induction f with
  | zero =>
    intro listed a g inv hfree hr hy H w hw hg
    have hun := (mem_ready.1 hr).1
    refine ⟨fun h => (by rw [h] at hr; cases hr), fun j hj hjn => ?_, third 0 listed a g w hw hg inv hfree hr hy H⟩
    by_cases hji : j = i
    · subst hji
      unfold sOp
      simp only [hi]
      exact ⟨κ, hy, fun v hv => H w hw hg v hv⟩
    · obtain ⟨v, hv⟩ := hy.some hw hg
      have := hdone _ _ _ (H w hw hg v hv) j (ready_mono hj hji)
      omega
  | succ f ih =>
    intro listed a g inv hfree hr hy H w hw hg
    have hun := (mem_ready.1 hr).1
    refine ⟨fun h => (by rw [h] at hr; cases hr), fun j hj hjn => ?_, third (f + 1) listed a g w hw hg inv hfree hr hy H⟩
    by_cases hji : j = i
    · subst hji
      unfold sOp
      simp only [hi]
      exact ⟨κ, hy, fun v hv => H w hw hg v hv⟩
    · obtain ⟨hjun, oj, hoj, hall⟩ := mem_ready.1 hj
      have hnot : ∀ e ∈ oj.after, Region.binds md e = true → e.on ≠ i := fun e he hb heq => by
        have h1 := hall e he hb
        rw [heq, getD_both hun] at h1
        cases h1
      obtain ⟨a1, a2, a3⟩ := Oper.apart_spec (hfree j oj hoj hji hjun hnot)
      have hfree' : ∀ k ok, ops[k]? = some ok → k ≠ i → (listed.setIfInBounds j true).getD k true = false →
          (∀ e ∈ ok.after, Region.binds md e = true → e.on ≠ i) → oi.apart ops ok = true := fun k ok hk hki hun' hno => by
        refine hfree k ok hk hki ?_ hno
        by_cases hjk : j = k
        · subst hjk; exact hjun
        · rw [getD_set_ne true hjk] at hun'; exact hun'
      have back : ∀ v κj, Does P ops K W0 oj (a.put oi.dst v) (behind oi g v κ) κj → Does P ops K W0 oj a g κj := fun v κj hd =>
        hd.of_same (execOp_put oj (fun cs b => hsel j oj cs b hoj) a oi.dst v a1).symm (wanted_put oj a oi.dst v a1).symm (fun w h => (deps_behind a1 hy.marks).2 h)
      have at1 : ∀ w1, Lat W0 w1 → Known K g w1 → ∀ v, Valid K oi w1 v κ → ∃ w2, Lat w1 w2 ∧ Known K (behind oi g v κ) w2 ∧ ∃ κj, Does P ops K W0 oj a g κj ∧ ∀ u, Valid K oj w2 u κj →
          anyF P md ops K W0 n gq Q' L f ((listed.setIfInBounds i true).setIfInBounds j true) ((a.put oi.dst v).put oj.dst u) (behind oj (behind oi g v κ) u κj) := fun w1 hw1 hg1 v hv => by
        obtain ⟨w2, hl2, hg2⟩ := hv.reach hK hg1
        have h2 := ((H w1 hw1 hg1 v hv) w2 (hw1.trans hl2) hg2).2.1 j (ready_mono hj hji) hjn
        unfold sOp at h2
        simp only [hoj] at h2
        obtain ⟨κj, hd, hn⟩ := h2
        exact ⟨w2, hl2, hg2, κj, back v κj hd, hn⟩
      obtain ⟨v0, hv0⟩ := hy.some hw hg
      obtain ⟨_, _, _, κj, hdj, _⟩ := at1 w hw hg v0 hv0
      unfold sOp
      simp only [hoj]
      refine ⟨κj, hdj, fun u hu => ?_⟩
      refine ih (listed.setIfInBounds j true) (a.put oj.dst u) (behind oj g u κj) (inv.set hj hjn) hfree' (ready_mono hr (Ne.symm hji)) ?_ ?_
      · exact hy.of_same (execOp_put oi (fun cs b => hsel i oi cs b hi) a oj.dst u a3) (wanted_put oi a oj.dst u a3) (fun w h => (deps_behind a3 hdj.marks).1 h)
      · intro w1 hw1 hg1 v hv
        have hg1' := hg1.less
        obtain ⟨w2, hl2, hg2, κj', hdj', hn⟩ := at1 w1 hw1 hg1' v hv
        have hκ : κj' = κj := hdj'.unique hdj hw1 hg1'
        subst hκ
        have := hn u (hu.at_later hK hg1 hl2)
        rw [Array.setIfInBounds_comm _ _ hji, ← Act.put_comm a v u a2, behind_comm]
        exact this

theorem anyF_lex (hK : Know.stable K) {n gq : Nat} {Lq : Act → (Nat → Value → Prop) → Prop} {Q' : Exit → Act → World → Prop} (hL : ∀ listed a g w, Lat W0 w → Known K g w → (Region.seqB md ops gq n listed = true ∧ Lq a g) → wpAny P md ops Q' gq listed a w)
    (hQ : ∀ c a d v w, Q' (.panic c) (Act.put a d v) w → Q' (.panic c) a w) (hsel : Region.noSelect ops = true)
    (hwait : ∀ i o, i < n → ops[i]? = some o → (∀ listed : Array Bool, HeadInv md ops n listed → listed.getD i true = false → ∀ j ∈ Region.ready md ops listed, j < n) ∨ (freeB o = true ∧ marked K o = false)) :
    ∀ (l : List Oper) (k : Nat) (listed : Array Bool) (a : Act) (g : Nat → Value → Prop), (∀ j, j < l.length → l[j]? = ops[k + j]?) → k + l.length = n → HeadInv md ops n listed →
    Region.lexHead md ops gq l.length k listed = true → wpLoose P ops K W0 Lq l a g →
    anyF P md ops K W0 n gq Q' (fun listed' a' g' => Region.seqB md ops gq n listed' = true ∧ Lq a' g') l.length listed a g
  | [], k, listed, a, g, _, hk, _, hB, h => by
    have : k = n := by simpa using hk
    subst this
    exact ⟨by simpa [Region.lexHead] using hB, h⟩
  | o :: l, k, listed, a, g, hl, hk, inv, hB, h => by
    have h0 : ops[k]? = some o := by simpa using (hl 0 (by simp)).symm
    simp only [List.length_cons, Region.lexHead, Bool.and_eq_true] at hB
    obtain ⟨⟨hr, hf⟩, hB'⟩ := hB
    have hkn : k < n := by simp only [List.length_cons] at hk; omega
    have hr' : k ∈ Region.ready md ops listed := by simpa using hr
    obtain ⟨κ, hd, hn⟩ := h
    refine anyF_first hK hL hQ h0 (Region.noSelect_spec hsel) hkn (hwait k o hkn h0) (fun listed' a' g' hL => seqB_ready hL.1) l.length listed a g inv (Region.free_spec h0 hf) hr' hd ?_
    intro w hw hg v hv
    exact anyF_lex hK hL hQ hsel hwait l (k + 1) _ _ _ (fun j hj => by have := hl (j + 1) (by simp; omega); simpa [Nat.add_assoc, Nat.add_comm 1 j] using this) (by simp only [List.length_cons] at hk; omega) (inv.set hr' hkn) hB' (hn v w hw hg hv)

def floatB (md : Region.Mode) (ops : Array Oper) (n : Nat) : Bool :=
  Region.noSelect ops && decide (n < ops.size) && sinkF md ops n && Region.chainB md ops n && Region.lexHead md ops (ops.size - n) n 0 (Array.replicate ops.size false)
def unmarkedB (K : List (Nat × (Value → World → Prop))) (ops : Array Oper) : Bool := ops.toList.all fun o => !freeB o || !marked K o

theorem region_float_tail {id : Nat} {Q : Exit → Act → World → Prop} {a : Act} {w : World} {l : List Oper} (K : List (Nat × (Value → World → Prop))) (n : Nat) (hK : Know.stable K) (hm : P.follows .mixedOrders = true) (hB : floatB .any l.toArray n = true)
    (hu : unmarkedB K l.toArray = true)
    (h : wpLoose P l.toArray K w (fun a' g => ∀ w', Lat w w' → Known K g w' → wpList P l.toArray (NoPanic Q) (l.drop n) a' w') (l.take n) a (fun _ _ => False)) : (Code.region id l.toArray true).wp P Q a w := by
  have hQ : ∀ c a d v w, NoPanic Q (.panic c) (Act.put a d v) w → NoPanic Q (.panic c) a w := fun _ _ _ _ _ h => h
  refine wp_region_noPanic ?_
  simp only [floatB, Bool.and_eq_true, decide_eq_true_eq] at hB
  obtain ⟨⟨⟨⟨hsel, hn⟩, hs⟩, hc⟩, hlex⟩ := hB
  have hn' : n < l.length := by simpa using hn
  have htl : (l.take n).length = n := by simp; omega
  have hdl : (l.drop n).length = l.toArray.size - n := by simp
  have inv0 : HeadInv .any l.toArray n (Array.replicate l.toArray.size false) :=
    ⟨by simp, fun j oj _ hl => (by rw [getD_replicate_false] at hl; cases hl), fun t _ ht => getD_in (by simpa using ht) (getD_replicate_false _ _)⟩
  have hL : ∀ (listed : Array Bool) (a' : Act) (g' : Nat → Value → Prop) (w' : World), Lat w w' → Known K g' w' → (Region.seqB .any l.toArray (l.toArray.size - n) n listed = true ∧ ∀ w', Lat w w' → Known K g' w' → wpList P l.toArray (NoPanic Q) (l.drop n) a' w') →
      wpAny P .any l.toArray (NoPanic Q) (l.toArray.size - n) listed a' w' := fun listed a' g' w' hw' hg' hL => by
    have hl1 : Region.seqB .any l.toArray (l.drop n).length n listed = true := by rw [hdl]; exact hL.1
    have hl2 := wpAny_of_seq (md := .any) (Q' := NoPanic Q) (l.drop n) n listed a' w' (fun j => by simp) hl1 (hL.2 w' hw' hg')
    rwa [hdl] at hl2
  have H := anyF_lex (md := .any) (gq := l.toArray.size - n) (Lq := fun a' g => ∀ w', Lat w w' → Known K g w' → wpList P l.toArray (NoPanic Q) (l.drop n) a' w') hK hL hQ hsel (fun i o hi ho => by
    cases hf : freeB o with
    | true =>
      refine .inr ⟨rfl, ?_⟩
      have := List.all_eq_true.1 hu o (by simpa using Array.mem_of_getElem? ho)
      simpa [hf] using this
    | false => exact .inl fun listed inv hun j hj => Nat.lt_of_not_le fun h => tail_waitsF hs hc hn inv _ i rfl hi (by rw [freeAt, ho]; exact hf) hun j h hj) (l.take n) 0 _ a _ (fun j hj => by
    have hj' : j < n := by rw [htl] at hj; exact hj
    simp [hj']) (by simpa using htl) inv0 (by rw [htl]; exact hlex) h
  refine wp_region_any hm ?_
  have G := wpAny_of_anyF (Q' := NoPanic Q) (gq := l.toArray.size - n) hK hL _ _ _ _ _ (show Lat w { w with drawn := w.drawn + 1 } from (Below.refl _ _).drew) (fun _ _ h => h.elim) H
  rw [htl, show n + (l.toArray.size - n) = l.toArray.size by omega] at G
  exact G
end
end Go.Proofs.YtbpenkaficiodaaGreat
