/- Joined texts, part 10: contracts of the functions that the laws reach, and what is needed for them. -/
import Derived.Test.YtbpenkaficiodaaGreatP9
/- Crossings and openings, one by one: the closures' walks. -/
namespace Go.Proofs.YtbpenkaficiodaaGreat
open Go.RowKit Go.BigFrame

theorem at_add {w : World} {a : Addr} {n : Nat} {x : Value} (h : w.cell? ⟨a.block, a.off + (n + 1), none⟩ = some x) : w.cell? (a.add (n + 1)) = some x := by
  have : a.add (n + 1) = ⟨a.block, a.off + (n + 1), none⟩ := by unfold Addr.add; rw [if_neg (by omega)]
  rw [this]; exact h
theorem at_add' {w : World} {a : Addr} {n m : Nat} {x : Value} (h : w.cell? ⟨a.block, a.off + (n + m), none⟩ = some x) : w.cell? ⟨(a.add n).block, (a.add n).off + m, none⟩ = some x := by
  have : (a.add n).block = a.block ∧ (a.add n).off = a.off + n := by unfold Addr.add; split <;> simp_all
  rw [this.1, this.2, Nat.add_assoc]; exact h
theorem tri_at {w : World} {A : Option Addr} {cap k : Nat} {ls : List TriV} {x : TriV} (h : Tris w A cap ls) (hx : ls[k]? = some x) : ∃ b, A = some b ∧ ∀ j, j < 3 →
    w.cell? ((b.add (k * 9)).add (j * 3)) = some (.int .u64 (x.u j : Int)) ∧ w.cell? ⟨((b.add (k * 9)).add (j * 3)).block, ((b.add (k * 9)).add (j * 3)).off + 1, none⟩ = some (.int .u64 (x.w j : Int)) ∧
    w.cell? ⟨((b.add (k * 9)).add (j * 3)).block, ((b.add (k * 9)).add (j * 3)).off + 2, none⟩ = some (.int .u64 (x.v j : Int)) := by
  obtain ⟨b, hb, q0, q1, q2, q3, q4, q5, q6, q7, q8⟩ := recs_9 h.recs (k := k) (by rw [List.getElem?_map, hx]; rfl)
  refine ⟨b, hb, three_cases ⟨?_, ?_, ?_⟩ ⟨at_add q3, at_add' q4, at_add' q5⟩ ⟨at_add q6, at_add' q7, at_add' q8⟩⟩
  · exact q0
  · exact q1
  · exact q2
theorem pair_at {w : World} {A : Option Addr} {cap k : Nat} {ls : List BoxV} {x : BoxV} (h : Boxes w A cap ls) (hx : ls[k]? = some x) : ∃ b, A = some b ∧ ∀ j, j < 3 →
    w.cell? ((b.add (k * 6)).add (j * 2)) = some (.int .u64 (x.u j : Int)) ∧ w.cell? ⟨((b.add (k * 6)).add (j * 2)).block, ((b.add (k * 6)).add (j * 2)).off + 1, none⟩ = some (.int .u64 (x.v j : Int)) := by
  obtain ⟨b, hb, q0, q1, q2, q3, q4, q5⟩ := recs_6 h.recs (k := k) (by rw [List.getElem?_map, hx]; rfl)
  refine ⟨b, hb, three_cases ⟨?_, ?_⟩ ⟨at_add q2, at_add' q3⟩ ⟨at_add q4, at_add' q5⟩⟩
  · exact q0
  · exact q1

def tCross : List UInt8 := [47, 99, 114, 111, 115, 115]
def tOpen : List UInt8 := [47, 111, 112, 101, 110]
/-- Is one crossing believed? -/
def crossOne (label : List UInt8) (P Q G H key y au aw av tu tw tv : Nat) (C Z : List Nat) : Bool :=
  decide (au = tu) && inG P Q tw && inG P Q tv && acceptB (label ++ tCross) P Q G H [key, overG P tw aw, overG P tv av] [[G, 1], [1, G], [overG P 1 au, y]] C Z
/-- Is one opening believed? -/
def openOne (label : List UInt8) (P Q G H key bu bv tu tw tv : Nat) (C Z : List Nat) : Bool :=
  decide (bu = tu) && decide (bv = tv) && acceptB (label ++ tOpen) P Q G H [key, tw] [[G], [bu]] C Z

theorem accept_claim (P Q G H : Nat) (R : Value) (label : List UInt8) (T : List Nat) (L : List (List Nat)) (C Z : NumV) (u : Value) (w : World) (hP : P < 18446744073709551616) (hQ : Q < 18446744073709551616) (hG : G < 18446744073709551616) (hH : H < 18446744073709551616) (hPr : rightB P = true) (hQ2 : 2 ≤ Q) (hu : ClaimV T L u w) (hC : Nums w C.A C.cap C.l) (hZ : Nums w Z.A Z.cap Z.l)
    (hl : label.length ≤ 1000000) (hT : T.length ≤ 10000) (hL : L.length ≤ 10000) (hLl : ∀ l ∈ L, l.length ≤ 10000) (hCl : C.l.length ≤ 10000) (hZl : Z.l.length ≤ 10000) :
    Calls Tryz.prog 78 #[.agg #[.int .u64 (P : Int), .int .u64 (Q : Int), .int .u64 (G : Int), .int .u64 (H : Int), R], .string (str label), u, .agg #[.slice C.A C.l.length C.cap, .slice Z.A Z.l.length Z.cap]] w fun e w' => e = .returned (.bool (acceptB label P Q G H T L C.l Z.l)) ∧ Below w.heap.size w w' := by
  obtain ⟨A, cT, B, cB, rs, rfl, ⟨hN, hG'⟩, hm⟩ := hu
  have h := accept_any P Q G H R label A cT T B cB rs C.A C.cap C.l Z.A Z.cap Z.l w hP hPr hQ hQ2 hG hH hN hG' hC hZ hl hT (by rw [← hm, List.length_map] at hL; exact hL) (fun r hr => hLl _ (by rw [← hm]; exact List.mem_map_of_mem hr)) hCl hZl
  rw [hm] at h
  exact h
theorem refAccept_claim (P Q G H : Nat) (R : Value) (label : List UInt8) (T : List Nat) (L : List (List Nat)) (C Z : NumV) (u : Value) (w : World) (hP : P < 18446744073709551616) (hQ : Q < 18446744073709551616) (hG : G < 18446744073709551616) (hH : H < 18446744073709551616) (hQ2 : 2 ≤ Q) (hu : ClaimV T L u w) (hC : Nums w C.A C.cap C.l) (hZ : Nums w Z.A Z.cap Z.l)
    (hl : label.length ≤ 1000000) (hT : T.length ≤ 10000) (hL : L.length ≤ 10000) (hLl : ∀ l ∈ L, l.length ≤ 10000) (hCl : C.l.length ≤ 10000) (hZl : Z.l.length ≤ 10000) :
    Calls Tryz.prog 80 #[.agg #[.int .u64 (P : Int), .int .u64 (Q : Int), .int .u64 (G : Int), .int .u64 (H : Int), R], .string (str label), u, .agg #[.slice C.A C.l.length C.cap, .slice Z.A Z.l.length Z.cap]] w fun e w' => e = .returned (.bool (acceptB label P Q G H T L C.l Z.l)) ∧ Below w.heap.size w w' := by
  obtain ⟨A, cT, B, cB, rs, rfl, ⟨hN, hG'⟩, hm⟩ := hu
  have h := refAccept_any P Q G H R label A cT T B cB rs C.A C.cap C.l Z.A Z.cap Z.l w hP hQ hQ2 hG hH hN hG' hC hZ hl hT (by rw [← hm, List.length_map] at hL; exact hL) (fun r hr => hLl _ (by rw [← hm]; exact List.mem_map_of_mem hr)) hCl hZl
  rw [hm] at h
  exact h

theorem crosses_claim (P Q G H key y au aw av tu tw tv : Nat) (R : Value) (w : World) (hP : P < 18446744073709551616) (hG : G < 18446744073709551616) (hkey : key < 18446744073709551616) (hy : y < 18446744073709551616) (hau : au < 18446744073709551616) (haw : aw < 18446744073709551616) (hav : av < 18446744073709551616) (htw : tw < 18446744073709551616) (htv : tv < 18446744073709551616) :
    Calls Tryz.prog 79 #[.agg #[.int .u64 (P : Int), .int .u64 (Q : Int), .int .u64 (G : Int), .int .u64 (H : Int), R], .int .u64 (key : Int), .int .u64 (y : Int), .agg #[.int .u64 (au : Int), .int .u64 (aw : Int), .int .u64 (av : Int)], .agg #[.int .u64 (tu : Int), .int .u64 (tw : Int), .int .u64 (tv : Int)]] w fun e w' => ∃ u, e = Ending.returned u ∧ Below w.heap.size w w' ∧ ClaimV [key, overG P tw aw, overG P tv av] [[G, 1], [1, G], [overG P 1 au, y]] u w' :=
  (crosses_any P Q G H key y au aw av tu tw tv R w hP hG hkey hy hau haw hav htw htv).mono (fun e w' ⟨h, hb⟩ => let ⟨u, he, hu⟩ := ClaimV.of h; ⟨u, he, hb, hu⟩)
theorem shares_claim (P Q G H key bu bv s : Nat) (R : Value) (w : World) (hG : G < 18446744073709551616) (hkey : key < 18446744073709551616) (hbu : bu < 18446744073709551616) (hs : s < 18446744073709551616) :
    Calls Tryz.prog 83 #[.agg #[.int .u64 (P : Int), .int .u64 (Q : Int), .int .u64 (G : Int), .int .u64 (H : Int), R], .int .u64 (key : Int), .agg #[.int .u64 (bu : Int), .int .u64 (bv : Int)], .int .u64 (s : Int)] w fun e w' => ∃ u, e = Ending.returned u ∧ Below w.heap.size w w' ∧ ClaimV [key, s] [[G], [bu]] u w' :=
  (shares_any P Q G H key bu bv s R w hG hkey hbu hs).mono (fun e w' ⟨h, hb⟩ => let ⟨u, he, hu⟩ := ClaimV.of h; ⟨u, he, hb, hu⟩)
theorem refCrosses_claim (P Q G H key y au aw av tu tw tv : Nat) (R : Value) (w : World) (hP : P < 18446744073709551616) (hG : G < 18446744073709551616) (hkey : key < 18446744073709551616) (hy : y < 18446744073709551616) (hau : au < 18446744073709551616) (haw : aw < 18446744073709551616) (hav : av < 18446744073709551616) (htw : tw < 18446744073709551616) (htv : tv < 18446744073709551616) :
    Calls Tryz.prog 81 #[.agg #[.int .u64 (P : Int), .int .u64 (Q : Int), .int .u64 (G : Int), .int .u64 (H : Int), R], .int .u64 (key : Int), .int .u64 (y : Int), .agg #[.int .u64 (au : Int), .int .u64 (aw : Int), .int .u64 (av : Int)], .agg #[.int .u64 (tu : Int), .int .u64 (tw : Int), .int .u64 (tv : Int)]] w fun e w' => ∃ u, e = Ending.returned u ∧ Below w.heap.size w w' ∧ ClaimV [key, overG P tw aw, overG P tv av] [[G, 1], [1, G], [overG P 1 au, y]] u w' :=
  (refCrosses_any P Q G H key y au aw av tu tw tv R w hP hG hkey hy hau haw hav htw htv).mono (fun e w' ⟨h, hb⟩ => let ⟨u, he, hu⟩ := ClaimV.of h; ⟨u, he, hb, hu⟩)
theorem refShares_claim (P Q G H key bu bv s : Nat) (R : Value) (w : World) (hG : G < 18446744073709551616) (hkey : key < 18446744073709551616) (hbu : bu < 18446744073709551616) (hs : s < 18446744073709551616) :
    Calls Tryz.prog 84 #[.agg #[.int .u64 (P : Int), .int .u64 (Q : Int), .int .u64 (G : Int), .int .u64 (H : Int), R], .int .u64 (key : Int), .agg #[.int .u64 (bu : Int), .int .u64 (bv : Int)], .int .u64 (s : Int)] w fun e w' => ∃ u, e = Ending.returned u ∧ Below w.heap.size w w' ∧ ClaimV [key, s] [[G], [bu]] u w' :=
  (refShares_any P Q G H key bu bv s R w hG hkey hbu hs).mono (fun e w' ⟨h, hb⟩ => let ⟨u, he, hu⟩ := ClaimV.of h; ⟨u, he, hb, hu⟩)

set_option maxRecDepth 100000 in
set_option maxHeartbeats 4000000 in
theorem crossN_any (P Q G H key y k j p0 p1 p2 p3 p4 n au aw av tu tw tv : Nat) (R : Value) (label : List UInt8) (b : Addr) (cap : Nat) (C Z : NumV) (w : World) (hP : P < 18446744073709551616) (hQ : Q < 18446744073709551616) (hG : G < 18446744073709551616) (hH : H < 18446744073709551616) (hkey : key < 18446744073709551616) (hy : y < 18446744073709551616) (hau : au < 18446744073709551616) (haw : aw < 18446744073709551616) (hav : av < 18446744073709551616) (htu : tu < 18446744073709551616) (htw : tw < 18446744073709551616) (htv : tv < 18446744073709551616) (hPr : rightB P = true) (hQ2 : 2 ≤ Q) (hj : j < 3) (hkn : k < n) (hnl : n < 1000000)
    (e0 : w.cell? ((b.add (k * 9)).add (j * 3)) = some (.int .u64 (au : Int))) (e1 : w.cell? ⟨((b.add (k * 9)).add (j * 3)).block, ((b.add (k * 9)).add (j * 3)).off + 1, none⟩ = some (.int .u64 (aw : Int))) (e2 : w.cell? ⟨((b.add (k * 9)).add (j * 3)).block, ((b.add (k * 9)).add (j * 3)).off + 2, none⟩ = some (.int .u64 (av : Int)))
    (hC : Nums w C.A C.cap C.l) (hZ : Nums w Z.A Z.cap Z.l) (hCl : C.l.length ≤ 10000) (hZl : Z.l.length ≤ 10000) (hl : label.length ≤ 100000)
    (c0 : w.cell? ⟨p0, 0, none⟩ = some (.slice (some b) n cap)) (c1 : Blk w p1 25 (glist P Q G H R)) (c2 : w.cell? ⟨p2, 0, none⟩ = some (.string (str label))) (c3 : w.cell? ⟨p3, 0, none⟩ = some (.int .u64 (key : Int))) (c4 : w.cell? ⟨p4, 0, none⟩ = some (.int .u64 (y : Int))) :
    Calls Tryz.prog 76 #[.int .i64 (k : Int), .int .i64 (j : Int), .agg #[.int .u64 (tu : Int), .int .u64 (tw : Int), .int .u64 (tv : Int)], .agg #[C.val, Z.val], .pointer (some ⟨p0, 0, none⟩), .pointer (some ⟨p1, 0, none⟩), .pointer (some ⟨p2, 0, none⟩), .pointer (some ⟨p3, 0, none⟩), .pointer (some ⟨p4, 0, none⟩)] w fun e w' => e = .returned (.bool (crossOne label P Q G H key y au aw av tu tw tv C.l Z.l)) ∧ Below w.heap.size w w' := by
  have hin := fun x W (hx : x < 18446744073709551616) => in_any P Q G H x R W hP hQ hx
  have hcr := fun W => crosses_claim P Q G H key y au aw av tu tw tv R W hP hG hkey hy hau haw hav htw htv
  have hac := fun W u hb hu => accept_claim P Q G H R (label ++ tCross) [key, overG P tw aw, overG P tv av] [[G, 1], [1, G], [overG P 1 au, y]] C Z u W hP hQ hG hH hPr hQ2 hu (hC.below (w1 := W) hb) (hZ.below hb) (by simp [tCross]; omega) (by simp) (by simp) (by simp) hCl hZl
  have hst : ∀ W, (Op.stringOp .add (str label) { data := #[47, 99, 114, 111, 115, 115] }).run Tryz.prog W = .ok (.string (str (label ++ tCross))) W := fun W => str_add Tryz.prog label tCross (by simp [tCross]; omega) W
  obtain ⟨out, hout⟩ : ∃ s, s = (crossOne label P Q G H key y au aw av tu tw tv C.l Z.l) := ⟨_, rfl⟩; obtain ⟨acc, hacc⟩ : ∃ s, s = (acceptB (label ++ tCross) P Q G H [key, overG P tw aw, overG P tv av] [[G, 1], [1, G], [overG P 1 au, y]] C.l Z.l) := ⟨_, rfl⟩; obtain ⟨r1, hr1⟩ : ∃ s, s = (inG P Q tw) := ⟨_, rfl⟩; obtain ⟨r2, hr2⟩ : ∃ s, s = (inG P Q tv) := ⟨_, rfl⟩
  have h1 := fun W => hin tw W htw
  have h2 := fun W => hin tv W htv
  rw [← hr1] at h1
  rw [← hr2] at h2
  rw [← hacc] at hac
  rw [← hout]
  have hout2 : out = (decide (au = tu) && r1 && r2 && acc) := by rw [hout, hr1, hr2, hacc]; rfl
  obtain ⟨CA, Cc, Cl⟩ := C
  obtain ⟨ZA, Zc, Zl⟩ := Z
  simp only [NumV.val] at hac ⊢
  obtain ⟨nC, hnC⟩ : ∃ s, s = (Cl.length) := ⟨_, rfl⟩; obtain ⟨nZ, hnZ⟩ : ∃ s, s = (Zl.length) := ⟨_, rfl⟩
  rw [← hnC, ← hnZ] at hac
  rw [← hnC, ← hnZ]
  unfold gval at h1 h2
  obtain ⟨w0, hw0⟩ : ∃ z, z = (((w.alloc (.cells #[.int .u64 (tu : Int), .int .u64 (tw : Int), .int .u64 (tv : Int)] 38)).alloc (.cells #[.slice CA nC Cc, .slice ZA nZ Zc] 42)).alloc (.cells #[.int .u64 (au : Int), .int .u64 (aw : Int), .int .u64 (av : Int)] 38)) := ⟨_, rfl⟩
  have hw0b : Below w.heap.size w w0 := by rw [hw0]; exact lat_alloc (lat_alloc (lat_alloc (Below.refl _ _) _) _) _
  have ht : Blk w0 (w.heap.size) 38 [.int .u64 (tu : Int), .int .u64 (tw : Int), .int .u64 (tv : Int)] := by rw [hw0]; exact (((Blk.of w _ _ _ rfl).alloc _).alloc _)
  have hf : Blk w0 (w.heap.size + 1) 42 [.slice CA nC Cc, .slice ZA nZ Zc] := by rw [hw0]; exact ((Blk.at_new _ _ _ _ _ (by simp) rfl).alloc _)
  have ha : Blk w0 (w.heap.size + 1 + 1) 38 [.int .u64 (au : Int), .int .u64 (aw : Int), .int .u64 (av : Int)] := by rw [hw0]; exact (Blk.at_new _ _ _ _ _ (by simp) rfl)
  have k0 := fun o1 o2 => below_cell (lat_alloc (lat_alloc (Below.refl w.heap.size w) o1) o2) c0
  have k1 := fun o1 o2 => below_cell (lat_alloc (lat_alloc (Below.refl w.heap.size w) o1) o2) e0
  have k2 := fun o1 o2 => below_cell (lat_alloc (lat_alloc (Below.refl w.heap.size w) o1) o2) e1
  have k3 := fun o1 o2 => below_cell (lat_alloc (lat_alloc (Below.refl w.heap.size w) o1) o2) e2
  have hki : (k : Int) < (n : Int) := by omega
  have hji : (j : Int) < 3 := by omega
  have Hcells := Lib.hid (And.intro (gcells (c1.below hw0b c1.lt)) (And.intro (below_cell hw0b c2) (And.intro (below_cell hw0b c3) (And.intro (below_cell hw0b c4) (And.intro (cells_3 ht) (And.intro (cells_2 hf) (cells_3 ha)))))))
  have H1 := Lib.hid h1; have H2 := Lib.hid h2; have Hcr := Lib.hid hcr; have Hac := Lib.hid hac; have Hw0b := Lib.hid hw0b; have Hw0 := Lib.hid hw0; have Hout2 := Lib.hid hout2; clear h1 h2 hcr hac hw0b hw0 hout2
  clear hin hout hacc hr1 hr2 hnC hnZ ht hf ha c0 c1 c2 c3 c4 e0 e1 e2 hC hZ hCl hZl hkn
  go_enter Tryz.func76, Tryz.ntmps76
  go_wp2_with fail
  rw [← Hw0.out]
  obtain ⟨⟨g0, g1, g2, g3, g4⟩, q2, q3, q4, ⟨t0, t1, t2⟩, ⟨f0, f1⟩, ⟨a0, a1, a2⟩⟩ := Hcells.out
  have l0 := Later.cell g0
  have l1 := Later.cell g1
  have l2 := Later.cell g2
  have l3 := Later.cell g3
  have l4 := Later.cell g4
  have l5 := Later.cell q2
  have l6 := Later.cell q3
  have l7 := Later.cell q4
  have l8 := Later.cell t0
  have l9 := Later.cell t1
  have l10 := Later.cell t2
  have l11 := Later.cell f0
  have l12 := Later.cell f1
  have l13 := Later.cell a0
  have l14 := Later.cell a1
  have l15 := Later.cell a2
  clear g0 g1 g2 g3 g4 q2 q3 q4 t0 t1 t2 f0 f1 a0 a1 a2
  by_cases he : au = tu
  case neg =>
    have d0 : ((au : Int) == (tu : Int)) = false := by rw [beq_eq_false_iff_ne]; omega
    have ho : out = false := by rw [Hout2.out, decide_eq_false he]; rfl
    subst ho
    (refine region_calm (by kernel_rfl) (by kernel_rfl) ?_; (repeat (go_big_quiet_step (fail))); refine wpQuiet_nil ?_; intro wq hw'; obtain ⟨pq, hpq⟩ := hw'; have hbq := pq.below; rw [← hpq] at hbq; clear hpq pq; try dsimp only)
    go_wp2_with fail
    go_ret
    exact ⟨rfl, below_trans Hw0b.out hbq⟩
  subst he
  have d0 : ((au : Int) == (au : Int)) = true := by rw [beq_iff_eq]
  have ho1 : out = (r1 && r2 && acc) := by rw [Hout2.out, decide_eq_true rfl]; rfl
  cases r1 with
  | false =>
    have ho : out = false := ho1
    subst ho
    clear ho1
    (refine region_calm (by kernel_rfl) (by kernel_rfl) ?_; (repeat (go_big_quiet_step ((go_at_call 77; exact calm_of (H1.out _))))); refine wpQuiet_nil ?_; intro wq hw'; obtain ⟨pq, hpq⟩ := hw'; have hbq := pq.below; rw [← hpq] at hbq; clear hpq pq; try dsimp only)
    go_wp2_with fail
    go_ret
    exact ⟨rfl, below_trans Hw0b.out hbq⟩
  | true =>
    cases r2 with
    | false =>
      have ho : out = false := ho1
      subst ho
      clear ho1
      (refine region_calm (by kernel_rfl) (by kernel_rfl) ?_; (repeat (go_big_quiet_step ((first | (go_at_call 77; with_reducible exact calm_of (H1.out _)) | (go_at_call 77; with_reducible exact calm_of (H2.out _)))))); refine wpQuiet_nil ?_; intro wq hw'; obtain ⟨pq, hpq⟩ := hw'; have hbq := pq.below; rw [← hpq] at hbq; clear hpq pq; try dsimp only)
      go_wp2_with fail
      go_ret
      exact ⟨rfl, below_trans Hw0b.out hbq⟩
    | true =>
      have ho : out = acc := ho1
      subst ho
      clear ho1
      refine region_loose [(30, fun u _ => u = .bool true), (36, fun u _ => u = .bool true), (47, ClaimV [key, overG P tw aw, overG P tv av] [[G, 1], [1, G], [overG P 1 au, y]]), (49, fun u _ => u = .bool out)]
        (Know.stable_cons (fun _ _ _ h _ => h) (Know.stable_cons (fun _ _ _ h _ => h) (Know.stable_cons (fun _ _ _ h hl => h.later hl) (Know.stable_cons (fun _ _ _ h _ => h) Know.stable_nil)))) (by kernel_rfl) (by kernel_rfl) ?_
      (repeat (first | (refine loose_skip (by rfl) ?_; simp only [Act.put, List.setIfInBounds_toArray, List.set_cons_zero, List.set_cons_succ]) | (refine loose_plain (by rfl) (by rfl) (by rfl) (fun Kc hKc => ?_); go_big_quiet_op; refine hKc _ ?_; clear hKc Kc)))
      refine loose_fix 30 (.bool true) (f := 77) (args := #[.agg #[.int .u64 (P : Int), .int .u64 (Q : Int), .int .u64 (G : Int), .int .u64 (H : Int), R], .int .u64 (tw : Int)]) (fun w => by go_simp; try rfl) (by rfl) (by rfl) (by rfl) (fun _ _ => Iff.rfl) (fun wk hl _ => H1.out wk) ?_
      simp only [Act.put, List.setIfInBounds_toArray, List.set_cons_zero, List.set_cons_succ]
      (repeat (first | (refine loose_skip (by rfl) ?_; simp only [Act.put, List.setIfInBounds_toArray, List.set_cons_zero, List.set_cons_succ]) | (refine loose_plain (by rfl) (by rfl) (by rfl) (fun Kc hKc => ?_); go_big_quiet_op; refine hKc _ ?_; clear hKc Kc)))
      refine loose_fix 36 (.bool true) (f := 77) (args := #[.agg #[.int .u64 (P : Int), .int .u64 (Q : Int), .int .u64 (G : Int), .int .u64 (H : Int), R], .int .u64 (tv : Int)]) (fun w => by go_simp; try rfl) (by rfl) (by rfl) (by rfl) (fun _ _ => Iff.rfl) (fun wk hl _ => H2.out wk) ?_
      simp only [Act.put, List.setIfInBounds_toArray, List.set_cons_zero, List.set_cons_succ]
      (repeat (first | (refine loose_skip (by rfl) ?_; simp only [Act.put, List.setIfInBounds_toArray, List.set_cons_zero, List.set_cons_succ]) | (refine loose_plain (by rfl) (by rfl) (by rfl) (fun Kc hKc => ?_); go_big_quiet_op; refine hKc _ ?_; clear hKc Kc)))
      refine loose_call 47 (f := 79) (args := #[.agg #[.int .u64 (P : Int), .int .u64 (Q : Int), .int .u64 (G : Int), .int .u64 (H : Int), R], .int .u64 (key : Int), .int .u64 (y : Int), .agg #[.int .u64 (au : Int), .int .u64 (aw : Int), .int .u64 (av : Int)], .agg #[.int .u64 (au : Int), .int .u64 (tw : Int), .int .u64 (tv : Int)]]) (fun w => by go_simp; try rfl) (by rfl) (by rfl) (by rfl) (fun wk hl _ => Hcr.out wk) ?_
      intro u wk hlk hu
      simp only [Act.put, List.setIfInBounds_toArray, List.set_cons_zero, List.set_cons_succ]
      (repeat (first | (refine loose_skip (by rfl) ?_; simp only [Act.put, List.setIfInBounds_toArray, List.set_cons_zero, List.set_cons_succ]) | (refine loose_plain (by rfl) (by rfl) (by rfl) (fun Kc hKc => ?_); go_big_quiet_op; refine hKc _ ?_; clear hKc Kc)))
      refine loose_fix 49 (.bool out) (f := 78) (args := #[.agg #[.int .u64 (P : Int), .int .u64 (Q : Int), .int .u64 (G : Int), .int .u64 (H : Int), R], .string (str (label ++ tCross)), u, .agg #[.slice CA nC Cc, .slice ZA nZ Zc]]) (fun w => by go_simp; try rfl) (by rfl) (by rfl) (by rfl) (fun _ _ => Iff.rfl) (fun wk2 hl2 hd => Hac.out wk2 u (below_trans Hw0b.out hl2) (hd 47 (by decide) _ (.inl ⟨rfl, rfl⟩))) ?_
      simp only [Act.put, List.setIfInBounds_toArray, List.set_cons_zero, List.set_cons_succ]
      (repeat (first | (refine loose_skip (by rfl) ?_; simp only [Act.put, List.setIfInBounds_toArray, List.set_cons_zero, List.set_cons_succ]) | (refine loose_plain (by rfl) (by rfl) (by rfl) (fun Kc hKc => ?_); go_big_quiet_op; refine hKc _ ?_; clear hKc Kc)))
      refine loose_nil ?_
      intro wq hbq _
      have Hbq := Lib.hid (show Below w0.heap.size w0 wq from hbq)
      clear hbq hu hlk
      go_wp2_with fail
      go_ret
      exact ⟨rfl, below_trans Hw0b.out Hbq.out⟩

set_option maxRecDepth 100000 in
set_option maxHeartbeats 4000000 in
theorem openN_any (P Q G H key k j p0 p1 p2 p3 n bu bv tu tw tv : Nat) (R : Value) (label : List UInt8) (b : Addr) (cap : Nat) (C Z : NumV) (w : World) (hP : P < 18446744073709551616) (hQ : Q < 18446744073709551616) (hG : G < 18446744073709551616) (hH : H < 18446744073709551616) (hkey : key < 18446744073709551616) (hbu : bu < 18446744073709551616) (hbv : bv < 18446744073709551616) (htu : tu < 18446744073709551616) (htw : tw < 18446744073709551616) (htv : tv < 18446744073709551616) (hPr : rightB P = true) (hQ2 : 2 ≤ Q) (hj : j < 3) (hkn : k < n) (hnl : n < 1000000)
    (e0 : w.cell? ((b.add (k * 6)).add (j * 2)) = some (.int .u64 (bu : Int))) (e1 : w.cell? ⟨((b.add (k * 6)).add (j * 2)).block, ((b.add (k * 6)).add (j * 2)).off + 1, none⟩ = some (.int .u64 (bv : Int)))
    (hC : Nums w C.A C.cap C.l) (hZ : Nums w Z.A Z.cap Z.l) (hCl : C.l.length ≤ 10000) (hZl : Z.l.length ≤ 10000) (hl : label.length ≤ 100000)
    (c0 : w.cell? ⟨p0, 0, none⟩ = some (.slice (some b) n cap)) (c1 : Blk w p1 25 (glist P Q G H R)) (c2 : w.cell? ⟨p2, 0, none⟩ = some (.string (str label))) (c3 : w.cell? ⟨p3, 0, none⟩ = some (.int .u64 (key : Int))) :
    Calls Tryz.prog 82 #[.int .i64 (k : Int), .int .i64 (j : Int), .agg #[.int .u64 (tu : Int), .int .u64 (tw : Int), .int .u64 (tv : Int)], .agg #[C.val, Z.val], .pointer (some ⟨p0, 0, none⟩), .pointer (some ⟨p1, 0, none⟩), .pointer (some ⟨p2, 0, none⟩), .pointer (some ⟨p3, 0, none⟩)] w fun e w' => e = .returned (.bool (openOne label P Q G H key bu bv tu tw tv C.l Z.l)) ∧ Below w.heap.size w w' := by
  have hcr := fun W => shares_claim P Q G H key bu bv tw R W hG hkey hbu htw
  have hac := fun W u hb hu => accept_claim P Q G H R (label ++ tOpen) [key, tw] [[G], [bu]] C Z u W hP hQ hG hH hPr hQ2 hu (hC.below (w1 := W) hb) (hZ.below hb) (by simp [tOpen]; omega) (by simp) (by simp) (by simp) hCl hZl
  have hst : ∀ W, (Op.stringOp .add (str label) { data := #[47, 111, 112, 101, 110] }).run Tryz.prog W = .ok (.string (str (label ++ tOpen))) W := fun W => str_add Tryz.prog label tOpen (by simp [tOpen]; omega) W
  obtain ⟨out, hout⟩ : ∃ s, s = (openOne label P Q G H key bu bv tu tw tv C.l Z.l) := ⟨_, rfl⟩; obtain ⟨acc, hacc⟩ : ∃ s, s = (acceptB (label ++ tOpen) P Q G H [key, tw] [[G], [bu]] C.l Z.l) := ⟨_, rfl⟩
  rw [← hacc] at hac
  rw [← hout]
  have hout2 : out = (decide (bu = tu) && decide (bv = tv) && acc) := by rw [hout, hacc]; rfl
  obtain ⟨CA, Cc, Cl⟩ := C
  obtain ⟨ZA, Zc, Zl⟩ := Z
  simp only [NumV.val] at hac ⊢
  obtain ⟨nC, hnC⟩ : ∃ s, s = (Cl.length) := ⟨_, rfl⟩; obtain ⟨nZ, hnZ⟩ : ∃ s, s = (Zl.length) := ⟨_, rfl⟩
  rw [← hnC, ← hnZ] at hac
  rw [← hnC, ← hnZ]
  obtain ⟨w0, hw0⟩ : ∃ z, z = (((w.alloc (.cells #[.int .u64 (tu : Int), .int .u64 (tw : Int), .int .u64 (tv : Int)] 38)).alloc (.cells #[.slice CA nC Cc, .slice ZA nZ Zc] 42)).alloc (.cells #[.int .u64 (bu : Int), .int .u64 (bv : Int)] 61)) := ⟨_, rfl⟩
  have hw0b : Below w.heap.size w w0 := by rw [hw0]; exact lat_alloc (lat_alloc (lat_alloc (Below.refl _ _) _) _) _
  have ht : Blk w0 (w.heap.size) 38 [.int .u64 (tu : Int), .int .u64 (tw : Int), .int .u64 (tv : Int)] := by rw [hw0]; exact (((Blk.of w _ _ _ rfl).alloc _).alloc _)
  have hf : Blk w0 (w.heap.size + 1) 42 [.slice CA nC Cc, .slice ZA nZ Zc] := by rw [hw0]; exact ((Blk.at_new _ _ _ _ _ (by simp) rfl).alloc _)
  have ha : Blk w0 (w.heap.size + 1 + 1) 61 [.int .u64 (bu : Int), .int .u64 (bv : Int)] := by rw [hw0]; exact (Blk.at_new _ _ _ _ _ (by simp) rfl)
  have k0 := fun o1 o2 => below_cell (lat_alloc (lat_alloc (Below.refl w.heap.size w) o1) o2) c0
  have k1 := fun o1 o2 => below_cell (lat_alloc (lat_alloc (Below.refl w.heap.size w) o1) o2) e0
  have k2 := fun o1 o2 => below_cell (lat_alloc (lat_alloc (Below.refl w.heap.size w) o1) o2) e1
  have hki : (k : Int) < (n : Int) := by omega
  have hji : (j : Int) < 3 := by omega
  have Hcells := Lib.hid (And.intro (gcells (c1.below hw0b c1.lt)) (And.intro (below_cell hw0b c2) (And.intro (below_cell hw0b c3) (And.intro (cells_3 ht) (And.intro (cells_2 hf) (cells_2 ha))))))
  have Hcr := Lib.hid hcr; have Hac := Lib.hid hac; have Hw0b := Lib.hid hw0b; have Hw0 := Lib.hid hw0; have Hout2 := Lib.hid hout2; clear hcr hac hw0b hw0 hout2
  clear hout hacc hnC hnZ ht hf ha c0 c1 c2 c3 e0 e1 hC hZ hCl hZl hkn
  go_enter Tryz.func82, Tryz.ntmps82
  go_wp2_with fail
  rw [← Hw0.out]
  obtain ⟨⟨g0, g1, g2, g3, g4⟩, q2, q3, ⟨t0, t1, t2⟩, ⟨f0, f1⟩, ⟨a0, a1⟩⟩ := Hcells.out
  have l0 := Later.cell g0
  have l1 := Later.cell g1
  have l2 := Later.cell g2
  have l3 := Later.cell g3
  have l4 := Later.cell g4
  have l5 := Later.cell q2
  have l6 := Later.cell q3
  have l7 := Later.cell t0
  have l8 := Later.cell t1
  have l9 := Later.cell t2
  have l10 := Later.cell f0
  have l11 := Later.cell f1
  have l12 := Later.cell a0
  have l13 := Later.cell a1
  clear g0 g1 g2 g3 g4 q2 q3 t0 t1 t2 f0 f1 a0 a1
  by_cases he : bu = tu
  case neg =>
    have d0 : ((bu : Int) == (tu : Int)) = false := by rw [beq_eq_false_iff_ne]; omega
    have ho : out = false := by rw [Hout2.out, decide_eq_false he]; rfl
    subst ho
    (refine region_calm (by kernel_rfl) (by kernel_rfl) ?_; (repeat (go_big_quiet_step (fail))); refine wpQuiet_nil ?_; intro wq hw'; obtain ⟨pq, hpq⟩ := hw'; have hbq := pq.below; rw [← hpq] at hbq; clear hpq pq; try dsimp only)
    go_wp2_with fail
    go_ret
    exact ⟨rfl, below_trans Hw0b.out hbq⟩
  subst he
  by_cases he2 : bv = tv
  case neg =>
    have d1 : ((bv : Int) == (tv : Int)) = false := by rw [beq_eq_false_iff_ne]; omega
    have ho : out = false := by rw [Hout2.out, decide_eq_false he2]; simp
    subst ho
    (refine region_calm (by kernel_rfl) (by kernel_rfl) ?_; (repeat (go_big_quiet_step (fail))); refine wpQuiet_nil ?_; intro wq hw'; obtain ⟨pq, hpq⟩ := hw'; have hbq := pq.below; rw [← hpq] at hbq; clear hpq pq; try dsimp only)
    go_wp2_with fail
    go_ret
    exact ⟨rfl, below_trans Hw0b.out hbq⟩
  subst he2
  have ho : out = acc := by rw [Hout2.out, decide_eq_true rfl, decide_eq_true rfl]; rfl
  subst ho
  refine region_loose [(36, ClaimV [key, tw] [[G], [bu]]), (38, fun u _ => u = .bool out)]
    (Know.stable_cons (fun _ _ _ h hl => h.later hl) (Know.stable_cons (fun _ _ _ h _ => h) Know.stable_nil)) (by kernel_rfl) (by kernel_rfl) ?_
  (repeat (first | (refine loose_skip (by rfl) ?_; simp only [Act.put, List.setIfInBounds_toArray, List.set_cons_zero, List.set_cons_succ]) | (refine loose_plain (by rfl) (by rfl) (by rfl) (fun Kc hKc => ?_); go_big_quiet_op; refine hKc _ ?_; clear hKc Kc)))
  refine loose_call 36 (f := 83) (args := #[.agg #[.int .u64 (P : Int), .int .u64 (Q : Int), .int .u64 (G : Int), .int .u64 (H : Int), R], .int .u64 (key : Int), .agg #[.int .u64 (bu : Int), .int .u64 (bv : Int)], .int .u64 (tw : Int)]) (fun w => by go_simp; try rfl) (by rfl) (by rfl) (by rfl) (fun wk hl _ => Hcr.out wk) ?_
  intro u wk hlk hu
  simp only [Act.put, List.setIfInBounds_toArray, List.set_cons_zero, List.set_cons_succ]
  (repeat (first | (refine loose_skip (by rfl) ?_; simp only [Act.put, List.setIfInBounds_toArray, List.set_cons_zero, List.set_cons_succ]) | (refine loose_plain (by rfl) (by rfl) (by rfl) (fun Kc hKc => ?_); go_big_quiet_op; refine hKc _ ?_; clear hKc Kc)))
  refine loose_fix 38 (.bool out) (f := 78) (args := #[.agg #[.int .u64 (P : Int), .int .u64 (Q : Int), .int .u64 (G : Int), .int .u64 (H : Int), R], .string (str (label ++ tOpen)), u, .agg #[.slice CA nC Cc, .slice ZA nZ Zc]]) (fun w => by go_simp; try rfl) (by rfl) (by rfl) (by rfl) (fun _ _ => Iff.rfl) (fun wk2 hl2 hd => Hac.out wk2 u (below_trans Hw0b.out hl2) (hd 36 (by decide) _ (.inl ⟨rfl, rfl⟩))) ?_
  simp only [Act.put, List.setIfInBounds_toArray, List.set_cons_zero, List.set_cons_succ]
  (repeat (first | (refine loose_skip (by rfl) ?_; simp only [Act.put, List.setIfInBounds_toArray, List.set_cons_zero, List.set_cons_succ]) | (refine loose_plain (by rfl) (by rfl) (by rfl) (fun Kc hKc => ?_); go_big_quiet_op; refine hKc _ ?_; clear hKc Kc)))
  refine loose_nil ?_
  intro wq hbq _
  have Hbq := Lib.hid (show Below w0.heap.size w0 wq from hbq)
  clear hbq hu hlk
  go_wp2_with fail
  go_ret
  exact ⟨rfl, below_trans Hw0b.out Hbq.out⟩
end Go.Proofs.YtbpenkaficiodaaGreat

/- Crossings and openings: is what is passed believed? Both walks. -/
namespace Go.Proofs.YtbpenkaficiodaaGreat
open Go.RowKit Go.BigFrame

def crossAt (label : List UInt8) (P Q G H key y : Nat) (rows : List TriV) (ls : List PassedV) (i j : Nat) : Bool := match rows[i]?, ls[i]? with
  | some a, some x => crossOne label P Q G H key y (a.u j) (a.w j) (a.v j) (x.t.u j) (x.t.w j) (x.t.v j) (x.c j).l (x.a j).l
  | _, _ => false
def crossB (label : List UInt8) (P Q G H key y : Nat) (rows : List TriV) (ls : List PassedV) : Bool := decide (ls.length = rows.length) && allU (crossAt label P Q G H key y rows ls) rows.length
def openAt (label : List UInt8) (P Q G H key : Nat) (bs : List BoxV) (ls : List PassedV) (i j : Nat) : Bool := match bs[i]?, ls[i]? with
  | some b, some x => openOne label P Q G H key (b.u j) (b.v j) (x.t.u j) (x.t.w j) (x.t.v j) (x.c j).l (x.a j).l
  | _, _ => false
def openB (label : List UInt8) (P Q G H key : Nat) (bs : List BoxV) (ls : List PassedV) : Bool := decide (ls.length = bs.length) && allU (openAt label P Q G H key bs ls) bs.length
def shortP (ls : List PassedV) : Prop := ∀ x ∈ ls, ∀ j, j < 3 → (x.c j).l.length ≤ 10000 ∧ (x.a j).l.length ≤ 10000

set_option maxRecDepth 100000 in
set_option maxHeartbeats 4000000 in
theorem crossing_any (P Q G H key y : Nat) (R : Value) (label : List UInt8) (A : Option Addr) (cap : Nat) (rows : List TriV) (B : Option Addr) (capB : Nat) (ls : List PassedV) (w : World) (hP : P < 18446744073709551616) (hQ : Q < 18446744073709551616) (hG : G < 18446744073709551616) (hH : H < 18446744073709551616) (hkey : key < 18446744073709551616) (hy : y < 18446744073709551616) (hPr : rightB P = true) (hQ2 : 2 ≤ Q)
    (hr : Tris w A cap rows) (hs : Passeds w B capB ls) (hsh : shortP ls) (hrl : rows.length < 1000000) (hll : ls.length < 1000000) (hl : label.length ≤ 100000) :
    Calls Tryz.prog 22 #[.agg #[.int .u64 (P : Int), .int .u64 (Q : Int), .int .u64 (G : Int), .int .u64 (H : Int), R], .string (str label), .int .u64 (key : Int), .int .u64 (y : Int), .slice A rows.length cap, .slice B ls.length capB] w fun e w' => e = .returned (.bool (crossB label P Q G H key y rows ls)) ∧ Below w.heap.size w w' := by
  obtain ⟨n, hn⟩ : ∃ s, s = (rows.length) := ⟨_, rfl⟩; obtain ⟨nl, hnl⟩ : ∃ s, s = (ls.length) := ⟨_, rfl⟩; obtain ⟨out, hout⟩ : ∃ s, s = (crossB label P Q G H key y rows ls) := ⟨_, rfl⟩
  rw [← hn, ← hnl, ← hout]
  obtain ⟨w0, hw0⟩ : ∃ z, z = (((((w.alloc (.cells #[.int .u64 (P : Int), .int .u64 (Q : Int), .int .u64 (G : Int), .int .u64 (H : Int), R] 25)).alloc (.cells #[.string (str label)] 9)).alloc (.cells #[.int .u64 (key : Int)] 22)).alloc (.cells #[.int .u64 (y : Int)] 22)).alloc (.cells #[.slice A n cap] 28)) := ⟨_, rfl⟩
  have hw0b : Below w.heap.size w w0 := by rw [hw0]; exact lat_alloc (lat_alloc (lat_alloc (lat_alloc (lat_alloc (Below.refl _ _) _) _) _) _) _
  have hg : Blk w0 (w.heap.size) 25 [.int .u64 (P : Int), .int .u64 (Q : Int), .int .u64 (G : Int), .int .u64 (H : Int), R] := by rw [hw0]; exact (((((Blk.of w _ _ _ rfl).alloc _).alloc _).alloc _).alloc _)
  have hlb : Blk w0 (w.heap.size + 1) 9 [.string (str label)] := by rw [hw0]; exact ((((Blk.at_new _ _ _ _ _ (by simp) rfl).alloc _).alloc _).alloc _)
  have hk : Blk w0 (w.heap.size + 1 + 1) 22 [.int .u64 (key : Int)] := by rw [hw0]; exact (((Blk.at_new _ _ _ _ _ (by simp) rfl).alloc _).alloc _)
  have hd : Blk w0 (w.heap.size + 1 + 1 + 1) 22 [.int .u64 (y : Int)] := by rw [hw0]; exact ((Blk.at_new _ _ _ _ _ (by simp) rfl).alloc _)
  have hi : Blk w0 (w.heap.size + 1 + 1 + 1 + 1) 28 [.slice A n cap] := by rw [hw0]; exact (Blk.at_new _ _ _ _ _ (by simp) rfl)
  have hev := everyC_any n B capB ls (w.heap.size + 1 + 1 + 1 + 1) w.heap.size (w.heap.size + 1) (w.heap.size + 1 + 1) (w.heap.size + 1 + 1 + 1) (crossAt label P Q G H key y rows ls) w0 (hs.below hw0b) hll (fun W i x hb hx hin j hj => by
    obtain ⟨a, ha⟩ : ∃ a, rows[i]? = some a := ⟨_, List.getElem?_eq_getElem (by rw [← hn]; exact hin)⟩
    obtain ⟨bb, hbb, hcell⟩ := tri_at (hr.below (below_trans hw0b hb)) ha
    obtain ⟨e0, e1, e2⟩ := hcell j hj
    obtain ⟨s0, s1, s2⟩ := hr.small a (List.mem_of_getElem? ha) j hj
    obtain ⟨t0, t1, t2⟩ := hs.small x (List.mem_of_getElem? hx) j hj
    obtain ⟨m0, m1⟩ := hs.nums x (List.mem_of_getElem? hx) j hj
    obtain ⟨z0, z1⟩ := hsh x (List.mem_of_getElem? hx) j hj
    subst hbb
    have h := crossN_any P Q G H key y i j _ _ _ _ _ n (a.u j) (a.w j) (a.v j) (x.t.u j) (x.t.w j) (x.t.v j) R label bb cap (x.c j) (x.a j) W hP hQ hG hH hkey hy s0 s1 s2 t0 t1 t2 hPr hQ2 hj hin (by omega) e0 e1 e2 (m0.below (below_trans hw0b hb)) (m1.below (below_trans hw0b hb)) z0 z1 hl
      (cells_1 (hi.below hb hi.lt)) (hg.below hb hg.lt) (cells_1 (hlb.below hb hlb.lt)) (cells_1 (hk.below hb hk.lt)) (cells_1 (hd.below hb hd.lt))
    have hc : crossAt label P Q G H key y rows ls i j = crossOne label P Q G H key y (a.u j) (a.w j) (a.v j) (x.t.u j) (x.t.w j) (x.t.v j) (x.c j).l (x.a j).l := by unfold crossAt; rw [ha, hx]
    rw [hc]
    exact h)
  have hout2 : (decide (ls.length = n) && allU (crossAt label P Q G H key y rows ls) n) = out := by rw [hout, crossB, hn]
  rw [hout2, ← hnl] at hev
  obtain ⟨g0, g1, g2, g3, g4⟩ := gcells hg
  have i0 := cells_1 hi
  have Hev := Lib.hid hev; have Hw0b := Lib.hid hw0b; have Hw0 := Lib.hid hw0; clear hev hw0b hw0
  clear hg hlb hk hd hi hr hs hsh hout hout2 hn hnl hrl hll
  go_enter Tryz.func22, Tryz.ntmps22
  go_wp2_with (first | (go_at_call 75; rw [← Hw0.out]; refine Hev.out.mono ?_; rintro e w3 ⟨rfl, hb3⟩; have Hb3 := Lib.hid hb3; clear hb3) | fail)
  go_ret
  exact ⟨rfl, below_trans Hw0b.out Hb3.out⟩
set_option maxRecDepth 100000 in
set_option maxHeartbeats 4000000 in
theorem opening_any (P Q G H key : Nat) (R : Value) (label : List UInt8) (A : Option Addr) (cap : Nat) (bs : List BoxV) (B : Option Addr) (capB : Nat) (ls : List PassedV) (w : World) (hP : P < 18446744073709551616) (hQ : Q < 18446744073709551616) (hG : G < 18446744073709551616) (hH : H < 18446744073709551616) (hkey : key < 18446744073709551616) (hPr : rightB P = true) (hQ2 : 2 ≤ Q)
    (hr : Boxes w A cap bs) (hs : Passeds w B capB ls) (hsh : shortP ls) (hrl : bs.length < 1000000) (hll : ls.length < 1000000) (hl : label.length ≤ 100000) :
    Calls Tryz.prog 24 #[.agg #[.int .u64 (P : Int), .int .u64 (Q : Int), .int .u64 (G : Int), .int .u64 (H : Int), R], .string (str label), .int .u64 (key : Int), .slice A bs.length cap, .slice B ls.length capB] w fun e w' => e = .returned (.bool (openB label P Q G H key bs ls)) ∧ Below w.heap.size w w' := by
  obtain ⟨n, hn⟩ : ∃ s, s = (bs.length) := ⟨_, rfl⟩; obtain ⟨nl, hnl⟩ : ∃ s, s = (ls.length) := ⟨_, rfl⟩; obtain ⟨out, hout⟩ : ∃ s, s = (openB label P Q G H key bs ls) := ⟨_, rfl⟩
  rw [← hn, ← hnl, ← hout]
  obtain ⟨w0, hw0⟩ : ∃ z, z = ((((w.alloc (.cells #[.int .u64 (P : Int), .int .u64 (Q : Int), .int .u64 (G : Int), .int .u64 (H : Int), R] 25)).alloc (.cells #[.string (str label)] 9)).alloc (.cells #[.int .u64 (key : Int)] 22)).alloc (.cells #[.slice A n cap] 34)) := ⟨_, rfl⟩
  have hw0b : Below w.heap.size w w0 := by rw [hw0]; exact lat_alloc (lat_alloc (lat_alloc (lat_alloc (Below.refl _ _) _) _) _) _
  have hg : Blk w0 (w.heap.size) 25 [.int .u64 (P : Int), .int .u64 (Q : Int), .int .u64 (G : Int), .int .u64 (H : Int), R] := by rw [hw0]; exact ((((Blk.of w _ _ _ rfl).alloc _).alloc _).alloc _)
  have hlb : Blk w0 (w.heap.size + 1) 9 [.string (str label)] := by rw [hw0]; exact (((Blk.at_new _ _ _ _ _ (by simp) rfl).alloc _).alloc _)
  have hk : Blk w0 (w.heap.size + 1 + 1) 22 [.int .u64 (key : Int)] := by rw [hw0]; exact ((Blk.at_new _ _ _ _ _ (by simp) rfl).alloc _)
  have hi : Blk w0 (w.heap.size + 1 + 1 + 1) 34 [.slice A n cap] := by rw [hw0]; exact (Blk.at_new _ _ _ _ _ (by simp) rfl)
  have hev := everyO_any n B capB ls (w.heap.size + 1 + 1 + 1) w.heap.size (w.heap.size + 1) (w.heap.size + 1 + 1) (openAt label P Q G H key bs ls) w0 (hs.below hw0b) hll (fun W i x hb hx hin j hj => by
    obtain ⟨a, ha⟩ : ∃ a, bs[i]? = some a := ⟨_, List.getElem?_eq_getElem (by rw [← hn]; exact hin)⟩
    obtain ⟨bb, hbb, hcell⟩ := pair_at (hr.below (below_trans hw0b hb)) ha
    obtain ⟨e0, e1⟩ := hcell j hj
    obtain ⟨s0, s1⟩ := hr.small a (List.mem_of_getElem? ha) j hj
    obtain ⟨t0, t1, t2⟩ := hs.small x (List.mem_of_getElem? hx) j hj
    obtain ⟨m0, m1⟩ := hs.nums x (List.mem_of_getElem? hx) j hj
    obtain ⟨z0, z1⟩ := hsh x (List.mem_of_getElem? hx) j hj
    subst hbb
    have h := openN_any P Q G H key i j _ _ _ _ n (a.u j) (a.v j) (x.t.u j) (x.t.w j) (x.t.v j) R label bb cap (x.c j) (x.a j) W hP hQ hG hH hkey s0 s1 t0 t1 t2 hPr hQ2 hj hin (by omega) e0 e1 (m0.below (below_trans hw0b hb)) (m1.below (below_trans hw0b hb)) z0 z1 hl
      (cells_1 (hi.below hb hi.lt)) (hg.below hb hg.lt) (cells_1 (hlb.below hb hlb.lt)) (cells_1 (hk.below hb hk.lt))
    have hc : openAt label P Q G H key bs ls i j = openOne label P Q G H key (a.u j) (a.v j) (x.t.u j) (x.t.w j) (x.t.v j) (x.c j).l (x.a j).l := by unfold openAt; rw [ha, hx]
    rw [hc]
    exact h)
  have hout2 : (decide (ls.length = n) && allU (openAt label P Q G H key bs ls) n) = out := by rw [hout, openB, hn]
  rw [hout2, ← hnl] at hev
  obtain ⟨g0, g1, g2, g3, g4⟩ := gcells hg
  have i0 := cells_1 hi
  have Hev := Lib.hid hev; have Hw0b := Lib.hid hw0b; have Hw0 := Lib.hid hw0; clear hev hw0b hw0
  clear hg hlb hk hi hr hs hsh hout hout2 hn hnl hrl hll
  go_enter Tryz.func24, Tryz.ntmps24
  go_wp2_with (first | (go_at_call 75; rw [← Hw0.out]; refine Hev.out.mono ?_; rintro e w3 ⟨rfl, hb3⟩; have Hb3 := Lib.hid hb3; clear hb3) | fail)
  go_ret
  exact ⟨rfl, below_trans Hw0b.out Hb3.out⟩

theorem pas_at {w : World} {A : Option Addr} {cap k : Nat} {ls : List PassedV} {x : PassedV} (h : Passeds w A cap ls) (hx : ls[k]? = some x) : ∃ b, A = some b ∧ ∀ j, j < 3 →
    (w.cell? ((b.add (k * 15)).add (j * 3)) = some (.int .u64 (x.t.u j : Int)) ∧ w.cell? ⟨((b.add (k * 15)).add (j * 3)).block, ((b.add (k * 15)).add (j * 3)).off + 1, none⟩ = some (.int .u64 (x.t.w j : Int)) ∧
    w.cell? ⟨((b.add (k * 15)).add (j * 3)).block, ((b.add (k * 15)).add (j * 3)).off + 2, none⟩ = some (.int .u64 (x.t.v j : Int))) ∧
    w.cell? ⟨(b.add (k * 15)).block, (b.add (k * 15)).off + 9 + j * 2, none⟩ = some (x.c j).val ∧ w.cell? ⟨(b.add (k * 15)).block, (b.add (k * 15)).off + 9 + j * 2 + 1, none⟩ = some (x.a j).val := by
  obtain ⟨b, hb, q0, q1, q2, q3, q4, q5, q6, q7, q8, q9, q10, q11, q12, q13, q14⟩ := recs_15 h.recs (k := k) (by rw [List.getElem?_map, hx]; rfl)
  refine ⟨b, hb, three_cases ⟨⟨?_, ?_, ?_⟩, ?_, ?_⟩ ⟨⟨at_add q3, at_add' q4, at_add' q5⟩, ?_, ?_⟩ ⟨⟨at_add q6, at_add' q7, at_add' q8⟩, ?_, ?_⟩⟩
  · exact q0
  · exact q1
  · exact q2
  · exact q9
  · exact q10
  · exact q11
  · exact q12
  · exact q13
  · exact q14

set_option maxRecDepth 100000 in
set_option maxHeartbeats 4000000 in
theorem refCrossing_any (P Q G H key y : Nat) (R : Value) (label : List UInt8) (A : Option Addr) (cap : Nat) (rows : List TriV) (B : Option Addr) (capB : Nat) (ls : List PassedV) (w : World) (hP : P < 18446744073709551616) (hQ : Q < 18446744073709551616) (hG : G < 18446744073709551616) (hH : H < 18446744073709551616) (hkey : key < 18446744073709551616) (hy : y < 18446744073709551616) (hQ2 : 2 ≤ Q)
    (hr : Tris w A cap rows) (hs : Passeds w B capB ls) (hsh : shortP ls) (hrl : rows.length < 1000000) (hll : ls.length < 1000000) (hl : label.length ≤ 100000) :
    Calls Tryz.prog 23 #[.agg #[.int .u64 (P : Int), .int .u64 (Q : Int), .int .u64 (G : Int), .int .u64 (H : Int), R], .string (str label), .int .u64 (key : Int), .int .u64 (y : Int), .slice A rows.length cap, .slice B ls.length capB] w fun e w' => e = .returned (.bool (crossB label P Q G H key y rows ls)) ∧ Below w.heap.size w w' := by
  have hin := fun x W (hx : x < 18446744073709551616) => refIn_any P Q G H x R W hP hQ hx
  have hst : ∀ W, (Op.stringOp .add (str label) { data := #[47, 99, 114, 111, 115, 115] }).run Tryz.prog W = .ok (.string (str (label ++ tCross))) W := fun W => str_add Tryz.prog label tCross (by simp [tCross]; omega) W
  unfold gval at hin
  obtain ⟨n, hn⟩ : ∃ s, s = (rows.length) := ⟨_, rfl⟩; obtain ⟨nl, hnl⟩ : ∃ s, s = (ls.length) := ⟨_, rfl⟩; obtain ⟨out, hout⟩ : ∃ s, s = (crossB label P Q G H key y rows ls) := ⟨_, rfl⟩
  rw [← hn, ← hnl, ← hout]
  obtain ⟨w0, hw0⟩ : ∃ z, z = (w.alloc (.cells #[.int .u64 (P : Int), .int .u64 (Q : Int), .int .u64 (G : Int), .int .u64 (H : Int), R] 25)) := ⟨_, rfl⟩
  have hw0b : Below w.heap.size w w0 := by rw [hw0]; exact lat_alloc (Below.refl _ _) _
  have hg : Blk w0 (w.heap.size) 25 [.int .u64 (P : Int), .int .u64 (Q : Int), .int .u64 (G : Int), .int .u64 (H : Int), R] := by rw [hw0]; exact (Blk.of w _ _ _ rfl)
  by_cases h1 : nl = n
  case neg =>
    have d1 : ((nl : Int) != (n : Int)) = true := by rw [bne_iff_ne]; omega
    have ho : out = false := by rw [hout, crossB, decide_eq_false (by rw [← hn, ← hnl]; exact h1)]; rfl
    subst ho
    have Hw0b := Lib.hid hw0b; have Hw0 := Lib.hid hw0; clear hw0b hw0
    clear hout h1 hr hs hsh hn hnl hg hin hst hrl hll
    go_enter Tryz.func23, Tryz.ntmps23
    go_wp2_with fail
    go_ret
    rw [← Hw0.out]
    exact ⟨rfl, Hw0b.out⟩
  subst h1
  have ho : out = allU (crossAt label P Q G H key y rows ls) nl := by rw [hout, crossB, ← hnl, ← hn, decide_eq_true rfl]; rfl
  have hl' : nl < 1000000 := by omega
  clear hout hrl hll
  have Ho := Lib.hid ho; have Hr := Lib.hid hr; have Hs := Lib.hid hs; have Hsh := Lib.hid hsh; have Hnl := Lib.hid hnl; have Hn := Lib.hid hn; have Hg := Lib.hid hg; have Hin := Lib.hid hin; have Hw0b := Lib.hid hw0b; have Hw0 := Lib.hid hw0; clear ho hr hs hsh hnl hn hg hin hw0b hw0
  go_enter Tryz.func23, Tryz.ntmps23
  go_wp2_with fail
  rw [← Hw0.out]
  go_loopw [13] (fun kv wr => ∃ k : Nat, kv = .int .i64 (k : Int) ∧ k ≤ nl ∧ allU (crossAt label P Q G H key y rows ls) k = true ∧ Below w0.heap.size w0 wr) (fun kv _ => nl - (intOf kv).toNat)
  case atStart => exact ⟨0, rfl, by omega, rfl, Below.refl _ _⟩
  case round =>
    obtain ⟨k, rfl, hk, hak, hbr⟩ := hrel
    have Hak := Lib.hid hak; have Hbr := Lib.hid hbr; clear hak hbr
    by_cases hkl : k < nl
    · have d8 : decide ((k : Int) < (nl : Int)) = true := decide_eq_true (by omega)
      have hki : (k : Int) < (nl : Int) := by omega
      obtain ⟨x, hx⟩ : ∃ x, ls[k]? = some x := ⟨_, List.getElem?_eq_getElem (by rw [← Hnl.out]; exact hkl)⟩
      obtain ⟨a, ha⟩ : ∃ a, rows[k]? = some a := ⟨_, List.getElem?_eq_getElem (by rw [← Hn.out]; exact hkl)⟩
      have Hx := Lib.hid hx; have Ha := Lib.hid ha; clear hx ha
      go_wp2_with fail
      go_loopw [14] (fun jv wq => ∃ j : Nat, jv = .int .i64 (j : Int) ∧ j ≤ 3 ∧ (∀ i, i < j → crossAt label P Q G H key y rows ls k i = true) ∧ Below w0.heap.size w0 wq) (fun jv _ => 3 - (intOf jv).toNat)
      case atStart => exact ⟨0, rfl, by omega, by omega, Hbr.out⟩
      case round =>
        obtain ⟨j, rfl, hj, hej, hbj⟩ := hrel
        have Hej := Lib.hid hej; have Hbj := Lib.hid hbj; clear hej hbj
        by_cases hj3 : j < 3
        · have d9 : decide ((j : Int) < 3) = true := decide_eq_true (by omega)
          have hji : (j : Int) < 3 := by omega
          have hbw := below_trans Hw0b.out Hbj.out
          obtain ⟨b, hAb, hca⟩ := tri_at (Hr.out.below hbw) Ha.out
          obtain ⟨e0, e1, e2⟩ := hca j hj3
          obtain ⟨bb, hBb, hcx⟩ := pas_at (Hs.out.below hbw) Hx.out
          obtain ⟨⟨x0, x1, x2⟩, x3, x4⟩ := hcx j hj3
          subst hAb hBb
          have k0 := fun o1 => below_cell (lat_alloc (Below.refl wr.heap.size wr) o1) x0
          have k1 := fun o1 => below_cell (lat_alloc (Below.refl wr.heap.size wr) o1) x1
          have k2 := fun o1 => below_cell (lat_alloc (Below.refl wr.heap.size wr) o1) x2
          go_wp2_with fail
          obtain ⟨s0, s1, s2⟩ := Hr.out.small a (List.mem_of_getElem? Ha.out) j hj3
          obtain ⟨t0, t1, t2⟩ := Hs.out.small x (List.mem_of_getElem? Hx.out) j hj3
          obtain ⟨v0, v1⟩ := Hs.out.nums x (List.mem_of_getElem? Hx.out) j hj3
          obtain ⟨z0, z1⟩ := Hsh.out x (List.mem_of_getElem? Hx.out) j hj3
          have hca : crossAt label P Q G H key y rows ls k j = crossOne label P Q G H key y (a.u j) (a.w j) (a.v j) (x.t.u j) (x.t.w j) (x.t.v j) (x.c j).l (x.a j).l := by unfold crossAt; rw [Ha.out, Hx.out]
          generalize hau : a.u j = au at *
          generalize haw : a.w j = aw at *
          generalize hav : a.v j = av at *
          generalize htu : x.t.u j = tu at *
          generalize htw : x.t.w j = tw at *
          generalize htv : x.t.v j = tv at *
          obtain ⟨wy, hwy⟩ : ∃ z, z = (wr.alloc (.cells #[.int .u64 (au : Int), .int .u64 (aw : Int), .int .u64 (av : Int)] 38)).alloc (.cells #[.int .u64 (tu : Int), .int .u64 (tw : Int), .int .u64 (tv : Int)] 38) := ⟨_, rfl⟩
          have hby : Below w0.heap.size w0 wy := by rw [hwy]; exact lat_alloc (lat_alloc Hbj.out _) _
          have hry : Below wr.heap.size wr wy := by rw [hwy]; exact lat_alloc (lat_alloc (Below.refl _ _) _) _
          have hm : Blk wy wr.heap.size 38 [.int .u64 (au : Int), .int .u64 (aw : Int), .int .u64 (av : Int)] := by rw [hwy]; exact (Blk.of wr _ _ _ rfl).alloc _
          have hn2 : Blk wy (wr.heap.size + 1) 38 [.int .u64 (tu : Int), .int .u64 (tw : Int), .int .u64 (tv : Int)] := by rw [hwy]; exact Blk.at_new _ _ _ _ _ (by simp) rfl
          rw [← hwy]
          obtain ⟨g0, g1, g2, g3, g4⟩ := gcells (Hg.out.below hby Hg.out.lt)
          obtain ⟨m0, m1, m2⟩ := cells_3 hm
          obtain ⟨n0, n1, n2⟩ := cells_3 hn2
          have y0 := below_cell hry x3
          have y1 := below_cell hry x4
          simp only [NumV.val] at y0 y1
          have l0 := Later.cell g0
          have l1 := Later.cell g1
          have l2 := Later.cell g2
          have l3 := Later.cell g3
          have l4 := Later.cell g4
          have l5 := Later.cell m0
          have l6 := Later.cell m1
          have l7 := Later.cell m2
          have l8 := Later.cell n0
          have l9 := Later.cell n1
          have l10 := Later.cell n2
          have l11 := Later.cell y0
          have l12 := Later.cell y1
          clear g0 g1 g2 g3 g4 m0 m1 m2 n0 n1 n2 y0 y1 e0 e1 e2 x0 x1 x2 x3 x4 k0 k1 k2 hm hn2 hcx hwy hry
          have hac := fun W u hb hu => refAccept_claim P Q G H R (label ++ tCross) [key, overG P tw aw, overG P tv av] [[G, 1], [1, G], [overG P 1 au, y]] (x.c j) (x.a j) u W hP hQ hG hH hQ2 hu (v0.below (w1 := W) (below_trans Hw0b.out (below_trans hby hb))) (v1.below (below_trans Hw0b.out (below_trans hby hb))) (by simp [tCross]; omega) (by simp) (by simp) (by simp) z0 z1
          have hcr := fun W => refCrosses_claim P Q G H key y au aw av tu tw tv R W hP hG hkey hy s0 s1 s2 t1 t2
          obtain ⟨r, hr⟩ : ∃ s, s = (crossAt label P Q G H key y rows ls k j) := ⟨_, rfl⟩; obtain ⟨acc, hacc⟩ : ∃ s, s = (acceptB (label ++ tCross) P Q G H [key, overG P tw aw, overG P tv av] [[G, 1], [1, G], [overG P 1 au, y]] (x.c j).l (x.a j).l) := ⟨_, rfl⟩; obtain ⟨r1, hr1⟩ : ∃ s, s = (inG P Q tw) := ⟨_, rfl⟩; obtain ⟨r2, hr2⟩ : ∃ s, s = (inG P Q tv) := ⟨_, rfl⟩
          have h1 := fun W => Hin.out tw W t1
          have h2 := fun W => Hin.out tv W t2
          rw [← hr1] at h1
          rw [← hr2] at h2
          rw [← hacc] at hac
          have hrr : r = (decide (au = tu) && r1 && r2 && acc) := by rw [hr, hca, hr1, hr2, hacc]; rfl
          have hno : r = false → out = false := fun h => by rw [Ho.out]; exact allU_no hkl hj3 (by rw [← hr]; exact h)
          have hye : r = true → ∀ i, i < j + 1 → crossAt label P Q G H key y rows ls k i = true := fun h => upto_next Hej.out (by rw [← hr]; exact h)
          have H1 := Lib.hid h1; have H2 := Lib.hid h2; have Hac := Lib.hid hac; have Hcr := Lib.hid hcr; have Hrr := Lib.hid hrr; have Hno := Lib.hid hno; have Hye := Lib.hid hye; have Hby := Lib.hid hby; clear h1 h2 hac hcr hrr hno hye hby
          clear hr1 hr2 hacc hr hca hau haw hav htu htw htv v0 v1 z0 z1 s0 s1 s2 t0 t1 t2
          by_cases he : au = tu
          case neg =>
            have d0 : ((au : Int) != (tu : Int)) = true := by rw [bne_iff_ne]; omega
            have ho := Hno.out (by rw [Hrr.out, decide_eq_false he]; rfl)
            subst ho
            (refine region_calm (by kernel_rfl) (by kernel_rfl) ?_; (repeat (go_big_quiet_step (fail))); refine wpQuiet_nil ?_; intro wq hw'; obtain ⟨pq, hpq⟩ := hw'; have hbq := pq.below; rw [← hpq] at hbq; clear hpq pq; try dsimp only)
            go_wp2_with fail
            go_ret
            exact ⟨rfl, below_trans Hw0b.out (below_trans Hby.out hbq)⟩
          subst he
          have d0 : ((au : Int) != (au : Int)) = false := by simp
          have hr1 : r = (r1 && r2 && acc) := by rw [Hrr.out, decide_eq_true rfl]; rfl
          cases r1 with
          | false =>
            have ho := Hno.out hr1
            subst ho
            clear hr1
            (refine region_calm (by kernel_rfl) (by kernel_rfl) ?_; (repeat (go_big_quiet_step ((go_at_call 20; with_reducible exact calm_of (H1.out _))))); refine wpQuiet_nil ?_; intro wq hw'; obtain ⟨pq, hpq⟩ := hw'; have hbq := pq.below; rw [← hpq] at hbq; clear hpq pq; try dsimp only)
            go_wp2_with fail
            go_ret
            exact ⟨rfl, below_trans Hw0b.out (below_trans Hby.out hbq)⟩
          | true =>
            cases r2 with
            | false =>
              have ho := Hno.out hr1
              subst ho
              clear hr1
              (refine region_calm (by kernel_rfl) (by kernel_rfl) ?_; (repeat (go_big_quiet_step ((first | (go_at_call 20; with_reducible exact calm_of (H1.out _)) | (go_at_call 20; with_reducible exact calm_of (H2.out _)))))); refine wpQuiet_nil ?_; intro wq hw'; obtain ⟨pq, hpq⟩ := hw'; have hbq := pq.below; rw [← hpq] at hbq; clear hpq pq; try dsimp only)
              go_wp2_with fail
              go_ret
              exact ⟨rfl, below_trans Hw0b.out (below_trans Hby.out hbq)⟩
            | true =>
              have hra : r = acc := hr1
              clear hr1
              refine region_loose [(54, fun u _ => u = .bool true), (61, fun u _ => u = .bool true), (73, ClaimV [key, overG P tw aw, overG P tv av] [[G, 1], [1, G], [overG P 1 au, y]]), (81, fun u _ => u = .bool acc)]
                (Know.stable_cons (fun _ _ _ h _ => h) (Know.stable_cons (fun _ _ _ h _ => h) (Know.stable_cons (fun _ _ _ h hl => h.later hl) (Know.stable_cons (fun _ _ _ h _ => h) Know.stable_nil)))) (by kernel_rfl) (by kernel_rfl) ?_
              (repeat (first | (refine loose_skip (by rfl) ?_; simp only [Act.put, List.setIfInBounds_toArray, List.set_cons_zero, List.set_cons_succ]) | (refine loose_plain (by rfl) (by rfl) (by rfl) (fun Kc hKc => ?_); go_big_quiet_op; refine hKc _ ?_; clear hKc Kc)))
              refine loose_fix 54 (.bool true) (f := 20) (args := #[.agg #[.int .u64 (P : Int), .int .u64 (Q : Int), .int .u64 (G : Int), .int .u64 (H : Int), R], .int .u64 (tw : Int)]) (fun w => by go_simp; try rfl) (by rfl) (by rfl) (by rfl) (fun _ _ => Iff.rfl) (fun wk hl _ => H1.out wk) ?_
              simp only [Act.put, List.setIfInBounds_toArray, List.set_cons_zero, List.set_cons_succ]
              (repeat (first | (refine loose_skip (by rfl) ?_; simp only [Act.put, List.setIfInBounds_toArray, List.set_cons_zero, List.set_cons_succ]) | (refine loose_plain (by rfl) (by rfl) (by rfl) (fun Kc hKc => ?_); go_big_quiet_op; refine hKc _ ?_; clear hKc Kc)))
              refine loose_fix 61 (.bool true) (f := 20) (args := #[.agg #[.int .u64 (P : Int), .int .u64 (Q : Int), .int .u64 (G : Int), .int .u64 (H : Int), R], .int .u64 (tv : Int)]) (fun w => by go_simp; try rfl) (by rfl) (by rfl) (by rfl) (fun _ _ => Iff.rfl) (fun wk hl _ => H2.out wk) ?_
              simp only [Act.put, List.setIfInBounds_toArray, List.set_cons_zero, List.set_cons_succ]
              (repeat (first | (refine loose_skip (by rfl) ?_; simp only [Act.put, List.setIfInBounds_toArray, List.set_cons_zero, List.set_cons_succ]) | (refine loose_plain (by rfl) (by rfl) (by rfl) (fun Kc hKc => ?_); go_big_quiet_op; refine hKc _ ?_; clear hKc Kc)))
              refine loose_call 73 (f := 81) (args := #[.agg #[.int .u64 (P : Int), .int .u64 (Q : Int), .int .u64 (G : Int), .int .u64 (H : Int), R], .int .u64 (key : Int), .int .u64 (y : Int), .agg #[.int .u64 (au : Int), .int .u64 (aw : Int), .int .u64 (av : Int)], .agg #[.int .u64 (au : Int), .int .u64 (tw : Int), .int .u64 (tv : Int)]]) (fun w => by go_simp; try rfl) (by rfl) (by rfl) (by rfl) (fun wk hl _ => Hcr.out wk) ?_
              intro u wk hlk hu
              simp only [Act.put, List.setIfInBounds_toArray, List.set_cons_zero, List.set_cons_succ]
              (repeat (first | (refine loose_skip (by rfl) ?_; simp only [Act.put, List.setIfInBounds_toArray, List.set_cons_zero, List.set_cons_succ]) | (refine loose_plain (by rfl) (by rfl) (by rfl) (fun Kc hKc => ?_); go_big_quiet_op; refine hKc _ ?_; clear hKc Kc)))
              refine loose_fix 81 (.bool acc) (f := 80) (args := #[.agg #[.int .u64 (P : Int), .int .u64 (Q : Int), .int .u64 (G : Int), .int .u64 (H : Int), R], .string (str (label ++ tCross)), u, .agg #[.slice (x.c j).A (x.c j).l.length (x.c j).cap, .slice (x.a j).A (x.a j).l.length (x.a j).cap]]) (fun w => by go_simp; try rfl) (by rfl) (by rfl) (by rfl) (fun _ _ => Iff.rfl) (fun wk2 hl2 hd => Hac.out wk2 u hl2 (hd 73 (by decide) _ (.inl ⟨rfl, rfl⟩))) ?_
              simp only [Act.put, List.setIfInBounds_toArray, List.set_cons_zero, List.set_cons_succ]
              (repeat (first | (refine loose_skip (by rfl) ?_; simp only [Act.put, List.setIfInBounds_toArray, List.set_cons_zero, List.set_cons_succ]) | (refine loose_plain (by rfl) (by rfl) (by rfl) (fun Kc hKc => ?_); go_big_quiet_op; refine hKc _ ?_; clear hKc Kc)))
              refine loose_nil ?_
              intro wq hbq _
              have Hbq := Lib.hid (show Below wy.heap.size wy wq from hbq)
              clear hbq hu hlk
              cases acc with
              | false =>
                have ho := Hno.out hra
                subst ho
                clear hra
                go_wp2_with fail
                go_ret
                exact ⟨rfl, below_trans Hw0b.out (below_trans Hby.out Hbq.out)⟩
              | true =>
                have hyf := Hye.out hra
                have Hyf := Lib.hid hyf; clear hyf
                clear hra
                go_wp2_with fail
                go_roundw
                case rel => exact ⟨j + 1, by go_num, by omega, Hyf.out, below_trans Hby.out Hbq.out⟩
                case measure => simp [intOf]; omega
        · obtain rfl : j = 3 := by omega
          have hnx := allU_next Hak.out Hej.out
          have Hnx := Lib.hid hnx; clear hnx
          have d9 : decide (((3 : Nat) : Int) < 3) = false := by decide
          go_wp2_with fail
          go_roundw
          case rel => exact ⟨k + 1, by go_num, by omega, Hnx.out, Hbj.out⟩
          case measure => simp [intOf]; omega
    · obtain rfl : k = nl := by omega
      have d8 : decide ((k : Int) < (k : Int)) = false := decide_eq_false (by omega)
      have ho2 : out = true := by rw [Ho.out, Hak.out]
      subst ho2
      go_wp2_with fail
      go_ret
      exact ⟨rfl, below_trans Hw0b.out Hbr.out⟩
set_option maxRecDepth 100000 in
set_option maxHeartbeats 4000000 in
theorem refOpening_any (P Q G H key : Nat) (R : Value) (label : List UInt8) (A : Option Addr) (cap : Nat) (bs : List BoxV) (B : Option Addr) (capB : Nat) (ls : List PassedV) (w : World) (hP : P < 18446744073709551616) (hQ : Q < 18446744073709551616) (hG : G < 18446744073709551616) (hH : H < 18446744073709551616) (hkey : key < 18446744073709551616) (hQ2 : 2 ≤ Q)
    (hr : Boxes w A cap bs) (hs : Passeds w B capB ls) (hsh : shortP ls) (hrl : bs.length < 1000000) (hll : ls.length < 1000000) (hl : label.length ≤ 100000) :
    Calls Tryz.prog 25 #[.agg #[.int .u64 (P : Int), .int .u64 (Q : Int), .int .u64 (G : Int), .int .u64 (H : Int), R], .string (str label), .int .u64 (key : Int), .slice A bs.length cap, .slice B ls.length capB] w fun e w' => e = .returned (.bool (openB label P Q G H key bs ls)) ∧ Below w.heap.size w w' := by
  have hst : ∀ W, (Op.stringOp .add (str label) { data := #[47, 111, 112, 101, 110] }).run Tryz.prog W = .ok (.string (str (label ++ tOpen))) W := fun W => str_add Tryz.prog label tOpen (by simp [tOpen]; omega) W
  obtain ⟨n, hn⟩ : ∃ s, s = (bs.length) := ⟨_, rfl⟩; obtain ⟨nl, hnl⟩ : ∃ s, s = (ls.length) := ⟨_, rfl⟩; obtain ⟨out, hout⟩ : ∃ s, s = (openB label P Q G H key bs ls) := ⟨_, rfl⟩
  rw [← hn, ← hnl, ← hout]
  obtain ⟨w0, hw0⟩ : ∃ z, z = (w.alloc (.cells #[.int .u64 (P : Int), .int .u64 (Q : Int), .int .u64 (G : Int), .int .u64 (H : Int), R] 25)) := ⟨_, rfl⟩
  have hw0b : Below w.heap.size w w0 := by rw [hw0]; exact lat_alloc (Below.refl _ _) _
  have hg : Blk w0 (w.heap.size) 25 [.int .u64 (P : Int), .int .u64 (Q : Int), .int .u64 (G : Int), .int .u64 (H : Int), R] := by rw [hw0]; exact (Blk.of w _ _ _ rfl)
  by_cases h1 : nl = n
  case neg =>
    have d1 : ((nl : Int) != (n : Int)) = true := by rw [bne_iff_ne]; omega
    have ho : out = false := by rw [hout, openB, decide_eq_false (by rw [← hn, ← hnl]; exact h1)]; rfl
    subst ho
    have Hw0b := Lib.hid hw0b; have Hw0 := Lib.hid hw0; clear hw0b hw0
    clear hout h1 hr hs hsh hn hnl hg hst hrl hll
    go_enter Tryz.func25, Tryz.ntmps25
    go_wp2_with fail
    go_ret
    rw [← Hw0.out]
    exact ⟨rfl, Hw0b.out⟩
  subst h1
  have ho : out = allU (openAt label P Q G H key bs ls) nl := by rw [hout, openB, ← hnl, ← hn, decide_eq_true rfl]; rfl
  have hl' : nl < 1000000 := by omega
  clear hout hrl hll
  have Ho := Lib.hid ho; have Hr := Lib.hid hr; have Hs := Lib.hid hs; have Hsh := Lib.hid hsh; have Hnl := Lib.hid hnl; have Hn := Lib.hid hn; have Hg := Lib.hid hg; have Hw0b := Lib.hid hw0b; have Hw0 := Lib.hid hw0; clear ho hr hs hsh hnl hn hg hw0b hw0
  go_enter Tryz.func25, Tryz.ntmps25
  go_wp2_with fail
  rw [← Hw0.out]
  go_loopw [11] (fun kv wr => ∃ k : Nat, kv = .int .i64 (k : Int) ∧ k ≤ nl ∧ allU (openAt label P Q G H key bs ls) k = true ∧ Below w0.heap.size w0 wr) (fun kv _ => nl - (intOf kv).toNat)
  case atStart => exact ⟨0, rfl, by omega, rfl, Below.refl _ _⟩
  case round =>
    obtain ⟨k, rfl, hk, hak, hbr⟩ := hrel
    have Hak := Lib.hid hak; have Hbr := Lib.hid hbr; clear hak hbr
    by_cases hkl : k < nl
    · have d8 : decide ((k : Int) < (nl : Int)) = true := decide_eq_true (by omega)
      have hki : (k : Int) < (nl : Int) := by omega
      obtain ⟨x, hx⟩ : ∃ x, ls[k]? = some x := ⟨_, List.getElem?_eq_getElem (by rw [← Hnl.out]; exact hkl)⟩
      obtain ⟨a, ha⟩ : ∃ a, bs[k]? = some a := ⟨_, List.getElem?_eq_getElem (by rw [← Hn.out]; exact hkl)⟩
      have Hx := Lib.hid hx; have Ha := Lib.hid ha; clear hx ha
      go_wp2_with fail
      go_loopw [12] (fun jv wq => ∃ j : Nat, jv = .int .i64 (j : Int) ∧ j ≤ 3 ∧ (∀ i, i < j → openAt label P Q G H key bs ls k i = true) ∧ Below w0.heap.size w0 wq) (fun jv _ => 3 - (intOf jv).toNat)
      case atStart => exact ⟨0, rfl, by omega, by omega, Hbr.out⟩
      case round =>
        obtain ⟨j, rfl, hj, hej, hbj⟩ := hrel
        have Hej := Lib.hid hej; have Hbj := Lib.hid hbj; clear hej hbj
        by_cases hj3 : j < 3
        · have d9 : decide ((j : Int) < 3) = true := decide_eq_true (by omega)
          have hji : (j : Int) < 3 := by omega
          have hbw := below_trans Hw0b.out Hbj.out
          obtain ⟨b, hAb, hca⟩ := pair_at (Hr.out.below hbw) Ha.out
          obtain ⟨e0, e1⟩ := hca j hj3
          obtain ⟨bb, hBb, hcx⟩ := pas_at (Hs.out.below hbw) Hx.out
          obtain ⟨⟨x0, x1, x2⟩, x3, x4⟩ := hcx j hj3
          subst hAb hBb
          have k0 := fun o1 => below_cell (lat_alloc (Below.refl wr.heap.size wr) o1) x0
          have k1 := fun o1 => below_cell (lat_alloc (Below.refl wr.heap.size wr) o1) x1
          have k2 := fun o1 => below_cell (lat_alloc (Below.refl wr.heap.size wr) o1) x2
          go_wp2_with fail
          obtain ⟨s0, s1⟩ := Hr.out.small a (List.mem_of_getElem? Ha.out) j hj3
          obtain ⟨t0, t1, t2⟩ := Hs.out.small x (List.mem_of_getElem? Hx.out) j hj3
          obtain ⟨v0, v1⟩ := Hs.out.nums x (List.mem_of_getElem? Hx.out) j hj3
          obtain ⟨z0, z1⟩ := Hsh.out x (List.mem_of_getElem? Hx.out) j hj3
          have hca : openAt label P Q G H key bs ls k j = openOne label P Q G H key (a.u j) (a.v j) (x.t.u j) (x.t.w j) (x.t.v j) (x.c j).l (x.a j).l := by unfold openAt; rw [Ha.out, Hx.out]
          generalize hau : a.u j = au at *
          generalize hav : a.v j = av at *
          generalize htu : x.t.u j = tu at *
          generalize htw : x.t.w j = tw at *
          generalize htv : x.t.v j = tv at *
          obtain ⟨wy, hwy⟩ : ∃ z, z = (wr.alloc (.cells #[.int .u64 (au : Int), .int .u64 (av : Int)] 61)).alloc (.cells #[.int .u64 (tu : Int), .int .u64 (tw : Int), .int .u64 (tv : Int)] 38) := ⟨_, rfl⟩
          have hby : Below w0.heap.size w0 wy := by rw [hwy]; exact lat_alloc (lat_alloc Hbj.out _) _
          have hry : Below wr.heap.size wr wy := by rw [hwy]; exact lat_alloc (lat_alloc (Below.refl _ _) _) _
          have hm : Blk wy wr.heap.size 61 [.int .u64 (au : Int), .int .u64 (av : Int)] := by rw [hwy]; exact (Blk.of wr _ _ _ rfl).alloc _
          have hn2 : Blk wy (wr.heap.size + 1) 38 [.int .u64 (tu : Int), .int .u64 (tw : Int), .int .u64 (tv : Int)] := by rw [hwy]; exact Blk.at_new _ _ _ _ _ (by simp) rfl
          rw [← hwy]
          obtain ⟨g0, g1, g2, g3, g4⟩ := gcells (Hg.out.below hby Hg.out.lt)
          obtain ⟨m0, m1⟩ := cells_2 hm
          obtain ⟨n0, n1, n2⟩ := cells_3 hn2
          have y0 := below_cell hry x3
          have y1 := below_cell hry x4
          simp only [NumV.val] at y0 y1
          have l0 := Later.cell g0
          have l1 := Later.cell g1
          have l2 := Later.cell g2
          have l3 := Later.cell g3
          have l4 := Later.cell g4
          have l5 := Later.cell m0
          have l6 := Later.cell m1
          have l7 := Later.cell n0
          have l8 := Later.cell n1
          have l9 := Later.cell n2
          have l10 := Later.cell y0
          have l11 := Later.cell y1
          clear g0 g1 g2 g3 g4 m0 m1 n0 n1 n2 y0 y1 e0 e1 x0 x1 x2 x3 x4 k0 k1 k2 hm hn2 hcx hwy hry
          have hac := fun W u hb hu => refAccept_claim P Q G H R (label ++ tOpen) [key, tw] [[G], [au]] (x.c j) (x.a j) u W hP hQ hG hH hQ2 hu (v0.below (w1 := W) (below_trans Hw0b.out (below_trans hby hb))) (v1.below (below_trans Hw0b.out (below_trans hby hb))) (by simp [tOpen]; omega) (by simp) (by simp) (by simp) z0 z1
          have hcr := fun W => refShares_claim P Q G H key au av tw R W hG hkey s0 t1
          obtain ⟨r, hr⟩ : ∃ s, s = (openAt label P Q G H key bs ls k j) := ⟨_, rfl⟩; obtain ⟨acc, hacc⟩ : ∃ s, s = (acceptB (label ++ tOpen) P Q G H [key, tw] [[G], [au]] (x.c j).l (x.a j).l) := ⟨_, rfl⟩
          rw [← hacc] at hac
          have hrr : r = (decide (au = tu) && decide (av = tv) && acc) := by rw [hr, hca, hacc]; rfl
          have hno : r = false → out = false := fun h => by rw [Ho.out]; exact allU_no hkl hj3 (by rw [← hr]; exact h)
          have hye : r = true → ∀ i, i < j + 1 → openAt label P Q G H key bs ls k i = true := fun h => upto_next Hej.out (by rw [← hr]; exact h)
          have Hac := Lib.hid hac; have Hcr := Lib.hid hcr; have Hrr := Lib.hid hrr; have Hno := Lib.hid hno; have Hye := Lib.hid hye; have Hby := Lib.hid hby; clear hac hcr hrr hno hye hby
          clear hacc hr hca hau hav htu htw htv v0 v1 z0 z1 s0 s1 t0 t1 t2
          by_cases he : au = tu
          case neg =>
            have d0 : ((au : Int) != (tu : Int)) = true := by rw [bne_iff_ne]; omega
            have ho := Hno.out (by rw [Hrr.out, decide_eq_false he]; rfl)
            subst ho
            (refine region_calm (by kernel_rfl) (by kernel_rfl) ?_; (repeat (go_big_quiet_step (fail))); refine wpQuiet_nil ?_; intro wq hw'; obtain ⟨pq, hpq⟩ := hw'; have hbq := pq.below; rw [← hpq] at hbq; clear hpq pq; try dsimp only)
            go_wp2_with fail
            go_ret
            exact ⟨rfl, below_trans Hw0b.out (below_trans Hby.out hbq)⟩
          subst he
          have d0 : ((au : Int) != (au : Int)) = false := by simp
          by_cases he2 : av = tv
          case neg =>
            have d1 : ((av : Int) != (tv : Int)) = true := by rw [bne_iff_ne]; omega
            have ho := Hno.out (by rw [Hrr.out, decide_eq_false he2]; simp)
            subst ho
            (refine region_calm (by kernel_rfl) (by kernel_rfl) ?_; (repeat (go_big_quiet_step (fail))); refine wpQuiet_nil ?_; intro wq hw'; obtain ⟨pq, hpq⟩ := hw'; have hbq := pq.below; rw [← hpq] at hbq; clear hpq pq; try dsimp only)
            go_wp2_with fail
            go_ret
            exact ⟨rfl, below_trans Hw0b.out (below_trans Hby.out hbq)⟩
          subst he2
          have d1 : ((av : Int) != (av : Int)) = false := by simp
          have hr1 : r = acc := by rw [Hrr.out, decide_eq_true rfl, decide_eq_true rfl]; rfl
          have hra : r = acc := hr1
          clear hr1
          refine region_loose [(64, ClaimV [key, tw] [[G], [au]]), (72, fun u _ => u = .bool acc)]
            (Know.stable_cons (fun _ _ _ h hl => h.later hl) (Know.stable_cons (fun _ _ _ h _ => h) Know.stable_nil)) (by kernel_rfl) (by kernel_rfl) ?_
          (repeat (first | (refine loose_skip (by rfl) ?_; simp only [Act.put, List.setIfInBounds_toArray, List.set_cons_zero, List.set_cons_succ]) | (refine loose_plain (by rfl) (by rfl) (by rfl) (fun Kc hKc => ?_); go_big_quiet_op; refine hKc _ ?_; clear hKc Kc)))
          refine loose_call 64 (f := 84) (args := #[.agg #[.int .u64 (P : Int), .int .u64 (Q : Int), .int .u64 (G : Int), .int .u64 (H : Int), R], .int .u64 (key : Int), .agg #[.int .u64 (au : Int), .int .u64 (av : Int)], .int .u64 (tw : Int)]) (fun w => by go_simp; try rfl) (by rfl) (by rfl) (by rfl) (fun wk hl _ => Hcr.out wk) ?_
          intro u wk hlk hu
          simp only [Act.put, List.setIfInBounds_toArray, List.set_cons_zero, List.set_cons_succ]
          (repeat (first | (refine loose_skip (by rfl) ?_; simp only [Act.put, List.setIfInBounds_toArray, List.set_cons_zero, List.set_cons_succ]) | (refine loose_plain (by rfl) (by rfl) (by rfl) (fun Kc hKc => ?_); go_big_quiet_op; refine hKc _ ?_; clear hKc Kc)))
          refine loose_fix 72 (.bool acc) (f := 80) (args := #[.agg #[.int .u64 (P : Int), .int .u64 (Q : Int), .int .u64 (G : Int), .int .u64 (H : Int), R], .string (str (label ++ tOpen)), u, .agg #[.slice (x.c j).A (x.c j).l.length (x.c j).cap, .slice (x.a j).A (x.a j).l.length (x.a j).cap]]) (fun w => by go_simp; try rfl) (by rfl) (by rfl) (by rfl) (fun _ _ => Iff.rfl) (fun wk2 hl2 hd => Hac.out wk2 u hl2 (hd 64 (by decide) _ (.inl ⟨rfl, rfl⟩))) ?_
          simp only [Act.put, List.setIfInBounds_toArray, List.set_cons_zero, List.set_cons_succ]
          (repeat (first | (refine loose_skip (by rfl) ?_; simp only [Act.put, List.setIfInBounds_toArray, List.set_cons_zero, List.set_cons_succ]) | (refine loose_plain (by rfl) (by rfl) (by rfl) (fun Kc hKc => ?_); go_big_quiet_op; refine hKc _ ?_; clear hKc Kc)))
          refine loose_nil ?_
          intro wq hbq _
          have Hbq := Lib.hid (show Below wy.heap.size wy wq from hbq)
          clear hbq hu hlk
          cases acc with
          | false =>
            have ho := Hno.out hra
            subst ho
            clear hra
            go_wp2_with fail
            go_ret
            exact ⟨rfl, below_trans Hw0b.out (below_trans Hby.out Hbq.out)⟩
          | true =>
            have hyf := Hye.out hra
            have Hyf := Lib.hid hyf; clear hyf
            clear hra
            go_wp2_with fail
            go_roundw
            case rel => exact ⟨j + 1, by go_num, by omega, Hyf.out, below_trans Hby.out Hbq.out⟩
            case measure => simp [intOf]; omega
        · obtain rfl : j = 3 := by omega
          have hnx := allU_next Hak.out Hej.out
          have Hnx := Lib.hid hnx; clear hnx
          have d9 : decide (((3 : Nat) : Int) < 3) = false := by decide
          go_wp2_with fail
          go_roundw
          case rel => exact ⟨k + 1, by go_num, by omega, Hnx.out, Hbj.out⟩
          case measure => simp [intOf]; omega
    · obtain rfl : k = nl := by omega
      have d8 : decide ((k : Int) < (k : Int)) = false := decide_eq_false (by omega)
      have ho2 : out = true := by rw [Ho.out, Hak.out]
      subst ho2
      go_wp2_with fail
      go_ret
      exact ⟨rfl, below_trans Hw0b.out Hbr.out⟩
end Go.Proofs.YtbpenkaficiodaaGreat

/- Rows' pairs, if they are of elements: law12's walk; what fits. -/
namespace Go.Proofs.YtbpenkaficiodaaGreat
open Go.RowKit Go.BigFrame

def flatB (bs : List BoxV) : List Value := bs.flatMap BoxV.list
theorem flatB_len (bs : List BoxV) : (flatB bs).length = bs.length * 6 := by
  induction bs with
  | nil => rfl
  | cons b r ih => simp [flatB, List.flatMap_cons, BoxV.list] at ih ⊢; omega
theorem flatB_get : ∀ (bs : List BoxV) (k j : Nat) (b : BoxV) (u : Value), bs[k]? = some b → b.list[j]? = some u → (flatB bs)[k * 6 + j]? = some u
  | [], k, j, b, u, h, _ => by simp at h
  | c :: r, 0, j, b, u, h, hu => by
    simp at h; subst h
    have hj : j < 6 := by have := (List.getElem?_eq_some_iff.1 hu).1; simpa [BoxV.list] using this
    have : flatB (c :: r) = c.list ++ flatB r := rfl
    rw [this, List.getElem?_append_left (by simp [BoxV.list]; omega), Nat.zero_mul, Nat.zero_add]; exact hu
  | c :: r, k + 1, j, b, u, h, hu => by
    have : flatB (c :: r) = c.list ++ flatB r := rfl
    rw [this, List.getElem?_append_right (by simp [BoxV.list]; omega), show (k + 1) * 6 + j - c.list.length = k * 6 + j by simp [BoxV.list]; omega]
    exact flatB_get r k j b u (by simpa using h) hu
theorem flatB_snoc (bs : List BoxV) (b : BoxV) : flatB (bs ++ [b]) = flatB bs ++ b.list := by simp [flatB]
theorem boxes_of_row {w : World} {B : Nat} {v : Value} {bs : List BoxV} (h : Row w B 63 6 v bs.length (flatB bs)) (hok : ∀ b ∈ bs, b.ok) : ∃ A c, v = .slice A bs.length c ∧ Boxes w A c bs := by
  rcases Nat.eq_zero_or_pos bs.length with h0 | h0
  · obtain rfl : bs = [] := List.eq_nil_of_length_eq_zero h0
    obtain ⟨A, c, rfl⟩ := h.slice
    exact ⟨A, c, rfl, ⟨Nat.zero_le _, by simp⟩, by simp⟩
  · obtain ⟨g, cap, rfl, _, _, hnc, hc⟩ := h.form h0
    refine ⟨_, _, rfl, ⟨by simpa using hnc, fun i l hl => ⟨_, rfl, ?_⟩⟩, hok⟩
    rw [List.getElem?_map] at hl
    cases hb : bs[i]? with
    | none => rw [hb] at hl; cases hl
    | some b =>
      rw [hb] at hl
      injection hl with hl
      subst hl
      have hat : ∀ j u, b.list[j]? = some u → w.cell? ⟨g, i * 6 + j, none⟩ = some u := fun j u hu => (hc _ _ (flatB_get bs i j b u hb hu)).1
      refine ⟨?_, fun j u hu => ?_⟩
      · rw [blk_add]
        have := hat 0 (.int .u64 (b.u 0 : Int)) rfl
        exact this
      · rw [blk_add]; exact hat j u hu

theorem below_of_grownB {B : Nat} {wo w2 w3 : World} {row : Option Nat} (h : Below B wo w2) (hg : w2.grownBy w3 row) (hr : ∀ k, row = some k → B ≤ k) (hB : B ≤ wo.heap.size := by omega) : Below B wo w3 :=
  ⟨hg.os.trans h.os, hg.tape.trans h.tape, hg.output.trans h.output, Nat.le_trans h.size hg.size, fun k hk => (hg.block k (by have := h.size; omega) (fun he => by have := hr k he.symm; omega)).trans (h.block k hk)⟩
def rowIn (P Q : Nat) (a : TriV) : Bool := (List.range 3).all fun j => inG P Q (a.u j) && inG P Q (a.w j) && inG P Q (a.v j)
theorem rowIn_yes {P Q : Nat} {a : TriV} : rowIn P Q a = true ↔ ∀ j, j < 3 → inG P Q (a.u j) = true ∧ inG P Q (a.w j) = true ∧ inG P Q (a.v j) = true := by
  unfold rowIn
  rw [List.all_eq_true]
  constructor
  · intro h j hj
    have := h j (List.mem_range.2 hj)
    simp only [Bool.and_eq_true] at this
    exact ⟨this.1.1, this.1.2, this.2⟩
  · intro h j hj
    have := h j (List.mem_range.1 hj)
    simp [this.1, this.2.1, this.2.2]
theorem rowIn_no {P Q j : Nat} {a : TriV} (hj : j < 3) (h : (inG P Q (a.u j) && inG P Q (a.w j) && inG P Q (a.v j)) = false) : rowIn P Q a = false := by
  cases hb : rowIn P Q a with
  | false => rfl
  | true => have := rowIn_yes.1 hb j hj; rw [this.1, this.2.1, this.2.2] at h; cases h
def toBox (a : TriV) : BoxV := ⟨a.u, a.v⟩
def OutSplit (B P Q : Nat) (rows : List TriV) (e : Ending) (w' : World) : Prop :=
  if rows.all (rowIn P Q) = true then ∃ v, e = .returned (.tuple #[v, .bool true]) ∧ Row w' B 63 6 v rows.length (flatB (rows.map toBox)) else e = .returned (.tuple #[.slice none 0 0, .bool false])
theorem Tryz.un_boxes : Tryz.prog.underlying 34 = some (.slice 63) := by kernel_rfl
theorem Tryz.inf_box : (Tryz.prog.info? 63).map (fun i => (i.zero, i.size, i.bytes)) = some (some (.agg #[.int .u64 0, .int .u64 0, .int .u64 0, .int .u64 0, .int .u64 0, .int .u64 0]), 6, 48) := by kernel_rfl
def bxCells (a : TriV) (j : Nat) : List Value := ((toBox a).list.take (2 * j)) ++ List.replicate (6 - 2 * j) (.int .u64 0)
theorem bxCells_set (a : TriV) : ∀ j : Nat, j < 3 → ((bxCells a j).set (j * 2) (.int .u64 (a.u j : Int))).set (j * 2 + 1) (.int .u64 (a.v j : Int)) = bxCells a (j + 1) := three_cases rfl rfl rfl
theorem bxCells_len (a : TriV) : ∀ j : Nat, j < 3 → ∃ x y, (bxCells a j)[j * 2]? = some x ∧ (bxCells a j)[j * 2 + 1]? = some y := three_cases ⟨_, _, rfl, rfl⟩ ⟨_, _, rfl, rfl⟩ ⟨_, _, rfl, rfl⟩

set_option maxRecDepth 100000 in
set_option maxHeartbeats 4000000 in
theorem split_any (P Q G H : Nat) (R : Value) (A : Option Addr) (cap : Nat) (rows : List TriV) (w : World) (hP : P < 18446744073709551616) (hQ : Q < 18446744073709551616) (hl : rows.length < 1000) (hA : Tris w A cap rows) :
    Calls Tryz.prog 18 #[.agg #[.int .u64 (P : Int), .int .u64 (Q : Int), .int .u64 (G : Int), .int .u64 (H : Int), R], .slice A rows.length cap] w fun e w' => OutSplit w.heap.size P Q rows e w' ∧ Below w.heap.size w w' := by
  have hin := fun z W (hz : z < 18446744073709551616) => refIn_any P Q G H z R W hP hQ hz
  unfold gval at hin
  have hyes : rows.all (rowIn P Q) = true → ∀ v w', Row w' w.heap.size 63 6 v rows.length (flatB (rows.map toBox)) → OutSplit w.heap.size P Q rows (.returned (.tuple #[v, .bool true])) w' := fun h v w' hr => by unfold OutSplit; rw [if_pos h]; exact ⟨v, rfl, hr⟩
  have hno : ∀ k a, rows[k]? = some a → rowIn P Q a = false → ∀ w', OutSplit w.heap.size P Q rows (.returned (.tuple #[.slice none 0 0, .bool false])) w' := fun k a hk ha w' => by
    unfold OutSplit
    rw [if_neg]
    intro h
    rw [List.all_eq_true.1 h a (List.mem_of_getElem? hk)] at ha
    cases ha
  obtain ⟨nl, hnl⟩ : ∃ s, s = (rows.length) := ⟨_, rfl⟩
  rw [← hnl] at hyes ⊢
  have hl' : nl < 1000 := by omega
  obtain ⟨w0, hw0⟩ : ∃ z, z = (w.alloc (.cells #[.int .u64 (P : Int), .int .u64 (Q : Int), .int .u64 (G : Int), .int .u64 (H : Int), R] 25)) := ⟨_, rfl⟩
  have hw0b : Below w.heap.size w w0 := by rw [hw0]; exact lat_alloc (Below.refl _ _) _
  have hg : Blk w0 (w.heap.size) 25 [.int .u64 (P : Int), .int .u64 (Q : Int), .int .u64 (G : Int), .int .u64 (H : Int), R] := by rw [hw0]; exact (Blk.of w _ _ _ rfl)
  have Hin := Lib.hid hin; have HA := Lib.hid hA; have Hnl := Lib.hid hnl; have Hyes := Lib.hid hyes; have Hno := Lib.hid hno; have Hw0b := Lib.hid hw0b; have Hg := Lib.hid hg; clear hin hA hnl hyes hno hw0b hg
  clear hl
  go_enter Tryz.func18, Tryz.ntmps18
  go_wp2_with fail
  rw [← hw0]
  clear hw0
  go_loopw [6, 14] (fun bv kv wr => ∃ k : Nat, kv = .int .i64 (k : Int) ∧ k ≤ nl ∧ (rows.take k).all (rowIn P Q) = true ∧ Row wr w0.heap.size 63 6 bv k (flatB ((rows.take k).map toBox)) ∧ Below w0.heap.size w0 wr) (fun _ kv _ => nl - (intOf kv).toNat)
  case atStart => exact ⟨0, rfl, by omega, rfl, Row.nil _ _ _ _, Below.refl _ _⟩
  case round =>
    obtain ⟨k, rfl, hk, hak, hrow, hbr⟩ := hrel
    have Hak := Lib.hid hak; have Hrow := Lib.hid hrow; have Hbr := Lib.hid hbr; clear hak hrow hbr
    by_cases hkl : k < nl
    · have d8 : decide ((k : Int) < (nl : Int)) = true := decide_eq_true (by omega)
      have hki : (k : Int) < (nl : Int) := by omega
      obtain ⟨a, ha⟩ : ∃ a, rows[k]? = some a := ⟨_, List.getElem?_eq_getElem (by rw [← Hnl.out]; exact hkl)⟩
      have has := HA.out.small a (List.mem_of_getElem? ha)
      obtain ⟨b, hAb, q0, q1, q2, q3, q4, q5, q6, q7, q8⟩ := recs_9 (HA.out.below (below_trans Hw0b.out Hbr.out)).recs (k := k) (by rw [List.getElem?_map, ha]; rfl)
      subst hAb
      have Ha := Lib.hid ha; have Has := Lib.hid has; clear ha has
      go_wp2_with fail
      obtain ⟨wo, hwo⟩ : ∃ z, z = wr := ⟨_, rfl⟩
      subst hwo
      obtain ⟨wb, hwb⟩ : ∃ z, z = (wo.alloc (.cells #[.int .u64 (a.u 0 : Int), .int .u64 (a.w 0 : Int), .int .u64 (a.v 0 : Int), .int .u64 (a.u 1 : Int), .int .u64 (a.w 1 : Int), .int .u64 (a.v 1 : Int), .int .u64 (a.u 2 : Int), .int .u64 (a.w 2 : Int), .int .u64 (a.v 2 : Int)] 39)).alloc (.cells #[.int .u64 0, .int .u64 0, .int .u64 0, .int .u64 0, .int .u64 0, .int .u64 0] 63) := ⟨_, rfl⟩
      have hbb : Below wo.heap.size wo wb := by rw [hwb]; exact lat_alloc (lat_alloc (Below.refl _ _) _) _
      have hbx : Blk wb (wo.heap.size + 1) 63 (bxCells a 0) := by rw [hwb]; exact Blk.at_new _ _ _ _ _ (by simp) rfl
      rw [← hwb]
      clear q0 q1 q2 q3 q4 q5 q6 q7 q8 hwb
      have Hbb := Lib.hid hbb; have Hbx := Lib.hid hbx; clear hbb hbx
      go_loopw [19] (fun jv wq => ∃ j : Nat, jv = .int .i64 (j : Int) ∧ j ≤ 3 ∧ (∀ i, i < j → inG P Q (a.u i) = true ∧ inG P Q (a.w i) = true ∧ inG P Q (a.v i) = true) ∧ Blk wq (wo.heap.size + 1) 63 (bxCells a j) ∧ Below wo.heap.size wo wq) (fun jv _ => 3 - (intOf jv).toNat)
      case atStart => exact ⟨0, rfl, by omega, by omega, Hbx.out, Hbb.out⟩
      case round =>
        obtain ⟨j, rfl, hj, hej, hbj, hbq⟩ := hrel
        clear Hbx Hbb
        have Hej := Lib.hid hej; have Hbj := Lib.hid hbj; have Hbq := Lib.hid hbq; clear hej hbj hbq
        by_cases hj3 : j < 3
        · have d9 : decide ((j : Int) < 3) = true := decide_eq_true (by omega)
          have hji : (j : Int) < 3 := by omega
          have hix := fun W => ix_tri a W j hj3
          have hgo := fun o => gcells ((Hg.out.below (below_trans Hbr.out Hbq.out) Hg.out.lt).alloc o)
          have g0 := fun o => (hgo o).1
          have g1 := fun o => (hgo o).2.1
          have g2 := fun o => (hgo o).2.2.1
          have g3 := fun o => (hgo o).2.2.2.1
          have g4 := fun o => (hgo o).2.2.2.2
          clear hgo
          have hp : Blk (wr.alloc (.cells #[.int .u64 (a.u j : Int), .int .u64 (a.w j : Int), .int .u64 (a.v j : Int)] 38)) wr.heap.size 38 [.int .u64 (a.u j : Int), .int .u64 (a.w j : Int), .int .u64 (a.v j : Int)] := Blk.of wr _ _ _ rfl
          have hlt : Below wr.heap.size wr (wr.alloc (.cells #[.int .u64 (a.u j : Int), .int .u64 (a.w j : Int), .int .u64 (a.v j : Int)] 38)) := lat_alloc (Below.refl _ _) _
          have hbt : Below w0.heap.size w0 (wr.alloc (.cells #[.int .u64 (a.u j : Int), .int .u64 (a.w j : Int), .int .u64 (a.v j : Int)] 38)) := below_trans Hbr.out (below_trans Hbq.out hlt)
          have h1 := fun W => Hin.out (a.u j) W (Has.out j hj3).1
          have h2 := fun W => Hin.out (a.w j) W (Has.out j hj3).2.1
          have h3 := fun W => Hin.out (a.v j) W (Has.out j hj3).2.2
          obtain ⟨r1, hr1⟩ : ∃ s, s = (inG P Q (a.u j)) := ⟨_, rfl⟩; obtain ⟨r2, hr2⟩ : ∃ s, s = (inG P Q (a.w j)) := ⟨_, rfl⟩; obtain ⟨r3, hr3⟩ : ∃ s, s = (inG P Q (a.v j)) := ⟨_, rfl⟩
          rw [← hr1] at h1
          rw [← hr2] at h2
          rw [← hr3] at h3
          have hbad : (r1 && r2 && r3) = false → ∀ w', OutSplit w.heap.size P Q rows (.returned (.tuple #[.slice none 0 0, .bool false])) w' := fun h => Hno.out k a Ha.out (rowIn_no hj3 (by rw [← hr1, ← hr2, ← hr3]; exact h))
          have hye : r1 = true → r2 = true → r3 = true → ∀ i, i < j + 1 → inG P Q (a.u i) = true ∧ inG P Q (a.w i) = true ∧ inG P Q (a.v i) = true := fun x y z => upto_next (p := fun i => inG P Q (a.u i) = true ∧ inG P Q (a.w i) = true ∧ inG P Q (a.v i) = true) Hej.out ⟨by rw [← hr1]; exact x, by rw [← hr2]; exact y, by rw [← hr3]; exact z⟩
          have hset : ∀ W, Below (wr.alloc (.cells #[.int .u64 (a.u j : Int), .int .u64 (a.w j : Int), .int .u64 (a.v j : Int)] 38)).heap.size (wr.alloc (.cells #[.int .u64 (a.u j : Int), .int .u64 (a.w j : Int), .int .u64 (a.v j : Int)] 38)) W → ∃ v0 v1, W.cell? ⟨wo.heap.size + 1, j * 2, none⟩ = some v0 ∧ W.cell? ⟨wo.heap.size + 1, j * 2 + 1, none⟩ = some v1 ∧ W.frozen? ⟨wo.heap.size + 1, j * 2, none⟩ = false ∧ W.frozen? ⟨wo.heap.size + 1, j * 2 + 1, none⟩ = false := fun W hb => by
            obtain ⟨x, y, ex, ey⟩ := bxCells_len a j hj3
            have hB := Hbj.out.below (below_trans hlt hb) Hbj.out.lt
            exact ⟨x, y, by rw [hB.cell, ex], by rw [hB.cell, ey], hB.frozen _, hB.frozen _⟩
          have H1 := Lib.hid h1; have H2 := Lib.hid h2; have H3 := Lib.hid h3; have Hbad := Lib.hid hbad; have Hye := Lib.hid hye; have Hset := Lib.hid hset; have Hp := Lib.hid hp; have Hlt := Lib.hid hlt; have Hbt := Lib.hid hbt; clear h1 h2 h3 hbad hye hset hp hlt hbt
          clear hr1 hr2 hr3
          cases r1 with
          | false =>
            go_wp2_with (first | (go_at_call 20; with_reducible refine (H1.out _).mono ?_; rintro e w3 ⟨rfl, hb3⟩; obtain ⟨g0, g1, g2, g3, g4⟩ := gcells (Hg.out.below (below_trans Hbt.out hb3) Hg.out.lt); obtain ⟨p0, p1, p2⟩ := cells_3 (Hp.out.below hb3 Hp.out.lt); have Hb3 := Lib.hid hb3; clear hb3) | (go_at_call 20; with_reducible refine (H2.out _).mono ?_; rintro e w4 ⟨rfl, hb4⟩; obtain ⟨g0, g1, g2, g3, g4⟩ := gcells (Hg.out.below (below_trans Hbt.out (below_trans Hb3.out hb4)) Hg.out.lt); obtain ⟨p0, p1, p2⟩ := cells_3 (Hp.out.below (below_trans Hb3.out hb4) Hp.out.lt); have Hb4 := Lib.hid hb4; clear hb4) | (go_at_call 20; with_reducible refine (H3.out _).mono ?_; rintro e w5 ⟨rfl, hb5⟩; obtain ⟨p0, p1, p2⟩ := cells_3 (Hp.out.below (below_trans Hb3.out (below_trans Hb4.out hb5)) Hp.out.lt); obtain ⟨v0, v1, e0, e1, e2, e3⟩ := Hset.out w5 (below_trans Hb3.out (below_trans Hb4.out hb5)); have Hb5 := Lib.hid hb5; clear hb5) | fail)
            go_ret2
            exact ⟨Hbad.out rfl _, below_trans Hw0b.out (below_trans Hbt.out Hb3.out)⟩
          | true =>
            cases r2 with
            | false =>
              go_wp2_with (first | (go_at_call 20; with_reducible refine (H1.out _).mono ?_; rintro e w3 ⟨rfl, hb3⟩; obtain ⟨g0, g1, g2, g3, g4⟩ := gcells (Hg.out.below (below_trans Hbt.out hb3) Hg.out.lt); obtain ⟨p0, p1, p2⟩ := cells_3 (Hp.out.below hb3 Hp.out.lt); have Hb3 := Lib.hid hb3; clear hb3) | (go_at_call 20; with_reducible refine (H2.out _).mono ?_; rintro e w4 ⟨rfl, hb4⟩; obtain ⟨g0, g1, g2, g3, g4⟩ := gcells (Hg.out.below (below_trans Hbt.out (below_trans Hb3.out hb4)) Hg.out.lt); obtain ⟨p0, p1, p2⟩ := cells_3 (Hp.out.below (below_trans Hb3.out hb4) Hp.out.lt); have Hb4 := Lib.hid hb4; clear hb4) | (go_at_call 20; with_reducible refine (H3.out _).mono ?_; rintro e w5 ⟨rfl, hb5⟩; obtain ⟨p0, p1, p2⟩ := cells_3 (Hp.out.below (below_trans Hb3.out (below_trans Hb4.out hb5)) Hp.out.lt); obtain ⟨v0, v1, e0, e1, e2, e3⟩ := Hset.out w5 (below_trans Hb3.out (below_trans Hb4.out hb5)); have Hb5 := Lib.hid hb5; clear hb5) | fail)
              go_ret2
              exact ⟨Hbad.out rfl _, below_trans Hw0b.out (below_trans Hbt.out (below_trans Hb3.out Hb4.out))⟩
            | true =>
              cases r3 with
              | false =>
                go_wp2_with (first | (go_at_call 20; with_reducible refine (H1.out _).mono ?_; rintro e w3 ⟨rfl, hb3⟩; obtain ⟨g0, g1, g2, g3, g4⟩ := gcells (Hg.out.below (below_trans Hbt.out hb3) Hg.out.lt); obtain ⟨p0, p1, p2⟩ := cells_3 (Hp.out.below hb3 Hp.out.lt); have Hb3 := Lib.hid hb3; clear hb3) | (go_at_call 20; with_reducible refine (H2.out _).mono ?_; rintro e w4 ⟨rfl, hb4⟩; obtain ⟨g0, g1, g2, g3, g4⟩ := gcells (Hg.out.below (below_trans Hbt.out (below_trans Hb3.out hb4)) Hg.out.lt); obtain ⟨p0, p1, p2⟩ := cells_3 (Hp.out.below (below_trans Hb3.out hb4) Hp.out.lt); have Hb4 := Lib.hid hb4; clear hb4) | (go_at_call 20; with_reducible refine (H3.out _).mono ?_; rintro e w5 ⟨rfl, hb5⟩; obtain ⟨p0, p1, p2⟩ := cells_3 (Hp.out.below (below_trans Hb3.out (below_trans Hb4.out hb5)) Hp.out.lt); obtain ⟨v0, v1, e0, e1, e2, e3⟩ := Hset.out w5 (below_trans Hb3.out (below_trans Hb4.out hb5)); have Hb5 := Lib.hid hb5; clear hb5) | fail)
                go_ret2
                exact ⟨Hbad.out rfl _, below_trans Hw0b.out (below_trans Hbt.out (below_trans Hb3.out (below_trans Hb4.out Hb5.out)))⟩
              | true =>
                have hyf := Hye.out rfl rfl rfl
                have Hyf := Lib.hid hyf; clear hyf
                go_wp2_with (first | (go_at_call 20; with_reducible refine (H1.out _).mono ?_; rintro e w3 ⟨rfl, hb3⟩; obtain ⟨g0, g1, g2, g3, g4⟩ := gcells (Hg.out.below (below_trans Hbt.out hb3) Hg.out.lt); obtain ⟨p0, p1, p2⟩ := cells_3 (Hp.out.below hb3 Hp.out.lt); have Hb3 := Lib.hid hb3; clear hb3) | (go_at_call 20; with_reducible refine (H2.out _).mono ?_; rintro e w4 ⟨rfl, hb4⟩; obtain ⟨g0, g1, g2, g3, g4⟩ := gcells (Hg.out.below (below_trans Hbt.out (below_trans Hb3.out hb4)) Hg.out.lt); obtain ⟨p0, p1, p2⟩ := cells_3 (Hp.out.below (below_trans Hb3.out hb4) Hp.out.lt); have Hb4 := Lib.hid hb4; clear hb4) | (go_at_call 20; with_reducible refine (H3.out _).mono ?_; rintro e w5 ⟨rfl, hb5⟩; obtain ⟨p0, p1, p2⟩ := cells_3 (Hp.out.below (below_trans Hb3.out (below_trans Hb4.out hb5)) Hp.out.lt); obtain ⟨v0, v1, e0, e1, e2, e3⟩ := Hset.out w5 (below_trans Hb3.out (below_trans Hb4.out hb5)); have Hb5 := Lib.hid hb5; clear hb5) | fail)
                have hB := Hbj.out.below (below_trans Hlt.out (below_trans Hb3.out (below_trans Hb4.out Hb5.out))) Hbj.out.lt
                have hy := (hB.set (j * 2) (.int .u64 (a.u j : Int))).set (j * 2 + 1) (.int .u64 (a.v j : Int))
                rw [bxCells_set a j hj3] at hy
                have Hy := Lib.hid hy; clear hy
                clear hB
                go_roundw
                case rel => exact ⟨j + 1, by go_num, by omega, Hyf.out, Hy.out, below_set (below_set (below_trans Hbq.out (below_trans Hlt.out (below_trans Hb3.out (below_trans Hb4.out Hb5.out)))) (by omega) _ _) (by omega) _ _⟩
                case measure => simp [intOf]; omega
        · obtain rfl : j = 3 := by omega
          have d9 : decide (((3 : Nat) : Int) < 3) = false := by decide
          obtain ⟨b0, b1, b2, b3, b4, b5⟩ := cells_6 (show Blk wr (wo.heap.size + 1) 63 [.int .u64 (a.u 0 : Int), .int .u64 (a.v 0 : Int), .int .u64 (a.u 1 : Int), .int .u64 (a.v 1 : Int), .int .u64 (a.u 2 : Int), .int .u64 (a.v 2 : Int)] from Hbj.out)
          have hnw : Blk (wr.alloc (.cells #[.int .u64 (a.u 0 : Int), .int .u64 (a.v 0 : Int), .int .u64 (a.u 1 : Int), .int .u64 (a.v 1 : Int), .int .u64 (a.u 2 : Int), .int .u64 (a.v 2 : Int)] 63)) wr.heap.size 63 (toBox a).list := Blk.of wr _ _ _ rfl
          have hba : Below wr.heap.size wr (wr.alloc (.cells #[.int .u64 (a.u 0 : Int), .int .u64 (a.v 0 : Int), .int .u64 (a.u 1 : Int), .int .u64 (a.v 1 : Int), .int .u64 (a.u 2 : Int), .int .u64 (a.v 2 : Int)] 63)) := lat_alloc (Below.refl _ _) _
          have hHO := Hrow.out.below (below_trans Hbq.out hba)
          have hb0a := below_trans Hbr.out (below_trans Hbq.out hba)
          have hcl : ∀ j u, (toBox a).list[j]? = some u → ∃ b : Addr, some (⟨wr.heap.size, 0, none⟩ : Addr) = some b ∧ (wr.alloc (.cells #[.int .u64 (a.u 0 : Int), .int .u64 (a.v 0 : Int), .int .u64 (a.u 1 : Int), .int .u64 (a.v 1 : Int), .int .u64 (a.u 2 : Int), .int .u64 (a.v 2 : Int)] 63)).cell? (b.add j) = some u := fun j u hu => ⟨_, rfl, by rw [blk_add, hnw.cell]; exact hu⟩
          have hall : (rows.take (k + 1)).all (rowIn P Q) = true := by rw [List.take_add_one, Ha.out, List.all_append, Hak.out]; simp [rowIn_yes.2 Hej.out]
          have hfl : flatB ((rows.take k).map toBox) ++ (toBox a).list = flatB ((rows.take (k + 1)).map toBox) := by rw [List.take_add_one, Ha.out]; simp [flatB_snoc]
          have HHO := Lib.hid hHO; have Hb0a := Lib.hid hb0a; have Hcl := Lib.hid hcl; have Hall := Lib.hid hall; have Hfl := Lib.hid hfl; have Hba := Lib.hid hba; clear hHO hb0a hcl hall hfl hba
          clear hnw
          go_wp2_with (at_builtin; go_must (refine ap_slice (B := w0.heap.size) (news := (toBox a).list) (sz := 6) Tryz.un_boxes Tryz.inf_box rfl (by omega) HHO.out rfl Hcl.out (by intro u hu; simp only [BoxV.list, List.mem_cons, List.not_mem_nil, or_false] at hu; rcases hu with rfl | rfl | rfl | rfl | rfl | rfl <;> rfl) (by simp only [maxLen]; omega) (by omega) (by have := Hb0a.out.size; omega) rfl _ _ rfl rfl rfl ?_; intro v1 w1 hr1 hg1; rw [Hfl.out] at hr1; have Hb1 := Lib.hid (below_of_grownB Hb0a.out hg1 (fun k hk => (HHO.out.block k hk).1)); have Hr1 := Lib.hid hr1; clear hr1 hg1))
          go_roundw
          case rel => exact ⟨k + 1, by go_num, by omega, Hall.out, Hr1.out, Hb1.out⟩
          case measure => simp [intOf]; omega
    · obtain rfl : k = nl := by omega
      have d8 : decide ((k : Int) < (k : Int)) = false := decide_eq_false (by omega)
      have hlen : rows.take k = rows := List.take_of_length_le (by rw [← Hnl.out]; exact Nat.le_refl _)
      have hal := Hak.out
      have hro := Hrow.out
      rw [hlen] at hal hro
      obtain ⟨A', c', rfl⟩ := hro.slice
      have HE := Lib.hid (fun w' (h : Row w' w.heap.size 63 6 (.slice A' k c') k (flatB (rows.map toBox))) => Hyes.out hal _ w' h)
      have Hro := Lib.hid (row_low hro Hw0b.out.size)
      clear hlen hal hro
      go_wp2_with fail
      go_ret2
      exact ⟨HE.out _ Hro.out, below_trans Hw0b.out Hbr.out⟩
end Go.Proofs.YtbpenkaficiodaaGreat

/- What fits: law12's fit and short. -/
namespace Go.Proofs.YtbpenkaficiodaaGreat
open Go.RowKit Go.BigFrame

def fitB (P Q G H : Nat) (rs : List RowV) (label seed : List UInt8) (y : Nat) : Bool := groupB P Q G H rs && decide (label.length ≤ 100) && decide (seed.length ≤ 100) && inG P Q y

set_option maxRecDepth 100000 in
set_option maxHeartbeats 2000000 in
theorem fit12_any (P Q G H x y : Nat) (F : Int) (B : Option Addr) (cap : Nat) (rs : List RowV) (label seed : List UInt8) (w : World) (hP : P < 18446744073709551616) (hQ : Q < 18446744073709551616) (hG : G < 18446744073709551616) (hH : H < 18446744073709551616) (hy : y < 18446744073709551616) (hR : Rows3 w B cap rs) (hl : rs.length < 9223372036854775807) (hFl : ∀ r ∈ rs, r.F.l.length < 9223372036854775807) :
    Calls Tryz.prog 17 #[.agg #[.int .u64 (P : Int), .int .u64 (Q : Int), .int .u64 (G : Int), .int .u64 (H : Int), .slice B rs.length cap], .agg #[.string (str label), .string (str seed), .int .u64 (x : Int), .int .u64 (y : Int), .int .i64 F]] w fun e w' => e = .returned (.bool (fitB P Q G H rs label seed y)) ∧ Below w.heap.size w w' := by
  have hgr := fun W hb => group_any P Q G H B cap rs W hP hQ hG hH (hR.below (w1 := W) hb) hl hFl
  obtain ⟨n, hn⟩ : ∃ s, s = rs.length := ⟨_, rfl⟩
  have hin := fun W => refIn_any P Q G H y (.slice B n cap) W hP hQ hy
  obtain ⟨out, hout⟩ : ∃ s, s = (fitB P Q G H rs label seed y) := ⟨_, rfl⟩; obtain ⟨gb, hgb⟩ : ∃ s, s = (groupB P Q G H rs) := ⟨_, rfl⟩; obtain ⟨r, hr⟩ : ∃ s, s = (inG P Q y) := ⟨_, rfl⟩; obtain ⟨la, hla⟩ : ∃ s, s = (label.length) := ⟨_, rfl⟩; obtain ⟨ls, hls⟩ : ∃ s, s = (seed.length) := ⟨_, rfl⟩
  have hout2 : out = (gb && decide (la ≤ 100) && decide (ls ≤ 100) && r) := by rw [hout, hgb, hr, hla, hls]; rfl
  rw [← hgb, ← hn] at hgr
  rw [← hr] at hin
  rw [← hout, ← hn]
  unfold gval at hgr hin
  have s1 : (str label).size = la := by rw [str_size, hla]
  have s2 : (str seed).size = ls := by rw [str_size, hls]
  obtain ⟨w0, hw0⟩ : ∃ z, z = ((w.alloc (.cells #[.int .u64 (P : Int), .int .u64 (Q : Int), .int .u64 (G : Int), .int .u64 (H : Int), .slice B n cap] 25)).alloc (.cells #[.string (str label), .string (str seed), .int .u64 (x : Int), .int .u64 (y : Int), .int .i64 F] 27)) := ⟨_, rfl⟩
  have hw0b : Below w.heap.size w w0 := by rw [hw0]; exact lat_alloc (lat_alloc (Below.refl _ _) _) _
  have hg : Blk w0 (w.heap.size) 25 [.int .u64 (P : Int), .int .u64 (Q : Int), .int .u64 (G : Int), .int .u64 (H : Int), .slice B n cap] := by rw [hw0]; exact ((Blk.of w _ _ _ rfl).alloc _)
  have hs : Blk w0 (w.heap.size + 1) 27 [.string (str label), .string (str seed), .int .u64 (x : Int), .int .u64 (y : Int), .int .i64 F] := by rw [hw0]; exact (Blk.at_new _ _ _ _ _ (by simp) rfl)
  obtain ⟨g0, g1, g2, g3, g4⟩ := cells_5 hg
  have Hgr := Lib.hid hgr; have Hin := Lib.hid hin; have Hw0 := Lib.hid hw0; have Hw0b := Lib.hid hw0b; have Hg := Lib.hid hg; have Hs := Lib.hid hs; have Hout2 := Lib.hid hout2; clear hgr hin hw0 hw0b hg hs hout2
  clear hout hgb hr hla hls hn hR hl hFl
  go_enter Tryz.func17, Tryz.ntmps17
  cases gb with
  | false =>
    have ho : out = false := by rw [Hout2.out]; rfl
    subst ho
    go_wp2_with (first | (go_at_call 32; rw [← Hw0.out]; refine (Hgr.out _ Hw0b.out).mono ?_; rintro e w3 ⟨rfl, hb3⟩; have Hb3 := Lib.hid hb3; clear hb3) | fail)
    go_ret
    exact ⟨rfl, below_trans Hw0b.out Hb3.out⟩
  | true =>
    by_cases h1 : la ≤ 100
    · have d1 : decide ((la : Int) ≤ 100) = true := decide_eq_true (by omega)
      by_cases h2 : ls ≤ 100
      · have d2 : decide ((ls : Int) ≤ 100) = true := decide_eq_true (by omega)
        have ho : out = r := by rw [Hout2.out, decide_eq_true h1, decide_eq_true h2]; rfl
        subst ho
        go_wp2_with (first | (go_at_call 32; rw [← Hw0.out]; refine (Hgr.out _ Hw0b.out).mono ?_; rintro e w3 ⟨rfl, hb3⟩; obtain ⟨g0, g1, g2, g3, g4⟩ := cells_5 (Hg.out.below hb3 Hg.out.lt); obtain ⟨k0, k1, k2, k3, k4⟩ := cells_5 (Hs.out.below hb3 Hs.out.lt); have Hb3 := Lib.hid hb3; clear hb3) | (go_at_call 20; refine (Hin.out _).mono ?_; rintro e w4 ⟨rfl, hb4⟩; have Hb4 := Lib.hid hb4; clear hb4) | fail)
        go_ret
        exact ⟨rfl, below_trans Hw0b.out (below_trans Hb3.out Hb4.out)⟩
      · have d2 : decide ((ls : Int) ≤ 100) = false := decide_eq_false (by omega)
        have ho : out = false := by rw [Hout2.out, decide_eq_false h2]; simp
        subst ho
        go_wp2_with (first | (go_at_call 32; rw [← Hw0.out]; refine (Hgr.out _ Hw0b.out).mono ?_; rintro e w3 ⟨rfl, hb3⟩; obtain ⟨k0, k1, k2, k3, k4⟩ := cells_5 (Hs.out.below hb3 Hs.out.lt); have Hb3 := Lib.hid hb3; clear hb3) | fail)
        go_ret
        exact ⟨rfl, below_trans Hw0b.out Hb3.out⟩
    · have d1 : decide ((la : Int) ≤ 100) = false := decide_eq_false (by omega)
      have ho : out = false := by rw [Hout2.out, decide_eq_false h1]; simp
      subst ho
      go_wp2_with (first | (go_at_call 32; rw [← Hw0.out]; refine (Hgr.out _ Hw0b.out).mono ?_; rintro e w3 ⟨rfl, hb3⟩; obtain ⟨k0, k1, k2, k3, k4⟩ := cells_5 (Hs.out.below hb3 Hs.out.lt); have Hb3 := Lib.hid hb3; clear hb3) | fail)
      go_ret
      exact ⟨rfl, below_trans Hw0b.out Hb3.out⟩

set_option maxRecDepth 100000 in
set_option maxHeartbeats 1000000 in
theorem short12_any (A : Option Addr) (n c : Nat) (B : Option Addr) (m d : Nat) (w : World) :
    Calls Tryz.prog 19 #[.agg #[.slice A n c, .slice B m d]] w fun e w' => e = .returned (.bool (decide (n ≤ 80) && decide (m ≤ 80))) ∧ Below w.heap.size w w' := by
  have hb := lat_alloc (Below.refl w.heap.size w) (.cells #[.slice A n c, .slice B m d] 42)
  have Hb := Lib.hid hb; clear hb
  go_enter Tryz.func19, Tryz.ntmps19
  by_cases h1 : n ≤ 80
  · have d1 : decide ((n : Int) ≤ 80) = true := decide_eq_true (by omega)
    by_cases h2 : m ≤ 80
    · have d2 : decide ((m : Int) ≤ 80) = true := decide_eq_true (by omega)
      rw [decide_eq_true h1, decide_eq_true h2]
      go_wp2_with fail
      go_ret
      exact ⟨rfl, Hb.out⟩
    · have d2 : decide ((m : Int) ≤ 80) = false := decide_eq_false (by omega)
      rw [decide_eq_true h1, decide_eq_false h2]
      go_wp2_with fail
      go_ret
      exact ⟨rfl, Hb.out⟩
  · have d1 : decide ((n : Int) ≤ 80) = false := decide_eq_false (by omega)
    rw [decide_eq_false h1]
    go_wp2_with fail
    go_ret
    exact ⟨rfl, Hb.out⟩
end Go.Proofs.YtbpenkaficiodaaGreat
