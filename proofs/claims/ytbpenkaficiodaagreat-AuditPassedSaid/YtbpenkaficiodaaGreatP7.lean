/- Joined texts, part 7: contracts of the functions that the laws reach, and what is needed for them. -/
import Derived.Test.YtbpenkaficiodaaGreatP6
/- The small claim is proved and accepted: law07.awake. -/
namespace Go.Proofs.YtbpenkaficiodaaGreat
open Go.RowKit Go.BigFrame

theorem ClaimV.below {w w' : World} {A : Option Addr} {cT : Nat} {T : List Nat} {B : Option Addr} {cB : Nat} {rs : List NumV} (h : Nums w A cT T ∧ Grid w B cB rs) (hl : Lat w w') : Nums w' A cT T ∧ Grid w' B cB rs := ⟨h.1.below hl, h.2.below hl⟩
/-- A claim as a value. -/
def ClaimV (T : List Nat) (L : List (List Nat)) (u : Value) (w : World) : Prop :=
  ∃ A cT B cB rs, u = cval A cT T.length B cB rs.length ∧ (Nums w A cT T ∧ Grid w B cB rs) ∧ rs.map (·.l) = L
theorem ClaimV.later {T : List Nat} {L : List (List Nat)} {u : Value} {w w' : World} (h : ClaimV T L u w) (hl : Lat w w') : ClaimV T L u w' :=
  let ⟨A, cT, B, cB, rs, e, hn, hm⟩ := h; ⟨A, cT, B, cB, rs, e, ClaimV.below hn hl, hm⟩
theorem ClaimV.of {T : List Nat} {L : List (List Nat)} {e : Ending} {w : World} (h : OutClaim T L e w) : ∃ u, e = .returned u ∧ ClaimV T L u w :=
  let ⟨A, cT, B, cB, rs, he, h1, h2, hm⟩ := h; ⟨_, he, A, cT, B, cB, rs, rfl, ⟨h1, h2⟩, hm⟩
/-- A slice of numbers as a value. -/
def NumsV (l : List Nat) (u : Value) (w : World) : Prop := ∃ A c, u = .slice A l.length c ∧ Nums w A c l
theorem NumsV.later {l : List Nat} {u : Value} {w w' : World} (h : NumsV l u w) (hl : Lat w w') : NumsV l u w' := let ⟨A, c, e, hn⟩ := h; ⟨A, c, e, hn.below hl⟩
theorem one_row {rs : List NumV} {l : List Nat} (h : rs.map (·.l) = [l]) : ∃ r, rs = [r] ∧ r.l = l := by
  cases rs with
  | nil => simp at h
  | cons r rs =>
    simp at h
    exact ⟨r, by rw [h.2], h.1⟩

theorem Row.otherT {w : World} {B b : Nat} {e T : TypeId} {n : Nat} {v : Value} {xs cs : List Value} (h : Row w B e 1 v n xs) (hb : Blk w b T cs) (hne : e ≠ T) (o : Nat) (x : Value) : Row (w.setCell ⟨b, o, none⟩ x) B e 1 v n xs := by
  refine h.kept (grown_set w b o x) ?_
  cases hv : v.ownBlock with
  | none => exact .inl rfl
  | some k =>
    refine .inr ?_
    intro hk
    injection hk with hk
    subst hk
    rcases h.2 with ⟨rfl, _⟩ | ⟨g, cap, cur, fz, rfl, _, hg, _⟩
    · simp [Value.ownBlock] at hv
    · simp [Value.ownBlock] at hv
      subst hv
      unfold Blk at hb
      rw [hg] at hb
      injection hb with hb
      injection hb with _ hb _
      exact hne hb

end Go.Proofs.YtbpenkaficiodaaGreat

/- Claims of tries: what stands while they are made. -/
namespace Go.Proofs.YtbpenkaficiodaaGreat
open Go.RowKit Go.BigFrame

/-- A row of three that was made from block B on, in a block of type T1; the row v lies elsewhere. -/
def KRow (T1 : TypeId) (B : Nat) (v : Value) (w : World) (r : NumV) : Prop := ∃ b, r.A = some ⟨b, 0, none⟩ ∧ r.cap = r.l.length ∧ B ≤ b ∧ Blk w b T1 (u64s r.l) ∧ some b ≠ v.ownBlock
/-- A claim that is being made in block c. -/
structure KW (T1 : TypeId) (B c : Nat) (tv bv : Value) (pts : List Nat) (rs all : List NumV) (w : World) : Prop where
  blk : Blk w c 83 [tv, bv]
  t : Row w B 22 1 tv pts.length (u64s pts)
  b : Row w B 40 1 bv rs.length (rs.map NumV.val)
  r : ∀ r ∈ all, KRow T1 B tv w r
theorem KRow.below {T1 : TypeId} {B : Nat} {v : Value} {w w' : World} {r : NumV} (h : KRow T1 B v w r) (hl : Lat w w') : KRow T1 B v w' r := let ⟨b, h0, h1, h2, h3, h4⟩ := h; ⟨b, h0, h1, h2, h3.below hl h3.lt, h4⟩
theorem KW.below {T1 : TypeId} {B c : Nat} {tv bv : Value} {pts : List Nat} {rs all : List NumV} {w w' : World} (h : KW T1 B c tv bv pts rs all w) (hl : Lat w w') : KW T1 B c tv bv pts rs all w' :=
  ⟨h.blk.below hl h.blk.lt, h.t.below hl, h.b.below hl, fun r hr => (h.r r hr).below hl⟩
theorem row_ne_blk {w : World} {B b : Nat} {e T : TypeId} {n : Nat} {v : Value} {xs cs : List Value} (h : Row w B e 1 v n xs) (hb : Blk w b T cs) (hne : e ≠ T) : some b ≠ v.ownBlock := by
  intro hv
  rcases h.2 with ⟨rfl, _⟩ | ⟨g, cap, cur, fz, rfl, _, hg, _⟩
  · simp [Value.ownBlock] at hv
  · simp [Value.ownBlock] at hv
    subst hv
    unfold Blk at hb
    rw [hg] at hb
    injection hb with hb
    injection hb with _ hb
    exact hne hb
theorem row_ne_low {w : World} {B c : Nat} {e : TypeId} {sz n : Nat} {v : Value} {xs : List Value} (h : Row w B e sz v n xs) (hc : c < B) : some c ≠ v.ownBlock := by
  intro hv
  have := (h.block c hv.symm).1
  omega
theorem row_ne_row {w : World} {B B' : Nat} {e e' : TypeId} {n n' : Nat} {v v' : Value} {xs xs' : List Value} (h : Row w B e 1 v n xs) (h' : Row w B' e' 1 v' n' xs') (hne : e ≠ e') : v.ownBlock = none ∨ v.ownBlock ≠ v'.ownBlock := by
  cases hv : v.ownBlock with
  | none => exact .inl rfl
  | some k =>
    refine .inr fun hk => ?_
    rcases h.2 with ⟨rfl, _⟩ | ⟨g, cap, cur, fz, rfl, _, hg, _⟩
    · simp [Value.ownBlock] at hv
    · simp [Value.ownBlock] at hv
      subst hv
      rcases h'.2 with ⟨rfl, _⟩ | ⟨g', cap', cur', fz', rfl, _, hg', _⟩
      · simp [Value.ownBlock] at hk
      · simp [Value.ownBlock] at hk
        subst hk
        rw [hg] at hg'
        injection hg' with hg'
        injection hg' with _ hg'
        exact hne hg'
theorem KRow.grown {T1 : TypeId} {B : Nat} {v : Value} {w w' : World} {r : NumV} {ρ : Option Nat} (h : KRow T1 B v w r) (hg : w.grownBy w' ρ) (hne : ∀ b, Blk w b T1 (u64s r.l) → some b ≠ v.ownBlock → some b ≠ ρ) : KRow T1 B v w' r :=
  let ⟨b, h0, h1, h2, h3, h4⟩ := h; ⟨b, h0, h1, h2, h3.grown hg (hne b h3 h4), h4⟩
theorem KRow.set {T1 : TypeId} {B c : Nat} {v : Value} {w : World} {r : NumV} (h : KRow T1 B v w r) (hc : c < B) (o : Nat) (x : Value) : KRow T1 B v (w.setCell ⟨c, o, none⟩ x) r :=
  let ⟨b, h0, h1, h2, h3, h4⟩ := h; ⟨b, h0, h1, h2, h3.other (by show b ≠ c; omega) x, h4⟩
/-- A number was written behind the first row. -/
theorem KW.pushT {T1 : TypeId} {B c : Nat} {tv bv tv1 : Value} {pts : List Nat} {rs all : List NumV} {w w1 : World} (h : KW T1 B c tv bv pts rs all w) (hc : c < B) (x : Nat) (hg : w.grownBy w1 tv.ownBlock) (hr : Row w1 B 22 1 tv1 (pts.length + 1) (u64s pts ++ [.int .u64 (x : Int)]))
    (hw : ∀ b, tv1.ownBlock = some b → tv.ownBlock = some b ∨ w.heap.size ≤ b) : KW T1 B c tv1 bv (pts ++ [x]) rs all (w1.setCell ⟨c, 0, none⟩ tv1) := by
  refine ⟨(h.blk.grown hg (row_ne_low h.t hc)).set 0 tv1, ?_, (h.b.kept hg (row_ne_row h.b h.t (by decide))).other hc 0 tv1, fun r hr => ?_⟩
  · have h1 := hr.other hc 0 tv1
    rw [show u64s (pts ++ [x]) = u64s pts ++ [.int .u64 (x : Int)] by simp [u64s], List.length_append]
    exact h1
  · obtain ⟨b, h0, h1, h2, h3, h4⟩ := (h.r r hr).grown hg (fun _ _ hne => hne)
    refine KRow.set ⟨b, h0, h1, h2, h3, fun he => ?_⟩ hc 0 tv1
    rcases hw b he.symm with he | he
    · exact h4 he.symm
    · obtain ⟨b', h0', _, _, h3', _⟩ := h.r r hr
      rw [h0] at h0'
      injection h0' with h0'
      injection h0' with h0'
      subst h0'
      have := h3'.lt
      omega
/-- A row was written behind the other. -/
theorem KW.pushB {T1 : TypeId} {B c : Nat} {tv bv bv1 : Value} {pts : List Nat} {rs all : List NumV} {w w1 : World} (h : KW T1 B c tv bv pts rs all w) (hT : 40 ≠ T1) (hc : c < B) (r0 : NumV) (hg : w.grownBy w1 bv.ownBlock) (hr : Row w1 B 40 1 bv1 (rs.length + 1) (rs.map NumV.val ++ [r0.val])) :
    KW T1 B c tv bv1 pts (rs ++ [r0]) all (w1.setCell ⟨c, 1, none⟩ bv1) := by
  refine ⟨(h.blk.grown hg (row_ne_low h.b hc)).set 1 bv1, (h.t.kept hg (row_ne_row h.t h.b (by decide))).other hc 1 bv1, ?_, fun r hr => ?_⟩
  · have h1 := hr.other hc 1 bv1
    rw [List.map_append, List.length_append]
    exact h1
  · exact ((h.r r hr).grown hg (fun b hb _ => row_ne_blk h.b hb hT)).set hc 1 bv1
theorem KW.more {T1 : TypeId} {B c : Nat} {tv bv : Value} {pts : List Nat} {rs all : List NumV} {w : World} (h : KW T1 B c tv bv pts rs all w) (r0 : NumV) (hr : KRow T1 B tv w r0) : KW T1 B c tv bv pts rs (all ++ [r0]) w :=
  ⟨h.blk, h.t, h.b, fun r hr' => (List.mem_append.1 hr').elim (h.r r) fun h1 => by simp at h1; subst h1; exact hr⟩
/-- The first state: nothing was written. -/
theorem KW.first {T1 : TypeId} {B c : Nat} {w : World} (hb : Blk w c 83 [.slice none 0 0, .slice none 0 0]) : KW T1 B c (.slice none 0 0) (.slice none 0 0) [] [] [] w :=
  ⟨hb, Row.nil _ _ _ _, Row.nil _ _ _ _, fun _ h => by simp at h⟩
/-- A block that is new now lies in no older row. -/
theorem KW.own_lt {T1 : TypeId} {B c : Nat} {tv bv : Value} {pts : List Nat} {rs all : List NumV} {w : World} (h : KW T1 B c tv bv pts rs all w) {b : Nat} (hb : w.heap.size ≤ b) : some b ≠ tv.ownBlock := fun he => by
  have := (h.t.block b he.symm).2; omega
theorem KW.out {T1 : TypeId} {B c : Nat} {tv bv : Value} {pts : List Nat} {rs : List NumV} {L : List (List Nat)} {w : World} (h : KW T1 B c tv bv pts rs rs w) (hn : 0 < rs.length) (hL : rs.map (·.l) = L) (hp : ∀ x ∈ pts, x < 18446744073709551616) (hl : ∀ l ∈ L, ∀ x ∈ l, x < 18446744073709551616) : OutClaim pts L (.returned (.agg #[tv, bv])) w := by
  obtain ⟨A, cT, hv, hN⟩ := nums_of_row h.t hp
  obtain ⟨g, cap, hv2, _, _, hcap, hcells⟩ := h.b.form hn
  refine ⟨A, cT, some ⟨g, 0, none⟩, cap, rs, by rw [hv, hv2]; rfl, hN, ⟨hcap, fun i r hr => ⟨_, rfl, ?_⟩, fun r hr => ?_⟩, hL⟩
  · rw [blk_add]
    exact (hcells i r.val (by rw [List.getElem?_map, hr]; rfl)).1
  · obtain ⟨b, h0, h1, _, h3, _⟩ := h.r r hr
    rw [h0, h1]
    exact Nums.of_blk h3 (hl _ (by rw [← hL]; exact List.mem_map.2 ⟨r, hr, rfl⟩))
theorem Tryz.un_numss : Tryz.prog.underlying 81 = some (.slice 40) := by kernel_rfl
theorem Tryz.inf_nums : (Tryz.prog.info? 40).map (fun i => (i.zero, i.size, i.bytes)) = some (some (.slice none 0 0), 1, 24) := by kernel_rfl
theorem lat_alloc {w w' : World} (h : Lat w w') (o : Obj) : Lat w (w'.alloc o) := Below.alloc h h.size o
def slist (p0 q0 p1 q1 p2 q2 : Nat) : List Value := [.int .u64 (p0 : Int), .int .u64 (q0 : Int), .int .u64 (p1 : Int), .int .u64 (q1 : Int), .int .u64 (p2 : Int), .int .u64 (q2 : Int)]
def sval (p0 q0 p1 q1 p2 q2 : Nat) : Value := .agg #[.int .u64 (p0 : Int), .int .u64 (q0 : Int), .int .u64 (p1 : Int), .int .u64 (q1 : Int), .int .u64 (p2 : Int), .int .u64 (q2 : Int)]
/-- What stands around the claim that is being made in block w0.heap.size + 3. -/
structure KF (gl sl : List Value) (w0 w : World) : Prop where
  g : Blk w w0.heap.size 25 gl
  s : Blk w (w0.heap.size + 1) 63 sl
  o : Blk w (w0.heap.size + 2) 83 [.slice none 0 0, .slice none 0 0]
  b : Below w0.heap.size w0 w
theorem KF.below {gl sl : List Value} {w0 w w' : World} (h : KF gl sl w0 w) (hl : Lat w w') : KF gl sl w0 w' := ⟨h.g.below hl h.g.lt, h.s.below hl h.s.lt, h.o.below hl h.o.lt, below_trans h.b hl⟩
theorem KF.grown {gl sl : List Value} {w0 w w' : World} {ρ : Option Nat} (h : KF gl sl w0 w) (hg : w.grownBy w' ρ) (hlow : ∀ c, c < w0.heap.size + 4 → some c ≠ ρ) : KF gl sl w0 w' :=
  ⟨h.g.grown hg (hlow _ (by omega)), h.s.grown hg (hlow _ (by omega)), h.o.grown hg (hlow _ (by omega)), ⟨hg.os.trans h.b.os, hg.tape.trans h.b.tape, hg.output.trans h.b.output, Nat.le_trans h.b.size hg.size, fun k hk => (hg.block k (Nat.lt_of_lt_of_le hk h.b.size) (hlow k (by omega))).trans (h.b.block k hk)⟩⟩
theorem KF.set {gl sl : List Value} {w0 w : World} (h : KF gl sl w0 w) {c : Nat} (hc : w0.heap.size + 3 ≤ c) (o : Nat) (x : Value) : KF gl sl w0 (w.setCell ⟨c, o, none⟩ x) :=
  ⟨h.g.other (by show _ ≠ c; omega) x, h.s.other (by show _ ≠ c; omega) x, h.o.other (by show _ ≠ c; omega) x, below_set h.b (by omega) o x⟩
theorem KF.first (P Q G H p0 q0 p1 q1 p2 q2 : Nat) (R : Value) (w W : World) (h : W = (((w.alloc (.cells #[.int .u64 (P : Int), .int .u64 (Q : Int), .int .u64 (G : Int), .int .u64 (H : Int), R] 25)).alloc (.cells #[.int .u64 (p0 : Int), .int .u64 (q0 : Int), .int .u64 (p1 : Int), .int .u64 (q1 : Int), .int .u64 (p2 : Int), .int .u64 (q2 : Int)] 63)).alloc (.cells #[.slice none 0 0, .slice none 0 0] 83)).alloc (.cells #[.slice none 0 0, .slice none 0 0] 83)) :
    KF (glist P Q G H R) (slist p0 q0 p1 q1 p2 q2) w W := by
  subst h
  exact ⟨(((Blk.of w _ _ _ rfl).alloc _).alloc _).alloc _, ((Blk.at_new _ _ _ _ _ (by simp) rfl).alloc _).alloc _, (Blk.at_new _ _ _ _ _ (by simp) rfl).alloc _, lat_alloc (lat_alloc (lat_alloc (lat_alloc (Below.refl _ _) _) _) _) _⟩
theorem ix_box0 (p0 q0 p1 q1 p2 q2 : Nat) (w : World) : (Instr.index 63 (.agg #[.int .u64 (p0 : Int), .int .u64 (q0 : Int), .int .u64 (p1 : Int), .int .u64 (q1 : Int), .int .u64 (p2 : Int), .int .u64 (q2 : Int)]) (.int .i64 0)).run Tryz.prog w = .ok (.agg #[.int .u64 (p0 : Int), .int .u64 (q0 : Int)]) w := by
  kernel_rfl
theorem ix_box1 (p0 q0 p1 q1 p2 q2 : Nat) (w : World) : (Instr.index 63 (.agg #[.int .u64 (p0 : Int), .int .u64 (q0 : Int), .int .u64 (p1 : Int), .int .u64 (q1 : Int), .int .u64 (p2 : Int), .int .u64 (q2 : Int)]) (.int .i64 1)).run Tryz.prog w = .ok (.agg #[.int .u64 (p1 : Int), .int .u64 (q1 : Int)]) w := by
  kernel_rfl
theorem ix_box2 (p0 q0 p1 q1 p2 q2 : Nat) (w : World) : (Instr.index 63 (.agg #[.int .u64 (p0 : Int), .int .u64 (q0 : Int), .int .u64 (p1 : Int), .int .u64 (q1 : Int), .int .u64 (p2 : Int), .int .u64 (q2 : Int)]) (.int .i64 2)).run Tryz.prog w = .ok (.agg #[.int .u64 (p2 : Int), .int .u64 (q2 : Int)]) w := by
  kernel_rfl
/-- Another low block is written. -/
theorem KW.low {T1 : TypeId} {B c : Nat} {tv bv : Value} {pts : List Nat} {rs all : List NumV} {w : World} (h : KW T1 B c tv bv pts rs all w) {o : Nat} (ho : o < B) (hc : o ≠ c) (j : Nat) (x : Value) : KW T1 B c tv bv pts rs all (w.setCell ⟨o, j, none⟩ x) :=
  ⟨h.blk.other (by show c ≠ o; omega) x, h.t.other ho j x, h.b.other ho j x, fun r hr => (h.r r hr).set ho j x⟩
end Go.Proofs.YtbpenkaficiodaaGreat

/- Claims of tries: the program's walk. -/
namespace Go.Proofs.YtbpenkaficiodaaGreat
open Go.RowKit Go.BigFrame

set_option maxRecDepth 100000 in
set_option maxHeartbeats 2000000 in
theorem knows_any (P Q G H p0 q0 p1 q1 p2 q2 : Nat) (R : Value) (w : World) (hG : G < 18446744073709551616) (h0 : p0 < 18446744073709551616) (h1 : p1 < 18446744073709551616) (h2 : p2 < 18446744073709551616) :
    Calls Tryz.prog 85 #[gval P Q G H R, sval p0 q0 p1 q1 p2 q2] w fun e w' => OutClaim [p0, p1, p2] [[G, 1, 1], [1, G, 1], [1, 1, G]] e w' ∧ Below w.heap.size w w' := by
  unfold gval sval
  go_enter Tryz.func85, Tryz.ntmps85
  go_wp2_with fail
  obtain ⟨W4, hW4⟩ : ∃ W4, W4 = (((w.alloc (.cells #[.int .u64 (P : Int), .int .u64 (Q : Int), .int .u64 (G : Int), .int .u64 (H : Int), R] 25)).alloc (.cells #[.int .u64 (p0 : Int), .int .u64 (q0 : Int), .int .u64 (p1 : Int), .int .u64 (q1 : Int), .int .u64 (p2 : Int), .int .u64 (q2 : Int)] 63)).alloc (.cells #[.slice none 0 0, .slice none 0 0] 83)).alloc (.cells #[.slice none 0 0, .slice none 0 0] 83) := ⟨_, rfl⟩
  rw [← hW4]
  have HF0 := Lib.hid (KF.first P Q G H p0 q0 p1 q1 p2 q2 R w _ hW4)
  have HK0 := Lib.hid (KW.first (T1 := 93) (B := w.heap.size + 4) (c := w.heap.size + 3) (w := W4) (by rw [hW4]; exact Blk.at_new _ _ _ _ _ (by simp) rfl))
  clear hW4
  go_loopw [10] (fun iv wr => ∃ (k : Nat) (tv bv : Value) (rs : List NumV), iv = .int .i64 (k : Int) ∧ k ≤ 3 ∧ rs.length = k ∧ rs.map (·.l) = [[G, 1, 1], [1, G, 1], [1, 1, G]].take k ∧ KW 93 (w.heap.size + 4) (w.heap.size + 3) tv bv ([p0, p1, p2].take k) rs rs wr ∧ KF (glist P Q G H R) (slist p0 q0 p1 q1 p2 q2) w wr) (fun iv _ => 3 - (intOf iv).toNat)
  case atStart => exact ⟨0, _, _, [], rfl, by omega, rfl, rfl, HK0.out, HF0.out⟩
  case round =>
    obtain ⟨k, tv, bv, rs, rfl, hk, hrl, hm, hK, hF⟩ := hrel
    clear HF0 HK0
    have hk4 : k = 0 ∨ k = 1 ∨ k = 2 ∨ k = 3 := by omega
    rcases hk4 with rfl | rfl | rfl | rfl
    · -- round 0
      obtain ⟨W, hW⟩ : ∃ W, W = (wr.alloc (.cells #[.int .u64 (p0 : Int), .int .u64 (q0 : Int)] 61)).alloc (.cells #[.int .u64 (G : Int), .int .u64 1, .int .u64 1] 93) := ⟨_, rfl⟩
      obtain ⟨b0, hb0⟩ : ∃ b0, b0 = wr.heap.size + 1 := ⟨_, rfl⟩
      have hlW : Lat wr W := by rw [hW]; exact lat_alloc (lat_alloc (Below.refl _ _) _) _
      have hsW : W.heap.size = b0 + 1 := by rw [hW, hb0]; simp
      have hKW := (hK.below hlW).more ⟨some ⟨b0, 0, none⟩, 3, [G, 1, 1]⟩ ⟨b0, rfl, rfl, by have := hF.b.size; have := hK.blk.lt; omega, by rw [hW]; exact Blk.at_new _ _ _ _ _ (by simp [hb0]) rfl, (fun he => by have := (hK.t.block b0 he.symm).2; omega)⟩
      have hFW := hF.below hlW
      have HKW := Lib.hid hKW
      have HFW := Lib.hid hFW
      have hBW : w.heap.size + 4 ≤ W.heap.size := by have := hK.blk.lt; have := hlW.size; omega
      have hb0' := hK.blk
      have c0 : wr.cell? ⟨w.heap.size + 1 + 1 + 1, 0, none⟩ = some tv := (two_cells hb0').1
      have d0 : wr.cell? ⟨w.heap.size, 2, none⟩ = some (.int .u64 (G : Int)) := hF.g.cell 2
      have c1 := fun o1 o2 => below_cell (lat_alloc (lat_alloc (Below.refl wr.heap.size wr) o1) o2) c0
      have d1 := fun o1 o2 => below_cell (lat_alloc (lat_alloc (Below.refl wr.heap.size wr) o1) o2) d0
      clear hb0'
      have HW := Lib.hid hW
      have Hb0 := Lib.hid hb0
      have HsW := Lib.hid hsW
      clear hK hF hKW hFW hlW hb0 hsW hW
      have hix := ix_box0 p0 q0 p1 q1 p2 q2
      go_wp2_with (at_builtin; go_must (rw [← HW.out]; refine ap_oneW (B := w.heap.size + 4) (xs := u64s []) Tryz.un_nums Tryz.inf_u64 rfl HKW.out.t rfl (by omega) (by simp [u64s]) hBW rfl _ _ rfl rfl (by rw [HsW.out, Hb0.out]; rfl) ?_; intro v1 w1 hr0 hg1 hw1; have hr1 := row_len hr0 (show _ = 1 by simp [u64s]) rfl; have HKc := Lib.hid (KW.pushT HKW.out (by omega) p0 hg1 hr1 (fun b hb => hw1.elim (fun h => .inl (h ▸ hb)) (fun h => .inr (by rw [h] at hb; injection hb with hb; omega)))); have HFc := Lib.hid ((HFW.out.grown hg1 (fun c hc => row_ne_low HKW.out.t hc)).set (c := w.heap.size + 3) (Nat.le_refl _) 0 v1); have hb1 := HKW.out.blk.grown hg1 (row_ne_low HKW.out.t (by omega)); have k1 : w1.cell? ⟨w.heap.size + 1 + 1 + 1, 0, none⟩ = some tv := hb1.cell 0; have k2 : w1.cell? ⟨w.heap.size + 1 + 1 + 1, 1, none⟩ = some bv := hb1.cell 1; have f1 : w1.frozen? ⟨w.heap.size + 1 + 1 + 1, 0, none⟩ = false := hb1.frozen 0; obtain ⟨X1, cc1, hv1⟩ := hr1.slice; subst hv1; clear hr0 hr1 hb1 hg1 hw1))
      obtain ⟨W2, hW2⟩ : ∃ W2, W2 = w1.setCell ⟨w.heap.size + 1 + 1 + 1, 0, none⟩ (.slice X1 1 cc1) := ⟨_, rfl⟩
      rw [← hW2, ← Hb0.out]
      have hK2 : KW 93 (w.heap.size + 4) (w.heap.size + 3) (.slice X1 1 cc1) bv ([] ++ [p0]) rs (rs ++ [⟨some ⟨b0, 0, none⟩, 3, [G, 1, 1]⟩]) W2 := by rw [hW2]; exact HKc.out
      have hF2 : KF (glist P Q G H R) (slist p0 q0 p1 q1 p2 q2) w W2 := by rw [hW2]; exact HFc.out
      have HK2 := Lib.hid hK2
      have HF2 := Lib.hid hF2
      have hB2 : w.heap.size + 4 ≤ W2.heap.size := by have := hK2.blk.lt; omega
      have hHO := row_len hK2.b (show rs.length = (rs.map NumV.val).length by simp) rfl
      have hB3 : (rs.map NumV.val).length + 1 ≤ 1000 := by simp; omega
      have Hrl := Lib.hid hrl
      have Hm := Lib.hid hm
      have k2' : W2.cell? ⟨w.heap.size + 1 + 1 + 1, 1, none⟩ = some bv := (two_cells hK2.blk).2
      have hne : some (w.heap.size + 3) ≠ bv.ownBlock := row_ne_low hK2.b (by omega)
      have l1 := LaterR.cell (ρ := bv.ownBlock) k2' hne
      clear hK2 hF2 hW2 HKc HFc HKW HFW HW HsW c0 c1 d0 d1 hix k1 k2 k2' f1 hrl hm hBW
      refine region_one 29 30 4 6 (by decide) hHO (.slice (some ⟨b0, 0, none⟩) 3 3) hB2 hB3 (by rfl) (by rfl) (by kernel_rfl) (by kernel_rfl) (by rfl) ?_
      simp only [List.take_succ_cons, List.take_zero, List.drop_succ_cons, List.drop_zero]
      (repeat (first | (refine appA_skip (by decide) (by rfl) ?_; simp only [Act.put, List.setIfInBounds_toArray, List.set_cons_zero, List.set_cons_succ]) | (refine appA_plain (by decide) (by rfl) (by rfl) (by rfl) (fun Kc hKc => ?_); go_big_quiet_op; refine hKc _ ?_; clear hKc Kc)))
      refine appA_make 29 (V := fun w => .slice (some ⟨w.heap.size, 0, none⟩) 1 1) (W := fun w => w.alloc (.cells #[.slice (some ⟨b0, 0, none⟩) 3 3] 40)) (by decide) (fun w => by go_simp) (by rfl) (by rfl) (by rfl) (fun wk hlk _ => ⟨(Below.refl _ _).alloc (Nat.le_refl _) _, _, rfl, hlk.size, Blk.of _ _ _ _ rfl⟩) ?_
      rintro _ wk hlk ⟨bs, rfl, hbs, hbk⟩
      simp only [Act.put, List.setIfInBounds_toArray, List.set_cons_zero, List.set_cons_succ]
      refine appA_one 30 (B := w.heap.size + 4) (v := bv) (xs := rs.map NumV.val) (ad := ⟨bs, 0, none⟩) (y := .slice (some ⟨b0, 0, none⟩) 3 3) Tryz.un_numss Tryz.inf_nums rfl hHO rfl rfl (by omega) (by have := hB3; omega) hB2 rfl rfl _ _ rfl rfl rfl (fun wx hlx hd => by
        obtain ⟨b', he, _, hbk⟩ := hd 29 (by decide) _ (.inl ⟨rfl, rfl⟩)
        injection he with he
        injection he with he
        injection he with he
        subst he
        exact hbk.cell 0) (by rfl) (by rfl) (by rfl) (fun u wx h1 h2 => ⟨h1, h2⟩) ?_
      rintro bv1 wk1 hlk1 hbv1
      simp only [Act.put, List.setIfInBounds_toArray, List.set_cons_zero, List.set_cons_succ]
      (repeat (first | (refine appA_skip (by decide) (by rfl) ?_; simp only [Act.put, List.setIfInBounds_toArray, List.set_cons_zero, List.set_cons_succ]) | (refine appA_plain (by decide) (by rfl) (by rfl) (by rfl) (fun Kc hKc => ?_); go_big_quiet_op; refine hKc _ ?_; clear hKc Kc)))
      refine appA_nil ?_
      intro wq hlq hkn
      have hrow := (hkn 30 bv1 (by simp [behind, gadd])).1
      have hrow' := row_len hrow (show _ = 1 by simp [Hrl.out]) rfl
      have hb3 := HK2.out.blk.grown hlq hne
      have k3 : wq.cell? ⟨w.heap.size + 1 + 1 + 1, 1, none⟩ = some bv := hb3.cell 1
      have f3 : wq.frozen? ⟨w.heap.size + 1 + 1 + 1, 1, none⟩ = false := hb3.frozen 1
      have HK3 := Lib.hid (KW.pushB HK2.out (by decide) (by omega) ⟨some ⟨b0, 0, none⟩, 3, [G, 1, 1]⟩ hlq (row_len hrow (by simp) rfl))
      have HF3 := Lib.hid ((HF2.out.grown hlq (fun c hc => row_ne_low HK2.out.b hc)).set (c := w.heap.size + 3) (Nat.le_refl _) 1 bv1)
      obtain ⟨Xb, cb, hvb⟩ := hrow'.slice
      subst hvb
      clear hkn hrow hrow' hb3 hlq hbv1 hlk1 hlk hbk hbs l1 HK2 HF2 hHO hne
      go_wp2_with fail
      refine NoPanic.normal ?_
      go_wp2_with fail
      go_roundw
      case rel => exact ⟨1, _, _, rs ++ [_], rfl, by omega, by simp [Hrl.out], by simp [Hm.out], HK3.out, HF3.out⟩
      case measure => simp [intOf]
    · -- round 1
      obtain ⟨W, hW⟩ : ∃ W, W = (wr.alloc (.cells #[.int .u64 (p1 : Int), .int .u64 (q1 : Int)] 61)).alloc (.cells #[.int .u64 1, .int .u64 (G : Int), .int .u64 1] 93) := ⟨_, rfl⟩
      obtain ⟨b0, hb0⟩ : ∃ b0, b0 = wr.heap.size + 1 := ⟨_, rfl⟩
      have hlW : Lat wr W := by rw [hW]; exact lat_alloc (lat_alloc (Below.refl _ _) _) _
      have hsW : W.heap.size = b0 + 1 := by rw [hW, hb0]; simp
      have hKW := (hK.below hlW).more ⟨some ⟨b0, 0, none⟩, 3, [1, G, 1]⟩ ⟨b0, rfl, rfl, by have := hF.b.size; have := hK.blk.lt; omega, by rw [hW]; exact Blk.at_new _ _ _ _ _ (by simp [hb0]) rfl, (fun he => by have := (hK.t.block b0 he.symm).2; omega)⟩
      have hFW := hF.below hlW
      have HKW := Lib.hid hKW
      have HFW := Lib.hid hFW
      have hBW : w.heap.size + 4 ≤ W.heap.size := by have := hK.blk.lt; have := hlW.size; omega
      have hb0' := hK.blk
      have c0 : wr.cell? ⟨w.heap.size + 1 + 1 + 1, 0, none⟩ = some tv := (two_cells hb0').1
      have d0 : wr.cell? ⟨w.heap.size, 2, none⟩ = some (.int .u64 (G : Int)) := hF.g.cell 2
      have c1 := fun o1 o2 => below_cell (lat_alloc (lat_alloc (Below.refl wr.heap.size wr) o1) o2) c0
      have d1 := fun o1 o2 => below_cell (lat_alloc (lat_alloc (Below.refl wr.heap.size wr) o1) o2) d0
      clear hb0'
      have HW := Lib.hid hW
      have Hb0 := Lib.hid hb0
      have HsW := Lib.hid hsW
      clear hK hF hKW hFW hlW hb0 hsW hW
      have hix := ix_box1 p0 q0 p1 q1 p2 q2
      go_wp2_with (at_builtin; go_must (rw [← HW.out]; refine ap_oneW (B := w.heap.size + 4) (xs := u64s [p0]) Tryz.un_nums Tryz.inf_u64 rfl HKW.out.t rfl (by omega) (by simp [u64s]) hBW rfl _ _ rfl rfl (by rw [HsW.out, Hb0.out]; rfl) ?_; intro v1 w1 hr0 hg1 hw1; have hr1 := row_len hr0 (show _ = 2 by simp [u64s]) rfl; have HKc := Lib.hid (KW.pushT HKW.out (by omega) p1 hg1 hr1 (fun b hb => hw1.elim (fun h => .inl (h ▸ hb)) (fun h => .inr (by rw [h] at hb; injection hb with hb; omega)))); have HFc := Lib.hid ((HFW.out.grown hg1 (fun c hc => row_ne_low HKW.out.t hc)).set (c := w.heap.size + 3) (Nat.le_refl _) 0 v1); have hb1 := HKW.out.blk.grown hg1 (row_ne_low HKW.out.t (by omega)); have k1 : w1.cell? ⟨w.heap.size + 1 + 1 + 1, 0, none⟩ = some tv := hb1.cell 0; have k2 : w1.cell? ⟨w.heap.size + 1 + 1 + 1, 1, none⟩ = some bv := hb1.cell 1; have f1 : w1.frozen? ⟨w.heap.size + 1 + 1 + 1, 0, none⟩ = false := hb1.frozen 0; obtain ⟨X1, cc1, hv1⟩ := hr1.slice; subst hv1; clear hr0 hr1 hb1 hg1 hw1))
      obtain ⟨W2, hW2⟩ : ∃ W2, W2 = w1.setCell ⟨w.heap.size + 1 + 1 + 1, 0, none⟩ (.slice X1 2 cc1) := ⟨_, rfl⟩
      rw [← hW2, ← Hb0.out]
      have hK2 : KW 93 (w.heap.size + 4) (w.heap.size + 3) (.slice X1 2 cc1) bv ([p0] ++ [p1]) rs (rs ++ [⟨some ⟨b0, 0, none⟩, 3, [1, G, 1]⟩]) W2 := by rw [hW2]; exact HKc.out
      have hF2 : KF (glist P Q G H R) (slist p0 q0 p1 q1 p2 q2) w W2 := by rw [hW2]; exact HFc.out
      have HK2 := Lib.hid hK2
      have HF2 := Lib.hid hF2
      have hB2 : w.heap.size + 4 ≤ W2.heap.size := by have := hK2.blk.lt; omega
      have hHO := row_len hK2.b (show rs.length = (rs.map NumV.val).length by simp) rfl
      have hB3 : (rs.map NumV.val).length + 1 ≤ 1000 := by simp; omega
      have Hrl := Lib.hid hrl
      have Hm := Lib.hid hm
      have k2' : W2.cell? ⟨w.heap.size + 1 + 1 + 1, 1, none⟩ = some bv := (two_cells hK2.blk).2
      have hne : some (w.heap.size + 3) ≠ bv.ownBlock := row_ne_low hK2.b (by omega)
      have l1 := LaterR.cell (ρ := bv.ownBlock) k2' hne
      clear hK2 hF2 hW2 HKc HFc HKW HFW HW HsW c0 c1 d0 d1 hix k1 k2 k2' f1 hrl hm hBW
      refine region_one 29 30 4 6 (by decide) hHO (.slice (some ⟨b0, 0, none⟩) 3 3) hB2 hB3 (by rfl) (by rfl) (by kernel_rfl) (by kernel_rfl) (by rfl) ?_
      simp only [List.take_succ_cons, List.take_zero, List.drop_succ_cons, List.drop_zero]
      (repeat (first | (refine appA_skip (by decide) (by rfl) ?_; simp only [Act.put, List.setIfInBounds_toArray, List.set_cons_zero, List.set_cons_succ]) | (refine appA_plain (by decide) (by rfl) (by rfl) (by rfl) (fun Kc hKc => ?_); go_big_quiet_op; refine hKc _ ?_; clear hKc Kc)))
      refine appA_make 29 (V := fun w => .slice (some ⟨w.heap.size, 0, none⟩) 1 1) (W := fun w => w.alloc (.cells #[.slice (some ⟨b0, 0, none⟩) 3 3] 40)) (by decide) (fun w => by go_simp) (by rfl) (by rfl) (by rfl) (fun wk hlk _ => ⟨(Below.refl _ _).alloc (Nat.le_refl _) _, _, rfl, hlk.size, Blk.of _ _ _ _ rfl⟩) ?_
      rintro _ wk hlk ⟨bs, rfl, hbs, hbk⟩
      simp only [Act.put, List.setIfInBounds_toArray, List.set_cons_zero, List.set_cons_succ]
      refine appA_one 30 (B := w.heap.size + 4) (v := bv) (xs := rs.map NumV.val) (ad := ⟨bs, 0, none⟩) (y := .slice (some ⟨b0, 0, none⟩) 3 3) Tryz.un_numss Tryz.inf_nums rfl hHO rfl rfl (by omega) (by have := hB3; omega) hB2 rfl rfl _ _ rfl rfl rfl (fun wx hlx hd => by
        obtain ⟨b', he, _, hbk⟩ := hd 29 (by decide) _ (.inl ⟨rfl, rfl⟩)
        injection he with he
        injection he with he
        injection he with he
        subst he
        exact hbk.cell 0) (by rfl) (by rfl) (by rfl) (fun u wx h1 h2 => ⟨h1, h2⟩) ?_
      rintro bv1 wk1 hlk1 hbv1
      simp only [Act.put, List.setIfInBounds_toArray, List.set_cons_zero, List.set_cons_succ]
      (repeat (first | (refine appA_skip (by decide) (by rfl) ?_; simp only [Act.put, List.setIfInBounds_toArray, List.set_cons_zero, List.set_cons_succ]) | (refine appA_plain (by decide) (by rfl) (by rfl) (by rfl) (fun Kc hKc => ?_); go_big_quiet_op; refine hKc _ ?_; clear hKc Kc)))
      refine appA_nil ?_
      intro wq hlq hkn
      have hrow := (hkn 30 bv1 (by simp [behind, gadd])).1
      have hrow' := row_len hrow (show _ = 2 by simp [Hrl.out]) rfl
      have hb3 := HK2.out.blk.grown hlq hne
      have k3 : wq.cell? ⟨w.heap.size + 1 + 1 + 1, 1, none⟩ = some bv := hb3.cell 1
      have f3 : wq.frozen? ⟨w.heap.size + 1 + 1 + 1, 1, none⟩ = false := hb3.frozen 1
      have HK3 := Lib.hid (KW.pushB HK2.out (by decide) (by omega) ⟨some ⟨b0, 0, none⟩, 3, [1, G, 1]⟩ hlq (row_len hrow (by simp) rfl))
      have HF3 := Lib.hid ((HF2.out.grown hlq (fun c hc => row_ne_low HK2.out.b hc)).set (c := w.heap.size + 3) (Nat.le_refl _) 1 bv1)
      obtain ⟨Xb, cb, hvb⟩ := hrow'.slice
      subst hvb
      clear hkn hrow hrow' hb3 hlq hbv1 hlk1 hlk hbk hbs l1 HK2 HF2 hHO hne
      go_wp2_with fail
      refine NoPanic.normal ?_
      go_wp2_with fail
      go_roundw
      case rel => exact ⟨2, _, _, rs ++ [_], rfl, by omega, by simp [Hrl.out], by simp [Hm.out], HK3.out, HF3.out⟩
      case measure => simp [intOf]
    · -- round 2
      obtain ⟨W, hW⟩ : ∃ W, W = (wr.alloc (.cells #[.int .u64 (p2 : Int), .int .u64 (q2 : Int)] 61)).alloc (.cells #[.int .u64 1, .int .u64 1, .int .u64 (G : Int)] 93) := ⟨_, rfl⟩
      obtain ⟨b0, hb0⟩ : ∃ b0, b0 = wr.heap.size + 1 := ⟨_, rfl⟩
      have hlW : Lat wr W := by rw [hW]; exact lat_alloc (lat_alloc (Below.refl _ _) _) _
      have hsW : W.heap.size = b0 + 1 := by rw [hW, hb0]; simp
      have hKW := (hK.below hlW).more ⟨some ⟨b0, 0, none⟩, 3, [1, 1, G]⟩ ⟨b0, rfl, rfl, by have := hF.b.size; have := hK.blk.lt; omega, by rw [hW]; exact Blk.at_new _ _ _ _ _ (by simp [hb0]) rfl, (fun he => by have := (hK.t.block b0 he.symm).2; omega)⟩
      have hFW := hF.below hlW
      have HKW := Lib.hid hKW
      have HFW := Lib.hid hFW
      have hBW : w.heap.size + 4 ≤ W.heap.size := by have := hK.blk.lt; have := hlW.size; omega
      have hb0' := hK.blk
      have c0 : wr.cell? ⟨w.heap.size + 1 + 1 + 1, 0, none⟩ = some tv := (two_cells hb0').1
      have d0 : wr.cell? ⟨w.heap.size, 2, none⟩ = some (.int .u64 (G : Int)) := hF.g.cell 2
      have c1 := fun o1 o2 => below_cell (lat_alloc (lat_alloc (Below.refl wr.heap.size wr) o1) o2) c0
      have d1 := fun o1 o2 => below_cell (lat_alloc (lat_alloc (Below.refl wr.heap.size wr) o1) o2) d0
      clear hb0'
      have HW := Lib.hid hW
      have Hb0 := Lib.hid hb0
      have HsW := Lib.hid hsW
      clear hK hF hKW hFW hlW hb0 hsW hW
      have hix := ix_box2 p0 q0 p1 q1 p2 q2
      go_wp2_with (at_builtin; go_must (rw [← HW.out]; refine ap_oneW (B := w.heap.size + 4) (xs := u64s [p0, p1]) Tryz.un_nums Tryz.inf_u64 rfl HKW.out.t rfl (by omega) (by simp [u64s]) hBW rfl _ _ rfl rfl (by rw [HsW.out, Hb0.out]; rfl) ?_; intro v1 w1 hr0 hg1 hw1; have hr1 := row_len hr0 (show _ = 3 by simp [u64s]) rfl; have HKc := Lib.hid (KW.pushT HKW.out (by omega) p2 hg1 hr1 (fun b hb => hw1.elim (fun h => .inl (h ▸ hb)) (fun h => .inr (by rw [h] at hb; injection hb with hb; omega)))); have HFc := Lib.hid ((HFW.out.grown hg1 (fun c hc => row_ne_low HKW.out.t hc)).set (c := w.heap.size + 3) (Nat.le_refl _) 0 v1); have hb1 := HKW.out.blk.grown hg1 (row_ne_low HKW.out.t (by omega)); have k1 : w1.cell? ⟨w.heap.size + 1 + 1 + 1, 0, none⟩ = some tv := hb1.cell 0; have k2 : w1.cell? ⟨w.heap.size + 1 + 1 + 1, 1, none⟩ = some bv := hb1.cell 1; have f1 : w1.frozen? ⟨w.heap.size + 1 + 1 + 1, 0, none⟩ = false := hb1.frozen 0; obtain ⟨X1, cc1, hv1⟩ := hr1.slice; subst hv1; clear hr0 hr1 hb1 hg1 hw1))
      obtain ⟨W2, hW2⟩ : ∃ W2, W2 = w1.setCell ⟨w.heap.size + 1 + 1 + 1, 0, none⟩ (.slice X1 3 cc1) := ⟨_, rfl⟩
      rw [← hW2, ← Hb0.out]
      have hK2 : KW 93 (w.heap.size + 4) (w.heap.size + 3) (.slice X1 3 cc1) bv ([p0, p1] ++ [p2]) rs (rs ++ [⟨some ⟨b0, 0, none⟩, 3, [1, 1, G]⟩]) W2 := by rw [hW2]; exact HKc.out
      have hF2 : KF (glist P Q G H R) (slist p0 q0 p1 q1 p2 q2) w W2 := by rw [hW2]; exact HFc.out
      have HK2 := Lib.hid hK2
      have HF2 := Lib.hid hF2
      have hB2 : w.heap.size + 4 ≤ W2.heap.size := by have := hK2.blk.lt; omega
      have hHO := row_len hK2.b (show rs.length = (rs.map NumV.val).length by simp) rfl
      have hB3 : (rs.map NumV.val).length + 1 ≤ 1000 := by simp; omega
      have Hrl := Lib.hid hrl
      have Hm := Lib.hid hm
      have k2' : W2.cell? ⟨w.heap.size + 1 + 1 + 1, 1, none⟩ = some bv := (two_cells hK2.blk).2
      have hne : some (w.heap.size + 3) ≠ bv.ownBlock := row_ne_low hK2.b (by omega)
      have l1 := LaterR.cell (ρ := bv.ownBlock) k2' hne
      clear hK2 hF2 hW2 HKc HFc HKW HFW HW HsW c0 c1 d0 d1 hix k1 k2 k2' f1 hrl hm hBW
      refine region_one 29 30 4 6 (by decide) hHO (.slice (some ⟨b0, 0, none⟩) 3 3) hB2 hB3 (by rfl) (by rfl) (by kernel_rfl) (by kernel_rfl) (by rfl) ?_
      simp only [List.take_succ_cons, List.take_zero, List.drop_succ_cons, List.drop_zero]
      (repeat (first | (refine appA_skip (by decide) (by rfl) ?_; simp only [Act.put, List.setIfInBounds_toArray, List.set_cons_zero, List.set_cons_succ]) | (refine appA_plain (by decide) (by rfl) (by rfl) (by rfl) (fun Kc hKc => ?_); go_big_quiet_op; refine hKc _ ?_; clear hKc Kc)))
      refine appA_make 29 (V := fun w => .slice (some ⟨w.heap.size, 0, none⟩) 1 1) (W := fun w => w.alloc (.cells #[.slice (some ⟨b0, 0, none⟩) 3 3] 40)) (by decide) (fun w => by go_simp) (by rfl) (by rfl) (by rfl) (fun wk hlk _ => ⟨(Below.refl _ _).alloc (Nat.le_refl _) _, _, rfl, hlk.size, Blk.of _ _ _ _ rfl⟩) ?_
      rintro _ wk hlk ⟨bs, rfl, hbs, hbk⟩
      simp only [Act.put, List.setIfInBounds_toArray, List.set_cons_zero, List.set_cons_succ]
      refine appA_one 30 (B := w.heap.size + 4) (v := bv) (xs := rs.map NumV.val) (ad := ⟨bs, 0, none⟩) (y := .slice (some ⟨b0, 0, none⟩) 3 3) Tryz.un_numss Tryz.inf_nums rfl hHO rfl rfl (by omega) (by have := hB3; omega) hB2 rfl rfl _ _ rfl rfl rfl (fun wx hlx hd => by
        obtain ⟨b', he, _, hbk⟩ := hd 29 (by decide) _ (.inl ⟨rfl, rfl⟩)
        injection he with he
        injection he with he
        injection he with he
        subst he
        exact hbk.cell 0) (by rfl) (by rfl) (by rfl) (fun u wx h1 h2 => ⟨h1, h2⟩) ?_
      rintro bv1 wk1 hlk1 hbv1
      simp only [Act.put, List.setIfInBounds_toArray, List.set_cons_zero, List.set_cons_succ]
      (repeat (first | (refine appA_skip (by decide) (by rfl) ?_; simp only [Act.put, List.setIfInBounds_toArray, List.set_cons_zero, List.set_cons_succ]) | (refine appA_plain (by decide) (by rfl) (by rfl) (by rfl) (fun Kc hKc => ?_); go_big_quiet_op; refine hKc _ ?_; clear hKc Kc)))
      refine appA_nil ?_
      intro wq hlq hkn
      have hrow := (hkn 30 bv1 (by simp [behind, gadd])).1
      have hrow' := row_len hrow (show _ = 3 by simp [Hrl.out]) rfl
      have hb3 := HK2.out.blk.grown hlq hne
      have k3 : wq.cell? ⟨w.heap.size + 1 + 1 + 1, 1, none⟩ = some bv := hb3.cell 1
      have f3 : wq.frozen? ⟨w.heap.size + 1 + 1 + 1, 1, none⟩ = false := hb3.frozen 1
      have HK3 := Lib.hid (KW.pushB HK2.out (by decide) (by omega) ⟨some ⟨b0, 0, none⟩, 3, [1, 1, G]⟩ hlq (row_len hrow (by simp) rfl))
      have HF3 := Lib.hid ((HF2.out.grown hlq (fun c hc => row_ne_low HK2.out.b hc)).set (c := w.heap.size + 3) (Nat.le_refl _) 1 bv1)
      obtain ⟨Xb, cb, hvb⟩ := hrow'.slice
      subst hvb
      clear hkn hrow hrow' hb3 hlq hbv1 hlk1 hlk hbk hbs l1 HK2 HF2 hHO hne
      go_wp2_with fail
      refine NoPanic.normal ?_
      go_wp2_with fail
      go_roundw
      case rel => exact ⟨3, _, _, rs ++ [_], rfl, by omega, by simp [Hrl.out], by simp [Hm.out], HK3.out, HF3.out⟩
      case measure => simp [intOf]
    · -- behind the rounds
      obtain ⟨Xt, ct, hvt⟩ := (row_len hK.t (show _ = 3 from rfl) rfl).slice
      obtain ⟨Xb, cb, hvb⟩ := (row_len hK.b hrl rfl).slice
      subst hvt hvb
      obtain ⟨tv, htv⟩ : ∃ tv, tv = Value.slice Xt 3 ct := ⟨_, rfl⟩
      obtain ⟨bv, hbv⟩ : ∃ bv, bv = Value.slice Xb 3 cb := ⟨_, rfl⟩
      rw [← htv, ← hbv] at hK
      have c0 : wr.cell? ⟨w.heap.size + 1 + 1 + 1, 0, none⟩ = some tv := (two_cells hK.blk).1
      have c1 : wr.cell? ⟨w.heap.size + 1 + 1 + 1, 1, none⟩ = some bv := (two_cells hK.blk).2
      have o0 : wr.cell? ⟨w.heap.size + 1 + 1, 0, none⟩ = some (.slice none 0 0) := (two_cells hF.o).1
      have o1 : wr.cell? ⟨w.heap.size + 1 + 1, 1, none⟩ = some (.slice none 0 0) := (two_cells hF.o).2
      have f0 : wr.frozen? ⟨w.heap.size + 1 + 1, 0, none⟩ = false := hF.o.frozen 0
      have f1 : wr.frozen? ⟨w.heap.size + 1 + 1, 1, none⟩ = false := hF.o.frozen 1
      obtain ⟨wz, hwz⟩ : ∃ wz, wz = (wr.setCell ⟨w.heap.size + 1 + 1, 0, none⟩ tv).setCell ⟨w.heap.size + 1 + 1, 1, none⟩ bv := ⟨_, rfl⟩
      have hz := two_cells ((hF.o.set 0 tv).set 1 bv)
      have z0 : wz.cell? ⟨w.heap.size + 1 + 1, 0, none⟩ = some tv := by rw [hwz]; exact hz.1
      have z1 : wz.cell? ⟨w.heap.size + 1 + 1, 1, none⟩ = some bv := by rw [hwz]; exact hz.2
      have HO := Lib.hid (((hK.low (o := w.heap.size + 2) (by omega) (by omega) 0 tv).low (o := w.heap.size + 2) (by omega) (by omega) 1 bv).out (by omega) hm (by simp [h0, h1, h2]) (by simp [hG]))
      have HB := Lib.hid (below_set (below_set hF.b (b := w.heap.size + 2) (by omega) 0 tv) (b := w.heap.size + 2) (by omega) 1 bv)
      clear hK hF hz hm
      subst htv hbv
      go_wp2_with fail
      rw [show w.heap.size + 2 = w.heap.size + 1 + 1 from rfl, ← hwz] at HO HB
      rw [← hwz]
      exact bodyPost_ret (v := .agg #[.slice Xt 3 ct, .slice Xb 3 cb]) (by simp [results, Tryz.results85, go_sem, z0, z1]) rfl ⟨HO.out, HB.out⟩
end Go.Proofs.YtbpenkaficiodaaGreat

/- The cells of a block, one by one; records that are only read. -/
namespace Go.Proofs.YtbpenkaficiodaaGreat
open Go.RowKit

theorem cells_1 {w : World} {b : Nat} {t : TypeId} {x0 : Value} (h : Blk w b t [x0]) : w.cell? ⟨b, 0, none⟩ = some x0 :=
  h.cell 0
theorem cells_2 {w : World} {b : Nat} {t : TypeId} {x0 x1 : Value} (h : Blk w b t [x0, x1]) : w.cell? ⟨b, 0, none⟩ = some x0 ∧ w.cell? ⟨b, 1, none⟩ = some x1 :=
  ⟨h.cell 0, h.cell 1⟩
theorem cells_3 {w : World} {b : Nat} {t : TypeId} {x0 x1 x2 : Value} (h : Blk w b t [x0, x1, x2]) : w.cell? ⟨b, 0, none⟩ = some x0 ∧ w.cell? ⟨b, 1, none⟩ = some x1 ∧ w.cell? ⟨b, 2, none⟩ = some x2 :=
  ⟨h.cell 0, h.cell 1, h.cell 2⟩
theorem cells_4 {w : World} {b : Nat} {t : TypeId} {x0 x1 x2 x3 : Value} (h : Blk w b t [x0, x1, x2, x3]) : w.cell? ⟨b, 0, none⟩ = some x0 ∧ w.cell? ⟨b, 1, none⟩ = some x1 ∧ w.cell? ⟨b, 2, none⟩ = some x2 ∧ w.cell? ⟨b, 3, none⟩ = some x3 :=
  ⟨h.cell 0, h.cell 1, h.cell 2, h.cell 3⟩
theorem cells_5 {w : World} {b : Nat} {t : TypeId} {x0 x1 x2 x3 x4 : Value} (h : Blk w b t [x0, x1, x2, x3, x4]) : w.cell? ⟨b, 0, none⟩ = some x0 ∧ w.cell? ⟨b, 1, none⟩ = some x1 ∧ w.cell? ⟨b, 2, none⟩ = some x2 ∧ w.cell? ⟨b, 3, none⟩ = some x3 ∧ w.cell? ⟨b, 4, none⟩ = some x4 :=
  ⟨h.cell 0, h.cell 1, h.cell 2, h.cell 3, h.cell 4⟩
theorem cells_6 {w : World} {b : Nat} {t : TypeId} {x0 x1 x2 x3 x4 x5 : Value} (h : Blk w b t [x0, x1, x2, x3, x4, x5]) : w.cell? ⟨b, 0, none⟩ = some x0 ∧ w.cell? ⟨b, 1, none⟩ = some x1 ∧ w.cell? ⟨b, 2, none⟩ = some x2 ∧ w.cell? ⟨b, 3, none⟩ = some x3 ∧ w.cell? ⟨b, 4, none⟩ = some x4 ∧ w.cell? ⟨b, 5, none⟩ = some x5 :=
  ⟨h.cell 0, h.cell 1, h.cell 2, h.cell 3, h.cell 4, h.cell 5⟩
theorem cells_7 {w : World} {b : Nat} {t : TypeId} {x0 x1 x2 x3 x4 x5 x6 : Value} (h : Blk w b t [x0, x1, x2, x3, x4, x5, x6]) : w.cell? ⟨b, 0, none⟩ = some x0 ∧ w.cell? ⟨b, 1, none⟩ = some x1 ∧ w.cell? ⟨b, 2, none⟩ = some x2 ∧ w.cell? ⟨b, 3, none⟩ = some x3 ∧ w.cell? ⟨b, 4, none⟩ = some x4 ∧ w.cell? ⟨b, 5, none⟩ = some x5 ∧ w.cell? ⟨b, 6, none⟩ = some x6 :=
  ⟨h.cell 0, h.cell 1, h.cell 2, h.cell 3, h.cell 4, h.cell 5, h.cell 6⟩
theorem cells_8 {w : World} {b : Nat} {t : TypeId} {x0 x1 x2 x3 x4 x5 x6 x7 : Value} (h : Blk w b t [x0, x1, x2, x3, x4, x5, x6, x7]) : w.cell? ⟨b, 0, none⟩ = some x0 ∧ w.cell? ⟨b, 1, none⟩ = some x1 ∧ w.cell? ⟨b, 2, none⟩ = some x2 ∧ w.cell? ⟨b, 3, none⟩ = some x3 ∧ w.cell? ⟨b, 4, none⟩ = some x4 ∧ w.cell? ⟨b, 5, none⟩ = some x5 ∧ w.cell? ⟨b, 6, none⟩ = some x6 ∧ w.cell? ⟨b, 7, none⟩ = some x7 :=
  ⟨h.cell 0, h.cell 1, h.cell 2, h.cell 3, h.cell 4, h.cell 5, h.cell 6, h.cell 7⟩
theorem cells_9 {w : World} {b : Nat} {t : TypeId} {x0 x1 x2 x3 x4 x5 x6 x7 x8 : Value} (h : Blk w b t [x0, x1, x2, x3, x4, x5, x6, x7, x8]) : w.cell? ⟨b, 0, none⟩ = some x0 ∧ w.cell? ⟨b, 1, none⟩ = some x1 ∧ w.cell? ⟨b, 2, none⟩ = some x2 ∧ w.cell? ⟨b, 3, none⟩ = some x3 ∧ w.cell? ⟨b, 4, none⟩ = some x4 ∧ w.cell? ⟨b, 5, none⟩ = some x5 ∧ w.cell? ⟨b, 6, none⟩ = some x6 ∧ w.cell? ⟨b, 7, none⟩ = some x7 ∧ w.cell? ⟨b, 8, none⟩ = some x8 :=
  ⟨h.cell 0, h.cell 1, h.cell 2, h.cell 3, h.cell 4, h.cell 5, h.cell 6, h.cell 7, h.cell 8⟩
theorem cells_10 {w : World} {b : Nat} {t : TypeId} {x0 x1 x2 x3 x4 x5 x6 x7 x8 x9 : Value} (h : Blk w b t [x0, x1, x2, x3, x4, x5, x6, x7, x8, x9]) : w.cell? ⟨b, 0, none⟩ = some x0 ∧ w.cell? ⟨b, 1, none⟩ = some x1 ∧ w.cell? ⟨b, 2, none⟩ = some x2 ∧ w.cell? ⟨b, 3, none⟩ = some x3 ∧ w.cell? ⟨b, 4, none⟩ = some x4 ∧ w.cell? ⟨b, 5, none⟩ = some x5 ∧ w.cell? ⟨b, 6, none⟩ = some x6 ∧ w.cell? ⟨b, 7, none⟩ = some x7 ∧ w.cell? ⟨b, 8, none⟩ = some x8 ∧ w.cell? ⟨b, 9, none⟩ = some x9 :=
  ⟨h.cell 0, h.cell 1, h.cell 2, h.cell 3, h.cell 4, h.cell 5, h.cell 6, h.cell 7, h.cell 8, h.cell 9⟩
theorem cells_11 {w : World} {b : Nat} {t : TypeId} {x0 x1 x2 x3 x4 x5 x6 x7 x8 x9 x10 : Value} (h : Blk w b t [x0, x1, x2, x3, x4, x5, x6, x7, x8, x9, x10]) : w.cell? ⟨b, 0, none⟩ = some x0 ∧ w.cell? ⟨b, 1, none⟩ = some x1 ∧ w.cell? ⟨b, 2, none⟩ = some x2 ∧ w.cell? ⟨b, 3, none⟩ = some x3 ∧ w.cell? ⟨b, 4, none⟩ = some x4 ∧ w.cell? ⟨b, 5, none⟩ = some x5 ∧ w.cell? ⟨b, 6, none⟩ = some x6 ∧ w.cell? ⟨b, 7, none⟩ = some x7 ∧ w.cell? ⟨b, 8, none⟩ = some x8 ∧ w.cell? ⟨b, 9, none⟩ = some x9 ∧ w.cell? ⟨b, 10, none⟩ = some x10 :=
  ⟨h.cell 0, h.cell 1, h.cell 2, h.cell 3, h.cell 4, h.cell 5, h.cell 6, h.cell 7, h.cell 8, h.cell 9, h.cell 10⟩
theorem cells_12 {w : World} {b : Nat} {t : TypeId} {x0 x1 x2 x3 x4 x5 x6 x7 x8 x9 x10 x11 : Value} (h : Blk w b t [x0, x1, x2, x3, x4, x5, x6, x7, x8, x9, x10, x11]) : w.cell? ⟨b, 0, none⟩ = some x0 ∧ w.cell? ⟨b, 1, none⟩ = some x1 ∧ w.cell? ⟨b, 2, none⟩ = some x2 ∧ w.cell? ⟨b, 3, none⟩ = some x3 ∧ w.cell? ⟨b, 4, none⟩ = some x4 ∧ w.cell? ⟨b, 5, none⟩ = some x5 ∧ w.cell? ⟨b, 6, none⟩ = some x6 ∧ w.cell? ⟨b, 7, none⟩ = some x7 ∧ w.cell? ⟨b, 8, none⟩ = some x8 ∧ w.cell? ⟨b, 9, none⟩ = some x9 ∧ w.cell? ⟨b, 10, none⟩ = some x10 ∧ w.cell? ⟨b, 11, none⟩ = some x11 :=
  ⟨h.cell 0, h.cell 1, h.cell 2, h.cell 3, h.cell 4, h.cell 5, h.cell 6, h.cell 7, h.cell 8, h.cell 9, h.cell 10, h.cell 11⟩
theorem cells_13 {w : World} {b : Nat} {t : TypeId} {x0 x1 x2 x3 x4 x5 x6 x7 x8 x9 x10 x11 x12 : Value} (h : Blk w b t [x0, x1, x2, x3, x4, x5, x6, x7, x8, x9, x10, x11, x12]) : w.cell? ⟨b, 0, none⟩ = some x0 ∧ w.cell? ⟨b, 1, none⟩ = some x1 ∧ w.cell? ⟨b, 2, none⟩ = some x2 ∧ w.cell? ⟨b, 3, none⟩ = some x3 ∧ w.cell? ⟨b, 4, none⟩ = some x4 ∧ w.cell? ⟨b, 5, none⟩ = some x5 ∧ w.cell? ⟨b, 6, none⟩ = some x6 ∧ w.cell? ⟨b, 7, none⟩ = some x7 ∧ w.cell? ⟨b, 8, none⟩ = some x8 ∧ w.cell? ⟨b, 9, none⟩ = some x9 ∧ w.cell? ⟨b, 10, none⟩ = some x10 ∧ w.cell? ⟨b, 11, none⟩ = some x11 ∧ w.cell? ⟨b, 12, none⟩ = some x12 :=
  ⟨h.cell 0, h.cell 1, h.cell 2, h.cell 3, h.cell 4, h.cell 5, h.cell 6, h.cell 7, h.cell 8, h.cell 9, h.cell 10, h.cell 11, h.cell 12⟩
theorem cells_14 {w : World} {b : Nat} {t : TypeId} {x0 x1 x2 x3 x4 x5 x6 x7 x8 x9 x10 x11 x12 x13 : Value} (h : Blk w b t [x0, x1, x2, x3, x4, x5, x6, x7, x8, x9, x10, x11, x12, x13]) : w.cell? ⟨b, 0, none⟩ = some x0 ∧ w.cell? ⟨b, 1, none⟩ = some x1 ∧ w.cell? ⟨b, 2, none⟩ = some x2 ∧ w.cell? ⟨b, 3, none⟩ = some x3 ∧ w.cell? ⟨b, 4, none⟩ = some x4 ∧ w.cell? ⟨b, 5, none⟩ = some x5 ∧ w.cell? ⟨b, 6, none⟩ = some x6 ∧ w.cell? ⟨b, 7, none⟩ = some x7 ∧ w.cell? ⟨b, 8, none⟩ = some x8 ∧ w.cell? ⟨b, 9, none⟩ = some x9 ∧ w.cell? ⟨b, 10, none⟩ = some x10 ∧ w.cell? ⟨b, 11, none⟩ = some x11 ∧ w.cell? ⟨b, 12, none⟩ = some x12 ∧ w.cell? ⟨b, 13, none⟩ = some x13 :=
  ⟨h.cell 0, h.cell 1, h.cell 2, h.cell 3, h.cell 4, h.cell 5, h.cell 6, h.cell 7, h.cell 8, h.cell 9, h.cell 10, h.cell 11, h.cell 12, h.cell 13⟩
theorem cells_15 {w : World} {b : Nat} {t : TypeId} {x0 x1 x2 x3 x4 x5 x6 x7 x8 x9 x10 x11 x12 x13 x14 : Value} (h : Blk w b t [x0, x1, x2, x3, x4, x5, x6, x7, x8, x9, x10, x11, x12, x13, x14]) : w.cell? ⟨b, 0, none⟩ = some x0 ∧ w.cell? ⟨b, 1, none⟩ = some x1 ∧ w.cell? ⟨b, 2, none⟩ = some x2 ∧ w.cell? ⟨b, 3, none⟩ = some x3 ∧ w.cell? ⟨b, 4, none⟩ = some x4 ∧ w.cell? ⟨b, 5, none⟩ = some x5 ∧ w.cell? ⟨b, 6, none⟩ = some x6 ∧ w.cell? ⟨b, 7, none⟩ = some x7 ∧ w.cell? ⟨b, 8, none⟩ = some x8 ∧ w.cell? ⟨b, 9, none⟩ = some x9 ∧ w.cell? ⟨b, 10, none⟩ = some x10 ∧ w.cell? ⟨b, 11, none⟩ = some x11 ∧ w.cell? ⟨b, 12, none⟩ = some x12 ∧ w.cell? ⟨b, 13, none⟩ = some x13 ∧ w.cell? ⟨b, 14, none⟩ = some x14 :=
  ⟨h.cell 0, h.cell 1, h.cell 2, h.cell 3, h.cell 4, h.cell 5, h.cell 6, h.cell 7, h.cell 8, h.cell 9, h.cell 10, h.cell 11, h.cell 12, h.cell 13, h.cell 14⟩
theorem cells_16 {w : World} {b : Nat} {t : TypeId} {x0 x1 x2 x3 x4 x5 x6 x7 x8 x9 x10 x11 x12 x13 x14 x15 : Value} (h : Blk w b t [x0, x1, x2, x3, x4, x5, x6, x7, x8, x9, x10, x11, x12, x13, x14, x15]) : w.cell? ⟨b, 0, none⟩ = some x0 ∧ w.cell? ⟨b, 1, none⟩ = some x1 ∧ w.cell? ⟨b, 2, none⟩ = some x2 ∧ w.cell? ⟨b, 3, none⟩ = some x3 ∧ w.cell? ⟨b, 4, none⟩ = some x4 ∧ w.cell? ⟨b, 5, none⟩ = some x5 ∧ w.cell? ⟨b, 6, none⟩ = some x6 ∧ w.cell? ⟨b, 7, none⟩ = some x7 ∧ w.cell? ⟨b, 8, none⟩ = some x8 ∧ w.cell? ⟨b, 9, none⟩ = some x9 ∧ w.cell? ⟨b, 10, none⟩ = some x10 ∧ w.cell? ⟨b, 11, none⟩ = some x11 ∧ w.cell? ⟨b, 12, none⟩ = some x12 ∧ w.cell? ⟨b, 13, none⟩ = some x13 ∧ w.cell? ⟨b, 14, none⟩ = some x14 ∧ w.cell? ⟨b, 15, none⟩ = some x15 :=
  ⟨h.cell 0, h.cell 1, h.cell 2, h.cell 3, h.cell 4, h.cell 5, h.cell 6, h.cell 7, h.cell 8, h.cell 9, h.cell 10, h.cell 11, h.cell 12, h.cell 13, h.cell 14, h.cell 15⟩
theorem cells_18 {w : World} {b : Nat} {t : TypeId} {x0 x1 x2 x3 x4 x5 x6 x7 x8 x9 x10 x11 x12 x13 x14 x15 x16 x17 : Value} (h : Blk w b t [x0, x1, x2, x3, x4, x5, x6, x7, x8, x9, x10, x11, x12, x13, x14, x15, x16, x17]) : w.cell? ⟨b, 0, none⟩ = some x0 ∧ w.cell? ⟨b, 1, none⟩ = some x1 ∧ w.cell? ⟨b, 2, none⟩ = some x2 ∧ w.cell? ⟨b, 3, none⟩ = some x3 ∧ w.cell? ⟨b, 4, none⟩ = some x4 ∧ w.cell? ⟨b, 5, none⟩ = some x5 ∧ w.cell? ⟨b, 6, none⟩ = some x6 ∧ w.cell? ⟨b, 7, none⟩ = some x7 ∧ w.cell? ⟨b, 8, none⟩ = some x8 ∧ w.cell? ⟨b, 9, none⟩ = some x9 ∧ w.cell? ⟨b, 10, none⟩ = some x10 ∧ w.cell? ⟨b, 11, none⟩ = some x11 ∧ w.cell? ⟨b, 12, none⟩ = some x12 ∧ w.cell? ⟨b, 13, none⟩ = some x13 ∧ w.cell? ⟨b, 14, none⟩ = some x14 ∧ w.cell? ⟨b, 15, none⟩ = some x15 ∧ w.cell? ⟨b, 16, none⟩ = some x16 ∧ w.cell? ⟨b, 17, none⟩ = some x17 :=
  ⟨h.cell 0, h.cell 1, h.cell 2, h.cell 3, h.cell 4, h.cell 5, h.cell 6, h.cell 7, h.cell 8, h.cell 9, h.cell 10, h.cell 11, h.cell 12, h.cell 13, h.cell 14, h.cell 15, h.cell 16, h.cell 17⟩

/-- A slice of records of sz cells each, that is only read. -/
structure Recs (w : World) (A : Option Addr) (cap sz : Nat) (ls : List (List Value)) : Prop where
  len : ls.length ≤ cap
  cells : ∀ (i : Nat) (l : List Value), ls[i]? = some l → ∃ a, A = some a ∧ w.cell? (a.add (i * sz)) = l[0]? ∧ ∀ j v, l[j]? = some v → w.cell? ⟨(a.add (i * sz)).block, (a.add (i * sz)).off + j, none⟩ = some v
theorem Recs.below {w w1 : World} {A : Option Addr} {cap sz : Nat} {ls : List (List Value)} (h : Recs w A cap sz ls) (hw : ∀ l ∈ ls, 0 < l.length) (hb : Below w.heap.size w w1) : Recs w1 A cap sz ls :=
  ⟨h.len, fun i l hl => by
    obtain ⟨a, ha, h0, hc⟩ := h.cells i l hl
    have hp := hw l (List.mem_of_getElem? hl)
    refine ⟨a, ha, ?_, fun j v hv => below_cell hb (hc j v hv)⟩
    obtain ⟨x, hx⟩ : ∃ x, l[0]? = some x := ⟨_, List.getElem?_eq_getElem hp⟩
    rw [hx] at h0 ⊢
    exact below_cell hb h0⟩
end Go.Proofs.YtbpenkaficiodaaGreat

/- Records that are only read: rows of three numbers, boxes, what is passed. -/
namespace Go.Proofs.YtbpenkaficiodaaGreat
open Go.RowKit Go.BigFrame

/-- Three times three numbers. -/
structure TriV where
  u : Nat → Nat
  w : Nat → Nat
  v : Nat → Nat
def TriV.list (x : TriV) : List Value := [.int .u64 (x.u 0 : Int), .int .u64 (x.w 0 : Int), .int .u64 (x.v 0 : Int), .int .u64 (x.u 1 : Int), .int .u64 (x.w 1 : Int), .int .u64 (x.v 1 : Int), .int .u64 (x.u 2 : Int), .int .u64 (x.w 2 : Int), .int .u64 (x.v 2 : Int)]
def TriV.ok (x : TriV) : Prop := ∀ j, j < 3 → x.u j < 18446744073709551616 ∧ x.w j < 18446744073709551616 ∧ x.v j < 18446744073709551616
/-- Three pairs. -/
structure BoxV where
  u : Nat → Nat
  v : Nat → Nat
def BoxV.list (x : BoxV) : List Value := [.int .u64 (x.u 0 : Int), .int .u64 (x.v 0 : Int), .int .u64 (x.u 1 : Int), .int .u64 (x.v 1 : Int), .int .u64 (x.u 2 : Int), .int .u64 (x.v 2 : Int)]
def BoxV.ok (x : BoxV) : Prop := ∀ j, j < 3 → x.u j < 18446744073709551616 ∧ x.v j < 18446744073709551616
/-- What is passed of a row: three numbers and a proof, three times. -/
structure PassedV where
  t : TriV
  c : Nat → NumV
  a : Nat → NumV
def PassedV.list (x : PassedV) : List Value := [.int .u64 (x.t.u 0 : Int), .int .u64 (x.t.w 0 : Int), .int .u64 (x.t.v 0 : Int), .int .u64 (x.t.u 1 : Int), .int .u64 (x.t.w 1 : Int), .int .u64 (x.t.v 1 : Int), .int .u64 (x.t.u 2 : Int), .int .u64 (x.t.w 2 : Int), .int .u64 (x.t.v 2 : Int), (x.c 0).val, (x.a 0).val, (x.c 1).val, (x.a 1).val, (x.c 2).val, (x.a 2).val]
/-- The slices of these at A: read only. -/
structure Tris (w : World) (A : Option Addr) (cap : Nat) (ls : List TriV) : Prop where
  recs : Recs w A cap 9 (ls.map TriV.list)
  small : ∀ x ∈ ls, x.ok
theorem Tris.below {w w1 : World} {A : Option Addr} {cap : Nat} {ls : List TriV} (h : Tris w A cap ls) (hb : Below w.heap.size w w1) : Tris w1 A cap ls :=
  ⟨h.recs.below (fun l hl => by obtain ⟨x, _, rfl⟩ := List.mem_map.1 hl; simp [TriV.list]) hb, h.small⟩
structure Boxes (w : World) (A : Option Addr) (cap : Nat) (ls : List BoxV) : Prop where
  recs : Recs w A cap 6 (ls.map BoxV.list)
  small : ∀ x ∈ ls, x.ok
theorem Boxes.below {w w1 : World} {A : Option Addr} {cap : Nat} {ls : List BoxV} (h : Boxes w A cap ls) (hb : Below w.heap.size w w1) : Boxes w1 A cap ls :=
  ⟨h.recs.below (fun l hl => by obtain ⟨x, _, rfl⟩ := List.mem_map.1 hl; simp [BoxV.list]) hb, h.small⟩
structure Passeds (w : World) (A : Option Addr) (cap : Nat) (ls : List PassedV) : Prop where
  recs : Recs w A cap 15 (ls.map PassedV.list)
  small : ∀ x ∈ ls, x.t.ok
  nums : ∀ x ∈ ls, ∀ j, j < 3 → Nums w (x.c j).A (x.c j).cap (x.c j).l ∧ Nums w (x.a j).A (x.a j).cap (x.a j).l
theorem Passeds.below {w w1 : World} {A : Option Addr} {cap : Nat} {ls : List PassedV} (h : Passeds w A cap ls) (hb : Below w.heap.size w w1) : Passeds w1 A cap ls :=
  ⟨h.recs.below (fun l hl => by obtain ⟨x, _, rfl⟩ := List.mem_map.1 hl; simp [PassedV.list]) hb, h.small, fun x hx j hj => ⟨(h.nums x hx j hj).1.below hb, (h.nums x hx j hj).2.below hb⟩⟩
theorem recs_3 {w : World} {A : Option Addr} {cap k : Nat} {ls : List (List Value)} {x0 x1 x2 : Value} (h : Recs w A cap 3 ls) (hk : ls[k]? = some [x0, x1, x2]) : ∃ a, A = some a ∧ w.cell? (a.add (k * 3)) = some x0 ∧ w.cell? ⟨(a.add (k * 3)).block, (a.add (k * 3)).off + 1, none⟩ = some x1 ∧ w.cell? ⟨(a.add (k * 3)).block, (a.add (k * 3)).off + 2, none⟩ = some x2 :=
  let ⟨a, ha, h0, hc⟩ := h.cells k _ hk
  ⟨a, ha, h0, hc 1 _ rfl, hc 2 _ rfl⟩
theorem recs_6 {w : World} {A : Option Addr} {cap k : Nat} {ls : List (List Value)} {x0 x1 x2 x3 x4 x5 : Value} (h : Recs w A cap 6 ls) (hk : ls[k]? = some [x0, x1, x2, x3, x4, x5]) : ∃ a, A = some a ∧ w.cell? (a.add (k * 6)) = some x0 ∧ w.cell? ⟨(a.add (k * 6)).block, (a.add (k * 6)).off + 1, none⟩ = some x1 ∧ w.cell? ⟨(a.add (k * 6)).block, (a.add (k * 6)).off + 2, none⟩ = some x2 ∧ w.cell? ⟨(a.add (k * 6)).block, (a.add (k * 6)).off + 3, none⟩ = some x3 ∧ w.cell? ⟨(a.add (k * 6)).block, (a.add (k * 6)).off + 4, none⟩ = some x4 ∧ w.cell? ⟨(a.add (k * 6)).block, (a.add (k * 6)).off + 5, none⟩ = some x5 :=
  let ⟨a, ha, h0, hc⟩ := h.cells k _ hk
  ⟨a, ha, h0, hc 1 _ rfl, hc 2 _ rfl, hc 3 _ rfl, hc 4 _ rfl, hc 5 _ rfl⟩
theorem recs_8 {w : World} {A : Option Addr} {cap k : Nat} {ls : List (List Value)} {x0 x1 x2 x3 x4 x5 x6 x7 : Value} (h : Recs w A cap 8 ls) (hk : ls[k]? = some [x0, x1, x2, x3, x4, x5, x6, x7]) : ∃ a, A = some a ∧ w.cell? (a.add (k * 8)) = some x0 ∧ w.cell? ⟨(a.add (k * 8)).block, (a.add (k * 8)).off + 1, none⟩ = some x1 ∧ w.cell? ⟨(a.add (k * 8)).block, (a.add (k * 8)).off + 2, none⟩ = some x2 ∧ w.cell? ⟨(a.add (k * 8)).block, (a.add (k * 8)).off + 3, none⟩ = some x3 ∧ w.cell? ⟨(a.add (k * 8)).block, (a.add (k * 8)).off + 4, none⟩ = some x4 ∧ w.cell? ⟨(a.add (k * 8)).block, (a.add (k * 8)).off + 5, none⟩ = some x5 ∧ w.cell? ⟨(a.add (k * 8)).block, (a.add (k * 8)).off + 6, none⟩ = some x6 ∧ w.cell? ⟨(a.add (k * 8)).block, (a.add (k * 8)).off + 7, none⟩ = some x7 :=
  let ⟨a, ha, h0, hc⟩ := h.cells k _ hk
  ⟨a, ha, h0, hc 1 _ rfl, hc 2 _ rfl, hc 3 _ rfl, hc 4 _ rfl, hc 5 _ rfl, hc 6 _ rfl, hc 7 _ rfl⟩
theorem recs_9 {w : World} {A : Option Addr} {cap k : Nat} {ls : List (List Value)} {x0 x1 x2 x3 x4 x5 x6 x7 x8 : Value} (h : Recs w A cap 9 ls) (hk : ls[k]? = some [x0, x1, x2, x3, x4, x5, x6, x7, x8]) : ∃ a, A = some a ∧ w.cell? (a.add (k * 9)) = some x0 ∧ w.cell? ⟨(a.add (k * 9)).block, (a.add (k * 9)).off + 1, none⟩ = some x1 ∧ w.cell? ⟨(a.add (k * 9)).block, (a.add (k * 9)).off + 2, none⟩ = some x2 ∧ w.cell? ⟨(a.add (k * 9)).block, (a.add (k * 9)).off + 3, none⟩ = some x3 ∧ w.cell? ⟨(a.add (k * 9)).block, (a.add (k * 9)).off + 4, none⟩ = some x4 ∧ w.cell? ⟨(a.add (k * 9)).block, (a.add (k * 9)).off + 5, none⟩ = some x5 ∧ w.cell? ⟨(a.add (k * 9)).block, (a.add (k * 9)).off + 6, none⟩ = some x6 ∧ w.cell? ⟨(a.add (k * 9)).block, (a.add (k * 9)).off + 7, none⟩ = some x7 ∧ w.cell? ⟨(a.add (k * 9)).block, (a.add (k * 9)).off + 8, none⟩ = some x8 :=
  let ⟨a, ha, h0, hc⟩ := h.cells k _ hk
  ⟨a, ha, h0, hc 1 _ rfl, hc 2 _ rfl, hc 3 _ rfl, hc 4 _ rfl, hc 5 _ rfl, hc 6 _ rfl, hc 7 _ rfl, hc 8 _ rfl⟩
theorem recs_15 {w : World} {A : Option Addr} {cap k : Nat} {ls : List (List Value)} {x0 x1 x2 x3 x4 x5 x6 x7 x8 x9 x10 x11 x12 x13 x14 : Value} (h : Recs w A cap 15 ls) (hk : ls[k]? = some [x0, x1, x2, x3, x4, x5, x6, x7, x8, x9, x10, x11, x12, x13, x14]) : ∃ a, A = some a ∧ w.cell? (a.add (k * 15)) = some x0 ∧ w.cell? ⟨(a.add (k * 15)).block, (a.add (k * 15)).off + 1, none⟩ = some x1 ∧ w.cell? ⟨(a.add (k * 15)).block, (a.add (k * 15)).off + 2, none⟩ = some x2 ∧ w.cell? ⟨(a.add (k * 15)).block, (a.add (k * 15)).off + 3, none⟩ = some x3 ∧ w.cell? ⟨(a.add (k * 15)).block, (a.add (k * 15)).off + 4, none⟩ = some x4 ∧ w.cell? ⟨(a.add (k * 15)).block, (a.add (k * 15)).off + 5, none⟩ = some x5 ∧ w.cell? ⟨(a.add (k * 15)).block, (a.add (k * 15)).off + 6, none⟩ = some x6 ∧ w.cell? ⟨(a.add (k * 15)).block, (a.add (k * 15)).off + 7, none⟩ = some x7 ∧ w.cell? ⟨(a.add (k * 15)).block, (a.add (k * 15)).off + 8, none⟩ = some x8 ∧ w.cell? ⟨(a.add (k * 15)).block, (a.add (k * 15)).off + 9, none⟩ = some x9 ∧ w.cell? ⟨(a.add (k * 15)).block, (a.add (k * 15)).off + 10, none⟩ = some x10 ∧ w.cell? ⟨(a.add (k * 15)).block, (a.add (k * 15)).off + 11, none⟩ = some x11 ∧ w.cell? ⟨(a.add (k * 15)).block, (a.add (k * 15)).off + 12, none⟩ = some x12 ∧ w.cell? ⟨(a.add (k * 15)).block, (a.add (k * 15)).off + 13, none⟩ = some x13 ∧ w.cell? ⟨(a.add (k * 15)).block, (a.add (k * 15)).off + 14, none⟩ = some x14 :=
  let ⟨a, ha, h0, hc⟩ := h.cells k _ hk
  ⟨a, ha, h0, hc 1 _ rfl, hc 2 _ rfl, hc 3 _ rfl, hc 4 _ rfl, hc 5 _ rfl, hc 6 _ rfl, hc 7 _ rfl, hc 8 _ rfl, hc 9 _ rfl, hc 10 _ rfl, hc 11 _ rfl, hc 12 _ rfl, hc 13 _ rfl, hc 14 _ rfl⟩
theorem upto_next {p : Nat → Prop} {j : Nat} (h : ∀ i, i < j → p i) (hj : p j) : ∀ i, i < j + 1 → p i := by
  intro i hi
  rcases Nat.lt_succ_iff_lt_or_eq.1 hi with h' | rfl
  · exact h i h'
  · exact hj
theorem three_cases {p : Nat → Prop} (h0 : p 0) (h1 : p 1) (h2 : p 2) : ∀ j, j < 3 → p j := by
  intro j hj
  match j, hj with
  | 0, _ => exact h0
  | 1, _ => exact h1
  | 2, _ => exact h2
set_option maxRecDepth 100000 in
theorem ix_tri (x : TriV) (w : World) : ∀ j : Nat, j < 3 → (Instr.index 39 (.agg #[.int .u64 (x.u 0 : Int), .int .u64 (x.w 0 : Int), .int .u64 (x.v 0 : Int), .int .u64 (x.u 1 : Int), .int .u64 (x.w 1 : Int), .int .u64 (x.v 1 : Int), .int .u64 (x.u 2 : Int), .int .u64 (x.w 2 : Int), .int .u64 (x.v 2 : Int)]) (.int .i64 (j : Int))).run Tryz.prog w = .ok (.agg #[.int .u64 (x.u j : Int), .int .u64 (x.w j : Int), .int .u64 (x.v j : Int)]) w :=
  three_cases (by kernel_rfl) (by kernel_rfl) (by kernel_rfl)
end Go.Proofs.YtbpenkaficiodaaGreat

/- Elements, and batches of boxes of elements: the program's walk. -/
namespace Go.Proofs.YtbpenkaficiodaaGreat
open Go.RowKit

set_option maxRecDepth 100000 in
set_option maxHeartbeats 1000000 in
theorem sout_any (P Q G H x b : Nat) (R : Value) (w : World) (hP : P < 18446744073709551616) (hQ : Q < 18446744073709551616) (hx : x < 18446744073709551616) (hB : Blk w b 25 (glist P Q G H R)) :
    Calls Tryz.prog 151 #[.int .u64 (x : Int), .pointer (some ⟨b, 0, none⟩)] w fun e w' => e = .returned (.bool (!inG P Q x)) ∧ Below w.heap.size w w' := by
  have c0 := hB.cell 0
  have c1 := hB.cell 1
  have c2 := hB.cell 2
  have c3 := hB.cell 3
  have c4 := hB.cell 4
  simp only [glist, List.getElem?_cons_zero, List.getElem?_cons_succ] at c0 c1 c2 c3 c4
  clear hB
  obtain ⟨r, hr⟩ : ∃ r, r = inG P Q x := ⟨_, rfl⟩
  have Hr := Lib.hid hr
  rw [← hr]
  clear hr
  go_enter Tryz.func151, Tryz.ntmps151
  go_wp2_with fail
  refine (in_any P Q G H x R _ hP hQ hx).mono ?_
  rw [← Hr.out]
  rintro e w' ⟨rfl, hb⟩
  go_wp2_with fail
  go_ret
  exact ⟨rfl, hb⟩

set_option maxRecDepth 100000 in
set_option maxHeartbeats 1000000 in
theorem sindex_any (P Q G H b : Nat) (R : Value) (A : Option Addr) (cap : Nat) (l : List Nat) (w : World) (hP : P < 18446744073709551616) (hQ : Q < 18446744073709551616) (hl : l.length < 9223372036854775808) (hB : Blk w b 25 (glist P Q G H R)) (hN : Nums w A cap l) :
    Calls Tryz.prog 172 #[.slice A l.length cap, .func (.func 151) #[] #[.pointer (some ⟨b, 0, none⟩)]] w fun e w' => (∃ z : Int, e = .returned (.int .i64 z) ∧ decide (0 ≤ z) = l.any (fun x => !inG P Q x)) ∧ Below w.heap.size w w' := by
  obtain ⟨r, hr⟩ : ∃ r, r = l.any (fun x => !inG P Q x) := ⟨_, rfl⟩
  obtain ⟨len, hlen⟩ : ∃ n, n = l.length := ⟨_, rfl⟩
  rw [← hr, ← hlen]
  have Hr := Lib.hid hr
  have Hlen := Lib.hid hlen
  have HN := Lib.hid hN
  have HB := Lib.hid hB
  have hbl := hB.lt
  rw [← hlen] at hl
  clear hr hlen hN hB
  go_enter Tryz.func172, Tryz.ntmps172
  go_wp2_with fail
  go_loopw [5, 8] (fun _ iv wr => ∃ k : Nat, iv = .int .i64 (k : Int) ∧ k ≤ len ∧ (l.take k).any (fun x => !inG P Q x) = false ∧ Below w.heap.size w wr) (fun _ iv _ => len - (intOf iv).toNat)
  case atStart => exact ⟨0, rfl, by omega, by simp, Below.refl _ _⟩
  case round =>
    obtain ⟨k, rfl, hk, hnk, hbr⟩ := hrel
    have Hnk := Lib.hid hnk
    have Hbr := Lib.hid hbr
    clear hnk hbr
    by_cases hkl : k < len
    · have d1 : decide ((k : Int) < (len : Int)) = true := decide_eq_true (by omega)
      obtain ⟨x, hx⟩ : ∃ x, l[k]? = some x := ⟨_, List.getElem?_eq_getElem (by rw [← Hlen.out]; exact hkl)⟩
      obtain ⟨a, rfl, hcell⟩ := HN.out.cells k x hx
      have hcell := below_cell Hbr.out hcell
      have hxs := HN.out.small x (List.mem_of_getElem? hx)
      have hki : (k : Int) < (len : Int) := by omega
      have Hx := Lib.hid hx
      clear hx
      cases hin : inG P Q x with
      | true =>
        have Hin := Lib.hid hin
        clear hin
        go_wp2_with (go_at_call 151; refine (sout_any P Q G H x b R _ hP hQ hxs (HB.out.below Hbr.out hbl)).mono ?_; rw [Hin.out]; rintro e w2 ⟨rfl, hb2⟩; have Hb2 := Lib.hid hb2; clear hb2)
        go_roundw
        case rel => exact ⟨k + 1, by go_num, by omega, any_not_take Hx.out Hnk.out Hin.out, below_trans Hbr.out Hb2.out⟩
        case measure => simp [intOf]; omega
      | false =>
        have Hin := Lib.hid hin
        have hres : r = true := by rw [Hr.out]; exact any_yes Hx.out hin
        clear hin
        go_wp2_with (go_at_call 151; refine (sout_any P Q G H x b R _ hP hQ hxs (HB.out.below Hbr.out hbl)).mono ?_; rw [Hin.out]; rintro e w2 ⟨rfl, hb2⟩; have Hb2 := Lib.hid hb2; clear hb2)
        go_ret
        exact ⟨⟨_, rfl, by rw [hres]; exact decide_eq_true (by omega)⟩, below_trans Hbr.out Hb2.out⟩
    · have d1 : decide ((k : Int) < (len : Int)) = false := decide_eq_false (by omega)
      have hres : r = false := by rw [Hr.out, ← Hnk.out, List.take_of_length_le (by rw [← Hlen.out]; omega)]
      go_wp2_with fail
      go_ret
      exact ⟨⟨_, rfl, by rw [hres]; rfl⟩, Hbr.out⟩

set_option maxRecDepth 100000 in
set_option maxHeartbeats 1000000 in
theorem scontains_any (P Q G H b : Nat) (R : Value) (A : Option Addr) (cap : Nat) (l : List Nat) (w : World) (hP : P < 18446744073709551616) (hQ : Q < 18446744073709551616) (hl : l.length < 9223372036854775808) (hB : Blk w b 25 (glist P Q G H R)) (hN : Nums w A cap l) :
    Calls Tryz.prog 132 #[.slice A l.length cap, .func (.func 151) #[] #[.pointer (some ⟨b, 0, none⟩)]] w fun e w' => e = .returned (.bool (l.any (fun x => !inG P Q x))) ∧ Below w.heap.size w w' := by
  have HI := Lib.hid (sindex_any P Q G H b R A cap l w hP hQ hl hB hN)
  obtain ⟨r, hr⟩ : ∃ r, r = l.any (fun x => !inG P Q x) := ⟨_, rfl⟩
  rw [← hr]
  have Hr := Lib.hid hr
  clear hr hB hN
  go_enter Tryz.func132, Tryz.ntmps132
  go_wp2_with fail
  refine HI.out.mono ?_
  rw [← Hr.out]
  rintro e w' ⟨⟨z, rfl, hz⟩, hb⟩
  go_wp2_with fail
  go_ret
  exact ⟨rfl, hb⟩


def insB (P Q : Nat) (l : List Nat) : Bool := l.all fun x => inG P Q x
theorem insB_not (P Q : Nat) (l : List Nat) : (!l.any (fun x => !inG P Q x)) = insB P Q l := by
  unfold insB
  induction l with
  | nil => rfl
  | cons x r ih => simp [List.any_cons, List.all_cons, ← ih]

set_option maxRecDepth 100000 in
set_option maxHeartbeats 1000000 in
theorem els_any (P Q G H : Nat) (R : Value) (A : Option Addr) (cap : Nat) (l : List Nat) (w : World) (hP : P < 18446744073709551616) (hQ : Q < 18446744073709551616) (hl : l.length < 9223372036854775808) (hN : Nums w A cap l) :
    Calls Tryz.prog 91 #[gval P Q G H R, .slice A l.length cap] w fun e w' => e = .returned (.bool (insB P Q l)) ∧ Below w.heap.size w w' := by
  have hc := fun W b hb (hB : Blk W b 25 (glist P Q G H R)) => scontains_any P Q G H b R A cap l W hP hQ hl hB (hN.below (w1 := W) hb)
  rw [← insB_not]
  obtain ⟨n, hn⟩ : ∃ s, s = (l.length) := ⟨_, rfl⟩; obtain ⟨r, hr⟩ : ∃ s, s = (l.any (fun x => !inG P Q x)) := ⟨_, rfl⟩
  rw [← hn, ← hr] at hc
  rw [← hn, ← hr]
  have Hc := Lib.hid hc; clear hc
  have hb := lat_alloc (Below.refl w.heap.size w) (.cells #[.int .u64 (P : Int), .int .u64 (Q : Int), .int .u64 (G : Int), .int .u64 (H : Int), R] 25)
  have hB : Blk (w.alloc (.cells #[.int .u64 (P : Int), .int .u64 (Q : Int), .int .u64 (G : Int), .int .u64 (H : Int), R] 25)) w.heap.size 25 (glist P Q G H R) := Blk.of w _ _ _ rfl
  have Hb := Lib.hid hb; have HB := Lib.hid hB; clear hb hB
  clear hN hn hr hl
  unfold gval
  go_enter Tryz.func91, Tryz.ntmps91
  go_wp2_with (go_at_call 132; refine (Hc.out _ _ Hb.out HB.out).mono ?_; rintro e w3 ⟨rfl, hb3⟩; have Hb3 := Lib.hid hb3; clear hb3)
  go_ret
  exact ⟨rfl, below_trans Hb.out Hb3.out⟩

def boxIn (P Q : Nat) (b : BoxV) : Bool := (List.range 3).all fun j => inG P Q (b.u j) && inG P Q (b.v j)
def batchB (P Q : Nat) (ls : List BoxV) : Bool := ls.all (boxIn P Q) && decide (0 < ls.length) && decide (ls.length ≤ 8)
theorem boxIn_yes {P Q : Nat} {b : BoxV} : boxIn P Q b = true ↔ ∀ j, j < 3 → inG P Q (b.u j) = true ∧ inG P Q (b.v j) = true := by
  unfold boxIn
  rw [List.all_eq_true]
  constructor
  · intro h j hj
    have := h j (List.mem_range.2 hj)
    simpa using this
  · intro h j hj
    have := h j (List.mem_range.1 hj)
    simp [this.1, this.2]
theorem boxIn_no {P Q j : Nat} {b : BoxV} (hj : j < 3) (h : (inG P Q (b.u j) && inG P Q (b.v j)) = false) : boxIn P Q b = false := by
  cases hb : boxIn P Q b with
  | false => rfl
  | true => have := boxIn_yes.1 hb j hj; rw [this.1, this.2] at h; cases h
theorem batch_take {P Q k : Nat} {ls : List BoxV} {x : BoxV} (h : ls[k]? = some x) (hk : (ls.take k).all (boxIn P Q) = true) (hx : boxIn P Q x = true) : (ls.take (k + 1)).all (boxIn P Q) = true := by
  rw [List.take_add_one, h, List.all_append, hk]; simp [hx]
theorem batch_no {P Q k : Nat} {ls : List BoxV} {x : BoxV} (h : ls[k]? = some x) (hx : boxIn P Q x = false) : batchB P Q ls = false := by
  have : ls.all (boxIn P Q) = false := by rw [List.all_eq_false]; exact ⟨x, List.mem_of_getElem? h, by rw [hx]; decide⟩
  rw [batchB, this]; rfl
set_option maxRecDepth 100000 in
theorem ix_boxV (x : BoxV) (w : World) : ∀ j : Nat, j < 3 → (Instr.index 63 (.agg #[.int .u64 (x.u 0 : Int), .int .u64 (x.v 0 : Int), .int .u64 (x.u 1 : Int), .int .u64 (x.v 1 : Int), .int .u64 (x.u 2 : Int), .int .u64 (x.v 2 : Int)]) (.int .i64 (j : Int))).run Tryz.prog w = .ok (.agg #[.int .u64 (x.u j : Int), .int .u64 (x.v j : Int)]) w :=
  three_cases (by kernel_rfl) (by kernel_rfl) (by kernel_rfl)

set_option maxRecDepth 100000 in
set_option maxHeartbeats 4000000 in
theorem batch_any (P Q G H : Nat) (R : Value) (A : Option Addr) (cap : Nat) (ls : List BoxV) (w : World) (hP : P < 18446744073709551616) (hQ : Q < 18446744073709551616) (hl : ls.length < 1000000) (hA : Boxes w A cap ls) :
    Calls Tryz.prog 90 #[gval P Q G H R, .slice A ls.length cap] w fun e w' => e = .returned (.bool (batchB P Q ls)) ∧ Below w.heap.size w w' := by
  have hc := fun W A' x y (hx : x < 18446744073709551616) (hy : y < 18446744073709551616) (hN : Nums W A' 2 [x, y]) => els_any P Q G H R A' 2 [x, y] W hP hQ (by simp) hN
  unfold gval at hc ⊢
  obtain ⟨nl, hnl⟩ : ∃ s, s = (ls.length) := ⟨_, rfl⟩; obtain ⟨out, hout⟩ : ∃ s, s = (batchB P Q ls) := ⟨_, rfl⟩
  rw [← hnl, ← hout]
  have hl' : nl < 1000000 := by omega
  obtain ⟨w0, hw0⟩ : ∃ z, z = (w.alloc (.cells #[.int .u64 (P : Int), .int .u64 (Q : Int), .int .u64 (G : Int), .int .u64 (H : Int), R] 25)) := ⟨_, rfl⟩
  have hw0b : Below w.heap.size w w0 := by rw [hw0]; exact lat_alloc (Below.refl _ _) _
  have hg : Blk w0 (w.heap.size) 25 [.int .u64 (P : Int), .int .u64 (Q : Int), .int .u64 (G : Int), .int .u64 (H : Int), R] := by rw [hw0]; exact (Blk.of w _ _ _ rfl)
  have Hc := Lib.hid hc; have HA := Lib.hid hA; have Hnl := Lib.hid hnl; have Hout := Lib.hid hout; have Hw0b := Lib.hid hw0b; have Hg := Lib.hid hg; clear hc hA hnl hout hw0b hg
  clear hl
  go_enter Tryz.func90, Tryz.ntmps90
  go_wp2_with fail
  rw [← hw0]
  clear hw0
  go_loopw [11] (fun kv wr => ∃ k : Nat, kv = .int .i64 (k : Int) ∧ k ≤ nl ∧ (ls.take k).all (boxIn P Q) = true ∧ Below w0.heap.size w0 wr) (fun kv _ => nl - (intOf kv).toNat)
  case atStart => exact ⟨0, rfl, by omega, rfl, Below.refl _ _⟩
  case round =>
    obtain ⟨k, rfl, hk, hak, hbr⟩ := hrel
    have Hak := Lib.hid hak; have Hbr := Lib.hid hbr; clear hak hbr
    by_cases hkl : k < nl
    · have d8 : decide ((k : Int) < (nl : Int)) = true := decide_eq_true (by omega)
      have hki : (k : Int) < (nl : Int) := by omega
      obtain ⟨x, hx⟩ : ∃ x, ls[k]? = some x := ⟨_, List.getElem?_eq_getElem (by rw [← Hnl.out]; exact hkl)⟩
      have hxs := HA.out.small x (List.mem_of_getElem? hx)
      obtain ⟨b, hAb, q0, q1, q2, q3, q4, q5⟩ := recs_6 (HA.out.below (below_trans Hw0b.out Hbr.out)).recs (k := k) (by rw [List.getElem?_map, hx]; rfl)
      subst hAb
      have Hx := Lib.hid hx; have Hxs := Lib.hid hxs; clear hx hxs
      go_wp2_with fail
      obtain ⟨wx, hwx⟩ : ∃ z, z = wr.alloc (.cells #[.int .u64 (x.u 0 : Int), .int .u64 (x.v 0 : Int), .int .u64 (x.u 1 : Int), .int .u64 (x.v 1 : Int), .int .u64 (x.u 2 : Int), .int .u64 (x.v 2 : Int)] 63) := ⟨_, rfl⟩
      have hbx : Below w0.heap.size w0 wx := by rw [hwx]; exact lat_alloc Hbr.out _
      rw [← hwx]
      clear q0 q1 q2 q3 q4 q5 hwx
      have Hbx := Lib.hid hbx; clear hbx
      go_loopw [16] (fun jv wq => ∃ j : Nat, jv = .int .i64 (j : Int) ∧ j ≤ 3 ∧ (∀ i, i < j → inG P Q (x.u i) = true ∧ inG P Q (x.v i) = true) ∧ Below w0.heap.size w0 wq) (fun jv _ => 3 - (intOf jv).toNat)
      case atStart => exact ⟨0, rfl, by omega, by omega, Hbx.out⟩
      case round =>
        obtain ⟨j, rfl, hj, hej, hbj⟩ := hrel
        have Hej := Lib.hid hej; have Hbj := Lib.hid hbj; clear hej hbj
        by_cases hj3 : j < 3
        · have d9 : decide ((j : Int) < 3) = true := decide_eq_true (by omega)
          have hji : (j : Int) < 3 := by omega
          have hix := fun W => ix_boxV x W j hj3
          obtain ⟨f0, f1, f2, f3, f4⟩ := gcells (Hg.out.below Hbj.out Hg.out.lt)
          have g0 := fun o => below_cell (lat_alloc (Below.refl wr.heap.size wr) o) f0
          have g1 := fun o => below_cell (lat_alloc (Below.refl wr.heap.size wr) o) f1
          have g2 := fun o => below_cell (lat_alloc (Below.refl wr.heap.size wr) o) f2
          have g3 := fun o => below_cell (lat_alloc (Below.refl wr.heap.size wr) o) f3
          have g4 := fun o => below_cell (lat_alloc (Below.refl wr.heap.size wr) o) f4
          clear f0 f1 f2 f3 f4
          have hnn := nums_two (wr.alloc (.cells #[.int .u64 (x.u j : Int), .int .u64 (x.v j : Int)] 61)) _ _ 22 (Hxs.out j hj3).1 (Hxs.out j hj3).2
          rw [show (wr.alloc (.cells #[.int .u64 (x.u j : Int), .int .u64 (x.v j : Int)] 61)).heap.size = wr.heap.size + 1 by simp] at hnn
          have hcc := Hc.out _ _ (x.u j) (x.v j) (Hxs.out j hj3).1 (Hxs.out j hj3).2 hnn
          have hbz : Below w0.heap.size w0 ((wr.alloc (.cells #[.int .u64 (x.u j : Int), .int .u64 (x.v j : Int)] 61)).alloc (.cells #[.int .u64 (x.u j : Int), .int .u64 (x.v j : Int)] 22)) := lat_alloc (lat_alloc Hbj.out _) _
          obtain ⟨r, hr⟩ : ∃ r, r = insB P Q [x.u j, x.v j] := ⟨_, rfl⟩
          have hr2 : r = (inG P Q (x.u j) && inG P Q (x.v j)) := by rw [hr]; simp [insB]
          rw [← hr] at hcc
          have Hcc := Lib.hid hcc; have Hbz := Lib.hid hbz; clear hcc hbz
          clear hnn hr
          cases r with
          | false =>
            have ho : out = false := by rw [Hout.out]; exact batch_no Hx.out (boxIn_no hj3 hr2.symm)
            subst ho
            clear hr2
            go_wp2_with (go_at_call 91; refine Hcc.out.mono ?_; rintro e w3 ⟨rfl, hb3⟩; have Hb3 := Lib.hid hb3; clear hb3)
            go_ret
            exact ⟨rfl, below_trans Hw0b.out (below_trans Hbz.out Hb3.out)⟩
          | true =>
            have hr3 : inG P Q (x.u j) = true ∧ inG P Q (x.v j) = true := by simpa using hr2.symm
            have Hr3 := Lib.hid hr3; clear hr3
            clear hr2
            go_wp2_with (go_at_call 91; refine Hcc.out.mono ?_; rintro e w3 ⟨rfl, hb3⟩; have Hb3 := Lib.hid hb3; clear hb3)
            go_roundw
            case rel => exact ⟨j + 1, by go_num, by omega, upto_next Hej.out Hr3.out, below_trans Hbz.out Hb3.out⟩
            case measure => simp [intOf]; omega
        · obtain rfl : j = 3 := by omega
          have hnx := batch_take Hx.out Hak.out (boxIn_yes.2 Hej.out)
          have Hnx := Lib.hid hnx; clear hnx
          have d9 : decide (((3 : Nat) : Int) < 3) = false := by decide
          go_wp2_with fail
          go_roundw
          case rel => exact ⟨k + 1, by go_num, by omega, Hnx.out, Hbj.out⟩
          case measure => simp [intOf]; omega
    · obtain rfl : k = nl := by omega
      have d8 : decide ((k : Int) < (k : Int)) = false := decide_eq_false (by omega)
      have hall : ls.all (boxIn P Q) = true := by have h := Hak.out; rwa [List.take_of_length_le (by rw [← Hnl.out]; exact Nat.le_refl _)] at h
      have ho : out = (decide (0 < k) && decide (k ≤ 8)) := by rw [Hout.out, batchB, hall, ← Hnl.out]; rfl
      clear hall
      by_cases h0 : 0 < k
      · have d1 : decide ((0 : Int) < (k : Int)) = true := decide_eq_true (by omega)
        by_cases h8 : k ≤ 8
        · have d2 : decide ((k : Int) ≤ 8) = true := decide_eq_true (by omega)
          have ho2 : out = true := by rw [ho, decide_eq_true h0, decide_eq_true h8]; rfl
          subst ho2
          clear ho
          go_wp2_with fail
          go_ret
          exact ⟨rfl, below_trans Hw0b.out Hbr.out⟩
        · have d2 : decide ((k : Int) ≤ 8) = false := decide_eq_false (by omega)
          have ho2 : out = false := by rw [ho, decide_eq_false h8]; simp
          subst ho2
          clear ho
          go_wp2_with fail
          go_ret
          exact ⟨rfl, below_trans Hw0b.out Hbr.out⟩
      · have d1 : decide ((0 : Int) < (k : Int)) = false := decide_eq_false (by omega)
        have ho2 : out = false := by rw [ho, decide_eq_false h0]; rfl
        subst ho2
        clear ho
        go_wp2_with fail
        go_ret
        exact ⟨rfl, below_trans Hw0b.out Hbr.out⟩
end Go.Proofs.YtbpenkaficiodaaGreat

/- Certificates: rows that are only read; which numbers stand in them. -/
namespace Go.Proofs.YtbpenkaficiodaaGreat
open Go.RowKit

/-- A row of a certificate. -/
structure RowV where
  N : Nat
  A : Nat
  F : NumV
/-- The slice of rows at B: read only. -/
structure Rows3 (w : World) (B : Option Addr) (cap : Nat) (rs : List RowV) : Prop where
  len : rs.length ≤ cap
  cells : ∀ (i : Nat) (r : RowV), rs[i]? = some r → ∃ b, B = some b ∧ w.cell? (b.add (i * 3)) = some (.int .u64 (r.N : Int)) ∧ w.cell? ⟨(b.add (i * 3)).block, (b.add (i * 3)).off + 1, none⟩ = some (.int .u64 (r.A : Int)) ∧ w.cell? ⟨(b.add (i * 3)).block, (b.add (i * 3)).off + 2, none⟩ = some r.F.val
  nums : ∀ r ∈ rs, Nums w r.F.A r.F.cap r.F.l ∧ r.N < 18446744073709551616 ∧ r.A < 18446744073709551616
theorem Rows3.below {w w1 : World} {B : Option Addr} {cap : Nat} {rs : List RowV} (h : Rows3 w B cap rs) (hb : Below w.heap.size w w1) : Rows3 w1 B cap rs :=
  ⟨h.len, fun i x hx => let ⟨a, ha, h0, h1, h2⟩ := h.cells i x hx; ⟨a, ha, below_cell hb h0, below_cell hb h1, below_cell hb h2⟩, fun r hr => ⟨((h.nums r hr).1).below hb, (h.nums r hr).2⟩⟩

def aheadB (rs : List RowV) (n f : Nat) : Bool := (rs.take n).any fun r => decide (r.N = f)

set_option maxRecDepth 100000 in
set_option maxHeartbeats 1000000 in
theorem ahead_any (B : Option Addr) (cap : Nat) (rs : List RowV) (n f : Nat) (w : World) (hR : Rows3 w B cap rs) (hl : rs.length < 1000000) (hn : n ≤ rs.length) (hf : f < 18446744073709551616) :
    Calls Tryz.prog 179 #[.slice B rs.length cap, .int .i64 (n : Int), .int .u64 (f : Int)] w fun e w' => e = .returned (.bool (aheadB rs n f)) ∧ w = w' := by
  obtain ⟨nB, hnB⟩ : ∃ n, n = rs.length := ⟨_, rfl⟩
  obtain ⟨out, hout⟩ : ∃ s, s = aheadB rs n f := ⟨_, rfl⟩
  rw [← hout, ← hnB]
  have HR := Lib.hid hR
  have HnB := Lib.hid hnB
  have Hout := Lib.hid hout
  have hl' : nB < 1000000 := by omega
  have hn' : n ≤ nB := by omega
  clear hR hl hn hnB hout
  go_enter Tryz.func179, Tryz.ntmps179
  go_wp2_with fail
  go_loop [7] (fun iv => ∃ k : Nat, iv = .int .i64 (k : Int) ∧ k ≤ n ∧ aheadB rs k f = false) (fun iv => n - (intOf iv).toNat)
  case atStart => exact ⟨0, rfl, by omega, by simp [aheadB]⟩
  case round =>
    obtain ⟨k, rfl, hk, hno⟩ := hrel
    have Hno := Lib.hid hno
    clear hno
    by_cases hkl : k < n
    · have d1 : decide ((k : Int) < (n : Int)) = true := decide_eq_true (by omega)
      have hki : (k : Int) < (nB : Int) := by omega
      obtain ⟨r, hr⟩ : ∃ r, rs[k]? = some r := ⟨_, List.getElem?_eq_getElem (by rw [← HnB.out]; omega)⟩
      obtain ⟨b, hb, h0, h1, h2⟩ := HR.out.cells k r hr
      subst hb
      have hnx : aheadB rs (k + 1) f = decide (r.N = f) := by
        have := Hno.out
        unfold aheadB at *
        rw [List.take_add_one, hr, List.any_append, this]; simp
      by_cases hrf : r.N = f
      · have d2 : ((r.N : Int) == (f : Int)) = true := by rw [beq_iff_eq]; omega
        have ho : out = true := by
          rw [Hout.out]
          unfold aheadB
          rw [List.any_eq_true]
          exact ⟨r, List.mem_of_getElem? (by rw [List.getElem?_take, if_pos hkl]; exact hr), decide_eq_true hrf⟩
        subst ho
        clear hnx hr
        go_wp2_with fail
        go_ret
        exact ⟨rfl, rfl⟩
      · have d2 : ((r.N : Int) == (f : Int)) = false := by rw [beq_eq_false_iff_ne]; omega
        rw [decide_eq_false hrf] at hnx
        have Hnx := Lib.hid hnx
        clear hnx hr
        go_wp2_with fail
        go_round
        case rel => exact ⟨k + 1, by go_num, by omega, Hnx.out⟩
        case measure => simp [intOf]; omega
    · have d1 : decide ((k : Int) < (n : Int)) = false := decide_eq_false (by omega)
      have ho : out = false := by rw [Hout.out, show n = k by omega, Hno.out]
      subst ho
      go_wp2_with fail
      go_ret
      exact ⟨rfl, rfl⟩
end Go.Proofs.YtbpenkaficiodaaGreat

/- A row of a certificate holds: plain. -/
namespace Go.Proofs.YtbpenkaficiodaaGreat
open Go.RowKit

/-- As often as f is in x it is taken out. -/
def stripF (f : Nat) : Nat → Nat → Nat
  | 0, x => x
  | k + 1, x => if x % f = 0 then stripF f k (x / f) else x
def prevOk (f : Nat) : Option Nat → Bool
  | none => true
  | some p => decide (p < f)
def okF (ah : Nat → Bool) (prev : Option Nat) (left f : Nat) : Bool :=
  !decide (f < 2) && prevOk f prev && (decide (f = 2) || ah f) && decide (left % f = 0)
def facRest (N A : Nat) (ah : Nat → Bool) : Option Nat → Nat → List Nat → Bool
  | _, left, [] => decide (left = 1) && decide (powM A (N - 1) N = 1)
  | prev, left, f :: fs => if okF ah prev left f = false then false else if powM A ((N - 1) / f) N = 1 then false else facRest N A ah (some f) (stripF f 64 left) fs
def holdsRow (rs : List RowV) (k : Nat) (r : RowV) : Bool :=
  decide (3 ≤ r.N) && decide (r.N ≤ 4611686018427387904) && decide (1 ≤ r.F.l.length) && decide (r.F.l.length ≤ 16) && facRest r.N r.A (aheadB rs k) none (r.N - 1) r.F.l
def prevO (F : List Nat) (i : Nat) : Option Nat := if i = 0 then none else F[i - 1]?
theorem prevO_zero (F : List Nat) : prevO F 0 = none := rfl
theorem prevO_succ (F : List Nat) (i : Nat) : prevO F (i + 1) = F[i]? := rfl
theorem fac_no {N A : Nat} {ah : Nat → Bool} {prev : Option Nat} {left f : Nat} {fs : List Nat} (h : okF ah prev left f = false) : facRest N A ah prev left (f :: fs) = false := by
  rw [facRest, if_pos h]
theorem fac_pow {N A : Nat} {ah : Nat → Bool} {prev : Option Nat} {left f : Nat} {fs : List Nat} (h2 : powM A ((N - 1) / f) N = 1) : facRest N A ah prev left (f :: fs) = false := by
  rw [facRest, if_pos h2]; split <;> rfl
theorem fac_yes {N A : Nat} {ah : Nat → Bool} {prev : Option Nat} {left f : Nat} {fs : List Nat} (h : okF ah prev left f = true) (h2 : powM A ((N - 1) / f) N ≠ 1) : facRest N A ah prev left (f :: fs) = facRest N A ah (some f) (stripF f 64 left) fs := by
  rw [facRest, if_neg (by rw [h]; simp), if_neg h2]
theorem strip_step {f m y : Nat} (hf : 2 ≤ f) (hy : 0 < y) (hm : y < 2 ^ m) (h : y % f = 0) : ∃ m', m = m' + 1 ∧ stripF f m y = stripF f m' (y / f) ∧ y / f < 2 ^ m' ∧ 0 < y / f := by
  cases m with
  | zero => simp at hm; omega
  | succ m =>
    refine ⟨m, rfl, by rw [stripF, if_pos h], ?_, ?_⟩
    · rw [Nat.div_lt_iff_lt_mul (by omega)]
      have : 2 ^ m * 2 ≤ 2 ^ m * f := Nat.mul_le_mul_left _ hf
      rw [Nat.pow_succ] at hm
      omega
    · exact Nat.div_pos (Nat.le_of_dvd hy (Nat.dvd_of_mod_eq_zero h)) (by omega)
theorem strip_end {f m y : Nat} (hy : 0 < y) (hm : y < 2 ^ m) (h : y % f ≠ 0) : stripF f m y = y := by
  cases m with
  | zero => rfl
  | succ m => rw [stripF, if_neg h]
theorem strip_le {f : Nat} (k x : Nat) : stripF f k x ≤ x := by
  induction k generalizing x with
  | zero => exact Nat.le_refl _
  | succ k ih =>
    unfold stripF
    split
    · exact Nat.le_trans (ih _) (Nat.div_le_self _ _)
    · exact Nat.le_refl _
end Go.Proofs.YtbpenkaficiodaaGreat
