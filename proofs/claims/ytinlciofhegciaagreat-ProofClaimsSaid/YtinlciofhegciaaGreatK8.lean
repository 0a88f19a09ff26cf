/- Joined texts, part 8: contracts of the functions that the laws reach, and what is needed for them. -/
import Derived.Test.YtinlciofhegciaaGreatK7
/- Claims of tries: what stands while they are made. -/
namespace Go.Proofs.YtinlciofhegciaaGreat
open Go.RowKit Go.BigFrame

/-- A row of three that was made from block B on, in a block of type T1; the row v lies elsewhere. -/
def KRow (T1 : TypeId) (B : Nat) (v : Value) (w : World) (r : NumV) : Prop := ∃ b, r.A = some ⟨b, 0, none⟩ ∧ r.cap = r.l.length ∧ B ≤ b ∧ Blk w b T1 (u64s r.l) ∧ some b ≠ v.ownBlock
/-- A claim that is being made in block c. -/
structure KW (T1 : TypeId) (B c : Nat) (tv bv : Value) (pts : List Nat) (rs all : List NumV) (w : World) : Prop where
  blk : Blk w c 29 [tv, bv]
  t : Row w B 22 1 tv pts.length (u64s pts)
  b : Row w B 26 1 bv rs.length (rs.map NumV.val)
  r : ∀ r ∈ all, KRow T1 B tv w r
theorem KRow.below {T1 : TypeId} {B : Nat} {v : Value} {w w' : World} {r : NumV} (h : KRow T1 B v w r) (hl : Lat w w') : KRow T1 B v w' r := let ⟨b, h0, h1, h2, h3, h4⟩ := h; ⟨b, h0, h1, h2, h3.below hl h3.lt, h4⟩
theorem KW.below {T1 : TypeId} {B c : Nat} {tv bv : Value} {pts : List Nat} {rs all : List NumV} {w w' : World} (h : KW T1 B c tv bv pts rs all w) (hl : Lat w w') : KW T1 B c tv bv pts rs all w' :=
  ⟨h.blk.below hl h.blk.lt, h.t.below hl, h.b.below hl, fun r hr => (h.r r hr).below hl⟩
theorem row_ne_blk {w : World} {B b : Nat} {e T : TypeId} {n : Nat} {v : Value} {xs cs : List Value} (h : Row w B e 1 v n xs) (hb : Blk w b T cs) (hne : e ≠ T) : some b ≠ v.ownBlock := by
  intro hv
  rcases h.2 with ⟨rfl, _⟩ | ⟨g, cap, cur, fz, rfl, _, hg, _⟩
  · simp [Value.ownBlock] at hv
  · simp [Value.ownBlock] at hv
    subst hv
    unfold Blk at hb
    rw [hg] at hb
    injection hb with hb
    injection hb with _ hb
    exact hne hb
theorem row_ne_low {w : World} {B c : Nat} {e : TypeId} {sz n : Nat} {v : Value} {xs : List Value} (h : Row w B e sz v n xs) (hc : c < B) : some c ≠ v.ownBlock := by
  intro hv
  have := (h.block c hv.symm).1
  omega
theorem row_ne_row {w : World} {B B' : Nat} {e e' : TypeId} {n n' : Nat} {v v' : Value} {xs xs' : List Value} (h : Row w B e 1 v n xs) (h' : Row w B' e' 1 v' n' xs') (hne : e ≠ e') : v.ownBlock = none ∨ v.ownBlock ≠ v'.ownBlock := by
  cases hv : v.ownBlock with
  | none => exact .inl rfl
  | some k =>
    refine .inr fun hk => ?_
    rcases h.2 with ⟨rfl, _⟩ | ⟨g, cap, cur, fz, rfl, _, hg, _⟩
    · simp [Value.ownBlock] at hv
    · simp [Value.ownBlock] at hv
      subst hv
      rcases h'.2 with ⟨rfl, _⟩ | ⟨g', cap', cur', fz', rfl, _, hg', _⟩
      · simp [Value.ownBlock] at hk
      · simp [Value.ownBlock] at hk
        subst hk
        rw [hg] at hg'
        injection hg' with hg'
        injection hg' with _ hg'
        exact hne hg'
theorem KRow.grown {T1 : TypeId} {B : Nat} {v : Value} {w w' : World} {r : NumV} {ρ : Option Nat} (h : KRow T1 B v w r) (hg : w.grownBy w' ρ) (hne : ∀ b, Blk w b T1 (u64s r.l) → some b ≠ v.ownBlock → some b ≠ ρ) : KRow T1 B v w' r :=
  let ⟨b, h0, h1, h2, h3, h4⟩ := h; ⟨b, h0, h1, h2, h3.grown hg (hne b h3 h4), h4⟩
theorem KRow.set {T1 : TypeId} {B c : Nat} {v : Value} {w : World} {r : NumV} (h : KRow T1 B v w r) (hc : c < B) (o : Nat) (x : Value) : KRow T1 B v (w.setCell ⟨c, o, none⟩ x) r :=
  let ⟨b, h0, h1, h2, h3, h4⟩ := h; ⟨b, h0, h1, h2, h3.other (by show b ≠ c; omega) x, h4⟩
/-- A number was written behind the first row. -/
theorem KW.pushT {T1 : TypeId} {B c : Nat} {tv bv tv1 : Value} {pts : List Nat} {rs all : List NumV} {w w1 : World} (h : KW T1 B c tv bv pts rs all w) (hc : c < B) (x : Nat) (hg : w.grownBy w1 tv.ownBlock) (hr : Row w1 B 22 1 tv1 (pts.length + 1) (u64s pts ++ [.int .u64 (x : Int)]))
    (hw : ∀ b, tv1.ownBlock = some b → tv.ownBlock = some b ∨ w.heap.size ≤ b) : KW T1 B c tv1 bv (pts ++ [x]) rs all (w1.setCell ⟨c, 0, none⟩ tv1) := by
  refine ⟨(h.blk.grown hg (row_ne_low h.t hc)).set 0 tv1, ?_, (h.b.kept hg (row_ne_row h.b h.t (by decide))).other hc 0 tv1, fun r hr => ?_⟩
  · have h1 := hr.other hc 0 tv1
    rw [show u64s (pts ++ [x]) = u64s pts ++ [.int .u64 (x : Int)] by simp [u64s], List.length_append]
    exact h1
  · obtain ⟨b, h0, h1, h2, h3, h4⟩ := (h.r r hr).grown hg (fun _ _ hne => hne)
    refine KRow.set ⟨b, h0, h1, h2, h3, fun he => ?_⟩ hc 0 tv1
    rcases hw b he.symm with he | he
    · exact h4 he.symm
    · obtain ⟨b', h0', _, _, h3', _⟩ := h.r r hr
      rw [h0] at h0'
      injection h0' with h0'
      injection h0' with h0'
      subst h0'
      have := h3'.lt
      omega
/-- A row was written behind the other. -/
theorem KW.pushB {T1 : TypeId} {B c : Nat} {tv bv bv1 : Value} {pts : List Nat} {rs all : List NumV} {w w1 : World} (h : KW T1 B c tv bv pts rs all w) (hT : 26 ≠ T1) (hc : c < B) (r0 : NumV) (hg : w.grownBy w1 bv.ownBlock) (hr : Row w1 B 26 1 bv1 (rs.length + 1) (rs.map NumV.val ++ [r0.val])) :
    KW T1 B c tv bv1 pts (rs ++ [r0]) all (w1.setCell ⟨c, 1, none⟩ bv1) := by
  refine ⟨(h.blk.grown hg (row_ne_low h.b hc)).set 1 bv1, (h.t.kept hg (row_ne_row h.t h.b (by decide))).other hc 1 bv1, ?_, fun r hr => ?_⟩
  · have h1 := hr.other hc 1 bv1
    rw [List.map_append, List.length_append]
    exact h1
  · exact ((h.r r hr).grown hg (fun b hb _ => row_ne_blk h.b hb hT)).set hc 1 bv1
theorem KW.more {T1 : TypeId} {B c : Nat} {tv bv : Value} {pts : List Nat} {rs all : List NumV} {w : World} (h : KW T1 B c tv bv pts rs all w) (r0 : NumV) (hr : KRow T1 B tv w r0) : KW T1 B c tv bv pts rs (all ++ [r0]) w :=
  ⟨h.blk, h.t, h.b, fun r hr' => (List.mem_append.1 hr').elim (h.r r) fun h1 => by simp at h1; subst h1; exact hr⟩
/-- The first state: nothing was written. -/
theorem KW.first {T1 : TypeId} {B c : Nat} {w : World} (hb : Blk w c 29 [.slice none 0 0, .slice none 0 0]) : KW T1 B c (.slice none 0 0) (.slice none 0 0) [] [] [] w :=
  ⟨hb, Row.nil _ _ _ _, Row.nil _ _ _ _, fun _ h => by simp at h⟩
/-- A block that is new now lies in no older row. -/
theorem KW.own_lt {T1 : TypeId} {B c : Nat} {tv bv : Value} {pts : List Nat} {rs all : List NumV} {w : World} (h : KW T1 B c tv bv pts rs all w) {b : Nat} (hb : w.heap.size ≤ b) : some b ≠ tv.ownBlock := fun he => by
  have := (h.t.block b he.symm).2; omega
theorem KW.out {T1 : TypeId} {B c : Nat} {tv bv : Value} {pts : List Nat} {rs : List NumV} {L : List (List Nat)} {w : World} (h : KW T1 B c tv bv pts rs rs w) (hn : 0 < rs.length) (hL : rs.map (·.l) = L) (hp : ∀ x ∈ pts, x < 18446744073709551616) (hl : ∀ l ∈ L, ∀ x ∈ l, x < 18446744073709551616) : OutClaim pts L (.returned (.agg #[tv, bv])) w := by
  obtain ⟨A, cT, hv, hN⟩ := nums_of_row h.t hp
  obtain ⟨g, cap, hv2, _, _, hcap, hcells⟩ := h.b.form hn
  refine ⟨A, cT, some ⟨g, 0, none⟩, cap, rs, by rw [hv, hv2]; rfl, hN, ⟨hcap, fun i r hr => ⟨_, rfl, ?_⟩, fun r hr => ?_⟩, hL⟩
  · rw [blk_add]
    exact (hcells i r.val (by rw [List.getElem?_map, hr]; rfl)).1
  · obtain ⟨b, h0, h1, _, h3, _⟩ := h.r r hr
    rw [h0, h1]
    exact Nums.of_blk h3 (hl _ (by rw [← hL]; exact List.mem_map.2 ⟨r, hr, rfl⟩))
theorem Tryz.un_numss : Tryz.prog.underlying 27 = some (.slice 26) := by kernel_rfl
theorem Tryz.inf_nums : (Tryz.prog.info? 26).map (fun i => (i.zero, i.size, i.bytes)) = some (some (.slice none 0 0), 1, 24) := by kernel_rfl
theorem lat_alloc {w w' : World} (h : Lat w w') (o : Obj) : Lat w (w'.alloc o) := Below.alloc h h.size o
def slist (p0 q0 p1 q1 p2 q2 : Nat) : List Value := [.int .u64 (p0 : Int), .int .u64 (q0 : Int), .int .u64 (p1 : Int), .int .u64 (q1 : Int), .int .u64 (p2 : Int), .int .u64 (q2 : Int)]
def sval (p0 q0 p1 q1 p2 q2 : Nat) : Value := .agg #[.int .u64 (p0 : Int), .int .u64 (q0 : Int), .int .u64 (p1 : Int), .int .u64 (q1 : Int), .int .u64 (p2 : Int), .int .u64 (q2 : Int)]
/-- What stands around the claim that is being made in block w0.heap.size + 3. -/
structure KF (gl sl : List Value) (w0 w : World) : Prop where
  g : Blk w w0.heap.size 25 gl
  s : Blk w (w0.heap.size + 1) 46 sl
  o : Blk w (w0.heap.size + 2) 29 [.slice none 0 0, .slice none 0 0]
  b : Below w0.heap.size w0 w
theorem KF.below {gl sl : List Value} {w0 w w' : World} (h : KF gl sl w0 w) (hl : Lat w w') : KF gl sl w0 w' := ⟨h.g.below hl h.g.lt, h.s.below hl h.s.lt, h.o.below hl h.o.lt, below_trans h.b hl⟩
theorem KF.grown {gl sl : List Value} {w0 w w' : World} {ρ : Option Nat} (h : KF gl sl w0 w) (hg : w.grownBy w' ρ) (hlow : ∀ c, c < w0.heap.size + 4 → some c ≠ ρ) : KF gl sl w0 w' :=
  ⟨h.g.grown hg (hlow _ (by omega)), h.s.grown hg (hlow _ (by omega)), h.o.grown hg (hlow _ (by omega)), ⟨hg.os.trans h.b.os, hg.tape.trans h.b.tape, hg.output.trans h.b.output, Nat.le_trans h.b.size hg.size, fun k hk => (hg.block k (Nat.lt_of_lt_of_le hk h.b.size) (hlow k (by omega))).trans (h.b.block k hk)⟩⟩
theorem KF.set {gl sl : List Value} {w0 w : World} (h : KF gl sl w0 w) {c : Nat} (hc : w0.heap.size + 3 ≤ c) (o : Nat) (x : Value) : KF gl sl w0 (w.setCell ⟨c, o, none⟩ x) :=
  ⟨h.g.other (by show _ ≠ c; omega) x, h.s.other (by show _ ≠ c; omega) x, h.o.other (by show _ ≠ c; omega) x, below_set h.b (by omega) o x⟩
theorem KF.first (P Q G H p0 q0 p1 q1 p2 q2 : Nat) (R : Value) (w W : World) (h : W = (((w.alloc (.cells #[.int .u64 (P : Int), .int .u64 (Q : Int), .int .u64 (G : Int), .int .u64 (H : Int), R] 25)).alloc (.cells #[.int .u64 (p0 : Int), .int .u64 (q0 : Int), .int .u64 (p1 : Int), .int .u64 (q1 : Int), .int .u64 (p2 : Int), .int .u64 (q2 : Int)] 46)).alloc (.cells #[.slice none 0 0, .slice none 0 0] 29)).alloc (.cells #[.slice none 0 0, .slice none 0 0] 29)) :
    KF (glist P Q G H R) (slist p0 q0 p1 q1 p2 q2) w W := by
  subst h
  exact ⟨(((Blk.of w _ _ _ rfl).alloc _).alloc _).alloc _, ((Blk.at_new _ _ _ _ _ (by simp) rfl).alloc _).alloc _, (Blk.at_new _ _ _ _ _ (by simp) rfl).alloc _, lat_alloc (lat_alloc (lat_alloc (lat_alloc (Below.refl _ _) _) _) _) _⟩
section
variable {P : Program} {N B : Nat} {e : TypeId} {v y : Value} {xs : List Value} {σ τ : Nat}
/-- What is known in a region that appends y to the row v: the slice of one, and the new row. -/
def oneK (N B : Nat) (e : TypeId) (v y : Value) (xs : List Value) (σ τ : Nat) : List (Nat × (Value → World → Prop)) :=
  [(σ, fun u wx => ∃ b, u = .slice (some ⟨b, 0, none⟩) 1 1 ∧ N ≤ b ∧ Blk wx b e [y]), (τ, fun u wx => Row wx B e 1 u (xs.length + 1) (xs ++ [y]) ∧ ∀ b, u.ownBlock = some b → v.ownBlock = some b ∨ N ≤ b)]
theorem oneK_stable : Know.stable (oneK N B e v y xs σ τ) :=
  Know.stable_cons (fun _ _ _ h hl => let ⟨b, h0, h1, h2⟩ := h; ⟨b, h0, h1, h2.below hl h2.lt⟩) (Know.stable_cons (fun _ _ _ h hl => ⟨h.1.below hl, h.2⟩) Know.stable_nil)
theorem oneK_R (hN : ∀ b, v.ownBlock = some b → b < N) : ∀ t u w w', t ≠ τ → Know.at t u w (oneK N B e v y xs σ τ) → LatR v.ownBlock w w' → Know.at t u w' (oneK N B e v y xs σ τ) := by
  intro t u w w' ht ha hl
  unfold oneK Know.at at *
  split
  · rename_i h1
    simp only [h1, if_true] at ha
    obtain ⟨b, h0, hb, h2⟩ := ha
    refine ⟨b, h0, hb, h2.grown hl fun he => ?_⟩
    have := hN b he.symm
    omega
  · rename_i h1
    unfold Know.at
    rw [if_neg ht]
    unfold Know.at
    trivial
theorem region_one {id : Nat} {Q : Exit → Act → World → Prop} {a : Act} {w : World} {l : List Oper} (σ τ α n : Nat) (hστ : σ ≠ τ) (HO : Row w B e 1 v xs.length xs) (y : Value) (hB0 : B ≤ w.heap.size) (hl : xs.length + 1 ≤ 1000)
    (hτ : tauA l.toArray α = τ) (hon : onlyB (oneK w.heap.size B e v y xs σ τ) l α τ = true) (hm : P.follows .mixedOrders = true) (hB : floatB .any l.toArray n = true) (hu : unmarkedB (oneK w.heap.size B e v y xs σ τ) l.toArray = true)
    (h : wpLooseA P l.toArray (oneK w.heap.size B e v y xs σ τ) α v.ownBlock w (fun a' g => ∀ w', LatR v.ownBlock w w' → Known (oneK w.heap.size B e v y xs σ τ) g w' → wpList P l.toArray (NoPanic Q) (l.drop n) a' w') 0 (l.take n) a (fun _ _ => False)) :
    (Code.region id l.toArray true).wp P Q a w := by
  refine region_append (oneK w.heap.size B e v y xs σ τ) α τ v.ownBlock n oneK_stable (oneK_R fun b hb => (HO.block b hb).2) hτ hon ?_ hm hB hu h
  intro w1 hl1
  obtain ⟨u, w2, h1, h2, h3⟩ := some_row (B := B) (e := e) (xs := xs ++ [y]) (ρ := v.ownBlock) w1 (Nat.le_trans hB0 hl1.size) (by rw [List.length_append]; simp only [List.length_cons, List.length_nil, maxLen]; omega)
  refine ⟨u, w2, h1, ?_⟩
  unfold oneK Know.at
  rw [if_neg hστ.symm]
  unfold Know.at
  rw [if_pos rfl]
  refine ⟨by rw [List.length_append] at h2; exact h2, fun b hb => .inr ?_⟩
  rw [h3] at hb
  injection hb with hb
  have := hl1.size
  omega
end
theorem ix_box0 (p0 q0 p1 q1 p2 q2 : Nat) (w : World) : (Instr.index 46 (.agg #[.int .u64 (p0 : Int), .int .u64 (q0 : Int), .int .u64 (p1 : Int), .int .u64 (q1 : Int), .int .u64 (p2 : Int), .int .u64 (q2 : Int)]) (.int .i64 0)).run Tryz.prog w = .ok (.agg #[.int .u64 (p0 : Int), .int .u64 (q0 : Int)]) w := by
  kernel_rfl
theorem ix_box1 (p0 q0 p1 q1 p2 q2 : Nat) (w : World) : (Instr.index 46 (.agg #[.int .u64 (p0 : Int), .int .u64 (q0 : Int), .int .u64 (p1 : Int), .int .u64 (q1 : Int), .int .u64 (p2 : Int), .int .u64 (q2 : Int)]) (.int .i64 1)).run Tryz.prog w = .ok (.agg #[.int .u64 (p1 : Int), .int .u64 (q1 : Int)]) w := by
  kernel_rfl
theorem ix_box2 (p0 q0 p1 q1 p2 q2 : Nat) (w : World) : (Instr.index 46 (.agg #[.int .u64 (p0 : Int), .int .u64 (q0 : Int), .int .u64 (p1 : Int), .int .u64 (q1 : Int), .int .u64 (p2 : Int), .int .u64 (q2 : Int)]) (.int .i64 2)).run Tryz.prog w = .ok (.agg #[.int .u64 (p2 : Int), .int .u64 (q2 : Int)]) w := by
  kernel_rfl
/-- Another low block is written. -/
theorem KW.low {T1 : TypeId} {B c : Nat} {tv bv : Value} {pts : List Nat} {rs all : List NumV} {w : World} (h : KW T1 B c tv bv pts rs all w) {o : Nat} (ho : o < B) (hc : o ≠ c) (j : Nat) (x : Value) : KW T1 B c tv bv pts rs all (w.setCell ⟨o, j, none⟩ x) :=
  ⟨h.blk.other (by show c ≠ o; omega) x, h.t.other ho j x, h.b.other ho j x, fun r hr => (h.r r hr).set ho j x⟩
end Go.Proofs.YtinlciofhegciaaGreat

/- Claims of tries: the program's walk. -/
namespace Go.Proofs.YtinlciofhegciaaGreat
open Go.RowKit Go.BigFrame

set_option maxRecDepth 100000 in
set_option maxHeartbeats 2000000 in
theorem knows_any (P Q G H p0 q0 p1 q1 p2 q2 : Nat) (R : Value) (w : World) (hG : G < 18446744073709551616) (h0 : p0 < 18446744073709551616) (h1 : p1 < 18446744073709551616) (h2 : p2 < 18446744073709551616) :
    Calls Tryz.prog 20 #[gval P Q G H R, sval p0 q0 p1 q1 p2 q2] w fun e w' => OutClaim [p0, p1, p2] [[G, 1, 1], [1, G, 1], [1, 1, G]] e w' ∧ Below w.heap.size w w' := by
  unfold gval sval
  go_enter Tryz.func20, Tryz.ntmps20
  go_wp2_with fail
  obtain ⟨W4, hW4⟩ : ∃ W4, W4 = (((w.alloc (.cells #[.int .u64 (P : Int), .int .u64 (Q : Int), .int .u64 (G : Int), .int .u64 (H : Int), R] 25)).alloc (.cells #[.int .u64 (p0 : Int), .int .u64 (q0 : Int), .int .u64 (p1 : Int), .int .u64 (q1 : Int), .int .u64 (p2 : Int), .int .u64 (q2 : Int)] 46)).alloc (.cells #[.slice none 0 0, .slice none 0 0] 29)).alloc (.cells #[.slice none 0 0, .slice none 0 0] 29) := ⟨_, rfl⟩
  rw [← hW4]
  have HF0 := Lib.hid (KF.first P Q G H p0 q0 p1 q1 p2 q2 R w _ hW4)
  have HK0 := Lib.hid (KW.first (T1 := 57) (B := w.heap.size + 4) (c := w.heap.size + 3) (w := W4) (by rw [hW4]; exact Blk.at_new _ _ _ _ _ (by simp) rfl))
  clear hW4
  go_loopw [10] (fun iv wr => ∃ (k : Nat) (tv bv : Value) (rs : List NumV), iv = .int .i64 (k : Int) ∧ k ≤ 3 ∧ rs.length = k ∧ rs.map (·.l) = [[G, 1, 1], [1, G, 1], [1, 1, G]].take k ∧ KW 57 (w.heap.size + 4) (w.heap.size + 3) tv bv ([p0, p1, p2].take k) rs rs wr ∧ KF (glist P Q G H R) (slist p0 q0 p1 q1 p2 q2) w wr) (fun iv _ => 3 - (intOf iv).toNat)
  case atStart => exact ⟨0, _, _, [], rfl, by omega, rfl, rfl, HK0.out, HF0.out⟩
  case round =>
    obtain ⟨k, tv, bv, rs, rfl, hk, hrl, hm, hK, hF⟩ := hrel
    clear HF0 HK0
    have hk4 : k = 0 ∨ k = 1 ∨ k = 2 ∨ k = 3 := by omega
    rcases hk4 with rfl | rfl | rfl | rfl
    · -- round 0
      obtain ⟨W, hW⟩ : ∃ W, W = (wr.alloc (.cells #[.int .u64 (p0 : Int), .int .u64 (q0 : Int)] 44)).alloc (.cells #[.int .u64 (G : Int), .int .u64 1, .int .u64 1] 57) := ⟨_, rfl⟩
      obtain ⟨b0, hb0⟩ : ∃ b0, b0 = wr.heap.size + 1 := ⟨_, rfl⟩
      have hlW : Lat wr W := by rw [hW]; exact lat_alloc (lat_alloc (Below.refl _ _) _) _
      have hsW : W.heap.size = b0 + 1 := by rw [hW, hb0]; simp
      have hKW := (hK.below hlW).more ⟨some ⟨b0, 0, none⟩, 3, [G, 1, 1]⟩ ⟨b0, rfl, rfl, by have := hF.b.size; have := hK.blk.lt; omega, by rw [hW]; exact Blk.at_new _ _ _ _ _ (by simp [hb0]) rfl, (fun he => by have := (hK.t.block b0 he.symm).2; omega)⟩
      have hFW := hF.below hlW
      have HKW := Lib.hid hKW
      have HFW := Lib.hid hFW
      have hBW : w.heap.size + 4 ≤ W.heap.size := by have := hK.blk.lt; have := hlW.size; omega
      have hb0' := hK.blk
      have c0 : wr.cell? ⟨w.heap.size + 1 + 1 + 1, 0, none⟩ = some tv := (two_cells hb0').1
      have d0 : wr.cell? ⟨w.heap.size, 2, none⟩ = some (.int .u64 (G : Int)) := hF.g.cell 2
      have c1 := fun o1 o2 => below_cell (lat_alloc (lat_alloc (Below.refl wr.heap.size wr) o1) o2) c0
      have d1 := fun o1 o2 => below_cell (lat_alloc (lat_alloc (Below.refl wr.heap.size wr) o1) o2) d0
      clear hb0'
      have HW := Lib.hid hW
      have Hb0 := Lib.hid hb0
      have HsW := Lib.hid hsW
      clear hK hF hKW hFW hlW hb0 hsW hW
      have hix := ix_box0 p0 q0 p1 q1 p2 q2
      go_wp2_with (at_builtin; go_must (rw [← HW.out]; refine ap_oneW (B := w.heap.size + 4) (xs := u64s []) Tryz.un_nums Tryz.inf_u64 rfl HKW.out.t rfl (by omega) (by simp [u64s]) hBW rfl _ _ rfl rfl (by rw [HsW.out, Hb0.out]; rfl) ?_; intro v1 w1 hr0 hg1 hw1; have hr1 := row_len hr0 (show _ = 1 by simp [u64s]) rfl; have HKc := Lib.hid (KW.pushT HKW.out (by omega) p0 hg1 hr1 (fun b hb => hw1.elim (fun h => .inl (h ▸ hb)) (fun h => .inr (by rw [h] at hb; injection hb with hb; omega)))); have HFc := Lib.hid ((HFW.out.grown hg1 (fun c hc => row_ne_low HKW.out.t hc)).set (c := w.heap.size + 3) (Nat.le_refl _) 0 v1); have hb1 := HKW.out.blk.grown hg1 (row_ne_low HKW.out.t (by omega)); have k1 : w1.cell? ⟨w.heap.size + 1 + 1 + 1, 0, none⟩ = some tv := hb1.cell 0; have k2 : w1.cell? ⟨w.heap.size + 1 + 1 + 1, 1, none⟩ = some bv := hb1.cell 1; have f1 : w1.frozen? ⟨w.heap.size + 1 + 1 + 1, 0, none⟩ = false := hb1.frozen 0; obtain ⟨X1, cc1, hv1⟩ := hr1.slice; subst hv1; clear hr0 hr1 hb1 hg1 hw1))
      obtain ⟨W2, hW2⟩ : ∃ W2, W2 = w1.setCell ⟨w.heap.size + 1 + 1 + 1, 0, none⟩ (.slice X1 1 cc1) := ⟨_, rfl⟩
      rw [← hW2, ← Hb0.out]
      have hK2 : KW 57 (w.heap.size + 4) (w.heap.size + 3) (.slice X1 1 cc1) bv ([] ++ [p0]) rs (rs ++ [⟨some ⟨b0, 0, none⟩, 3, [G, 1, 1]⟩]) W2 := by rw [hW2]; exact HKc.out
      have hF2 : KF (glist P Q G H R) (slist p0 q0 p1 q1 p2 q2) w W2 := by rw [hW2]; exact HFc.out
      have HK2 := Lib.hid hK2
      have HF2 := Lib.hid hF2
      have hB2 : w.heap.size + 4 ≤ W2.heap.size := by have := hK2.blk.lt; omega
      have hHO := row_len hK2.b (show rs.length = (rs.map NumV.val).length by simp) rfl
      have hB3 : (rs.map NumV.val).length + 1 ≤ 1000 := by simp; omega
      have Hrl := Lib.hid hrl
      have Hm := Lib.hid hm
      have k2' : W2.cell? ⟨w.heap.size + 1 + 1 + 1, 1, none⟩ = some bv := (two_cells hK2.blk).2
      have hne : some (w.heap.size + 3) ≠ bv.ownBlock := row_ne_low hK2.b (by omega)
      have l1 := LaterR.cell (ρ := bv.ownBlock) k2' hne
      clear hK2 hF2 hW2 HKc HFc HKW HFW HW HsW c0 c1 d0 d1 hix k1 k2 k2' f1 hrl hm hBW
      refine region_one 29 30 4 6 (by decide) hHO (.slice (some ⟨b0, 0, none⟩) 3 3) hB2 hB3 (by rfl) (by rfl) (by kernel_rfl) (by kernel_rfl) (by rfl) ?_
      simp only [List.take_succ_cons, List.take_zero, List.drop_succ_cons, List.drop_zero]
      (repeat (first | (refine appA_skip (by decide) (by rfl) ?_; simp only [Act.put, List.setIfInBounds_toArray, List.set_cons_zero, List.set_cons_succ]) | (refine appA_plain (by decide) (by rfl) (by rfl) (by rfl) (fun Kc hKc => ?_); go_big_quiet_op; refine hKc _ ?_; clear hKc Kc)))
      refine appA_make 29 (V := fun w => .slice (some ⟨w.heap.size, 0, none⟩) 1 1) (W := fun w => w.alloc (.cells #[.slice (some ⟨b0, 0, none⟩) 3 3] 26)) (by decide) (fun w => by go_simp) (by rfl) (by rfl) (by rfl) (fun wk hlk _ => ⟨(Below.refl _ _).alloc (Nat.le_refl _) _, _, rfl, hlk.size, Blk.of _ _ _ _ rfl⟩) ?_
      rintro _ wk hlk ⟨bs, rfl, hbs, hbk⟩
      simp only [Act.put, List.setIfInBounds_toArray, List.set_cons_zero, List.set_cons_succ]
      refine appA_one 30 (B := w.heap.size + 4) (v := bv) (xs := rs.map NumV.val) (ad := ⟨bs, 0, none⟩) (y := .slice (some ⟨b0, 0, none⟩) 3 3) Tryz.un_numss Tryz.inf_nums rfl hHO rfl rfl (by omega) (by have := hB3; omega) hB2 rfl rfl _ _ rfl rfl rfl (fun wx hlx hd => by
        obtain ⟨b', he, _, hbk⟩ := hd 29 (by decide) _ (.inl ⟨rfl, rfl⟩)
        injection he with he
        injection he with he
        injection he with he
        subst he
        exact hbk.cell 0) (by rfl) (by rfl) (by rfl) (fun u wx h1 h2 => ⟨h1, h2⟩) ?_
      rintro bv1 wk1 hlk1 hbv1
      simp only [Act.put, List.setIfInBounds_toArray, List.set_cons_zero, List.set_cons_succ]
      (repeat (first | (refine appA_skip (by decide) (by rfl) ?_; simp only [Act.put, List.setIfInBounds_toArray, List.set_cons_zero, List.set_cons_succ]) | (refine appA_plain (by decide) (by rfl) (by rfl) (by rfl) (fun Kc hKc => ?_); go_big_quiet_op; refine hKc _ ?_; clear hKc Kc)))
      refine appA_nil ?_
      intro wq hlq hkn
      have hrow := (hkn 30 bv1 (by simp [behind, gadd])).1
      have hrow' := row_len hrow (show _ = 1 by simp [Hrl.out]) rfl
      have hb3 := HK2.out.blk.grown hlq hne
      have k3 : wq.cell? ⟨w.heap.size + 1 + 1 + 1, 1, none⟩ = some bv := hb3.cell 1
      have f3 : wq.frozen? ⟨w.heap.size + 1 + 1 + 1, 1, none⟩ = false := hb3.frozen 1
      have HK3 := Lib.hid (KW.pushB HK2.out (by decide) (by omega) ⟨some ⟨b0, 0, none⟩, 3, [G, 1, 1]⟩ hlq (row_len hrow (by simp) rfl))
      have HF3 := Lib.hid ((HF2.out.grown hlq (fun c hc => row_ne_low HK2.out.b hc)).set (c := w.heap.size + 3) (Nat.le_refl _) 1 bv1)
      obtain ⟨Xb, cb, hvb⟩ := hrow'.slice
      subst hvb
      clear hkn hrow hrow' hb3 hlq hbv1 hlk1 hlk hbk hbs l1 HK2 HF2 hHO hne
      go_wp2_with fail
      refine NoPanic.normal ?_
      go_wp2_with fail
      go_roundw
      case rel => exact ⟨1, _, _, rs ++ [_], rfl, by omega, by simp [Hrl.out], by simp [Hm.out], HK3.out, HF3.out⟩
      case measure => simp [intOf]
    · -- round 1
      obtain ⟨W, hW⟩ : ∃ W, W = (wr.alloc (.cells #[.int .u64 (p1 : Int), .int .u64 (q1 : Int)] 44)).alloc (.cells #[.int .u64 1, .int .u64 (G : Int), .int .u64 1] 57) := ⟨_, rfl⟩
      obtain ⟨b0, hb0⟩ : ∃ b0, b0 = wr.heap.size + 1 := ⟨_, rfl⟩
      have hlW : Lat wr W := by rw [hW]; exact lat_alloc (lat_alloc (Below.refl _ _) _) _
      have hsW : W.heap.size = b0 + 1 := by rw [hW, hb0]; simp
      have hKW := (hK.below hlW).more ⟨some ⟨b0, 0, none⟩, 3, [1, G, 1]⟩ ⟨b0, rfl, rfl, by have := hF.b.size; have := hK.blk.lt; omega, by rw [hW]; exact Blk.at_new _ _ _ _ _ (by simp [hb0]) rfl, (fun he => by have := (hK.t.block b0 he.symm).2; omega)⟩
      have hFW := hF.below hlW
      have HKW := Lib.hid hKW
      have HFW := Lib.hid hFW
      have hBW : w.heap.size + 4 ≤ W.heap.size := by have := hK.blk.lt; have := hlW.size; omega
      have hb0' := hK.blk
      have c0 : wr.cell? ⟨w.heap.size + 1 + 1 + 1, 0, none⟩ = some tv := (two_cells hb0').1
      have d0 : wr.cell? ⟨w.heap.size, 2, none⟩ = some (.int .u64 (G : Int)) := hF.g.cell 2
      have c1 := fun o1 o2 => below_cell (lat_alloc (lat_alloc (Below.refl wr.heap.size wr) o1) o2) c0
      have d1 := fun o1 o2 => below_cell (lat_alloc (lat_alloc (Below.refl wr.heap.size wr) o1) o2) d0
      clear hb0'
      have HW := Lib.hid hW
      have Hb0 := Lib.hid hb0
      have HsW := Lib.hid hsW
      clear hK hF hKW hFW hlW hb0 hsW hW
      have hix := ix_box1 p0 q0 p1 q1 p2 q2
      go_wp2_with (at_builtin; go_must (rw [← HW.out]; refine ap_oneW (B := w.heap.size + 4) (xs := u64s [p0]) Tryz.un_nums Tryz.inf_u64 rfl HKW.out.t rfl (by omega) (by simp [u64s]) hBW rfl _ _ rfl rfl (by rw [HsW.out, Hb0.out]; rfl) ?_; intro v1 w1 hr0 hg1 hw1; have hr1 := row_len hr0 (show _ = 2 by simp [u64s]) rfl; have HKc := Lib.hid (KW.pushT HKW.out (by omega) p1 hg1 hr1 (fun b hb => hw1.elim (fun h => .inl (h ▸ hb)) (fun h => .inr (by rw [h] at hb; injection hb with hb; omega)))); have HFc := Lib.hid ((HFW.out.grown hg1 (fun c hc => row_ne_low HKW.out.t hc)).set (c := w.heap.size + 3) (Nat.le_refl _) 0 v1); have hb1 := HKW.out.blk.grown hg1 (row_ne_low HKW.out.t (by omega)); have k1 : w1.cell? ⟨w.heap.size + 1 + 1 + 1, 0, none⟩ = some tv := hb1.cell 0; have k2 : w1.cell? ⟨w.heap.size + 1 + 1 + 1, 1, none⟩ = some bv := hb1.cell 1; have f1 : w1.frozen? ⟨w.heap.size + 1 + 1 + 1, 0, none⟩ = false := hb1.frozen 0; obtain ⟨X1, cc1, hv1⟩ := hr1.slice; subst hv1; clear hr0 hr1 hb1 hg1 hw1))
      obtain ⟨W2, hW2⟩ : ∃ W2, W2 = w1.setCell ⟨w.heap.size + 1 + 1 + 1, 0, none⟩ (.slice X1 2 cc1) := ⟨_, rfl⟩
      rw [← hW2, ← Hb0.out]
      have hK2 : KW 57 (w.heap.size + 4) (w.heap.size + 3) (.slice X1 2 cc1) bv ([p0] ++ [p1]) rs (rs ++ [⟨some ⟨b0, 0, none⟩, 3, [1, G, 1]⟩]) W2 := by rw [hW2]; exact HKc.out
      have hF2 : KF (glist P Q G H R) (slist p0 q0 p1 q1 p2 q2) w W2 := by rw [hW2]; exact HFc.out
      have HK2 := Lib.hid hK2
      have HF2 := Lib.hid hF2
      have hB2 : w.heap.size + 4 ≤ W2.heap.size := by have := hK2.blk.lt; omega
      have hHO := row_len hK2.b (show rs.length = (rs.map NumV.val).length by simp) rfl
      have hB3 : (rs.map NumV.val).length + 1 ≤ 1000 := by simp; omega
      have Hrl := Lib.hid hrl
      have Hm := Lib.hid hm
      have k2' : W2.cell? ⟨w.heap.size + 1 + 1 + 1, 1, none⟩ = some bv := (two_cells hK2.blk).2
      have hne : some (w.heap.size + 3) ≠ bv.ownBlock := row_ne_low hK2.b (by omega)
      have l1 := LaterR.cell (ρ := bv.ownBlock) k2' hne
      clear hK2 hF2 hW2 HKc HFc HKW HFW HW HsW c0 c1 d0 d1 hix k1 k2 k2' f1 hrl hm hBW
      refine region_one 29 30 4 6 (by decide) hHO (.slice (some ⟨b0, 0, none⟩) 3 3) hB2 hB3 (by rfl) (by rfl) (by kernel_rfl) (by kernel_rfl) (by rfl) ?_
      simp only [List.take_succ_cons, List.take_zero, List.drop_succ_cons, List.drop_zero]
      (repeat (first | (refine appA_skip (by decide) (by rfl) ?_; simp only [Act.put, List.setIfInBounds_toArray, List.set_cons_zero, List.set_cons_succ]) | (refine appA_plain (by decide) (by rfl) (by rfl) (by rfl) (fun Kc hKc => ?_); go_big_quiet_op; refine hKc _ ?_; clear hKc Kc)))
      refine appA_make 29 (V := fun w => .slice (some ⟨w.heap.size, 0, none⟩) 1 1) (W := fun w => w.alloc (.cells #[.slice (some ⟨b0, 0, none⟩) 3 3] 26)) (by decide) (fun w => by go_simp) (by rfl) (by rfl) (by rfl) (fun wk hlk _ => ⟨(Below.refl _ _).alloc (Nat.le_refl _) _, _, rfl, hlk.size, Blk.of _ _ _ _ rfl⟩) ?_
      rintro _ wk hlk ⟨bs, rfl, hbs, hbk⟩
      simp only [Act.put, List.setIfInBounds_toArray, List.set_cons_zero, List.set_cons_succ]
      refine appA_one 30 (B := w.heap.size + 4) (v := bv) (xs := rs.map NumV.val) (ad := ⟨bs, 0, none⟩) (y := .slice (some ⟨b0, 0, none⟩) 3 3) Tryz.un_numss Tryz.inf_nums rfl hHO rfl rfl (by omega) (by have := hB3; omega) hB2 rfl rfl _ _ rfl rfl rfl (fun wx hlx hd => by
        obtain ⟨b', he, _, hbk⟩ := hd 29 (by decide) _ (.inl ⟨rfl, rfl⟩)
        injection he with he
        injection he with he
        injection he with he
        subst he
        exact hbk.cell 0) (by rfl) (by rfl) (by rfl) (fun u wx h1 h2 => ⟨h1, h2⟩) ?_
      rintro bv1 wk1 hlk1 hbv1
      simp only [Act.put, List.setIfInBounds_toArray, List.set_cons_zero, List.set_cons_succ]
      (repeat (first | (refine appA_skip (by decide) (by rfl) ?_; simp only [Act.put, List.setIfInBounds_toArray, List.set_cons_zero, List.set_cons_succ]) | (refine appA_plain (by decide) (by rfl) (by rfl) (by rfl) (fun Kc hKc => ?_); go_big_quiet_op; refine hKc _ ?_; clear hKc Kc)))
      refine appA_nil ?_
      intro wq hlq hkn
      have hrow := (hkn 30 bv1 (by simp [behind, gadd])).1
      have hrow' := row_len hrow (show _ = 2 by simp [Hrl.out]) rfl
      have hb3 := HK2.out.blk.grown hlq hne
      have k3 : wq.cell? ⟨w.heap.size + 1 + 1 + 1, 1, none⟩ = some bv := hb3.cell 1
      have f3 : wq.frozen? ⟨w.heap.size + 1 + 1 + 1, 1, none⟩ = false := hb3.frozen 1
      have HK3 := Lib.hid (KW.pushB HK2.out (by decide) (by omega) ⟨some ⟨b0, 0, none⟩, 3, [1, G, 1]⟩ hlq (row_len hrow (by simp) rfl))
      have HF3 := Lib.hid ((HF2.out.grown hlq (fun c hc => row_ne_low HK2.out.b hc)).set (c := w.heap.size + 3) (Nat.le_refl _) 1 bv1)
      obtain ⟨Xb, cb, hvb⟩ := hrow'.slice
      subst hvb
      clear hkn hrow hrow' hb3 hlq hbv1 hlk1 hlk hbk hbs l1 HK2 HF2 hHO hne
      go_wp2_with fail
      refine NoPanic.normal ?_
      go_wp2_with fail
      go_roundw
      case rel => exact ⟨2, _, _, rs ++ [_], rfl, by omega, by simp [Hrl.out], by simp [Hm.out], HK3.out, HF3.out⟩
      case measure => simp [intOf]
    · -- round 2
      obtain ⟨W, hW⟩ : ∃ W, W = (wr.alloc (.cells #[.int .u64 (p2 : Int), .int .u64 (q2 : Int)] 44)).alloc (.cells #[.int .u64 1, .int .u64 1, .int .u64 (G : Int)] 57) := ⟨_, rfl⟩
      obtain ⟨b0, hb0⟩ : ∃ b0, b0 = wr.heap.size + 1 := ⟨_, rfl⟩
      have hlW : Lat wr W := by rw [hW]; exact lat_alloc (lat_alloc (Below.refl _ _) _) _
      have hsW : W.heap.size = b0 + 1 := by rw [hW, hb0]; simp
      have hKW := (hK.below hlW).more ⟨some ⟨b0, 0, none⟩, 3, [1, 1, G]⟩ ⟨b0, rfl, rfl, by have := hF.b.size; have := hK.blk.lt; omega, by rw [hW]; exact Blk.at_new _ _ _ _ _ (by simp [hb0]) rfl, (fun he => by have := (hK.t.block b0 he.symm).2; omega)⟩
      have hFW := hF.below hlW
      have HKW := Lib.hid hKW
      have HFW := Lib.hid hFW
      have hBW : w.heap.size + 4 ≤ W.heap.size := by have := hK.blk.lt; have := hlW.size; omega
      have hb0' := hK.blk
      have c0 : wr.cell? ⟨w.heap.size + 1 + 1 + 1, 0, none⟩ = some tv := (two_cells hb0').1
      have d0 : wr.cell? ⟨w.heap.size, 2, none⟩ = some (.int .u64 (G : Int)) := hF.g.cell 2
      have c1 := fun o1 o2 => below_cell (lat_alloc (lat_alloc (Below.refl wr.heap.size wr) o1) o2) c0
      have d1 := fun o1 o2 => below_cell (lat_alloc (lat_alloc (Below.refl wr.heap.size wr) o1) o2) d0
      clear hb0'
      have HW := Lib.hid hW
      have Hb0 := Lib.hid hb0
      have HsW := Lib.hid hsW
      clear hK hF hKW hFW hlW hb0 hsW hW
      have hix := ix_box2 p0 q0 p1 q1 p2 q2
      go_wp2_with (at_builtin; go_must (rw [← HW.out]; refine ap_oneW (B := w.heap.size + 4) (xs := u64s [p0, p1]) Tryz.un_nums Tryz.inf_u64 rfl HKW.out.t rfl (by omega) (by simp [u64s]) hBW rfl _ _ rfl rfl (by rw [HsW.out, Hb0.out]; rfl) ?_; intro v1 w1 hr0 hg1 hw1; have hr1 := row_len hr0 (show _ = 3 by simp [u64s]) rfl; have HKc := Lib.hid (KW.pushT HKW.out (by omega) p2 hg1 hr1 (fun b hb => hw1.elim (fun h => .inl (h ▸ hb)) (fun h => .inr (by rw [h] at hb; injection hb with hb; omega)))); have HFc := Lib.hid ((HFW.out.grown hg1 (fun c hc => row_ne_low HKW.out.t hc)).set (c := w.heap.size + 3) (Nat.le_refl _) 0 v1); have hb1 := HKW.out.blk.grown hg1 (row_ne_low HKW.out.t (by omega)); have k1 : w1.cell? ⟨w.heap.size + 1 + 1 + 1, 0, none⟩ = some tv := hb1.cell 0; have k2 : w1.cell? ⟨w.heap.size + 1 + 1 + 1, 1, none⟩ = some bv := hb1.cell 1; have f1 : w1.frozen? ⟨w.heap.size + 1 + 1 + 1, 0, none⟩ = false := hb1.frozen 0; obtain ⟨X1, cc1, hv1⟩ := hr1.slice; subst hv1; clear hr0 hr1 hb1 hg1 hw1))
      obtain ⟨W2, hW2⟩ : ∃ W2, W2 = w1.setCell ⟨w.heap.size + 1 + 1 + 1, 0, none⟩ (.slice X1 3 cc1) := ⟨_, rfl⟩
      rw [← hW2, ← Hb0.out]
      have hK2 : KW 57 (w.heap.size + 4) (w.heap.size + 3) (.slice X1 3 cc1) bv ([p0, p1] ++ [p2]) rs (rs ++ [⟨some ⟨b0, 0, none⟩, 3, [1, 1, G]⟩]) W2 := by rw [hW2]; exact HKc.out
      have hF2 : KF (glist P Q G H R) (slist p0 q0 p1 q1 p2 q2) w W2 := by rw [hW2]; exact HFc.out
      have HK2 := Lib.hid hK2
      have HF2 := Lib.hid hF2
      have hB2 : w.heap.size + 4 ≤ W2.heap.size := by have := hK2.blk.lt; omega
      have hHO := row_len hK2.b (show rs.length = (rs.map NumV.val).length by simp) rfl
      have hB3 : (rs.map NumV.val).length + 1 ≤ 1000 := by simp; omega
      have Hrl := Lib.hid hrl
      have Hm := Lib.hid hm
      have k2' : W2.cell? ⟨w.heap.size + 1 + 1 + 1, 1, none⟩ = some bv := (two_cells hK2.blk).2
      have hne : some (w.heap.size + 3) ≠ bv.ownBlock := row_ne_low hK2.b (by omega)
      have l1 := LaterR.cell (ρ := bv.ownBlock) k2' hne
      clear hK2 hF2 hW2 HKc HFc HKW HFW HW HsW c0 c1 d0 d1 hix k1 k2 k2' f1 hrl hm hBW
      refine region_one 29 30 4 6 (by decide) hHO (.slice (some ⟨b0, 0, none⟩) 3 3) hB2 hB3 (by rfl) (by rfl) (by kernel_rfl) (by kernel_rfl) (by rfl) ?_
      simp only [List.take_succ_cons, List.take_zero, List.drop_succ_cons, List.drop_zero]
      (repeat (first | (refine appA_skip (by decide) (by rfl) ?_; simp only [Act.put, List.setIfInBounds_toArray, List.set_cons_zero, List.set_cons_succ]) | (refine appA_plain (by decide) (by rfl) (by rfl) (by rfl) (fun Kc hKc => ?_); go_big_quiet_op; refine hKc _ ?_; clear hKc Kc)))
      refine appA_make 29 (V := fun w => .slice (some ⟨w.heap.size, 0, none⟩) 1 1) (W := fun w => w.alloc (.cells #[.slice (some ⟨b0, 0, none⟩) 3 3] 26)) (by decide) (fun w => by go_simp) (by rfl) (by rfl) (by rfl) (fun wk hlk _ => ⟨(Below.refl _ _).alloc (Nat.le_refl _) _, _, rfl, hlk.size, Blk.of _ _ _ _ rfl⟩) ?_
      rintro _ wk hlk ⟨bs, rfl, hbs, hbk⟩
      simp only [Act.put, List.setIfInBounds_toArray, List.set_cons_zero, List.set_cons_succ]
      refine appA_one 30 (B := w.heap.size + 4) (v := bv) (xs := rs.map NumV.val) (ad := ⟨bs, 0, none⟩) (y := .slice (some ⟨b0, 0, none⟩) 3 3) Tryz.un_numss Tryz.inf_nums rfl hHO rfl rfl (by omega) (by have := hB3; omega) hB2 rfl rfl _ _ rfl rfl rfl (fun wx hlx hd => by
        obtain ⟨b', he, _, hbk⟩ := hd 29 (by decide) _ (.inl ⟨rfl, rfl⟩)
        injection he with he
        injection he with he
        injection he with he
        subst he
        exact hbk.cell 0) (by rfl) (by rfl) (by rfl) (fun u wx h1 h2 => ⟨h1, h2⟩) ?_
      rintro bv1 wk1 hlk1 hbv1
      simp only [Act.put, List.setIfInBounds_toArray, List.set_cons_zero, List.set_cons_succ]
      (repeat (first | (refine appA_skip (by decide) (by rfl) ?_; simp only [Act.put, List.setIfInBounds_toArray, List.set_cons_zero, List.set_cons_succ]) | (refine appA_plain (by decide) (by rfl) (by rfl) (by rfl) (fun Kc hKc => ?_); go_big_quiet_op; refine hKc _ ?_; clear hKc Kc)))
      refine appA_nil ?_
      intro wq hlq hkn
      have hrow := (hkn 30 bv1 (by simp [behind, gadd])).1
      have hrow' := row_len hrow (show _ = 3 by simp [Hrl.out]) rfl
      have hb3 := HK2.out.blk.grown hlq hne
      have k3 : wq.cell? ⟨w.heap.size + 1 + 1 + 1, 1, none⟩ = some bv := hb3.cell 1
      have f3 : wq.frozen? ⟨w.heap.size + 1 + 1 + 1, 1, none⟩ = false := hb3.frozen 1
      have HK3 := Lib.hid (KW.pushB HK2.out (by decide) (by omega) ⟨some ⟨b0, 0, none⟩, 3, [1, 1, G]⟩ hlq (row_len hrow (by simp) rfl))
      have HF3 := Lib.hid ((HF2.out.grown hlq (fun c hc => row_ne_low HK2.out.b hc)).set (c := w.heap.size + 3) (Nat.le_refl _) 1 bv1)
      obtain ⟨Xb, cb, hvb⟩ := hrow'.slice
      subst hvb
      clear hkn hrow hrow' hb3 hlq hbv1 hlk1 hlk hbk hbs l1 HK2 HF2 hHO hne
      go_wp2_with fail
      refine NoPanic.normal ?_
      go_wp2_with fail
      go_roundw
      case rel => exact ⟨3, _, _, rs ++ [_], rfl, by omega, by simp [Hrl.out], by simp [Hm.out], HK3.out, HF3.out⟩
      case measure => simp [intOf]
    · -- behind the rounds
      obtain ⟨Xt, ct, hvt⟩ := (row_len hK.t (show _ = 3 from rfl) rfl).slice
      obtain ⟨Xb, cb, hvb⟩ := (row_len hK.b hrl rfl).slice
      subst hvt hvb
      obtain ⟨tv, htv⟩ : ∃ tv, tv = Value.slice Xt 3 ct := ⟨_, rfl⟩
      obtain ⟨bv, hbv⟩ : ∃ bv, bv = Value.slice Xb 3 cb := ⟨_, rfl⟩
      rw [← htv, ← hbv] at hK
      have c0 : wr.cell? ⟨w.heap.size + 1 + 1 + 1, 0, none⟩ = some tv := (two_cells hK.blk).1
      have c1 : wr.cell? ⟨w.heap.size + 1 + 1 + 1, 1, none⟩ = some bv := (two_cells hK.blk).2
      have o0 : wr.cell? ⟨w.heap.size + 1 + 1, 0, none⟩ = some (.slice none 0 0) := (two_cells hF.o).1
      have o1 : wr.cell? ⟨w.heap.size + 1 + 1, 1, none⟩ = some (.slice none 0 0) := (two_cells hF.o).2
      have f0 : wr.frozen? ⟨w.heap.size + 1 + 1, 0, none⟩ = false := hF.o.frozen 0
      have f1 : wr.frozen? ⟨w.heap.size + 1 + 1, 1, none⟩ = false := hF.o.frozen 1
      obtain ⟨wz, hwz⟩ : ∃ wz, wz = (wr.setCell ⟨w.heap.size + 1 + 1, 0, none⟩ tv).setCell ⟨w.heap.size + 1 + 1, 1, none⟩ bv := ⟨_, rfl⟩
      have hz := two_cells ((hF.o.set 0 tv).set 1 bv)
      have z0 : wz.cell? ⟨w.heap.size + 1 + 1, 0, none⟩ = some tv := by rw [hwz]; exact hz.1
      have z1 : wz.cell? ⟨w.heap.size + 1 + 1, 1, none⟩ = some bv := by rw [hwz]; exact hz.2
      have HO := Lib.hid (((hK.low (o := w.heap.size + 2) (by omega) (by omega) 0 tv).low (o := w.heap.size + 2) (by omega) (by omega) 1 bv).out (by omega) hm (by simp [h0, h1, h2]) (by simp [hG]))
      have HB := Lib.hid (below_set (below_set hF.b (b := w.heap.size + 2) (by omega) 0 tv) (b := w.heap.size + 2) (by omega) 1 bv)
      clear hK hF hz hm
      subst htv hbv
      go_wp2_with fail
      rw [show w.heap.size + 2 = w.heap.size + 1 + 1 from rfl, ← hwz] at HO HB
      rw [← hwz]
      exact bodyPost_ret (v := .agg #[.slice Xt 3 ct, .slice Xb 3 cb]) (by simp [results, Tryz.results20, go_sem, z0, z1]) rfl ⟨HO.out, HB.out⟩
end Go.Proofs.YtinlciofhegciaaGreat

/- Claims of tries: the reference's walk. -/
namespace Go.Proofs.YtinlciofhegciaaGreat
open Go.RowKit Go.BigFrame

set_option maxRecDepth 100000 in
set_option maxHeartbeats 2000000 in
theorem refKnows_any (P Q G H p0 q0 p1 q1 p2 q2 : Nat) (R : Value) (w : World) (hG : G < 18446744073709551616) (h0 : p0 < 18446744073709551616) (h1 : p1 < 18446744073709551616) (h2 : p2 < 18446744073709551616) :
    Calls Tryz.prog 21 #[gval P Q G H R, sval p0 q0 p1 q1 p2 q2] w fun e w' => OutClaim [p0, p1, p2] [[G, 1, 1], [1, G, 1], [1, 1, G]] e w' ∧ Below w.heap.size w w' := by
  unfold gval sval
  go_enter Tryz.func21, Tryz.ntmps21
  go_wp2_with fail
  obtain ⟨W4, hW4⟩ : ∃ W4, W4 = (((w.alloc (.cells #[.int .u64 (P : Int), .int .u64 (Q : Int), .int .u64 (G : Int), .int .u64 (H : Int), R] 25)).alloc (.cells #[.int .u64 (p0 : Int), .int .u64 (q0 : Int), .int .u64 (p1 : Int), .int .u64 (q1 : Int), .int .u64 (p2 : Int), .int .u64 (q2 : Int)] 46)).alloc (.cells #[.slice none 0 0, .slice none 0 0] 29)).alloc (.cells #[.slice none 0 0, .slice none 0 0] 29) := ⟨_, rfl⟩
  rw [← hW4]
  have HF0 := Lib.hid (KF.first P Q G H p0 q0 p1 q1 p2 q2 R w _ hW4)
  have HK0 := Lib.hid (KW.first (T1 := 22) (B := w.heap.size + 4) (c := w.heap.size + 3) (w := W4) (by rw [hW4]; exact Blk.at_new _ _ _ _ _ (by simp) rfl))
  clear hW4
  go_loopw [6] (fun iv wr => ∃ (k : Nat) (tv bv : Value) (rs : List NumV), iv = .int .i64 (k : Int) ∧ k ≤ 3 ∧ rs.length = k ∧ rs.map (·.l) = [[G, 1, 1], [1, G, 1], [1, 1, G]].take k ∧ KW 22 (w.heap.size + 4) (w.heap.size + 3) tv bv ([p0, p1, p2].take k) rs rs wr ∧ KF (glist P Q G H R) (slist p0 q0 p1 q1 p2 q2) w wr) (fun iv _ => 3 - (intOf iv).toNat)
  case atStart => exact ⟨0, _, _, [], rfl, by omega, rfl, rfl, HK0.out, HF0.out⟩
  case round =>
    obtain ⟨k, tv, bv, rs, rfl, hk, hrl, hm, hK, hF⟩ := hrel
    clear HF0 HK0
    have hk4 : k = 0 ∨ k = 1 ∨ k = 2 ∨ k = 3 := by omega
    rcases hk4 with rfl | rfl | rfl | rfl
    · -- round 0
      obtain ⟨W, hW⟩ : ∃ W, W = wr.alloc (.cells #[.int .u64 (G : Int), .int .u64 1, .int .u64 1] 22) := ⟨_, rfl⟩
      obtain ⟨b0, hb0⟩ : ∃ b0, b0 = wr.heap.size := ⟨_, rfl⟩
      have hlW : Lat wr W := by rw [hW]; exact lat_alloc (Below.refl _ _) _
      have hsW : W.heap.size = b0 + 1 := by rw [hW, hb0]; simp
      have hKW := (hK.below hlW).more ⟨some ⟨b0, 0, none⟩, 3, [G, 1, 1]⟩ ⟨b0, rfl, rfl, by have := hF.b.size; have := hK.blk.lt; omega, by rw [hW]; exact Blk.at_new _ _ _ _ _ (by simp [hb0]) rfl, (fun he => by have := (hK.t.block b0 he.symm).2; omega)⟩
      have hFW := hF.below hlW
      have HKW := Lib.hid hKW
      have HFW := Lib.hid hFW
      have hBW : w.heap.size + 4 ≤ W.heap.size := by have := hK.blk.lt; have := hlW.size; omega
      have d0 : wr.cell? ⟨w.heap.size, 2, none⟩ = some (.int .u64 (G : Int)) := hF.g.cell 2
      have d1 := fun o1 => below_cell (lat_alloc (Below.refl wr.heap.size wr) o1) d0
      have c0 : W.cell? ⟨w.heap.size + 1 + 1 + 1, 0, none⟩ = some tv := (two_cells hKW.blk).1
      have c1 : W.cell? ⟨w.heap.size + 1, 0, none⟩ = some (.int .u64 (p0 : Int)) := hFW.s.cell 0
      have hne : some (w.heap.size + 3) ≠ tv.ownBlock := row_ne_low hKW.t (by omega)
      have hne1 : some (w.heap.size + 1) ≠ tv.ownBlock := row_ne_low hKW.t (by omega)
      have HW := Lib.hid hW
      have Hb0 := Lib.hid hb0
      have HsW := Lib.hid hsW
      clear hK hF hKW hFW hlW hb0 hsW hW
      go_wp2_with fail
      rw [← HW.out, ← Hb0.out]
      have l1 := LaterR.cell (ρ := tv.ownBlock) c0 hne
      have l2 := LaterR.cell (ρ := tv.ownBlock) c1 hne1
      clear c0 c1 d0 d1 HW
      refine region_one 25 26 7 9 (by decide) HKW.out.t (.int .u64 (p0 : Int)) hBW (by simp [u64s]) (by rfl) (by rfl) (by kernel_rfl) (by kernel_rfl) (by rfl) ?_
      simp only [List.take_succ_cons, List.take_zero, List.drop_succ_cons, List.drop_zero]
      (repeat (first | (refine appA_skip (by decide) (by rfl) ?_; simp only [Act.put, List.setIfInBounds_toArray, List.set_cons_zero, List.set_cons_succ]) | (refine appA_plain (by decide) (by rfl) (by rfl) (by rfl) (fun Kc hKc => ?_); go_big_quiet_op; refine hKc _ ?_; clear hKc Kc)))
      refine appA_make 25 (V := fun w => .slice (some ⟨w.heap.size, 0, none⟩) 1 1) (W := fun w => w.alloc (.cells #[.int .u64 (p0 : Int)] 22)) (by decide) (fun w => by go_simp) (by rfl) (by rfl) (by rfl) (fun wk hlk _ => ⟨(Below.refl _ _).alloc (Nat.le_refl _) _, _, rfl, hlk.size, Blk.of _ _ _ _ rfl⟩) ?_
      rintro _ wk hlk ⟨bs, rfl, hbs, hbk⟩
      simp only [Act.put, List.setIfInBounds_toArray, List.set_cons_zero, List.set_cons_succ]
      refine appA_one 26 (B := w.heap.size + 4) (v := tv) (xs := u64s []) (ad := ⟨bs, 0, none⟩) (y := .int .u64 (p0 : Int)) Tryz.un_nums Tryz.inf_u64 rfl HKW.out.t rfl rfl (by omega) (by simp [u64s]) hBW rfl rfl _ _ rfl rfl rfl (fun wx hlx hd => by
        obtain ⟨b', he, _, hbk⟩ := hd 25 (by decide) _ (.inl ⟨rfl, rfl⟩)
        injection he with he
        injection he with he
        injection he with he
        subst he
        exact hbk.cell 0) (by rfl) (by rfl) (by rfl) (fun u wx h1 h2 => ⟨h1, h2⟩) ?_
      rintro tv1 wk1 hlk1 htv1
      simp only [Act.put, List.setIfInBounds_toArray, List.set_cons_zero, List.set_cons_succ]
      (repeat (first | (refine appA_skip (by decide) (by rfl) ?_; simp only [Act.put, List.setIfInBounds_toArray, List.set_cons_zero, List.set_cons_succ]) | (refine appA_plain (by decide) (by rfl) (by rfl) (by rfl) (fun Kc hKc => ?_); go_big_quiet_op; refine hKc _ ?_; clear hKc Kc)))
      refine appA_nil ?_
      intro wq hlq hkn
      obtain ⟨hrow, hwh⟩ := hkn 26 tv1 (by simp [behind, gadd])
      have hrow' := row_len hrow (show _ = 1 by simp [u64s]) rfl
      have hb3 := HKW.out.blk.grown hlq hne
      have k3 : wq.cell? ⟨w.heap.size + 1 + 1 + 1, 0, none⟩ = some tv := hb3.cell 0
      have f3 : wq.frozen? ⟨w.heap.size + 1 + 1 + 1, 0, none⟩ = false := hb3.frozen 0
      have HKc := Lib.hid (KW.pushT HKW.out (by omega) p0 hlq hrow' hwh)
      have HFc := Lib.hid ((HFW.out.grown hlq (fun c hc => row_ne_low HKW.out.t hc)).set (c := w.heap.size + 3) (Nat.le_refl _) 0 tv1)
      obtain ⟨X1, cc1, hv1⟩ := hrow'.slice
      subst hv1
      clear hkn hrow hrow' hwh hb3 hlq htv1 hlk1 hlk hbk hbs l1 l2 HKW HFW hne hne1 HsW hBW
      go_wp2_with fail
      refine NoPanic.normal ?_
      obtain ⟨W2, hW2⟩ : ∃ W2, W2 = wq.setCell ⟨w.heap.size + 1 + 1 + 1, 0, none⟩ (.slice X1 1 cc1) := ⟨_, rfl⟩
      rw [← hW2]
      have hK2 : KW 22 (w.heap.size + 4) (w.heap.size + 3) (.slice X1 1 cc1) bv ([] ++ [p0]) rs (rs ++ [⟨some ⟨b0, 0, none⟩, 3, [G, 1, 1]⟩]) W2 := by rw [hW2]; exact HKc.out
      have hF2 : KF (glist P Q G H R) (slist p0 q0 p1 q1 p2 q2) w W2 := by rw [hW2]; exact HFc.out
      have HK2 := Lib.hid hK2
      have HF2 := Lib.hid hF2
      have hB2 : w.heap.size + 4 ≤ W2.heap.size := by have := hK2.blk.lt; omega
      have hHO := row_len hK2.b (show rs.length = (rs.map NumV.val).length by simp) rfl
      have hB3 : ((rs.map NumV.val).length + 1) * 24 ≤ 140737488355328 := by simp; omega
      have HHO := Lib.hid hHO
      have Hrl := Lib.hid hrl
      have Hm := Lib.hid hm
      have k4 : W2.cell? ⟨w.heap.size + 1 + 1 + 1, 1, none⟩ = some bv := (two_cells hK2.blk).2
      have hne : some (w.heap.size + 3) ≠ bv.ownBlock := row_ne_low hK2.b (by omega)
      clear hK2 hF2 hW2 HKc HFc k3 f3 hrl hm hHO
      go_wp2_with (at_builtin; go_must (refine ap_oneW (B := w.heap.size + 4) (xs := rs.map NumV.val) Tryz.un_numss Tryz.inf_nums rfl HHO.out rfl (by omega) hB3 hB2 rfl _ _ rfl rfl rfl ?_; intro v1 w1 hr0 hg1 hw1; have HK3 := Lib.hid (KW.pushB HK2.out (by decide) (by omega) ⟨some ⟨b0, 0, none⟩, 3, [G, 1, 1]⟩ hg1 (row_len hr0 (by simp) rfl)); have HF3 := Lib.hid ((HF2.out.grown hg1 (fun c hc => row_ne_low HK2.out.b hc)).set (c := w.heap.size + 3) (Nat.le_refl _) 1 v1); have hb1 := HK2.out.blk.grown hg1 hne; have k1 : w1.cell? ⟨w.heap.size + 1 + 1 + 1, 1, none⟩ = some bv := hb1.cell 1; have f1 : w1.frozen? ⟨w.heap.size + 1 + 1 + 1, 1, none⟩ = false := hb1.frozen 1; obtain ⟨Xb, cb, hvb⟩ := (row_len hr0 (show _ = 1 by simp [Hrl.out]) rfl).slice; subst hvb; clear hr0 hb1 hg1 hw1))
      go_roundw
      case rel => exact ⟨1, _, _, rs ++ [_], rfl, by omega, by simp [Hrl.out], by simp [Hm.out], HK3.out, HF3.out⟩
      case measure => simp [intOf]
    · -- round 1
      obtain ⟨W, hW⟩ : ∃ W, W = wr.alloc (.cells #[.int .u64 1, .int .u64 (G : Int), .int .u64 1] 22) := ⟨_, rfl⟩
      obtain ⟨b0, hb0⟩ : ∃ b0, b0 = wr.heap.size := ⟨_, rfl⟩
      have hlW : Lat wr W := by rw [hW]; exact lat_alloc (Below.refl _ _) _
      have hsW : W.heap.size = b0 + 1 := by rw [hW, hb0]; simp
      have hKW := (hK.below hlW).more ⟨some ⟨b0, 0, none⟩, 3, [1, G, 1]⟩ ⟨b0, rfl, rfl, by have := hF.b.size; have := hK.blk.lt; omega, by rw [hW]; exact Blk.at_new _ _ _ _ _ (by simp [hb0]) rfl, (fun he => by have := (hK.t.block b0 he.symm).2; omega)⟩
      have hFW := hF.below hlW
      have HKW := Lib.hid hKW
      have HFW := Lib.hid hFW
      have hBW : w.heap.size + 4 ≤ W.heap.size := by have := hK.blk.lt; have := hlW.size; omega
      have d0 : wr.cell? ⟨w.heap.size, 2, none⟩ = some (.int .u64 (G : Int)) := hF.g.cell 2
      have d1 := fun o1 => below_cell (lat_alloc (Below.refl wr.heap.size wr) o1) d0
      have c0 : W.cell? ⟨w.heap.size + 1 + 1 + 1, 0, none⟩ = some tv := (two_cells hKW.blk).1
      have c1 : W.cell? ⟨w.heap.size + 1, 2, none⟩ = some (.int .u64 (p1 : Int)) := hFW.s.cell 2
      have hne : some (w.heap.size + 3) ≠ tv.ownBlock := row_ne_low hKW.t (by omega)
      have hne1 : some (w.heap.size + 1) ≠ tv.ownBlock := row_ne_low hKW.t (by omega)
      have HW := Lib.hid hW
      have Hb0 := Lib.hid hb0
      have HsW := Lib.hid hsW
      clear hK hF hKW hFW hlW hb0 hsW hW
      go_wp2_with fail
      rw [← HW.out, ← Hb0.out]
      have l1 := LaterR.cell (ρ := tv.ownBlock) c0 hne
      have l2 := LaterR.cell (ρ := tv.ownBlock) c1 hne1
      clear c0 c1 d0 d1 HW
      refine region_one 25 26 7 9 (by decide) HKW.out.t (.int .u64 (p1 : Int)) hBW (by simp [u64s]) (by rfl) (by rfl) (by kernel_rfl) (by kernel_rfl) (by rfl) ?_
      simp only [List.take_succ_cons, List.take_zero, List.drop_succ_cons, List.drop_zero]
      (repeat (first | (refine appA_skip (by decide) (by rfl) ?_; simp only [Act.put, List.setIfInBounds_toArray, List.set_cons_zero, List.set_cons_succ]) | (refine appA_plain (by decide) (by rfl) (by rfl) (by rfl) (fun Kc hKc => ?_); go_big_quiet_op; refine hKc _ ?_; clear hKc Kc)))
      refine appA_make 25 (V := fun w => .slice (some ⟨w.heap.size, 0, none⟩) 1 1) (W := fun w => w.alloc (.cells #[.int .u64 (p1 : Int)] 22)) (by decide) (fun w => by go_simp) (by rfl) (by rfl) (by rfl) (fun wk hlk _ => ⟨(Below.refl _ _).alloc (Nat.le_refl _) _, _, rfl, hlk.size, Blk.of _ _ _ _ rfl⟩) ?_
      rintro _ wk hlk ⟨bs, rfl, hbs, hbk⟩
      simp only [Act.put, List.setIfInBounds_toArray, List.set_cons_zero, List.set_cons_succ]
      refine appA_one 26 (B := w.heap.size + 4) (v := tv) (xs := u64s [p0]) (ad := ⟨bs, 0, none⟩) (y := .int .u64 (p1 : Int)) Tryz.un_nums Tryz.inf_u64 rfl HKW.out.t rfl rfl (by omega) (by simp [u64s]) hBW rfl rfl _ _ rfl rfl rfl (fun wx hlx hd => by
        obtain ⟨b', he, _, hbk⟩ := hd 25 (by decide) _ (.inl ⟨rfl, rfl⟩)
        injection he with he
        injection he with he
        injection he with he
        subst he
        exact hbk.cell 0) (by rfl) (by rfl) (by rfl) (fun u wx h1 h2 => ⟨h1, h2⟩) ?_
      rintro tv1 wk1 hlk1 htv1
      simp only [Act.put, List.setIfInBounds_toArray, List.set_cons_zero, List.set_cons_succ]
      (repeat (first | (refine appA_skip (by decide) (by rfl) ?_; simp only [Act.put, List.setIfInBounds_toArray, List.set_cons_zero, List.set_cons_succ]) | (refine appA_plain (by decide) (by rfl) (by rfl) (by rfl) (fun Kc hKc => ?_); go_big_quiet_op; refine hKc _ ?_; clear hKc Kc)))
      refine appA_nil ?_
      intro wq hlq hkn
      obtain ⟨hrow, hwh⟩ := hkn 26 tv1 (by simp [behind, gadd])
      have hrow' := row_len hrow (show _ = 2 by simp [u64s]) rfl
      have hb3 := HKW.out.blk.grown hlq hne
      have k3 : wq.cell? ⟨w.heap.size + 1 + 1 + 1, 0, none⟩ = some tv := hb3.cell 0
      have f3 : wq.frozen? ⟨w.heap.size + 1 + 1 + 1, 0, none⟩ = false := hb3.frozen 0
      have HKc := Lib.hid (KW.pushT HKW.out (by omega) p1 hlq hrow' hwh)
      have HFc := Lib.hid ((HFW.out.grown hlq (fun c hc => row_ne_low HKW.out.t hc)).set (c := w.heap.size + 3) (Nat.le_refl _) 0 tv1)
      obtain ⟨X1, cc1, hv1⟩ := hrow'.slice
      subst hv1
      clear hkn hrow hrow' hwh hb3 hlq htv1 hlk1 hlk hbk hbs l1 l2 HKW HFW hne hne1 HsW hBW
      go_wp2_with fail
      refine NoPanic.normal ?_
      obtain ⟨W2, hW2⟩ : ∃ W2, W2 = wq.setCell ⟨w.heap.size + 1 + 1 + 1, 0, none⟩ (.slice X1 2 cc1) := ⟨_, rfl⟩
      rw [← hW2]
      have hK2 : KW 22 (w.heap.size + 4) (w.heap.size + 3) (.slice X1 2 cc1) bv ([p0] ++ [p1]) rs (rs ++ [⟨some ⟨b0, 0, none⟩, 3, [1, G, 1]⟩]) W2 := by rw [hW2]; exact HKc.out
      have hF2 : KF (glist P Q G H R) (slist p0 q0 p1 q1 p2 q2) w W2 := by rw [hW2]; exact HFc.out
      have HK2 := Lib.hid hK2
      have HF2 := Lib.hid hF2
      have hB2 : w.heap.size + 4 ≤ W2.heap.size := by have := hK2.blk.lt; omega
      have hHO := row_len hK2.b (show rs.length = (rs.map NumV.val).length by simp) rfl
      have hB3 : ((rs.map NumV.val).length + 1) * 24 ≤ 140737488355328 := by simp; omega
      have HHO := Lib.hid hHO
      have Hrl := Lib.hid hrl
      have Hm := Lib.hid hm
      have k4 : W2.cell? ⟨w.heap.size + 1 + 1 + 1, 1, none⟩ = some bv := (two_cells hK2.blk).2
      have hne : some (w.heap.size + 3) ≠ bv.ownBlock := row_ne_low hK2.b (by omega)
      clear hK2 hF2 hW2 HKc HFc k3 f3 hrl hm hHO
      go_wp2_with (at_builtin; go_must (refine ap_oneW (B := w.heap.size + 4) (xs := rs.map NumV.val) Tryz.un_numss Tryz.inf_nums rfl HHO.out rfl (by omega) hB3 hB2 rfl _ _ rfl rfl rfl ?_; intro v1 w1 hr0 hg1 hw1; have HK3 := Lib.hid (KW.pushB HK2.out (by decide) (by omega) ⟨some ⟨b0, 0, none⟩, 3, [1, G, 1]⟩ hg1 (row_len hr0 (by simp) rfl)); have HF3 := Lib.hid ((HF2.out.grown hg1 (fun c hc => row_ne_low HK2.out.b hc)).set (c := w.heap.size + 3) (Nat.le_refl _) 1 v1); have hb1 := HK2.out.blk.grown hg1 hne; have k1 : w1.cell? ⟨w.heap.size + 1 + 1 + 1, 1, none⟩ = some bv := hb1.cell 1; have f1 : w1.frozen? ⟨w.heap.size + 1 + 1 + 1, 1, none⟩ = false := hb1.frozen 1; obtain ⟨Xb, cb, hvb⟩ := (row_len hr0 (show _ = 2 by simp [Hrl.out]) rfl).slice; subst hvb; clear hr0 hb1 hg1 hw1))
      go_roundw
      case rel => exact ⟨2, _, _, rs ++ [_], rfl, by omega, by simp [Hrl.out], by simp [Hm.out], HK3.out, HF3.out⟩
      case measure => simp [intOf]
    · -- round 2
      obtain ⟨W, hW⟩ : ∃ W, W = wr.alloc (.cells #[.int .u64 1, .int .u64 1, .int .u64 (G : Int)] 22) := ⟨_, rfl⟩
      obtain ⟨b0, hb0⟩ : ∃ b0, b0 = wr.heap.size := ⟨_, rfl⟩
      have hlW : Lat wr W := by rw [hW]; exact lat_alloc (Below.refl _ _) _
      have hsW : W.heap.size = b0 + 1 := by rw [hW, hb0]; simp
      have hKW := (hK.below hlW).more ⟨some ⟨b0, 0, none⟩, 3, [1, 1, G]⟩ ⟨b0, rfl, rfl, by have := hF.b.size; have := hK.blk.lt; omega, by rw [hW]; exact Blk.at_new _ _ _ _ _ (by simp [hb0]) rfl, (fun he => by have := (hK.t.block b0 he.symm).2; omega)⟩
      have hFW := hF.below hlW
      have HKW := Lib.hid hKW
      have HFW := Lib.hid hFW
      have hBW : w.heap.size + 4 ≤ W.heap.size := by have := hK.blk.lt; have := hlW.size; omega
      have d0 : wr.cell? ⟨w.heap.size, 2, none⟩ = some (.int .u64 (G : Int)) := hF.g.cell 2
      have d1 := fun o1 => below_cell (lat_alloc (Below.refl wr.heap.size wr) o1) d0
      have c0 : W.cell? ⟨w.heap.size + 1 + 1 + 1, 0, none⟩ = some tv := (two_cells hKW.blk).1
      have c1 : W.cell? ⟨w.heap.size + 1, 4, none⟩ = some (.int .u64 (p2 : Int)) := hFW.s.cell 4
      have hne : some (w.heap.size + 3) ≠ tv.ownBlock := row_ne_low hKW.t (by omega)
      have hne1 : some (w.heap.size + 1) ≠ tv.ownBlock := row_ne_low hKW.t (by omega)
      have HW := Lib.hid hW
      have Hb0 := Lib.hid hb0
      have HsW := Lib.hid hsW
      clear hK hF hKW hFW hlW hb0 hsW hW
      go_wp2_with fail
      rw [← HW.out, ← Hb0.out]
      have l1 := LaterR.cell (ρ := tv.ownBlock) c0 hne
      have l2 := LaterR.cell (ρ := tv.ownBlock) c1 hne1
      clear c0 c1 d0 d1 HW
      refine region_one 25 26 7 9 (by decide) HKW.out.t (.int .u64 (p2 : Int)) hBW (by simp [u64s]) (by rfl) (by rfl) (by kernel_rfl) (by kernel_rfl) (by rfl) ?_
      simp only [List.take_succ_cons, List.take_zero, List.drop_succ_cons, List.drop_zero]
      (repeat (first | (refine appA_skip (by decide) (by rfl) ?_; simp only [Act.put, List.setIfInBounds_toArray, List.set_cons_zero, List.set_cons_succ]) | (refine appA_plain (by decide) (by rfl) (by rfl) (by rfl) (fun Kc hKc => ?_); go_big_quiet_op; refine hKc _ ?_; clear hKc Kc)))
      refine appA_make 25 (V := fun w => .slice (some ⟨w.heap.size, 0, none⟩) 1 1) (W := fun w => w.alloc (.cells #[.int .u64 (p2 : Int)] 22)) (by decide) (fun w => by go_simp) (by rfl) (by rfl) (by rfl) (fun wk hlk _ => ⟨(Below.refl _ _).alloc (Nat.le_refl _) _, _, rfl, hlk.size, Blk.of _ _ _ _ rfl⟩) ?_
      rintro _ wk hlk ⟨bs, rfl, hbs, hbk⟩
      simp only [Act.put, List.setIfInBounds_toArray, List.set_cons_zero, List.set_cons_succ]
      refine appA_one 26 (B := w.heap.size + 4) (v := tv) (xs := u64s [p0, p1]) (ad := ⟨bs, 0, none⟩) (y := .int .u64 (p2 : Int)) Tryz.un_nums Tryz.inf_u64 rfl HKW.out.t rfl rfl (by omega) (by simp [u64s]) hBW rfl rfl _ _ rfl rfl rfl (fun wx hlx hd => by
        obtain ⟨b', he, _, hbk⟩ := hd 25 (by decide) _ (.inl ⟨rfl, rfl⟩)
        injection he with he
        injection he with he
        injection he with he
        subst he
        exact hbk.cell 0) (by rfl) (by rfl) (by rfl) (fun u wx h1 h2 => ⟨h1, h2⟩) ?_
      rintro tv1 wk1 hlk1 htv1
      simp only [Act.put, List.setIfInBounds_toArray, List.set_cons_zero, List.set_cons_succ]
      (repeat (first | (refine appA_skip (by decide) (by rfl) ?_; simp only [Act.put, List.setIfInBounds_toArray, List.set_cons_zero, List.set_cons_succ]) | (refine appA_plain (by decide) (by rfl) (by rfl) (by rfl) (fun Kc hKc => ?_); go_big_quiet_op; refine hKc _ ?_; clear hKc Kc)))
      refine appA_nil ?_
      intro wq hlq hkn
      obtain ⟨hrow, hwh⟩ := hkn 26 tv1 (by simp [behind, gadd])
      have hrow' := row_len hrow (show _ = 3 by simp [u64s]) rfl
      have hb3 := HKW.out.blk.grown hlq hne
      have k3 : wq.cell? ⟨w.heap.size + 1 + 1 + 1, 0, none⟩ = some tv := hb3.cell 0
      have f3 : wq.frozen? ⟨w.heap.size + 1 + 1 + 1, 0, none⟩ = false := hb3.frozen 0
      have HKc := Lib.hid (KW.pushT HKW.out (by omega) p2 hlq hrow' hwh)
      have HFc := Lib.hid ((HFW.out.grown hlq (fun c hc => row_ne_low HKW.out.t hc)).set (c := w.heap.size + 3) (Nat.le_refl _) 0 tv1)
      obtain ⟨X1, cc1, hv1⟩ := hrow'.slice
      subst hv1
      clear hkn hrow hrow' hwh hb3 hlq htv1 hlk1 hlk hbk hbs l1 l2 HKW HFW hne hne1 HsW hBW
      go_wp2_with fail
      refine NoPanic.normal ?_
      obtain ⟨W2, hW2⟩ : ∃ W2, W2 = wq.setCell ⟨w.heap.size + 1 + 1 + 1, 0, none⟩ (.slice X1 3 cc1) := ⟨_, rfl⟩
      rw [← hW2]
      have hK2 : KW 22 (w.heap.size + 4) (w.heap.size + 3) (.slice X1 3 cc1) bv ([p0, p1] ++ [p2]) rs (rs ++ [⟨some ⟨b0, 0, none⟩, 3, [1, 1, G]⟩]) W2 := by rw [hW2]; exact HKc.out
      have hF2 : KF (glist P Q G H R) (slist p0 q0 p1 q1 p2 q2) w W2 := by rw [hW2]; exact HFc.out
      have HK2 := Lib.hid hK2
      have HF2 := Lib.hid hF2
      have hB2 : w.heap.size + 4 ≤ W2.heap.size := by have := hK2.blk.lt; omega
      have hHO := row_len hK2.b (show rs.length = (rs.map NumV.val).length by simp) rfl
      have hB3 : ((rs.map NumV.val).length + 1) * 24 ≤ 140737488355328 := by simp; omega
      have HHO := Lib.hid hHO
      have Hrl := Lib.hid hrl
      have Hm := Lib.hid hm
      have k4 : W2.cell? ⟨w.heap.size + 1 + 1 + 1, 1, none⟩ = some bv := (two_cells hK2.blk).2
      have hne : some (w.heap.size + 3) ≠ bv.ownBlock := row_ne_low hK2.b (by omega)
      clear hK2 hF2 hW2 HKc HFc k3 f3 hrl hm hHO
      go_wp2_with (at_builtin; go_must (refine ap_oneW (B := w.heap.size + 4) (xs := rs.map NumV.val) Tryz.un_numss Tryz.inf_nums rfl HHO.out rfl (by omega) hB3 hB2 rfl _ _ rfl rfl rfl ?_; intro v1 w1 hr0 hg1 hw1; have HK3 := Lib.hid (KW.pushB HK2.out (by decide) (by omega) ⟨some ⟨b0, 0, none⟩, 3, [1, 1, G]⟩ hg1 (row_len hr0 (by simp) rfl)); have HF3 := Lib.hid ((HF2.out.grown hg1 (fun c hc => row_ne_low HK2.out.b hc)).set (c := w.heap.size + 3) (Nat.le_refl _) 1 v1); have hb1 := HK2.out.blk.grown hg1 hne; have k1 : w1.cell? ⟨w.heap.size + 1 + 1 + 1, 1, none⟩ = some bv := hb1.cell 1; have f1 : w1.frozen? ⟨w.heap.size + 1 + 1 + 1, 1, none⟩ = false := hb1.frozen 1; obtain ⟨Xb, cb, hvb⟩ := (row_len hr0 (show _ = 3 by simp [Hrl.out]) rfl).slice; subst hvb; clear hr0 hb1 hg1 hw1))
      go_roundw
      case rel => exact ⟨3, _, _, rs ++ [_], rfl, by omega, by simp [Hrl.out], by simp [Hm.out], HK3.out, HF3.out⟩
      case measure => simp [intOf]
    · -- behind the rounds
      obtain ⟨Xt, ct, hvt⟩ := (row_len hK.t (show _ = 3 from rfl) rfl).slice
      obtain ⟨Xb, cb, hvb⟩ := (row_len hK.b hrl rfl).slice
      subst hvt hvb
      obtain ⟨tv, htv⟩ : ∃ tv, tv = Value.slice Xt 3 ct := ⟨_, rfl⟩
      obtain ⟨bv, hbv⟩ : ∃ bv, bv = Value.slice Xb 3 cb := ⟨_, rfl⟩
      rw [← htv, ← hbv] at hK
      have c0 : wr.cell? ⟨w.heap.size + 1 + 1 + 1, 0, none⟩ = some tv := (two_cells hK.blk).1
      have c1 : wr.cell? ⟨w.heap.size + 1 + 1 + 1, 1, none⟩ = some bv := (two_cells hK.blk).2
      have o0 : wr.cell? ⟨w.heap.size + 1 + 1, 0, none⟩ = some (.slice none 0 0) := (two_cells hF.o).1
      have o1 : wr.cell? ⟨w.heap.size + 1 + 1, 1, none⟩ = some (.slice none 0 0) := (two_cells hF.o).2
      have f0 : wr.frozen? ⟨w.heap.size + 1 + 1, 0, none⟩ = false := hF.o.frozen 0
      have f1 : wr.frozen? ⟨w.heap.size + 1 + 1, 1, none⟩ = false := hF.o.frozen 1
      obtain ⟨wz, hwz⟩ : ∃ wz, wz = (wr.setCell ⟨w.heap.size + 1 + 1, 0, none⟩ tv).setCell ⟨w.heap.size + 1 + 1, 1, none⟩ bv := ⟨_, rfl⟩
      have hz := two_cells ((hF.o.set 0 tv).set 1 bv)
      have z0 : wz.cell? ⟨w.heap.size + 1 + 1, 0, none⟩ = some tv := by rw [hwz]; exact hz.1
      have z1 : wz.cell? ⟨w.heap.size + 1 + 1, 1, none⟩ = some bv := by rw [hwz]; exact hz.2
      have HO := Lib.hid (((hK.low (o := w.heap.size + 2) (by omega) (by omega) 0 tv).low (o := w.heap.size + 2) (by omega) (by omega) 1 bv).out (by omega) hm (by simp [h0, h1, h2]) (by simp [hG]))
      have HB := Lib.hid (below_set (below_set hF.b (b := w.heap.size + 2) (by omega) 0 tv) (b := w.heap.size + 2) (by omega) 1 bv)
      clear hK hF hz hm
      subst htv hbv
      go_wp2_with fail
      rw [show w.heap.size + 2 = w.heap.size + 1 + 1 from rfl, ← hwz] at HO HB
      rw [← hwz]
      exact bodyPost_ret (v := .agg #[.slice Xt 3 ct, .slice Xb 3 cb]) (by simp [results, Tryz.results21, go_sem, z0, z1]) rfl ⟨HO.out, HB.out⟩
end Go.Proofs.YtinlciofhegciaaGreat

/- The same proof? The reference's walk. -/
namespace Go.Proofs.YtinlciofhegciaaGreat
open Go.RowKit

set_option maxRecDepth 100000 in
set_option maxHeartbeats 1000000 in
theorem sameP_any (A1 : Option Addr) (c1 : Nat) (L1 : List Nat) (A2 : Option Addr) (c2 : Nat) (L2 : List Nat) (A3 : Option Addr) (c3 : Nat) (L3 : List Nat) (A4 : Option Addr) (c4 : Nat) (L4 : List Nat) (w : World)
    (h1 : Nums w A1 c1 L1) (h2 : Nums w A2 c2 L2) (h3 : Nums w A3 c3 L3) (h4 : Nums w A4 c4 L4) (l1 : L1.length < 1000000) (l2 : L2.length < 1000000) (l3 : L3.length < 1000000) (l4 : L4.length < 1000000) :
    Calls Tryz.prog 12 #[.agg #[.slice A1 L1.length c1, .slice A2 L2.length c2], .agg #[.slice A3 L3.length c3, .slice A4 L4.length c4]] w fun e w' => e = .returned (.bool (decide (L1 = L3) && decide (L2 = L4))) ∧ Below w.heap.size w w' := by
  have hs1 := fun W hb => refSame_any A1 c1 L1 A3 c3 L3 W (h1.below (w1 := W) hb) (h3.below hb) l1 l3
  have hs2 := fun W hb => refSame_any A2 c2 L2 A4 c4 L4 W (h2.below (w1 := W) hb) (h4.below hb) l2 l4
  obtain ⟨n1, hn1⟩ : ∃ n, n = L1.length := ⟨_, rfl⟩
  obtain ⟨n2, hn2⟩ : ∃ n, n = L2.length := ⟨_, rfl⟩
  obtain ⟨n3, hn3⟩ : ∃ n, n = L3.length := ⟨_, rfl⟩
  obtain ⟨n4, hn4⟩ : ∃ n, n = L4.length := ⟨_, rfl⟩
  obtain ⟨r1, hr1⟩ : ∃ r, r = decide (L1 = L3) := ⟨_, rfl⟩
  obtain ⟨r2, hr2⟩ : ∃ r, r = decide (L2 = L4) := ⟨_, rfl⟩
  rw [← hr1, ← hn1, ← hn3] at hs1
  rw [← hr2, ← hn2, ← hn4] at hs2
  rw [← hr1, ← hr2, ← hn1, ← hn2, ← hn3, ← hn4]
  have hb0 : Below w.heap.size w ((w.alloc (.cells #[.slice A1 n1 c1, .slice A2 n2 c2] 36)).alloc (.cells #[.slice A3 n3 c3, .slice A4 n4 c4] 36)) := ((Below.refl _ _).alloc (Nat.le_refl _) _).alloc (by simp) _
  have Hs1 := Lib.hid hs1
  have Hs2 := Lib.hid hs2
  have Hb0 := Lib.hid hb0
  clear hs1 hs2 hb0 h1 h2 h3 h4 l1 l2 l3 l4 hn1 hn2 hn3 hn4 hr1 hr2
  cases r1 with
  | false =>
    go_enter Tryz.func12, Tryz.ntmps12
    go_wp2_with (go_at_call 39; refine (Hs1.out _ Hb0.out).mono ?_; rintro e w2 ⟨rfl, q, rfl⟩)
    go_ret
    exact ⟨rfl, below_drewN Hb0.out _⟩
  | true =>
    go_enter Tryz.func12, Tryz.ntmps12
    go_wp2_with fail
    refine (Hs1.out _ Hb0.out).mono ?_
    rintro e w2 ⟨rfl, q, rfl⟩
    go_wp2_with fail
    refine (Hs2.out _ (below_drewN Hb0.out q)).mono ?_
    rintro e w2 ⟨rfl, q2, rfl⟩
    go_wp2_with fail
    go_ret
    exact ⟨by simp, below_drewN Hb0.out _⟩
end Go.Proofs.YtinlciofhegciaaGreat

/- Like claims: the reference's walk (where they are alike). -/
namespace Go.Proofs.YtinlciofhegciaaGreat
open Go.RowKit Go.BigFrame

set_option maxRecDepth 100000 in
set_option maxHeartbeats 2000000 in
theorem alike_any (T : List Nat) (L : List (List Nat)) (u v : Value) (w : World) (h1 : ClaimV T L u w) (h2 : ClaimV T L v w) (hT : T.length < 1000000) (hL : L.length ≤ 10000) (hr : ∀ l ∈ L, l.length < 1000000) :
    Calls Tryz.prog 17 #[u, v] w fun e w' => e = .returned (.bool true) ∧ Below w.heap.size w w' := by
  obtain ⟨A1, c1, B1, d1, rs1, rfl, ⟨hn1, hg1⟩, hm1⟩ := h1
  obtain ⟨A2, c2, B2, d2, rs2, rfl, ⟨hn2, hg2⟩, hm2⟩ := h2
  have hl1 : rs1.length = L.length := by rw [← hm1, List.length_map]
  have hl2 : rs2.length = L.length := by rw [← hm2, List.length_map]
  rw [hl1, hl2]
  obtain ⟨n, hn⟩ : ∃ n, n = L.length := ⟨_, rfl⟩
  obtain ⟨t, ht⟩ : ∃ t, t = T.length := ⟨_, rfl⟩
  have hS : ∀ W, Lat w W → Calls Tryz.prog 39 #[.slice A1 t c1, .slice A2 t c2] W fun e w' => e = .returned (.bool true) ∧ Below W.heap.size W w' := fun W hb => by
    have h := refSame_any A1 c1 T A2 c2 T W (hn1.below hb) (hn2.below hb) hT hT
    rw [← ht] at h
    exact h.mono fun e w' h => ⟨by rw [h.1]; simp, let ⟨m, hm⟩ := h.2; hm ▸ below_drewN (Below.refl _ _) m⟩
  rw [← hn, ← ht]
  unfold cval
  obtain ⟨W0, hW0⟩ : ∃ W0, W0 = (w.alloc (.cells #[.slice A1 t c1, .slice B1 n d1] 29)).alloc (.cells #[.slice A2 t c2, .slice B2 n d2] 29) := ⟨_, rfl⟩
  have hk1 : Blk W0 w.heap.size 29 [.slice A1 t c1, .slice B1 n d1] := by rw [hW0]; exact (Blk.of w _ _ _ rfl).alloc _
  have hk2 : Blk W0 (w.heap.size + 1) 29 [.slice A2 t c2, .slice B2 n d2] := by rw [hW0]; exact Blk.at_new _ _ _ _ _ (by simp) rfl
  have hb0 : Lat w W0 := by rw [hW0]; exact lat_alloc (lat_alloc (Below.refl _ _) _) _
  have HS := Lib.hid hS
  have HW0 := Lib.hid hW0
  have Hk1 := Lib.hid hk1
  have Hk2 := Lib.hid hk2
  have Hb0 := Lib.hid hb0
  have Hg1 := Lib.hid hg1
  have Hg2 := Lib.hid hg2
  have Hm1 := Lib.hid hm1
  have Hm2 := Lib.hid hm2
  have Hn := Lib.hid hn
  have Hr := Lib.hid hr
  have Hl1 := Lib.hid (hl1.trans hn.symm)
  have Hl2 := Lib.hid (hl2.trans hn.symm)
  have hnn : n ≤ 10000 := by omega
  clear hS hW0 hk1 hk2 hb0 hn1 hn2 hg1 hg2 hm1 hm2 hl1 hl2 hn hr hT hL ht
  go_enter Tryz.func17, Tryz.ntmps17
  go_wp2_with (go_at_call 39; rw [← HW0.out]; refine (HS.out _ Hb0.out).mono ?_; rintro e w2 ⟨rfl, hb2⟩; obtain ⟨k1, k2⟩ := two_cells (Hk1.out.below hb2 Hk1.out.lt); obtain ⟨k3, k4⟩ := two_cells (Hk2.out.below hb2 Hk2.out.lt); have Hb2 := Lib.hid hb2; clear hb2)
  go_loopw [5] (fun iv wr => ∃ i : Nat, iv = .int .i64 (i : Int) ∧ i ≤ n ∧ Lat W0 wr) (fun iv _ => n - (intOf iv).toNat)
  case atStart => exact ⟨0, rfl, by omega, Hb2.out⟩
  case round =>
    obtain ⟨i, rfl, hi, hbr⟩ := hrel
    clear k1 k2 k3 k4 Hb2
    obtain ⟨k1, k2⟩ := two_cells (Hk1.out.below hbr Hk1.out.lt)
    obtain ⟨k3, k4⟩ := two_cells (Hk2.out.below hbr Hk2.out.lt)
    have Hbr := Lib.hid hbr
    clear hbr
    by_cases hin : i < n
    · have d6 : decide ((i : Int) < (n : Int)) = true := decide_eq_true (by omega)
      have hii : (i : Int) < (n : Int) := by omega
      obtain ⟨l, hl⟩ : ∃ l, L[i]? = some l := ⟨_, List.getElem?_eq_getElem (by rw [← Hn.out]; exact hin)⟩
      obtain ⟨r1, hr1⟩ : ∃ r, rs1[i]? = some r := ⟨_, List.getElem?_eq_getElem (by rw [Hl1.out]; exact hin)⟩
      obtain ⟨r2, hr2⟩ : ∃ r, rs2[i]? = some r := ⟨_, List.getElem?_eq_getElem (by rw [Hl2.out]; exact hin)⟩
      have e1 : r1.l = l := by have h := hl; rw [← Hm1.out, List.getElem?_map, hr1] at h; simpa using h
      have e2 : r2.l = l := by have h := hl; rw [← Hm2.out, List.getElem?_map, hr2] at h; simpa using h
      have hwr : Lat w wr := below_trans Hb0.out Hbr.out
      obtain ⟨b1, hB1, q1⟩ := (Hg1.out.below hwr).cells i r1 hr1
      obtain ⟨b2, hB2, q2⟩ := (Hg2.out.below hwr).cells i r2 hr2
      have hN1 := (Hg1.out.below hwr).nums r1 (List.mem_of_getElem? hr1)
      have hN2 := (Hg2.out.below hwr).nums r2 (List.mem_of_getElem? hr2)
      rw [e1] at hN1
      rw [e2] at hN2
      rw [show r1.val = .slice r1.A l.length r1.cap by rw [← e1]; rfl] at q1
      rw [show r2.val = .slice r2.A l.length r2.cap by rw [← e2]; rfl] at q2
      have hll : l.length < 1000000 := Hr.out l (List.mem_of_getElem? hl)
      have hS2 : ∀ W, Lat wr W → Calls Tryz.prog 39 #[.slice r1.A l.length r1.cap, .slice r2.A l.length r2.cap] W fun e w' => e = .returned (.bool true) ∧ Below W.heap.size W w' := fun W hb =>
        (refSame_any r1.A r1.cap l r2.A r2.cap l W (hN1.below hb) (hN2.below hb) hll hll).mono fun e w' h => ⟨by rw [h.1]; simp, let ⟨m, hm⟩ := h.2; hm ▸ below_drewN (Below.refl _ _) m⟩
      have HS2 := Lib.hid hS2
      subst hB1 hB2
      clear hl hr1 hr2 e1 e2 hwr hN1 hN2 hll hS2
      have l1 := Later.cell k1
      have l2 := Later.cell k2
      have l3 := Later.cell k3
      have l4 := Later.cell k4
      have l5 := Later.cell q1
      have l6 := Later.cell q2
      go_wp2_with fail
      refine region_loose [(38, fun u _ => u = .bool true)] (Know.stable_cons (fun _ _ _ h _ => h) Know.stable_nil) (by kernel_rfl) (by kernel_rfl) ?_
      (repeat (first | (refine loose_skip (by rfl) ?_; simp only [Act.put, List.setIfInBounds_toArray, List.set_cons_zero, List.set_cons_succ]) | (refine loose_plain (by rfl) (by rfl) (by rfl) (fun Kc hKc => ?_); go_big_quiet_op; refine hKc _ ?_; clear hKc Kc)))
      refine loose_fix 38 (.bool true) (f := 39) (args := #[.slice r1.A l.length r1.cap, .slice r2.A l.length r2.cap]) (fun w => by go_simp; try rfl) (by rfl) (by rfl) (by rfl) (fun _ _ => Iff.rfl) (fun wk hl _ => HS2.out wk hl) ?_
      simp only [Act.put, List.setIfInBounds_toArray, List.set_cons_zero, List.set_cons_succ]
      (repeat (first | (refine loose_skip (by rfl) ?_; simp only [Act.put, List.setIfInBounds_toArray, List.set_cons_zero, List.set_cons_succ]) | (refine loose_plain (by rfl) (by rfl) (by rfl) (fun Kc hKc => ?_); go_big_quiet_op; refine hKc _ ?_; clear hKc Kc)))
      refine loose_nil ?_
      intro wq hbq _
      have Hbq := Lib.hid (below_trans Hbr.out hbq)
      clear l1 l2 l3 l4 l5 l6 k1 k2 k3 k4 q1 q2 hbq
      go_wp2_with fail
      go_roundw
      case rel => exact ⟨i + 1, by go_num, by omega, Hbq.out⟩
      case measure => simp [intOf]; omega
    · have d6 : decide ((i : Int) < (n : Int)) = false := decide_eq_false (by omega)
      go_wp2_with fail
      go_ret
      exact ⟨rfl, below_trans Hb0.out Hbr.out⟩
end Go.Proofs.YtinlciofhegciaaGreat

/- What is claimed is the document's: the law's walk. -/
namespace Go.Proofs.YtinlciofhegciaaGreat
open Go.RowKit Go.BigFrame

def tlist (a0 a1 a2 b0 b1 b2 : Nat) : List Value := [.int .u64 (a0 : Int), .int .u64 (a1 : Int), .int .u64 (a2 : Int), .int .u64 (b0 : Int), .int .u64 (b1 : Int), .int .u64 (b2 : Int)]
theorem six_cells {w : World} {b : Nat} {t : TypeId} {x0 x1 x2 x3 x4 x5 : Value} (h : Blk w b t [x0, x1, x2, x3, x4, x5]) :
    w.cell? ⟨b, 0, none⟩ = some x0 ∧ w.cell? ⟨b, 1, none⟩ = some x1 ∧ w.cell? ⟨b, 2, none⟩ = some x2 ∧ w.cell? ⟨b, 3, none⟩ = some x3 ∧ w.cell? ⟨b, 4, none⟩ = some x4 ∧ w.cell? ⟨b, 5, none⟩ = some x5 :=
  ⟨h.cell 0, h.cell 1, h.cell 2, h.cell 3, h.cell 4, h.cell 5⟩
theorem claim_args {w w0 : World} {g0 c0 l0 P Q G H : Nat} {R x0 x1 x2 x3 x4 x5 y0 y1 y2 y3 y4 y5 : Value} {tg tc tl : TypeId} (hg : Blk w0 g0 tg (glist P Q G H R)) (hc : Blk w0 c0 tc [x0, x1, x2, x3, x4, x5]) (hl : Blk w0 l0 tl [y0, y1, y2, y3, y4, y5]) (hb : Below w0.heap.size w0 w) :
    (w.cell? ⟨g0, 0, none⟩ = some (.int .u64 (P : Int)) ∧ w.cell? ⟨g0, 1, none⟩ = some (.int .u64 (Q : Int)) ∧ w.cell? ⟨g0, 2, none⟩ = some (.int .u64 (G : Int)) ∧ w.cell? ⟨g0, 3, none⟩ = some (.int .u64 (H : Int)) ∧ w.cell? ⟨g0, 4, none⟩ = some R) ∧
    (w.cell? ⟨c0, 0, none⟩ = some x0 ∧ w.cell? ⟨c0, 1, none⟩ = some x1 ∧ w.cell? ⟨c0, 2, none⟩ = some x2 ∧ w.cell? ⟨c0, 3, none⟩ = some x3 ∧ w.cell? ⟨c0, 4, none⟩ = some x4 ∧ w.cell? ⟨c0, 5, none⟩ = some x5) ∧
    (w.cell? ⟨l0, 0, none⟩ = some y0 ∧ w.cell? ⟨l0, 1, none⟩ = some y1 ∧ w.cell? ⟨l0, 2, none⟩ = some y2 ∧ w.cell? ⟨l0, 3, none⟩ = some y3 ∧ w.cell? ⟨l0, 4, none⟩ = some y4 ∧ w.cell? ⟨l0, 5, none⟩ = some y5) :=
  ⟨gcells (hg.below hb hg.lt), six_cells (hc.below hb hc.lt), six_cells (hl.below hb hl.lt)⟩

set_option maxRecDepth 100000 in
set_option maxHeartbeats 8000000 in
theorem claims_walk (P Q G H : Nat) (RB : Option Addr) (capR : Nat) (rs : List RowV) (p0 q0 p1 q1 p2 q2 a0 a1 a2 b0 b1 b2 : Nat) (w : World)
    (hP : P < 18446744073709551616) (hQ : Q < 18446744073709551616) (hG : G < 18446744073709551616) (hH : H < 18446744073709551616) (hR : Rows3 w RB capR rs) (hRl : rs.length < 9223372036854775807) (hFl : ∀ r ∈ rs, r.F.l.length < 9223372036854775807)
    (x0 : p0 < 18446744073709551616) (x1 : p1 < 18446744073709551616) (x2 : p2 < 18446744073709551616) (x3 : q2 < 18446744073709551616) (y0 : a0 < 18446744073709551616) (y1 : a1 < 18446744073709551616) (y2 : a2 < 18446744073709551616) (y3 : b1 < 18446744073709551616) (y4 : b2 < 18446744073709551616) :
    Calls Tryz.prog 5 #[gval P Q G H (.slice RB rs.length capR), sval p0 q0 p1 q1 p2 q2, .agg #[.int .u64 (a0 : Int), .int .u64 (a1 : Int), .int .u64 (a2 : Int), .int .u64 (b0 : Int), .int .u64 (b1 : Int), .int .u64 (b2 : Int)]] w fun e w' => e = .returned (.bool true) ∧ Below w.heap.size w w' := by
  have hgr := fun W hb => group_any P Q G H RB capR rs W hP hQ hG hH (hR.below (w1 := W) hb) hRl hFl
  obtain ⟨R, hRv⟩ : ∃ R, R = Value.slice RB rs.length capR := ⟨_, rfl⟩
  have hone : R.oneCell' = true := by rw [hRv]; rfl
  rw [← hRv] at hgr
  rw [← hRv]
  clear hRv
  have hin := fun x W (hx : x < 18446744073709551616) => refIn_any P Q G H x R W hP hQ hx
  unfold gval at hgr hin
  unfold gval sval
  obtain ⟨w0, hw0⟩ : ∃ w0, w0 = (((w.alloc (.cells #[.int .u64 (P : Int), .int .u64 (Q : Int), .int .u64 (G : Int), .int .u64 (H : Int), R] 25)).alloc (.cells #[.int .u64 (p0 : Int), .int .u64 (q0 : Int), .int .u64 (p1 : Int), .int .u64 (q1 : Int), .int .u64 (p2 : Int), .int .u64 (q2 : Int)] 46)).alloc (.cells #[.int .u64 (a0 : Int), .int .u64 (a1 : Int), .int .u64 (a2 : Int), .int .u64 (b0 : Int), .int .u64 (b1 : Int), .int .u64 (b2 : Int)] 49)) := ⟨_, rfl⟩
  have hb0 : Below w.heap.size w w0 := by rw [hw0]; exact lat_alloc (lat_alloc (lat_alloc (Below.refl _ _) _) _) _
  have hg0 : Blk w0 w.heap.size 25 (glist P Q G H R) := by rw [hw0]; exact ((Blk.of w _ _ _ rfl).alloc _).alloc _
  have hc0 : Blk w0 (w.heap.size + 1) 46 (slist p0 q0 p1 q1 p2 q2) := by rw [hw0]; exact (Blk.at_new _ _ _ _ _ (by simp) rfl).alloc _
  have hl0 : Blk w0 (w.heap.size + 1 + 1) 49 (tlist a0 a1 a2 b0 b1 b2) := by rw [hw0]; exact Blk.at_new _ _ _ _ _ (by simp) rfl
  have HA := Lib.hid (fun W hb => claim_args (w := W) hg0 hc0 hl0 hb)
  have Hgr := Lib.hid hgr
  have Hin := Lib.hid hin
  have Hb0 := Lib.hid hb0
  have Hw0 := Lib.hid hw0
  have hgl := hg0.lt
  have hcl0 := hc0.lt
  have hll0 := hl0.lt
  clear hgr hin hb0 hg0 hc0 hl0 hw0 hR hRl hFl
  go_enter Tryz.func5, Tryz.ntmps5
  go_wp2_with fail
  rw [← Hw0.out]
  refine (awake7_any _).mono ?_
  rintro e w1 ⟨rfl, hb1⟩
  obtain ⟨⟨g0, g1, g2, g3, g4⟩, ⟨f0, f1, f2, f3, f4, f5⟩, ⟨c0, c1, c2, c3, c4, c5⟩⟩ := HA.out w1 hb1
  have Hb1 := Lib.hid hb1
  clear hb1
  go_wp2_with fail
  refine (Hgr.out w1 (below_trans Hb0.out Hb1.out)).mono ?_
  rintro e w2 ⟨rfl, hb2⟩
  have Hb2 := Lib.hid (below_trans Hb1.out hb2)
  obtain ⟨⟨g0, g1, g2, g3, g4⟩, ⟨f0, f1, f2, f3, f4, f5⟩, ⟨c0, c1, c2, c3, c4, c5⟩⟩ := HA.out w2 Hb2.out
  clear hb2
  cases hgb : groupB P Q G H rs with
  | false =>
    clear hgb
    go_wp2_with fail
    go_ret
    exact ⟨rfl, below_trans Hb0.out Hb2.out⟩
  | true =>
    clear hgb
    go_wp2_with fail
    have l0 := Later.cell f0
    have l2 := Later.cell f2
    have l4 := Later.cell f4
    have l5 := Later.cell f5
    refine region_float_tail [(9, fun u w' => ∃ b, u = .pointer (some ⟨b, 0, none⟩) ∧ w2.heap.size ≤ b ∧ Blk w' b 44 [.int .u64 0, .int .u64 0])] 11
      (Know.stable_cons (fun _ _ _ h hl => let ⟨b, e, h1, h2⟩ := h; ⟨b, e, h1, h2.below hl h2.lt⟩) Know.stable_nil) (by kernel_rfl) (by kernel_rfl) (by rfl) ?_
    simp only [List.take_succ_cons, List.take_zero, List.drop_succ_cons, List.drop_zero]
    (repeat (first | (refine loose_skip (by rfl) ?_; simp only [Act.put, List.setIfInBounds_toArray, List.set_cons_zero, List.set_cons_succ]) | (refine loose_plain (by rfl) (by rfl) (by rfl) (fun Kc hKc => ?_); go_big_quiet_op; refine hKc _ ?_; clear hKc Kc)))
    refine loose_make 9 (V := fun w => .pointer (some ⟨w.heap.size, 0, none⟩)) (W := fun w => w.alloc (.cells #[.int .u64 0, .int .u64 0] 44)) (fun w => by go_simp) (by rfl) (by rfl) (by rfl) (fun w hl _ => ⟨(Below.refl _ _).alloc (Nat.le_refl _) _, _, rfl, hl.size, Blk.of w _ _ _ rfl⟩) ?_
    rintro _ wk2 _ ⟨pb, rfl, hpb, _⟩
    simp only [Act.put, List.setIfInBounds_toArray, List.set_cons_zero, List.set_cons_succ]
    (repeat (first | (refine loose_skip (by rfl) ?_; simp only [Act.put, List.setIfInBounds_toArray, List.set_cons_zero, List.set_cons_succ]) | (refine loose_plain (by rfl) (by rfl) (by rfl) (fun Kc hKc => ?_); go_big_quiet_op; refine hKc _ ?_; clear hKc Kc)))
    refine loose_nil ?_
    intro wq hbq hkn
    obtain ⟨pb', hpe, _, hpk⟩ := hkn 9 _ (.inl ⟨rfl, rfl⟩)
    injection hpe with hpe; injection hpe with hpe; injection hpe with hpe
    subst hpe
    obtain ⟨k0, k1⟩ := two_cells hpk
    have z0 := hpk.frozen 0
    have z1 := hpk.frozen 1
    have hpk2 := (hpk.set 0 (.int .u64 (p2 : Int))).set 1 (.int .u64 (q2 : Int))
    have hbx : Below w0.heap.size w0 ((wq.setCell ⟨pb, 0, none⟩ (.int .u64 (p2 : Int))).setCell ⟨pb, 1, none⟩ (.int .u64 (q2 : Int))) := below_set (below_set (below_trans Hb2.out hbq) (by have := Hb2.out.size; omega) _ _) (by have := Hb2.out.size; omega) _ _
    have Hpk := Lib.hid (show Blk _ pb 44 [.int .u64 (p2 : Int), .int .u64 (q2 : Int)] from hpk2)
    have Hbx := Lib.hid hbx
    clear hpk hpk2 hbx hkn hbq l0 l2 l4 l5 g0 g1 g2 g3 g4 f0 f1 f2 f3 f4 f5 c0 c1 c2 c3 c4 c5
    go_wp2_with fail
    refine NoPanic.normal ?_
    obtain ⟨wx, hwx⟩ : ∃ W, W = (wq.setCell ⟨pb, 0, none⟩ (.int .u64 (p2 : Int))).setCell ⟨pb, 1, none⟩ (.int .u64 (q2 : Int)) := ⟨_, rfl⟩
    rw [← hwx] at Hpk Hbx
    rw [← hwx]
    have hpx := Hpk.out.lt
    clear hwx k0 k1 z0 z1
    obtain ⟨⟨g0, g1, g2, g3, g4⟩, ⟨f0, f1, f2, f3, f4, f5⟩, ⟨c0, c1, c2, c3, c4, c5⟩⟩ := HA.out wx Hbx.out
    obtain ⟨k0, k1⟩ := two_cells Hpk.out
    go_wp2_with fail
    obtain ⟨xs, hxs⟩ : ∃ xs, xs = [p0, p1, p2, q2, a0, a1, a2, b1, b2] := ⟨_, rfl⟩
    obtain ⟨W6, hW6⟩ : ∃ W, W = wx.alloc (.cells #[.int .u64 (p0 : Int), .int .u64 (p1 : Int), .int .u64 (p2 : Int), .int .u64 (q2 : Int), .int .u64 (a0 : Int), .int .u64 (a1 : Int), .int .u64 (a2 : Int), .int .u64 (b1 : Int), .int .u64 (b2 : Int)] 22) := ⟨_, rfl⟩
    rw [← hW6]
    have Hxk := Lib.hid (show Blk W6 wx.heap.size 22 (u64s xs) by rw [hW6]; exact Blk.at_new _ _ _ _ _ rfl (by rw [hxs]; rfl))
    have hxs2 : ∀ x ∈ xs, x < 18446744073709551616 := by rw [hxs]; simp [x0, x1, x2, x3, y0, y1, y2, y3, y4]
    have Hx6 := Lib.hid (show Lat wx W6 by rw [hW6]; exact lat_alloc (Below.refl _ _) _)
    have hxl : xs.length = 9 := by rw [hxs]; rfl
    have Hxs2 := Lib.hid hxs2
    have Hxl := Lib.hid hxl
    clear hW6 hxs hxs2 hxl g0 g1 g2 g3 g4 f0 f1 f2 f3 f4 f5 c0 c1 c2 c3 c4 c5 k0 k1
    go_loopw [48] (fun iv wr => ∃ k : Nat, iv = .int .i64 (k : Int) ∧ k ≤ 9 ∧ Lat W6 wr) (fun iv _ => 9 - (intOf iv).toNat)
    case atStart => exact ⟨0, rfl, by omega, Below.refl _ _⟩
    case round =>
      obtain ⟨k, rfl, hk, hbr⟩ := hrel
      have Hbr := Lib.hid hbr
      have Hbw := Lib.hid (below_trans Hbx.out (below_trans Hx6.out hbr))
      obtain ⟨⟨g0, g1, g2, g3, g4⟩, ⟨f0, f1, f2, f3, f4, f5⟩, ⟨c0, c1, c2, c3, c4, c5⟩⟩ := HA.out wr Hbw.out
      clear hbr
      by_cases hk9 : k < 9
      · have d6 : decide ((k : Int) < 9) = true := decide_eq_true (by omega)
        have hki : (k : Int) < 9 := by omega
        obtain ⟨x, hx⟩ : ∃ x, xs[k]? = some x := ⟨_, List.getElem?_eq_getElem (by rw [Hxl.out]; exact hk9)⟩
        have hxc : wr.cell? ⟨wx.heap.size, k, none⟩ = some (.int .u64 (x : Int)) := by rw [(Hxk.out.below Hbr.out Hxk.out.lt).cell k, u64s, List.getElem?_map, hx]; rfl
        have hxx := Hxs2.out x (List.mem_of_getElem? hx)
        clear hx
        go_wp2_with fail
        refine (Hin.out x _ hxx).mono ?_
        rintro e w3 ⟨rfl, hb3⟩
        have Hb3 := Lib.hid hb3
        clear hb3
        cases hinx : inG P Q x with
        | false =>
          clear hinx
          go_wp2_with fail
          go_ret
          exact ⟨rfl, below_trans Hb0.out (below_trans Hbw.out Hb3.out)⟩
        | true =>
          clear hinx
          go_wp2_with fail
          go_roundw
          case rel => exact ⟨k + 1, by go_num, by omega, below_trans Hbr.out Hb3.out⟩
          case measure => simp [intOf]; omega
      · have d6 : decide ((k : Int) < 9) = false := decide_eq_false (by omega)
        go_wp2_with fail
        obtain ⟨k0, k1⟩ := two_cells (Hpk.out.below (below_trans Hx6.out Hbr.out) hpx)
        have l0 := Later.cell g0
        have l1 := Later.cell g1
        have l2 := Later.cell g2
        have l3 := Later.cell g3
        have l4 := Later.cell g4
        have l5 := Later.cell f0
        have l6 := Later.cell f1
        have l7 := Later.cell f2
        have l8 := Later.cell f3
        have l9 := Later.cell f4
        have l10 := Later.cell f5
        have l11 := Later.cell c0
        have l12 := Later.cell c1
        have l13 := Later.cell c2
        have l14 := Later.cell c3
        have l15 := Later.cell c4
        have l16 := Later.cell c5
        have l17 := Later.cell k0
        have l18 := Later.cell k1
        clear Hin Hgr Hxs2 Hxk HA
        refine region_loose [(59, ClaimV [p0] [[G]]), (62, ClaimV [p0] [[G]]), (63, fun u _ => u = .bool true), (67, ClaimV [p0, p1, p2] [[G, 1, 1], [1, G, 1], [1, 1, G]]), (70, ClaimV [p0, p1, p2] [[G, 1, 1], [1, G, 1], [1, 1, G]]), (71, fun u _ => u = .bool true), (78, ClaimV [p0, p1] [[G], [p2]]), (83, ClaimV [p0, p1] [[G], [p2]]), (84, fun u _ => u = .bool true), (94, ClaimV [p0, overG P b1 a1, overG P b2 a2] [[G, 1], [1, G], [overG P 1 a0, p1]]), (102, ClaimV [p0, overG P b1 a1, overG P b2 a2] [[G, 1], [1, G], [overG P 1 a0, p1]]), (103, fun u _ => u = .bool true)] (Know.stable_cons (fun _ _ _ h hl => h.later hl) (Know.stable_cons (fun _ _ _ h hl => h.later hl) (Know.stable_cons (fun _ _ _ h _ => h) (Know.stable_cons (fun _ _ _ h hl => h.later hl) (Know.stable_cons (fun _ _ _ h hl => h.later hl) (Know.stable_cons (fun _ _ _ h _ => h) (Know.stable_cons (fun _ _ _ h hl => h.later hl) (Know.stable_cons (fun _ _ _ h hl => h.later hl) (Know.stable_cons (fun _ _ _ h _ => h) (Know.stable_cons (fun _ _ _ h hl => h.later hl) (Know.stable_cons (fun _ _ _ h hl => h.later hl) (Know.stable_cons (fun _ _ _ h _ => h) Know.stable_nil)))))))))))) (by kernel_rfl) (by kernel_rfl) ?_
        (repeat (first | (refine loose_skip (by rfl) ?_; simp only [Act.put, List.setIfInBounds_toArray, List.set_cons_zero, List.set_cons_succ]) | (refine loose_plain (by rfl) (by rfl) (by rfl) (fun Kc hKc => ?_); go_big_quiet_op; refine hKc _ ?_; clear hKc Kc)))
        refine loose_call 59 (f := 18) (args := #[.agg #[.int .u64 (P : Int), .int .u64 (Q : Int), .int .u64 (G : Int), .int .u64 (H : Int), R], .int .u64 (p0 : Int)]) (fun w => by go_simp; try rfl) (by rfl) (by rfl) (by rfl) (fun wk hl _ => (keeps_any P Q G H p0 R wk hG x0).mono fun e w' ⟨h, hb⟩ => let ⟨u, he, hu⟩ := ClaimV.of h; ⟨u, he, hb, hu⟩) ?_
        rintro u59 wk59 hl59 hu59
        simp only [Act.put, List.setIfInBounds_toArray, List.set_cons_zero, List.set_cons_succ]
        (repeat (first | (refine loose_skip (by rfl) ?_; simp only [Act.put, List.setIfInBounds_toArray, List.set_cons_zero, List.set_cons_succ]) | (refine loose_plain (by rfl) (by rfl) (by rfl) (fun Kc hKc => ?_); go_big_quiet_op; refine hKc _ ?_; clear hKc Kc)))
        refine loose_call 62 (f := 19) (args := #[.agg #[.int .u64 (P : Int), .int .u64 (Q : Int), .int .u64 (G : Int), .int .u64 (H : Int), R], .int .u64 (p0 : Int)]) (fun w => by go_simp; try rfl) (by rfl) (by rfl) (by rfl) (fun wk hl _ => (refKeeps_any P Q G H p0 R wk hG x0).mono fun e w' ⟨h, hb⟩ => let ⟨u, he, hu⟩ := ClaimV.of h; ⟨u, he, hb, hu⟩) ?_
        rintro u62 wk62 hl62 hu62
        simp only [Act.put, List.setIfInBounds_toArray, List.set_cons_zero, List.set_cons_succ]
        (repeat (first | (refine loose_skip (by rfl) ?_; simp only [Act.put, List.setIfInBounds_toArray, List.set_cons_zero, List.set_cons_succ]) | (refine loose_plain (by rfl) (by rfl) (by rfl) (fun Kc hKc => ?_); go_big_quiet_op; refine hKc _ ?_; clear hKc Kc)))
        refine loose_fix 63 (.bool true) (f := 17) (args := #[u59, u62]) (fun w => by go_simp; try rfl) (by rfl) (by rfl) (by rfl) (fun _ _ => Iff.rfl) (fun wk hl hd => alike_any _ _ _ _ wk (hd 59 (by decide) u59 (by simp [behind, gadd])) (hd 62 (by decide) u62 (by simp [behind, gadd])) (by simp) (by simp) (by simp)) ?_
        simp only [Act.put, List.setIfInBounds_toArray, List.set_cons_zero, List.set_cons_succ]
        (repeat (first | (refine loose_skip (by rfl) ?_; simp only [Act.put, List.setIfInBounds_toArray, List.set_cons_zero, List.set_cons_succ]) | (refine loose_plain (by rfl) (by rfl) (by rfl) (fun Kc hKc => ?_); go_big_quiet_op; refine hKc _ ?_; clear hKc Kc)))
        refine loose_call 67 (f := 20) (args := #[.agg #[.int .u64 (P : Int), .int .u64 (Q : Int), .int .u64 (G : Int), .int .u64 (H : Int), R], .agg #[.int .u64 (p0 : Int), .int .u64 (q0 : Int), .int .u64 (p1 : Int), .int .u64 (q1 : Int), .int .u64 (p2 : Int), .int .u64 (q2 : Int)]]) (fun w => by go_simp; try rfl) (by rfl) (by rfl) (by rfl) (fun wk hl _ => (knows_any P Q G H p0 q0 p1 q1 p2 q2 R wk hG x0 x1 x2).mono fun e w' ⟨h, hb⟩ => let ⟨u, he, hu⟩ := ClaimV.of h; ⟨u, he, hb, hu⟩) ?_
        rintro u67 wk67 hl67 hu67
        simp only [Act.put, List.setIfInBounds_toArray, List.set_cons_zero, List.set_cons_succ]
        (repeat (first | (refine loose_skip (by rfl) ?_; simp only [Act.put, List.setIfInBounds_toArray, List.set_cons_zero, List.set_cons_succ]) | (refine loose_plain (by rfl) (by rfl) (by rfl) (fun Kc hKc => ?_); go_big_quiet_op; refine hKc _ ?_; clear hKc Kc)))
        refine loose_call 70 (f := 21) (args := #[.agg #[.int .u64 (P : Int), .int .u64 (Q : Int), .int .u64 (G : Int), .int .u64 (H : Int), R], .agg #[.int .u64 (p0 : Int), .int .u64 (q0 : Int), .int .u64 (p1 : Int), .int .u64 (q1 : Int), .int .u64 (p2 : Int), .int .u64 (q2 : Int)]]) (fun w => by go_simp; try rfl) (by rfl) (by rfl) (by rfl) (fun wk hl _ => (refKnows_any P Q G H p0 q0 p1 q1 p2 q2 R wk hG x0 x1 x2).mono fun e w' ⟨h, hb⟩ => let ⟨u, he, hu⟩ := ClaimV.of h; ⟨u, he, hb, hu⟩) ?_
        rintro u70 wk70 hl70 hu70
        simp only [Act.put, List.setIfInBounds_toArray, List.set_cons_zero, List.set_cons_succ]
        (repeat (first | (refine loose_skip (by rfl) ?_; simp only [Act.put, List.setIfInBounds_toArray, List.set_cons_zero, List.set_cons_succ]) | (refine loose_plain (by rfl) (by rfl) (by rfl) (fun Kc hKc => ?_); go_big_quiet_op; refine hKc _ ?_; clear hKc Kc)))
        refine loose_fix 71 (.bool true) (f := 17) (args := #[u67, u70]) (fun w => by go_simp; try rfl) (by rfl) (by rfl) (by rfl) (fun _ _ => Iff.rfl) (fun wk hl hd => alike_any _ _ _ _ wk (hd 67 (by decide) u67 (by simp [behind, gadd])) (hd 70 (by decide) u70 (by simp [behind, gadd])) (by simp) (by simp) (by simp)) ?_
        simp only [Act.put, List.setIfInBounds_toArray, List.set_cons_zero, List.set_cons_succ]
        (repeat (first | (refine loose_skip (by rfl) ?_; simp only [Act.put, List.setIfInBounds_toArray, List.set_cons_zero, List.set_cons_succ]) | (refine loose_plain (by rfl) (by rfl) (by rfl) (fun Kc hKc => ?_); go_big_quiet_op; refine hKc _ ?_; clear hKc Kc)))
        refine loose_call 78 (f := 22) (args := #[.agg #[.int .u64 (P : Int), .int .u64 (Q : Int), .int .u64 (G : Int), .int .u64 (H : Int), R], .int .u64 (p0 : Int), .agg #[.int .u64 (p2 : Int), .int .u64 (q2 : Int)], .int .u64 (p1 : Int)]) (fun w => by go_simp; try rfl) (by rfl) (by rfl) (by rfl) (fun wk hl _ => (shares_any P Q G H p0 p2 q2 p1 R wk hG x0 x2 x1).mono fun e w' ⟨h, hb⟩ => let ⟨u, he, hu⟩ := ClaimV.of h; ⟨u, he, hb, hu⟩) ?_
        rintro u78 wk78 hl78 hu78
        simp only [Act.put, List.setIfInBounds_toArray, List.set_cons_zero, List.set_cons_succ]
        (repeat (first | (refine loose_skip (by rfl) ?_; simp only [Act.put, List.setIfInBounds_toArray, List.set_cons_zero, List.set_cons_succ]) | (refine loose_plain (by rfl) (by rfl) (by rfl) (fun Kc hKc => ?_); go_big_quiet_op; refine hKc _ ?_; clear hKc Kc)))
        refine loose_call 83 (f := 23) (args := #[.agg #[.int .u64 (P : Int), .int .u64 (Q : Int), .int .u64 (G : Int), .int .u64 (H : Int), R], .int .u64 (p0 : Int), .agg #[.int .u64 (p2 : Int), .int .u64 (q2 : Int)], .int .u64 (p1 : Int)]) (fun w => by go_simp; try rfl) (by rfl) (by rfl) (by rfl) (fun wk hl _ => (refShares_any P Q G H p0 p2 q2 p1 R wk hG x0 x2 x1).mono fun e w' ⟨h, hb⟩ => let ⟨u, he, hu⟩ := ClaimV.of h; ⟨u, he, hb, hu⟩) ?_
        rintro u83 wk83 hl83 hu83
        simp only [Act.put, List.setIfInBounds_toArray, List.set_cons_zero, List.set_cons_succ]
        (repeat (first | (refine loose_skip (by rfl) ?_; simp only [Act.put, List.setIfInBounds_toArray, List.set_cons_zero, List.set_cons_succ]) | (refine loose_plain (by rfl) (by rfl) (by rfl) (fun Kc hKc => ?_); go_big_quiet_op; refine hKc _ ?_; clear hKc Kc)))
        refine loose_fix 84 (.bool true) (f := 17) (args := #[u78, u83]) (fun w => by go_simp; try rfl) (by rfl) (by rfl) (by rfl) (fun _ _ => Iff.rfl) (fun wk hl hd => alike_any _ _ _ _ wk (hd 78 (by decide) u78 (by simp [behind, gadd])) (hd 83 (by decide) u83 (by simp [behind, gadd])) (by simp) (by simp) (by simp)) ?_
        simp only [Act.put, List.setIfInBounds_toArray, List.set_cons_zero, List.set_cons_succ]
        (repeat (first | (refine loose_skip (by rfl) ?_; simp only [Act.put, List.setIfInBounds_toArray, List.set_cons_zero, List.set_cons_succ]) | (refine loose_plain (by rfl) (by rfl) (by rfl) (fun Kc hKc => ?_); go_big_quiet_op; refine hKc _ ?_; clear hKc Kc)))
        refine loose_call 94 (f := 24) (args := #[.agg #[.int .u64 (P : Int), .int .u64 (Q : Int), .int .u64 (G : Int), .int .u64 (H : Int), R], .int .u64 (p0 : Int), .int .u64 (p1 : Int), .agg #[.int .u64 (a0 : Int), .int .u64 (a1 : Int), .int .u64 (a2 : Int)], .agg #[.int .u64 (b0 : Int), .int .u64 (b1 : Int), .int .u64 (b2 : Int)]]) (fun w => by go_simp; try rfl) (by rfl) (by rfl) (by rfl) (fun wk hl _ => (crosses_any P Q G H p0 p1 a0 a1 a2 b0 b1 b2 R wk hP hG x0 x1 y0 y1 y2 y3 y4).mono fun e w' ⟨h, hb⟩ => let ⟨u, he, hu⟩ := ClaimV.of h; ⟨u, he, hb, hu⟩) ?_
        rintro u94 wk94 hl94 hu94
        simp only [Act.put, List.setIfInBounds_toArray, List.set_cons_zero, List.set_cons_succ]
        (repeat (first | (refine loose_skip (by rfl) ?_; simp only [Act.put, List.setIfInBounds_toArray, List.set_cons_zero, List.set_cons_succ]) | (refine loose_plain (by rfl) (by rfl) (by rfl) (fun Kc hKc => ?_); go_big_quiet_op; refine hKc _ ?_; clear hKc Kc)))
        refine loose_call 102 (f := 25) (args := #[.agg #[.int .u64 (P : Int), .int .u64 (Q : Int), .int .u64 (G : Int), .int .u64 (H : Int), R], .int .u64 (p0 : Int), .int .u64 (p1 : Int), .agg #[.int .u64 (a0 : Int), .int .u64 (a1 : Int), .int .u64 (a2 : Int)], .agg #[.int .u64 (b0 : Int), .int .u64 (b1 : Int), .int .u64 (b2 : Int)]]) (fun w => by go_simp; try rfl) (by rfl) (by rfl) (by rfl) (fun wk hl _ => (refCrosses_any P Q G H p0 p1 a0 a1 a2 b0 b1 b2 R wk hP hG x0 x1 y0 y1 y2 y3 y4).mono fun e w' ⟨h, hb⟩ => let ⟨u, he, hu⟩ := ClaimV.of h; ⟨u, he, hb, hu⟩) ?_
        rintro u102 wk102 hl102 hu102
        simp only [Act.put, List.setIfInBounds_toArray, List.set_cons_zero, List.set_cons_succ]
        (repeat (first | (refine loose_skip (by rfl) ?_; simp only [Act.put, List.setIfInBounds_toArray, List.set_cons_zero, List.set_cons_succ]) | (refine loose_plain (by rfl) (by rfl) (by rfl) (fun Kc hKc => ?_); go_big_quiet_op; refine hKc _ ?_; clear hKc Kc)))
        refine loose_fix 103 (.bool true) (f := 17) (args := #[u94, u102]) (fun w => by go_simp; try rfl) (by rfl) (by rfl) (by rfl) (fun _ _ => Iff.rfl) (fun wk hl hd => alike_any _ _ _ _ wk (hd 94 (by decide) u94 (by simp [behind, gadd])) (hd 102 (by decide) u102 (by simp [behind, gadd])) (by simp) (by simp) (by simp)) ?_
        simp only [Act.put, List.setIfInBounds_toArray, List.set_cons_zero, List.set_cons_succ]
        (repeat (first | (refine loose_skip (by rfl) ?_; simp only [Act.put, List.setIfInBounds_toArray, List.set_cons_zero, List.set_cons_succ]) | (refine loose_plain (by rfl) (by rfl) (by rfl) (fun Kc hKc => ?_); go_big_quiet_op; refine hKc _ ?_; clear hKc Kc)))
        refine loose_nil ?_
        intro wz hbz _
        clear l0 l1 l2 l3 l4 l5 l6 l7 l8 l9 l10 l11 l12 l13 l14 l15 l16 l17 l18
        go_wp2_with fail
        go_ret
        exact ⟨rfl, below_trans Hb0.out (below_trans Hbw.out hbz)⟩
end Go.Proofs.YtinlciofhegciaaGreat

/- Arguments, opened by their types. -/
namespace Go.Proofs.YtinlciofhegciaaGreat
open Go.ChangeShapes Go.WideShapes Go.ChangeAt Go.RowKit
section
variable {H : Type} {enc : TypeId × Value → H} {P : Program} {w : World} {r : Reach} {b : Nat} {t e : TypeId} {v : Value}
theorem arg_string (hu : P.underlying t = some .string) (hv : Value.okWide P w r b t v) (h : Rdg enc P w t v.cells.toList) : ∃ l, v = .string (str l) ∧ l.length ≤ 140737488351232 := by
  obtain ⟨s, rfl⟩ := okWide_string hu hv
  obtain ⟨s', hs, hz⟩ := rd_string hu h
  simp [Value.cells] at hs
  subst hs
  refine ⟨s.data.toList, by rw [str_of], ?_⟩
  have : s.data.toList.length = s.size := by rw [← ByteArray.size_data]; simp
  unfold reachBytes at hz
  omega
theorem cell_string {c : Value} (hu : P.underlying t = some .string) (h : Rdg enc P w t [c]) : ∃ l, c = .string (str l) ∧ l.length ≤ 140737488351232 := by
  obtain ⟨s', hs, hz⟩ := rd_string hu h
  simp only [List.cons.injEq, and_true] at hs
  subst hs
  refine ⟨s'.data.toList, by rw [str_of], ?_⟩
  have : s'.data.toList.length = s'.size := by rw [← ByteArray.size_data]; simp
  unfold reachBytes at hz
  omega
theorem arg_i64 (hu : P.underlying t = some (.int .i64)) (hv : Value.okWide P w r b t v) (h : Rdg enc P w t v.cells.toList) : ∃ n : Int, v = .int .i64 n ∧ -9223372036854775808 ≤ n ∧ n ≤ 9223372036854775807 := by
  obtain ⟨n, rfl⟩ := okWide_int hu hv
  obtain ⟨m, hm, hw⟩ := rd_int hu h
  simp [Value.cells] at hm
  subst hm
  exact ⟨n, rfl, bounds_i64 hw⟩
theorem cell_i64 {c : Value} (hu : P.underlying t = some (.int .i64)) (h : Rdg enc P w t [c]) : ∃ n : Int, c = .int .i64 n ∧ -9223372036854775808 ≤ n ∧ n ≤ 9223372036854775807 := by
  obtain ⟨m, hm, hw⟩ := rd_int hu h
  simp only [List.cons.injEq, and_true] at hm
  exact ⟨m, hm, bounds_i64 hw⟩
theorem nat_u64 {n : Int} (h : 0 ≤ n ∧ n ≤ 18446744073709551615) : ∃ m : Nat, n = (m : Int) ∧ m < 18446744073709551616 := ⟨n.toNat, by omega, by omega⟩
theorem arg_u64 (hu : P.underlying t = some (.int .u64)) (hv : Value.okWide P w r b t v) (h : Rdg enc P w t v.cells.toList) : ∃ n : Nat, v = .int .u64 (n : Int) ∧ n < 18446744073709551616 := by
  obtain ⟨n, rfl⟩ := okWide_int hu hv
  obtain ⟨m, hm, hw⟩ := rd_int hu h
  simp [Value.cells] at hm
  subst hm
  obtain ⟨m, rfl, hm⟩ := nat_u64 (bounds_u64 hw)
  exact ⟨m, rfl, hm⟩
theorem cell_u64 {c : Value} (hu : P.underlying t = some (.int .u64)) (h : Rdg enc P w t [c]) : ∃ n : Nat, c = .int .u64 (n : Int) ∧ n < 18446744073709551616 := by
  obtain ⟨m, hm, hw⟩ := rd_int hu h
  simp only [List.cons.injEq, and_true] at hm
  subst hm
  obtain ⟨m, rfl, hm⟩ := nat_u64 (bounds_u64 hw)
  exact ⟨m, rfl, hm⟩
theorem cell_strs {c : Value} (hu : P.underlying t = some (.slice e)) (he : P.underlying e = some .string) (hc : P.cellsOf e = 1) (hb : P.bytesOf e = 16) (h : Rdg enc P w t [c]) :
    ∃ A cap l, c = .slice A l.length cap ∧ Strs w A cap l ∧ (∀ x ∈ l, x.length ≤ 140737488355328) ∧ l.length ≤ 8796093022208 := by
  obtain ⟨A, cap, l, hl, hs, hz, hbs, _⟩ := rd_strs hu he hc h
  simp only [List.cons.injEq, and_true] at hl
  rw [hb] at hbs
  unfold reachBytes at hbs hz
  exact ⟨A, cap, l, hl, hs, fun x hx => by have := hz x hx; omega, by have := hs.len; omega⟩
theorem arg_strs (hu : P.underlying t = some (.slice e)) (he : P.underlying e = some .string) (hc : P.cellsOf e = 1) (hb : P.bytesOf e = 16) (hv : Value.okWide P w r b t v) (h : Rdg enc P w t v.cells.toList) :
    ∃ A cap l, v = .slice A l.length cap ∧ Strs w A cap l ∧ (∀ x ∈ l, x.length ≤ 140737488355328) ∧ l.length ≤ 8796093022208 := by
  obtain ⟨A, n, cap, rfl⟩ := okWide_slice hu hv
  exact cell_strs hu he hc hb h
theorem arg_array2 (hu : P.underlying t = some (.array 2 e)) (hc : P.cellsOf t = 2) (he : P.cellsOf e = 1) (hv : Value.okWide P w r b t v) (h : Rdg enc P w t v.cells.toList) :
    ∃ c0 c1, v = .agg #[c0, c1] ∧ Rdg enc P w e [c0] ∧ Rdg enc P w e [c1] := by
  obtain ⟨cs, rfl, hs⟩ := okWide_agg hu hv
  obtain ⟨c0, c1, hcs, h0, h1⟩ := rd_array2 hu hc he h
  exact ⟨c0, c1, by congr 1; exact Array.ext' hcs, h0, h1⟩
end
end Go.Proofs.YtinlciofhegciaaGreat
