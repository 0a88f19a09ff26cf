/- Joined texts, part 8: contracts of the functions that the laws reach, and what is needed for them. -/
import Derived.Test.YtinlciofhegciaaGreatM7
/- Claims of tries: what stands while they are made. -/
namespace Go.Proofs.YtinlciofhegciaaGreat
open Go.RowKit Go.BigFrame

/-- A row of three that was made from block B on, in a block of type T1; the row v lies elsewhere. -/
def KRow (T1 : TypeId) (B : Nat) (v : Value) (w : World) (r : NumV) : Prop := ∃ b, r.A = some ⟨b, 0, none⟩ ∧ r.cap = r.l.length ∧ B ≤ b ∧ Blk w b T1 (u64s r.l) ∧ some b ≠ v.ownBlock
/-- A claim that is being made in block c. -/
structure KW (T1 : TypeId) (B c : Nat) (tv bv : Value) (pts : List Nat) (rs all : List NumV) (w : World) : Prop where
  blk : Blk w c 29 [tv, bv]
  t : Row w B 22 1 tv pts.length (u64s pts)
  b : Row w B 26 1 bv rs.length (rs.map NumV.val)
  r : ∀ r ∈ all, KRow T1 B tv w r
theorem KRow.below {T1 : TypeId} {B : Nat} {v : Value} {w w' : World} {r : NumV} (h : KRow T1 B v w r) (hl : Lat w w') : KRow T1 B v w' r := let ⟨b, h0, h1, h2, h3, h4⟩ := h; ⟨b, h0, h1, h2, h3.below hl h3.lt, h4⟩
theorem KW.below {T1 : TypeId} {B c : Nat} {tv bv : Value} {pts : List Nat} {rs all : List NumV} {w w' : World} (h : KW T1 B c tv bv pts rs all w) (hl : Lat w w') : KW T1 B c tv bv pts rs all w' :=
  ⟨h.blk.below hl h.blk.lt, h.t.below hl, h.b.below hl, fun r hr => (h.r r hr).below hl⟩
theorem row_ne_blk {w : World} {B b : Nat} {e T : TypeId} {n : Nat} {v : Value} {xs cs : List Value} (h : Row w B e 1 v n xs) (hb : Blk w b T cs) (hne : e ≠ T) : some b ≠ v.ownBlock := by
  intro hv
  rcases h.2 with ⟨rfl, _⟩ | ⟨g, cap, cur, fz, rfl, _, hg, _⟩
  · simp [Value.ownBlock] at hv
  · simp [Value.ownBlock] at hv
    subst hv
    unfold Blk at hb
    rw [hg] at hb
    injection hb with hb
    injection hb with _ hb
    exact hne hb
theorem row_ne_low {w : World} {B c : Nat} {e : TypeId} {sz n : Nat} {v : Value} {xs : List Value} (h : Row w B e sz v n xs) (hc : c < B) : some c ≠ v.ownBlock := by
  intro hv
  have := (h.block c hv.symm).1
  omega
theorem row_ne_row {w : World} {B B' : Nat} {e e' : TypeId} {n n' : Nat} {v v' : Value} {xs xs' : List Value} (h : Row w B e 1 v n xs) (h' : Row w B' e' 1 v' n' xs') (hne : e ≠ e') : v.ownBlock = none ∨ v.ownBlock ≠ v'.ownBlock := by
  cases hv : v.ownBlock with
  | none => exact .inl rfl
  | some k =>
    refine .inr fun hk => ?_
    rcases h.2 with ⟨rfl, _⟩ | ⟨g, cap, cur, fz, rfl, _, hg, _⟩
    · simp [Value.ownBlock] at hv
    · simp [Value.ownBlock] at hv
      subst hv
      rcases h'.2 with ⟨rfl, _⟩ | ⟨g', cap', cur', fz', rfl, _, hg', _⟩
      · simp [Value.ownBlock] at hk
      · simp [Value.ownBlock] at hk
        subst hk
        rw [hg] at hg'
        injection hg' with hg'
        injection hg' with _ hg'
        exact hne hg'
theorem KRow.grown {T1 : TypeId} {B : Nat} {v : Value} {w w' : World} {r : NumV} {ρ : Option Nat} (h : KRow T1 B v w r) (hg : w.grownBy w' ρ) (hne : ∀ b, Blk w b T1 (u64s r.l) → some b ≠ v.ownBlock → some b ≠ ρ) : KRow T1 B v w' r :=
  let ⟨b, h0, h1, h2, h3, h4⟩ := h; ⟨b, h0, h1, h2, h3.grown hg (hne b h3 h4), h4⟩
theorem KRow.set {T1 : TypeId} {B c : Nat} {v : Value} {w : World} {r : NumV} (h : KRow T1 B v w r) (hc : c < B) (o : Nat) (x : Value) : KRow T1 B v (w.setCell ⟨c, o, none⟩ x) r :=
  let ⟨b, h0, h1, h2, h3, h4⟩ := h; ⟨b, h0, h1, h2, h3.other (by show b ≠ c; omega) x, h4⟩
/-- A number was written behind the first row. -/
theorem KW.pushT {T1 : TypeId} {B c : Nat} {tv bv tv1 : Value} {pts : List Nat} {rs all : List NumV} {w w1 : World} (h : KW T1 B c tv bv pts rs all w) (hc : c < B) (x : Nat) (hg : w.grownBy w1 tv.ownBlock) (hr : Row w1 B 22 1 tv1 (pts.length + 1) (u64s pts ++ [.int .u64 (x : Int)]))
    (hw : ∀ b, tv1.ownBlock = some b → tv.ownBlock = some b ∨ w.heap.size ≤ b) : KW T1 B c tv1 bv (pts ++ [x]) rs all (w1.setCell ⟨c, 0, none⟩ tv1) := by
  refine ⟨(h.blk.grown hg (row_ne_low h.t hc)).set 0 tv1, ?_, (h.b.kept hg (row_ne_row h.b h.t (by decide))).other hc 0 tv1, fun r hr => ?_⟩
  · have h1 := hr.other hc 0 tv1
    rw [show u64s (pts ++ [x]) = u64s pts ++ [.int .u64 (x : Int)] by simp [u64s], List.length_append]
    exact h1
  · obtain ⟨b, h0, h1, h2, h3, h4⟩ := (h.r r hr).grown hg (fun _ _ hne => hne)
    refine KRow.set ⟨b, h0, h1, h2, h3, fun he => ?_⟩ hc 0 tv1
    rcases hw b he.symm with he | he
    · exact h4 he.symm
    · obtain ⟨b', h0', _, _, h3', _⟩ := h.r r hr
      rw [h0] at h0'
      injection h0' with h0'
      injection h0' with h0'
      subst h0'
      have := h3'.lt
      omega
/-- A row was written behind the other. -/
theorem KW.pushB {T1 : TypeId} {B c : Nat} {tv bv bv1 : Value} {pts : List Nat} {rs all : List NumV} {w w1 : World} (h : KW T1 B c tv bv pts rs all w) (hT : 26 ≠ T1) (hc : c < B) (r0 : NumV) (hg : w.grownBy w1 bv.ownBlock) (hr : Row w1 B 26 1 bv1 (rs.length + 1) (rs.map NumV.val ++ [r0.val])) :
    KW T1 B c tv bv1 pts (rs ++ [r0]) all (w1.setCell ⟨c, 1, none⟩ bv1) := by
  refine ⟨(h.blk.grown hg (row_ne_low h.b hc)).set 1 bv1, (h.t.kept hg (row_ne_row h.t h.b (by decide))).other hc 1 bv1, ?_, fun r hr => ?_⟩
  · have h1 := hr.other hc 1 bv1
    rw [List.map_append, List.length_append]
    exact h1
  · exact ((h.r r hr).grown hg (fun b hb _ => row_ne_blk h.b hb hT)).set hc 1 bv1
theorem KW.more {T1 : TypeId} {B c : Nat} {tv bv : Value} {pts : List Nat} {rs all : List NumV} {w : World} (h : KW T1 B c tv bv pts rs all w) (r0 : NumV) (hr : KRow T1 B tv w r0) : KW T1 B c tv bv pts rs (all ++ [r0]) w :=
  ⟨h.blk, h.t, h.b, fun r hr' => (List.mem_append.1 hr').elim (h.r r) fun h1 => by simp at h1; subst h1; exact hr⟩
/-- The first state: nothing was written. -/
theorem KW.first {T1 : TypeId} {B c : Nat} {w : World} (hb : Blk w c 29 [.slice none 0 0, .slice none 0 0]) : KW T1 B c (.slice none 0 0) (.slice none 0 0) [] [] [] w :=
  ⟨hb, Row.nil _ _ _ _, Row.nil _ _ _ _, fun _ h => by simp at h⟩
/-- A block that is new now lies in no older row. -/
theorem KW.own_lt {T1 : TypeId} {B c : Nat} {tv bv : Value} {pts : List Nat} {rs all : List NumV} {w : World} (h : KW T1 B c tv bv pts rs all w) {b : Nat} (hb : w.heap.size ≤ b) : some b ≠ tv.ownBlock := fun he => by
  have := (h.t.block b he.symm).2; omega
theorem KW.out {T1 : TypeId} {B c : Nat} {tv bv : Value} {pts : List Nat} {rs : List NumV} {L : List (List Nat)} {w : World} (h : KW T1 B c tv bv pts rs rs w) (hn : 0 < rs.length) (hL : rs.map (·.l) = L) (hp : ∀ x ∈ pts, x < 18446744073709551616) (hl : ∀ l ∈ L, ∀ x ∈ l, x < 18446744073709551616) : OutClaim pts L (.returned (.agg #[tv, bv])) w := by
  obtain ⟨A, cT, hv, hN⟩ := nums_of_row h.t hp
  obtain ⟨g, cap, hv2, _, _, hcap, hcells⟩ := h.b.form hn
  refine ⟨A, cT, some ⟨g, 0, none⟩, cap, rs, by rw [hv, hv2]; rfl, hN, ⟨hcap, fun i r hr => ⟨_, rfl, ?_⟩, fun r hr => ?_⟩, hL⟩
  · rw [blk_add]
    exact (hcells i r.val (by rw [List.getElem?_map, hr]; rfl)).1
  · obtain ⟨b, h0, h1, _, h3, _⟩ := h.r r hr
    rw [h0, h1]
    exact Nums.of_blk h3 (hl _ (by rw [← hL]; exact List.mem_map.2 ⟨r, hr, rfl⟩))
theorem Tryz.un_numss : Tryz.prog.underlying 27 = some (.slice 26) := by kernel_rfl
theorem Tryz.inf_nums : (Tryz.prog.info? 26).map (fun i => (i.zero, i.size, i.bytes)) = some (some (.slice none 0 0), 1, 24) := by kernel_rfl
theorem lat_alloc {w w' : World} (h : Lat w w') (o : Obj) : Lat w (w'.alloc o) := Below.alloc h h.size o
def slist (p0 q0 p1 q1 p2 q2 : Nat) : List Value := [.int .u64 (p0 : Int), .int .u64 (q0 : Int), .int .u64 (p1 : Int), .int .u64 (q1 : Int), .int .u64 (p2 : Int), .int .u64 (q2 : Int)]
def sval (p0 q0 p1 q1 p2 q2 : Nat) : Value := .agg #[.int .u64 (p0 : Int), .int .u64 (q0 : Int), .int .u64 (p1 : Int), .int .u64 (q1 : Int), .int .u64 (p2 : Int), .int .u64 (q2 : Int)]
/-- What stands around the claim that is being made in block w0.heap.size + 3. -/
structure KF (gl sl : List Value) (w0 w : World) : Prop where
  g : Blk w w0.heap.size 25 gl
  s : Blk w (w0.heap.size + 1) 46 sl
  o : Blk w (w0.heap.size + 2) 29 [.slice none 0 0, .slice none 0 0]
  b : Below w0.heap.size w0 w
theorem KF.below {gl sl : List Value} {w0 w w' : World} (h : KF gl sl w0 w) (hl : Lat w w') : KF gl sl w0 w' := ⟨h.g.below hl h.g.lt, h.s.below hl h.s.lt, h.o.below hl h.o.lt, below_trans h.b hl⟩
theorem KF.grown {gl sl : List Value} {w0 w w' : World} {ρ : Option Nat} (h : KF gl sl w0 w) (hg : w.grownBy w' ρ) (hlow : ∀ c, c < w0.heap.size + 4 → some c ≠ ρ) : KF gl sl w0 w' :=
  ⟨h.g.grown hg (hlow _ (by omega)), h.s.grown hg (hlow _ (by omega)), h.o.grown hg (hlow _ (by omega)), ⟨hg.os.trans h.b.os, hg.tape.trans h.b.tape, hg.output.trans h.b.output, Nat.le_trans h.b.size hg.size, fun k hk => (hg.block k (Nat.lt_of_lt_of_le hk h.b.size) (hlow k (by omega))).trans (h.b.block k hk)⟩⟩
theorem KF.set {gl sl : List Value} {w0 w : World} (h : KF gl sl w0 w) {c : Nat} (hc : w0.heap.size + 3 ≤ c) (o : Nat) (x : Value) : KF gl sl w0 (w.setCell ⟨c, o, none⟩ x) :=
  ⟨h.g.other (by show _ ≠ c; omega) x, h.s.other (by show _ ≠ c; omega) x, h.o.other (by show _ ≠ c; omega) x, below_set h.b (by omega) o x⟩
theorem KF.first (P Q G H p0 q0 p1 q1 p2 q2 : Nat) (R : Value) (w W : World) (h : W = (((w.alloc (.cells #[.int .u64 (P : Int), .int .u64 (Q : Int), .int .u64 (G : Int), .int .u64 (H : Int), R] 25)).alloc (.cells #[.int .u64 (p0 : Int), .int .u64 (q0 : Int), .int .u64 (p1 : Int), .int .u64 (q1 : Int), .int .u64 (p2 : Int), .int .u64 (q2 : Int)] 46)).alloc (.cells #[.slice none 0 0, .slice none 0 0] 29)).alloc (.cells #[.slice none 0 0, .slice none 0 0] 29)) :
    KF (glist P Q G H R) (slist p0 q0 p1 q1 p2 q2) w W := by
  subst h
  exact ⟨(((Blk.of w _ _ _ rfl).alloc _).alloc _).alloc _, ((Blk.at_new _ _ _ _ _ (by simp) rfl).alloc _).alloc _, (Blk.at_new _ _ _ _ _ (by simp) rfl).alloc _, lat_alloc (lat_alloc (lat_alloc (lat_alloc (Below.refl _ _) _) _) _) _⟩
section
variable {P : Program} {N B : Nat} {e : TypeId} {v y : Value} {xs : List Value} {σ τ : Nat}
/-- What is known in a region that appends y to the row v: the slice of one, and the new row. -/
def oneK (N B : Nat) (e : TypeId) (v y : Value) (xs : List Value) (σ τ : Nat) : List (Nat × (Value → World → Prop)) :=
  [(σ, fun u wx => ∃ b, u = .slice (some ⟨b, 0, none⟩) 1 1 ∧ N ≤ b ∧ Blk wx b e [y]), (τ, fun u wx => Row wx B e 1 u (xs.length + 1) (xs ++ [y]) ∧ ∀ b, u.ownBlock = some b → v.ownBlock = some b ∨ N ≤ b)]
theorem oneK_stable : Know.stable (oneK N B e v y xs σ τ) :=
  Know.stable_cons (fun _ _ _ h hl => let ⟨b, h0, h1, h2⟩ := h; ⟨b, h0, h1, h2.below hl h2.lt⟩) (Know.stable_cons (fun _ _ _ h hl => ⟨h.1.below hl, h.2⟩) Know.stable_nil)
theorem oneK_R (hN : ∀ b, v.ownBlock = some b → b < N) : ∀ t u w w', t ≠ τ → Know.at t u w (oneK N B e v y xs σ τ) → LatR v.ownBlock w w' → Know.at t u w' (oneK N B e v y xs σ τ) := by
  intro t u w w' ht ha hl
  unfold oneK Know.at at *
  split
  · rename_i h1
    simp only [h1, if_true] at ha
    obtain ⟨b, h0, hb, h2⟩ := ha
    refine ⟨b, h0, hb, h2.grown hl fun he => ?_⟩
    have := hN b he.symm
    omega
  · rename_i h1
    unfold Know.at
    rw [if_neg ht]
    unfold Know.at
    trivial
theorem region_one {id : Nat} {Q : Exit → Act → World → Prop} {a : Act} {w : World} {l : List Oper} (σ τ α n : Nat) (hστ : σ ≠ τ) (HO : Row w B e 1 v xs.length xs) (y : Value) (hB0 : B ≤ w.heap.size) (hl : xs.length + 1 ≤ 1000)
    (hτ : tauA l.toArray α = τ) (hon : onlyB (oneK w.heap.size B e v y xs σ τ) l α τ = true) (hm : P.follows .mixedOrders = true) (hB : floatB .any l.toArray n = true) (hu : unmarkedB (oneK w.heap.size B e v y xs σ τ) l.toArray = true)
    (h : wpLooseA P l.toArray (oneK w.heap.size B e v y xs σ τ) α v.ownBlock w (fun a' g => ∀ w', LatR v.ownBlock w w' → Known (oneK w.heap.size B e v y xs σ τ) g w' → wpList P l.toArray (NoPanic Q) (l.drop n) a' w') 0 (l.take n) a (fun _ _ => False)) :
    (Code.region id l.toArray true).wp P Q a w := by
  refine region_append (oneK w.heap.size B e v y xs σ τ) α τ v.ownBlock n oneK_stable (oneK_R fun b hb => (HO.block b hb).2) hτ hon ?_ hm hB hu h
  intro w1 hl1
  obtain ⟨u, w2, h1, h2, h3⟩ := some_row (B := B) (e := e) (xs := xs ++ [y]) (ρ := v.ownBlock) w1 (Nat.le_trans hB0 hl1.size) (by rw [List.length_append]; simp only [List.length_cons, List.length_nil, maxLen]; omega)
  refine ⟨u, w2, h1, ?_⟩
  unfold oneK Know.at
  rw [if_neg hστ.symm]
  unfold Know.at
  rw [if_pos rfl]
  refine ⟨by rw [List.length_append] at h2; exact h2, fun b hb => .inr ?_⟩
  rw [h3] at hb
  injection hb with hb
  have := hl1.size
  omega
end
theorem ix_box0 (p0 q0 p1 q1 p2 q2 : Nat) (w : World) : (Instr.index 46 (.agg #[.int .u64 (p0 : Int), .int .u64 (q0 : Int), .int .u64 (p1 : Int), .int .u64 (q1 : Int), .int .u64 (p2 : Int), .int .u64 (q2 : Int)]) (.int .i64 0)).run Tryz.prog w = .ok (.agg #[.int .u64 (p0 : Int), .int .u64 (q0 : Int)]) w := by
  kernel_rfl
theorem ix_box1 (p0 q0 p1 q1 p2 q2 : Nat) (w : World) : (Instr.index 46 (.agg #[.int .u64 (p0 : Int), .int .u64 (q0 : Int), .int .u64 (p1 : Int), .int .u64 (q1 : Int), .int .u64 (p2 : Int), .int .u64 (q2 : Int)]) (.int .i64 1)).run Tryz.prog w = .ok (.agg #[.int .u64 (p1 : Int), .int .u64 (q1 : Int)]) w := by
  kernel_rfl
theorem ix_box2 (p0 q0 p1 q1 p2 q2 : Nat) (w : World) : (Instr.index 46 (.agg #[.int .u64 (p0 : Int), .int .u64 (q0 : Int), .int .u64 (p1 : Int), .int .u64 (q1 : Int), .int .u64 (p2 : Int), .int .u64 (q2 : Int)]) (.int .i64 2)).run Tryz.prog w = .ok (.agg #[.int .u64 (p2 : Int), .int .u64 (q2 : Int)]) w := by
  kernel_rfl
/-- Another low block is written. -/
theorem KW.low {T1 : TypeId} {B c : Nat} {tv bv : Value} {pts : List Nat} {rs all : List NumV} {w : World} (h : KW T1 B c tv bv pts rs all w) {o : Nat} (ho : o < B) (hc : o ≠ c) (j : Nat) (x : Value) : KW T1 B c tv bv pts rs all (w.setCell ⟨o, j, none⟩ x) :=
  ⟨h.blk.other (by show c ≠ o; omega) x, h.t.other ho j x, h.b.other ho j x, fun r hr => (h.r r hr).set ho j x⟩
end Go.Proofs.YtinlciofhegciaaGreat

/- Sealing, as the reference does it: walks. -/
namespace Go.Proofs.YtinlciofhegciaaGreat
open Go.RowKit Go.BigFrame

theorem prodG_lt {P : Nat} (l : List Nat) : prodG P l < 18446744073709551616 := prodG_bound P l 1 (by omega)
theorem expG_lt {P Q b e : Nat} (hP : P < 18446744073709551616) : expG P Q b e < 18446744073709551616 := by have := powM_le b (e % Q) P; show powM _ _ _ < _; omega
def w2 (P Q G H : Nat) (R : Value) (w : World) : World := w.alloc (.cells #[.int .u64 (P : Int), .int .u64 (Q : Int), .int .u64 (G : Int), .int .u64 (H : Int), R] 25)

set_option maxRecDepth 100000 in
set_option maxHeartbeats 1000000 in
theorem refKey_any (P Q G H x : Nat) (R : Value) (w : World) (hP : P < 18446744073709551616) (hQ : Q < 18446744073709551616) (hQ2 : 2 ≤ Q) (hG : G < 18446744073709551616) (hx : x < 18446744073709551616) :
    Calls Tryz.prog 26 #[gval P Q G H R, .int .u64 (x : Int)] w fun e w' => e = .returned (.int .u64 (expG P Q G x : Int)) ∧ Below w.heap.size w w' := by
  have hc := fun W => refExp_any P Q G H G x R W hP hQ hQ2 hG hx
  obtain ⟨E, hE⟩ : ∃ E, E = expG P Q G x := ⟨_, rfl⟩
  rw [← hE] at hc ⊢
  unfold gval at hc ⊢
  have Hc := Lib.hid hc
  have Hb := Lib.hid (lat_alloc (Below.refl w.heap.size w) (.cells #[.int .u64 (P : Int), .int .u64 (Q : Int), .int .u64 (G : Int), .int .u64 (H : Int), R] 25))
  clear hc hE
  go_enter Tryz.func26, Tryz.ntmps26
  go_wp2_with (go_at_call 45; refine (Hc.out _).mono ?_; rintro e w3 ⟨rfl, hb3⟩; have Hb3 := Lib.hid hb3; clear hb3)
  go_ret
  exact ⟨rfl, below_trans Hb.out Hb3.out⟩

set_option maxRecDepth 100000 in
set_option maxHeartbeats 1000000 in
theorem refShare_any (P Q G H x U V : Nat) (R : Value) (w : World) (hP : P < 18446744073709551616) (hQ : Q < 18446744073709551616) (hQ2 : 2 ≤ Q) (hU : U < 18446744073709551616) (hx : x < 18446744073709551616) :
    Calls Tryz.prog 30 #[gval P Q G H R, .int .u64 (x : Int), .agg #[.int .u64 (U : Int), .int .u64 (V : Int)]] w fun e w' => e = .returned (.int .u64 (expG P Q U x : Int)) ∧ Below w.heap.size w w' := by
  have hc := fun W => refExp_any P Q G H U x R W hP hQ hQ2 hU hx
  obtain ⟨E, hE⟩ : ∃ E, E = expG P Q U x := ⟨_, rfl⟩
  rw [← hE] at hc ⊢
  unfold gval at hc ⊢
  have Hc := Lib.hid hc
  have Hb := Lib.hid (lat_alloc (lat_alloc (Below.refl w.heap.size w) (.cells #[.int .u64 (P : Int), .int .u64 (Q : Int), .int .u64 (G : Int), .int .u64 (H : Int), R] 25)) (.cells #[.int .u64 (U : Int), .int .u64 (V : Int)] 44))
  clear hc hE
  go_enter Tryz.func30, Tryz.ntmps30
  go_wp2_with (go_at_call 45; refine (Hc.out _).mono ?_; rintro e w3 ⟨rfl, hb3⟩; have Hb3 := Lib.hid hb3; clear hb3)
  go_ret
  exact ⟨rfl, below_trans Hb.out Hb3.out⟩

set_option maxRecDepth 100000 in
set_option maxHeartbeats 1000000 in
theorem refEnter_any (U V : Nat) (w : World) :
    Calls Tryz.prog 28 #[.agg #[.int .u64 (U : Int), .int .u64 (V : Int)]] w fun e w' => e = .returned (.agg #[.int .u64 (U : Int), .int .u64 ((1 : Nat) : Int), .int .u64 (V : Int)]) ∧ Below w.heap.size w w' := by
  go_enter Tryz.func28, Tryz.ntmps28
  go_wp2_with fail
  obtain ⟨wz, hwz⟩ : ∃ wz, wz = (w.alloc (.cells #[.int .u64 (U : Int), .int .u64 (V : Int)] 44)).alloc (.cells #[.int .u64 (U : Int), .int .u64 1, .int .u64 (V : Int)] 48) := ⟨_, rfl⟩
  rw [← hwz]
  have hk : Blk wz (w.heap.size + 1) 48 [.int .u64 (U : Int), .int .u64 1, .int .u64 (V : Int)] := by rw [hwz]; exact Blk.at_new _ _ _ _ _ (by simp) rfl
  have k0 := hk.cell 0
  have k1 := hk.cell 1
  have k2 := hk.cell 2
  simp only [List.getElem?_cons_zero, List.getElem?_cons_succ] at k0 k1 k2
  have Hb := Lib.hid (show Lat w wz by rw [hwz]; exact lat_alloc (lat_alloc (Below.refl _ _) _) _)
  clear hwz hk
  exact bodyPost_ret (v := .agg #[.int .u64 (U : Int), .int .u64 1, .int .u64 (V : Int)]) (by simp [results, Tryz.results28, go_sem, k0, k1, k2]) rfl ⟨rfl, Hb.out⟩

/-- What sealing again gives. -/
def againU (P Q G U r : Nat) : Nat := prodG P [U, expG P Q G r]
def againV (P Q key V r : Nat) : Nat := prodG P [V, expG P Q key r]

set_option maxRecDepth 100000 in
set_option maxHeartbeats 2000000 in
theorem refAgain_any (P Q G H key U V r : Nat) (R : Value) (w : World) (hP : P < 18446744073709551616) (hQ : Q < 18446744073709551616) (hQ2 : 2 ≤ Q) (hG : G < 18446744073709551616) (hk : key < 18446744073709551616) (hU : U < 18446744073709551616) (hV : V < 18446744073709551616) (hr : r < 18446744073709551616) :
    Calls Tryz.prog 46 #[gval P Q G H R, .int .u64 (key : Int), .agg #[.int .u64 (U : Int), .int .u64 (V : Int)], .int .u64 (r : Int)] w fun e w' => e = .returned (.agg #[.int .u64 (againU P Q G U r : Int), .int .u64 (againV P Q key V r : Int)]) ∧ Below w.heap.size w w' := by
  obtain ⟨E1, hE1⟩ : ∃ E, E = expG P Q G r := ⟨_, rfl⟩
  obtain ⟨E2, hE2⟩ : ∃ E, E = expG P Q key r := ⟨_, rfl⟩
  have hb1 : E1 < 18446744073709551616 := by rw [hE1]; exact expG_lt hP
  have hb2 : E2 < 18446744073709551616 := by rw [hE2]; exact expG_lt hP
  have hc1 := fun W => refExp_any P Q G H G r R W hP hQ hQ2 hG hr
  have hc2 := fun W => refExp_any P Q G H key r R W hP hQ hQ2 hk hr
  have hd1 := fun A c W h => refProd_any P Q G H R A c [U, E1] W hP (by simp) h
  have hd2 := fun A c W h => refProd_any P Q G H R A c [V, E2] W hP (by simp) h
  obtain ⟨M1, hM1⟩ : ∃ M, M = againU P Q G U r := ⟨_, rfl⟩
  obtain ⟨M2, hM2⟩ : ∃ M, M = againV P Q key V r := ⟨_, rfl⟩
  rw [← hE1] at hc1
  rw [← hE2] at hc2
  rw [show prodG P [U, E1] = M1 by rw [hM1, hE1]; rfl] at hd1
  rw [show prodG P [V, E2] = M2 by rw [hM2, hE2]; rfl] at hd2
  rw [← hM1, ← hM2]
  unfold gval at hc1 hc2 hd1 hd2 ⊢
  obtain ⟨w0, hw0⟩ : ∃ w0, w0 = ((w.alloc (.cells #[.int .u64 (P : Int), .int .u64 (Q : Int), .int .u64 (G : Int), .int .u64 (H : Int), R] 25)).alloc (.cells #[.int .u64 (U : Int), .int .u64 (V : Int)] 44)).alloc (.cells #[.int .u64 0, .int .u64 0] 44) := ⟨_, rfl⟩
  have hg0 : Blk w0 w.heap.size 25 (glist P Q G H R) := by rw [hw0]; exact ((Blk.of w _ _ _ rfl).alloc _).alloc _
  have hu0 : Blk w0 (w.heap.size + 1) 44 [.int .u64 (U : Int), .int .u64 (V : Int)] := by rw [hw0]; exact (Blk.at_new _ _ _ _ _ (by simp) rfl).alloc _
  have ho0 : Blk w0 (w.heap.size + 1 + 1) 44 [.int .u64 0, .int .u64 0] := by rw [hw0]; exact Blk.at_new _ _ _ _ _ (by simp) rfl
  have hb0 : Lat w w0 := by rw [hw0]; exact lat_alloc (lat_alloc (lat_alloc (Below.refl _ _) _) _) _
  have Hc1 := Lib.hid hc1
  have Hc2 := Lib.hid hc2
  have Hd1 := Lib.hid hd1
  have Hd2 := Lib.hid hd2
  have Hw0 := Lib.hid hw0
  have Hg0 := Lib.hid hg0
  have Hu0 := Lib.hid hu0
  have Ho0 := Lib.hid ho0
  have Hb0 := Lib.hid hb0
  obtain ⟨g0, g1, g2, g3, g4⟩ := gcells hg0
  obtain ⟨u0, u1⟩ := two_cells hu0
  clear hc1 hc2 hd1 hd2 hE1 hE2 hM1 hM2 hw0 hg0 hu0 ho0 hb0
  go_enter Tryz.func46, Tryz.ntmps46
  go_wp2_with fail
  rw [← Hw0.out]
  have l0 := Later.cell g0
  have l1 := Later.cell g1
  have l2 := Later.cell g2
  have l3 := Later.cell g3
  have l4 := Later.cell g4
  have l5 := Later.cell u0
  have l6 := Later.cell u1
  refine region_loose [(18, fun u _ => u = .int .u64 (E1 : Int)), (19, fun u w => ∃ A c, u = .slice A 2 c ∧ Nums w A c [U, E1]), (20, fun u _ => u = .int .u64 (M1 : Int))]
    (Know.stable_cons (fun _ _ _ h _ => h) (Know.stable_cons (fun _ _ _ h hl => let ⟨A, c, e, hn⟩ := h; ⟨A, c, e, hn.below hl⟩) (Know.stable_cons (fun _ _ _ h _ => h) Know.stable_nil))) (by kernel_rfl) (by kernel_rfl) ?_
  (repeat (first | (refine loose_skip (by rfl) ?_; simp only [Act.put, List.setIfInBounds_toArray, List.set_cons_zero, List.set_cons_succ]) | (refine loose_plain (by rfl) (by rfl) (by rfl) (fun Kc hKc => ?_); go_big_quiet_op; refine hKc _ ?_; clear hKc Kc)))
  refine loose_fix 18 (.int .u64 (E1 : Int)) (f := 45) (args := #[.agg #[.int .u64 (P : Int), .int .u64 (Q : Int), .int .u64 (G : Int), .int .u64 (H : Int), R], .int .u64 (G : Int), .int .u64 (r : Int)]) (fun w => by go_simp; try rfl) (by rfl) (by rfl) (by rfl) (fun _ _ => Iff.rfl) (fun wk _ _ => Hc1.out wk) ?_
  simp only [Act.put, List.setIfInBounds_toArray, List.set_cons_zero, List.set_cons_succ]
  refine loose_make 19 (V := fun w => .slice (some ⟨w.heap.size, 0, none⟩) 2 2) (W := fun w => w.alloc (.cells #[.int .u64 (U : Int), .int .u64 (E1 : Int)] 22)) (fun w => by go_simp) (by rfl) (by rfl) (by rfl) (fun w _ _ => ⟨(Below.refl _ _).alloc (Nat.le_refl _) _, _, _, rfl, nums_two w U E1 _ hU hb1⟩) ?_
  rintro _ wk hlk ⟨As, cs, rfl, _⟩
  simp only [Act.put, List.setIfInBounds_toArray, List.set_cons_zero, List.set_cons_succ]
  (repeat (first | (refine loose_skip (by rfl) ?_; simp only [Act.put, List.setIfInBounds_toArray, List.set_cons_zero, List.set_cons_succ]) | (refine loose_plain (by rfl) (by rfl) (by rfl) (fun Kc hKc => ?_); go_big_quiet_op; refine hKc _ ?_; clear hKc Kc)))
  refine loose_fix 20 (.int .u64 (M1 : Int)) (f := 47) (args := #[.agg #[.int .u64 (P : Int), .int .u64 (Q : Int), .int .u64 (G : Int), .int .u64 (H : Int), R], .slice As 2 cs]) (fun w => by go_simp; try rfl) (by rfl) (by rfl) (by rfl) (fun _ _ => Iff.rfl) (fun wk _ hd => by
    obtain ⟨A', c', he, hn⟩ := hd 19 (by decide) _ (.inl ⟨rfl, rfl⟩)
    injection he with h1 _ h2
    subst h1 h2
    exact Hd1.out As cs wk hn) ?_
  simp only [Act.put, List.setIfInBounds_toArray, List.set_cons_zero, List.set_cons_succ]
  (repeat (first | (refine loose_skip (by rfl) ?_; simp only [Act.put, List.setIfInBounds_toArray, List.set_cons_zero, List.set_cons_succ]) | (refine loose_plain (by rfl) (by rfl) (by rfl) (fun Kc hKc => ?_); go_big_quiet_op; refine hKc _ ?_; clear hKc Kc)))
  refine loose_nil ?_
  intro wq hbq _
  have Hbq := Lib.hid hbq
  obtain ⟨g0, g1, g2, g3, g4⟩ := gcells (Hg0.out.below hbq Hg0.out.lt)
  obtain ⟨u0, u1⟩ := two_cells (Hu0.out.below hbq Hu0.out.lt)
  clear l0 l1 l2 l3 l4 l5 l6 hbq hlk
  go_wp2_with fail
  have l0 := Later.cell g0
  have l1 := Later.cell g1
  have l2 := Later.cell g2
  have l3 := Later.cell g3
  have l4 := Later.cell g4
  have l5 := Later.cell u0
  have l6 := Later.cell u1
  refine region_loose [(27, fun u _ => u = .int .u64 (E2 : Int)), (28, fun u w => ∃ A c, u = .slice A 2 c ∧ Nums w A c [V, E2]), (29, fun u _ => u = .int .u64 (M2 : Int))]
    (Know.stable_cons (fun _ _ _ h _ => h) (Know.stable_cons (fun _ _ _ h hl => let ⟨A, c, e, hn⟩ := h; ⟨A, c, e, hn.below hl⟩) (Know.stable_cons (fun _ _ _ h _ => h) Know.stable_nil))) (by kernel_rfl) (by kernel_rfl) ?_
  (repeat (first | (refine loose_skip (by rfl) ?_; simp only [Act.put, List.setIfInBounds_toArray, List.set_cons_zero, List.set_cons_succ]) | (refine loose_plain (by rfl) (by rfl) (by rfl) (fun Kc hKc => ?_); go_big_quiet_op; refine hKc _ ?_; clear hKc Kc)))
  refine loose_fix 27 (.int .u64 (E2 : Int)) (f := 45) (args := #[.agg #[.int .u64 (P : Int), .int .u64 (Q : Int), .int .u64 (G : Int), .int .u64 (H : Int), R], .int .u64 (key : Int), .int .u64 (r : Int)]) (fun w => by go_simp; try rfl) (by rfl) (by rfl) (by rfl) (fun _ _ => Iff.rfl) (fun wk _ _ => Hc2.out wk) ?_
  simp only [Act.put, List.setIfInBounds_toArray, List.set_cons_zero, List.set_cons_succ]
  refine loose_make 28 (V := fun w => .slice (some ⟨w.heap.size, 0, none⟩) 2 2) (W := fun w => w.alloc (.cells #[.int .u64 (V : Int), .int .u64 (E2 : Int)] 22)) (fun w => by go_simp) (by rfl) (by rfl) (by rfl) (fun w _ _ => ⟨(Below.refl _ _).alloc (Nat.le_refl _) _, _, _, rfl, nums_two w V E2 _ hV hb2⟩) ?_
  rintro _ wk hlk ⟨As2, cs2, rfl, _⟩
  simp only [Act.put, List.setIfInBounds_toArray, List.set_cons_zero, List.set_cons_succ]
  (repeat (first | (refine loose_skip (by rfl) ?_; simp only [Act.put, List.setIfInBounds_toArray, List.set_cons_zero, List.set_cons_succ]) | (refine loose_plain (by rfl) (by rfl) (by rfl) (fun Kc hKc => ?_); go_big_quiet_op; refine hKc _ ?_; clear hKc Kc)))
  refine loose_fix 29 (.int .u64 (M2 : Int)) (f := 47) (args := #[.agg #[.int .u64 (P : Int), .int .u64 (Q : Int), .int .u64 (G : Int), .int .u64 (H : Int), R], .slice As2 2 cs2]) (fun w => by go_simp; try rfl) (by rfl) (by rfl) (by rfl) (fun _ _ => Iff.rfl) (fun wk _ hd => by
    obtain ⟨A', c', he, hn⟩ := hd 28 (by decide) _ (.inl ⟨rfl, rfl⟩)
    injection he with h1 _ h2
    subst h1 h2
    exact Hd2.out As2 cs2 wk hn) ?_
  simp only [Act.put, List.setIfInBounds_toArray, List.set_cons_zero, List.set_cons_succ]
  (repeat (first | (refine loose_skip (by rfl) ?_; simp only [Act.put, List.setIfInBounds_toArray, List.set_cons_zero, List.set_cons_succ]) | (refine loose_plain (by rfl) (by rfl) (by rfl) (fun Kc hKc => ?_); go_big_quiet_op; refine hKc _ ?_; clear hKc Kc)))
  refine loose_nil ?_
  intro wz hbz _
  have hbt := below_trans Hbq.out hbz
  obtain ⟨o0, o1⟩ := two_cells (Ho0.out.below hbt Ho0.out.lt)
  have f0 := (Ho0.out.below hbt Ho0.out.lt).frozen 0
  have f1 := (Ho0.out.below hbt Ho0.out.lt).frozen 1
  obtain ⟨wy, hwy⟩ : ∃ wy, wy = (wz.setCell ⟨w.heap.size + 1 + 1, 0, none⟩ (.int .u64 (M1 : Int))).setCell ⟨w.heap.size + 1 + 1, 1, none⟩ (.int .u64 (M2 : Int)) := ⟨_, rfl⟩
  have hy := ((Ho0.out.below hbt Ho0.out.lt).set 0 (.int .u64 (M1 : Int))).set 1 (.int .u64 (M2 : Int))
  have hby : Lat w wy := by rw [hwy]; exact below_set (below_set (below_trans Hb0.out hbt) (by omega) _ _) (by omega) _ _
  rw [show List.set (List.set [Value.int .u64 0, .int .u64 0] 0 (.int .u64 (M1 : Int))) 1 (.int .u64 (M2 : Int)) = [.int .u64 (M1 : Int), .int .u64 (M2 : Int)] from rfl, ← hwy] at hy
  obtain ⟨y0, y1⟩ := two_cells hy
  have Hby := Lib.hid hby
  have Hwy := Lib.hid hwy
  clear l0 l1 l2 l3 l4 l5 l6 hbz hlk hbt hy hby hwy g0 g1 g2 g3 g4 u0 u1
  go_wp2_with fail
  rw [← Hwy.out]
  exact bodyPost_ret (v := .agg #[.int .u64 (M1 : Int), .int .u64 (M2 : Int)]) (by simp [results, Tryz.results46, go_sem, y0, y1]) rfl ⟨rfl, Hby.out⟩
/-- Sealed: the key's pair of one and the number, sealed again. -/
theorem refSeal_any (P Q G H key n r : Nat) (R : Value) (w : World) (hP : P < 18446744073709551616) (hQ : Q < 18446744073709551616) (hQ2 : 2 ≤ Q) (hG : G < 18446744073709551616) (hk : key < 18446744073709551616) (hn : n < 18446744073709551616) (hr : r < 18446744073709551616) :
    Calls Tryz.prog 27 #[gval P Q G H R, .int .u64 (key : Int), .int .u64 (n : Int), .int .u64 (r : Int)] w fun e w' => e = .returned (.agg #[.int .u64 (againU P Q G 1 r : Int), .int .u64 (againV P Q key n r : Int)]) ∧ Below w.heap.size w w' := by
  have hc := fun W => refAgain_any P Q G H key 1 n r R W hP hQ hQ2 hG hk (by omega) hn hr
  obtain ⟨M1, hM1⟩ : ∃ M, M = againU P Q G 1 r := ⟨_, rfl⟩
  obtain ⟨M2, hM2⟩ : ∃ M, M = againV P Q key n r := ⟨_, rfl⟩
  rw [← hM1, ← hM2] at hc ⊢
  unfold gval at hc ⊢
  obtain ⟨w0, hw0⟩ : ∃ w0, w0 = (w.alloc (.cells #[.int .u64 (P : Int), .int .u64 (Q : Int), .int .u64 (G : Int), .int .u64 (H : Int), R] 25)).alloc (.cells #[.int .u64 0, .int .u64 0] 44) := ⟨_, rfl⟩
  have ho0 : Blk w0 (w.heap.size + 1) 44 [.int .u64 0, .int .u64 0] := by rw [hw0]; exact Blk.at_new _ _ _ _ _ (by simp) rfl
  have hb0 : Lat w w0 := by rw [hw0]; exact lat_alloc (lat_alloc (Below.refl _ _) _) _
  have Hc := Lib.hid hc
  have Hw0 := Lib.hid hw0
  have Ho0 := Lib.hid ho0
  have Hb0 := Lib.hid hb0
  clear hc hM1 hM2 hw0 ho0 hb0
  go_enter Tryz.func27, Tryz.ntmps27
  go_wp2_with fail
  rw [← Hw0.out]
  refine (Hc.out w0).mono ?_
  rintro e wz ⟨rfl, hbt⟩
  obtain ⟨o0, o1⟩ := two_cells (Ho0.out.below hbt Ho0.out.lt)
  have f0 := (Ho0.out.below hbt Ho0.out.lt).frozen 0
  have f1 := (Ho0.out.below hbt Ho0.out.lt).frozen 1
  obtain ⟨wy, hwy⟩ : ∃ wy, wy = (wz.setCell ⟨w.heap.size + 1, 0, none⟩ (.int .u64 (M1 : Int))).setCell ⟨w.heap.size + 1, 1, none⟩ (.int .u64 (M2 : Int)) := ⟨_, rfl⟩
  have hy := ((Ho0.out.below hbt Ho0.out.lt).set 0 (.int .u64 (M1 : Int))).set 1 (.int .u64 (M2 : Int))
  have hby : Lat w wy := by rw [hwy]; exact below_set (below_set (below_trans Hb0.out hbt) (by omega) _ _) (by omega) _ _
  rw [show List.set (List.set [Value.int .u64 0, .int .u64 0] 0 (.int .u64 (M1 : Int))) 1 (.int .u64 (M2 : Int)) = [.int .u64 (M1 : Int), .int .u64 (M2 : Int)] from rfl, ← hwy] at hy
  obtain ⟨y0, y1⟩ := two_cells hy
  have Hby := Lib.hid hby
  have Hwy := Lib.hid hwy
  clear hbt hy hby hwy
  go_wp2_with fail
  rw [← Hwy.out]
  exact bodyPost_ret (v := .agg #[.int .u64 (M1 : Int), .int .u64 (M2 : Int)]) (by simp [results, Tryz.results27, go_sem, y0, y1]) rfl ⟨rfl, Hby.out⟩

theorem three_cells {w : World} {b : Nat} {t : TypeId} {x y z : Value} (h : Blk w b t [x, y, z]) : w.cell? ⟨b, 0, none⟩ = some x ∧ w.cell? ⟨b, 1, none⟩ = some y ∧ w.cell? ⟨b, 2, none⟩ = some z := ⟨h.cell 0, h.cell 1, h.cell 2⟩
/-- What crossing gives. -/
def crossV (P Q U V x z0 r : Nat) : Nat := prodG P [overG P V (expG P Q U x), expG P Q z0 r]

set_option maxRecDepth 100000 in
set_option maxHeartbeats 2000000 in
theorem refCross_any (P Q G H x z0 U W0 V r : Nat) (R : Value) (w : World) (hP : P < 18446744073709551616) (hQ : Q < 18446744073709551616) (hQ2 : 2 ≤ Q) (hG : G < 18446744073709551616) (hx : x < 18446744073709551616) (ht : z0 < 18446744073709551616) (hU : U < 18446744073709551616) (hW : W0 < 18446744073709551616) (hV : V < 18446744073709551616) (hr : r < 18446744073709551616) :
    Calls Tryz.prog 29 #[gval P Q G H R, .int .u64 (x : Int), .int .u64 (z0 : Int), .agg #[.int .u64 (U : Int), .int .u64 (W0 : Int), .int .u64 (V : Int)], .int .u64 (r : Int)] w fun e w' => e = .returned (.agg #[.int .u64 (U : Int), .int .u64 (againU P Q G W0 r : Int), .int .u64 (crossV P Q U V x z0 r : Int)]) ∧ Below w.heap.size w w' := by
  obtain ⟨E1, hE1⟩ : ∃ E, E = expG P Q G r := ⟨_, rfl⟩
  obtain ⟨E2, hE2⟩ : ∃ E, E = expG P Q U x := ⟨_, rfl⟩
  obtain ⟨E3, hE3⟩ : ∃ E, E = expG P Q z0 r := ⟨_, rfl⟩
  obtain ⟨O, hO⟩ : ∃ O, O = overG P V E2 := ⟨_, rfl⟩
  have hb1 : E1 < 18446744073709551616 := by rw [hE1]; exact expG_lt hP
  have hb2 : E2 < 18446744073709551616 := by rw [hE2]; exact expG_lt hP
  have hb3 : E3 < 18446744073709551616 := by rw [hE3]; exact expG_lt hP
  have hbO : O < 18446744073709551616 := by rw [hO]; exact overG_lt _ _ _
  have hc1 := fun W => refExp_any P Q G H G r R W hP hQ hQ2 hG hr
  have hc2 := fun W => refExp_any P Q G H U x R W hP hQ hQ2 hU hx
  have hc3 := fun W => refExp_any P Q G H z0 r R W hP hQ hQ2 ht hr
  have ho := fun W => refOver_any P Q G H V E2 R W hP hV hb2
  have hd1 := fun A c W h => refProd_any P Q G H R A c [W0, E1] W hP (by simp) h
  have hd2 := fun A c W h => refProd_any P Q G H R A c [O, E3] W hP (by simp) h
  obtain ⟨M1, hM1⟩ : ∃ M, M = againU P Q G W0 r := ⟨_, rfl⟩
  obtain ⟨M2, hM2⟩ : ∃ M, M = crossV P Q U V x z0 r := ⟨_, rfl⟩
  rw [← hE1] at hc1
  rw [← hE2] at hc2
  rw [← hE3] at hc3
  rw [← hO] at ho
  rw [show prodG P [W0, E1] = M1 by rw [hM1, hE1]; rfl] at hd1
  rw [show prodG P [O, E3] = M2 by rw [hM2, hE3, hO, hE2]; rfl] at hd2
  rw [← hM1, ← hM2]
  unfold gval at hc1 hc2 hc3 ho hd1 hd2 ⊢
  obtain ⟨w0, hw0⟩ : ∃ w0, w0 = ((w.alloc (.cells #[.int .u64 (P : Int), .int .u64 (Q : Int), .int .u64 (G : Int), .int .u64 (H : Int), R] 25)).alloc (.cells #[.int .u64 (U : Int), .int .u64 (W0 : Int), .int .u64 (V : Int)] 48)).alloc (.cells #[.int .u64 0, .int .u64 0, .int .u64 0] 48) := ⟨_, rfl⟩
  have hg0 : Blk w0 w.heap.size 25 (glist P Q G H R) := by rw [hw0]; exact ((Blk.of w _ _ _ rfl).alloc _).alloc _
  have hu0 : Blk w0 (w.heap.size + 1) 48 [.int .u64 (U : Int), .int .u64 (W0 : Int), .int .u64 (V : Int)] := by rw [hw0]; exact (Blk.at_new _ _ _ _ _ (by simp) rfl).alloc _
  have ho0 : Blk w0 (w.heap.size + 1 + 1) 48 [.int .u64 0, .int .u64 0, .int .u64 0] := by rw [hw0]; exact Blk.at_new _ _ _ _ _ (by simp) rfl
  have hb0 : Lat w w0 := by rw [hw0]; exact lat_alloc (lat_alloc (lat_alloc (Below.refl _ _) _) _) _
  have Hc1 := Lib.hid hc1
  have Hc2 := Lib.hid hc2
  have Hc3 := Lib.hid hc3
  have Ho := Lib.hid ho
  have Hd1 := Lib.hid hd1
  have Hd2 := Lib.hid hd2
  have Hw0 := Lib.hid hw0
  have Hg0 := Lib.hid hg0
  have Hu0 := Lib.hid hu0
  have Ho0 := Lib.hid ho0
  have Hb0 := Lib.hid hb0
  obtain ⟨g0, g1, g2, g3, g4⟩ := gcells hg0
  obtain ⟨q0, q1, q2⟩ := three_cells hu0
  clear hc1 hc2 hc3 ho hd1 hd2 hE1 hE2 hE3 hO hM1 hM2 hw0 hg0 hu0 ho0 hb0
  go_enter Tryz.func29, Tryz.ntmps29
  go_wp2_with fail
  rw [← Hw0.out]
  have l0 := Later.cell g0
  have l1 := Later.cell g1
  have l2 := Later.cell g2
  have l3 := Later.cell g3
  have l4 := Later.cell g4
  have l5 := Later.cell q0
  have l6 := Later.cell q1
  have l7 := Later.cell q2
  refine region_loose [(20, fun u _ => u = .int .u64 (E1 : Int)), (21, fun u w => ∃ A c, u = .slice A 2 c ∧ Nums w A c [W0, E1]), (22, fun u _ => u = .int .u64 (M1 : Int))]
    (Know.stable_cons (fun _ _ _ h _ => h) (Know.stable_cons (fun _ _ _ h hl => let ⟨A, c, e, hn⟩ := h; ⟨A, c, e, hn.below hl⟩) (Know.stable_cons (fun _ _ _ h _ => h) Know.stable_nil))) (by kernel_rfl) (by kernel_rfl) ?_
  (repeat (first | (refine loose_skip (by rfl) ?_; simp only [Act.put, List.setIfInBounds_toArray, List.set_cons_zero, List.set_cons_succ]) | (refine loose_plain (by rfl) (by rfl) (by rfl) (fun Kc hKc => ?_); go_big_quiet_op; refine hKc _ ?_; clear hKc Kc)))
  refine loose_fix 20 (.int .u64 (E1 : Int)) (f := 45) (args := #[.agg #[.int .u64 (P : Int), .int .u64 (Q : Int), .int .u64 (G : Int), .int .u64 (H : Int), R], .int .u64 (G : Int), .int .u64 (r : Int)]) (fun w => by go_simp; try rfl) (by rfl) (by rfl) (by rfl) (fun _ _ => Iff.rfl) (fun wk _ _ => Hc1.out wk) ?_
  simp only [Act.put, List.setIfInBounds_toArray, List.set_cons_zero, List.set_cons_succ]
  refine loose_make 21 (V := fun w => .slice (some ⟨w.heap.size, 0, none⟩) 2 2) (W := fun w => w.alloc (.cells #[.int .u64 (W0 : Int), .int .u64 (E1 : Int)] 22)) (fun w => by go_simp) (by rfl) (by rfl) (by rfl) (fun w _ _ => ⟨(Below.refl _ _).alloc (Nat.le_refl _) _, _, _, rfl, nums_two w W0 E1 _ hW hb1⟩) ?_
  rintro _ wk hlk ⟨As, cs, rfl, _⟩
  simp only [Act.put, List.setIfInBounds_toArray, List.set_cons_zero, List.set_cons_succ]
  (repeat (first | (refine loose_skip (by rfl) ?_; simp only [Act.put, List.setIfInBounds_toArray, List.set_cons_zero, List.set_cons_succ]) | (refine loose_plain (by rfl) (by rfl) (by rfl) (fun Kc hKc => ?_); go_big_quiet_op; refine hKc _ ?_; clear hKc Kc)))
  refine loose_fix 22 (.int .u64 (M1 : Int)) (f := 47) (args := #[.agg #[.int .u64 (P : Int), .int .u64 (Q : Int), .int .u64 (G : Int), .int .u64 (H : Int), R], .slice As 2 cs]) (fun w => by go_simp; try rfl) (by rfl) (by rfl) (by rfl) (fun _ _ => Iff.rfl) (fun wk _ hd => by
    obtain ⟨A', c', he, hn⟩ := hd 21 (by decide) _ (.inl ⟨rfl, rfl⟩)
    injection he with h1 _ h2
    subst h1 h2
    exact Hd1.out As cs wk hn) ?_
  simp only [Act.put, List.setIfInBounds_toArray, List.set_cons_zero, List.set_cons_succ]
  (repeat (first | (refine loose_skip (by rfl) ?_; simp only [Act.put, List.setIfInBounds_toArray, List.set_cons_zero, List.set_cons_succ]) | (refine loose_plain (by rfl) (by rfl) (by rfl) (fun Kc hKc => ?_); go_big_quiet_op; refine hKc _ ?_; clear hKc Kc)))
  refine loose_nil ?_
  intro wq hbq _
  have Hbq := Lib.hid hbq
  obtain ⟨g0, g1, g2, g3, g4⟩ := gcells (Hg0.out.below hbq Hg0.out.lt)
  obtain ⟨q0, q1, q2⟩ := three_cells (Hu0.out.below hbq Hu0.out.lt)
  clear l0 l1 l2 l3 l4 l5 l6 l7 hbq hlk
  go_wp2_with fail
  have l0 := Later.cell g0
  have l1 := Later.cell g1
  have l2 := Later.cell g2
  have l3 := Later.cell g3
  have l4 := Later.cell g4
  have l5 := Later.cell q0
  have l6 := Later.cell q1
  have l7 := Later.cell q2
  refine region_loose [(30, fun u _ => u = .int .u64 (E2 : Int)), (31, fun u _ => u = .int .u64 (O : Int))]
    (Know.stable_cons (fun _ _ _ h _ => h) (Know.stable_cons (fun _ _ _ h _ => h) Know.stable_nil)) (by kernel_rfl) (by kernel_rfl) ?_
  (repeat (first | (refine loose_skip (by rfl) ?_; simp only [Act.put, List.setIfInBounds_toArray, List.set_cons_zero, List.set_cons_succ]) | (refine loose_plain (by rfl) (by rfl) (by rfl) (fun Kc hKc => ?_); go_big_quiet_op; refine hKc _ ?_; clear hKc Kc)))
  refine loose_fix 30 (.int .u64 (E2 : Int)) (f := 45) (args := #[.agg #[.int .u64 (P : Int), .int .u64 (Q : Int), .int .u64 (G : Int), .int .u64 (H : Int), R], .int .u64 (U : Int), .int .u64 (x : Int)]) (fun w => by go_simp; try rfl) (by rfl) (by rfl) (by rfl) (fun _ _ => Iff.rfl) (fun wk _ _ => Hc2.out wk) ?_
  simp only [Act.put, List.setIfInBounds_toArray, List.set_cons_zero, List.set_cons_succ]
  (repeat (first | (refine loose_skip (by rfl) ?_; simp only [Act.put, List.setIfInBounds_toArray, List.set_cons_zero, List.set_cons_succ]) | (refine loose_plain (by rfl) (by rfl) (by rfl) (fun Kc hKc => ?_); go_big_quiet_op; refine hKc _ ?_; clear hKc Kc)))
  refine loose_fix 31 (.int .u64 (O : Int)) (f := 44) (args := #[.agg #[.int .u64 (P : Int), .int .u64 (Q : Int), .int .u64 (G : Int), .int .u64 (H : Int), R], .int .u64 (V : Int), .int .u64 (E2 : Int)]) (fun w => by go_simp; try rfl) (by rfl) (by rfl) (by rfl) (fun _ _ => Iff.rfl) (fun wk _ _ => Ho.out wk) ?_
  simp only [Act.put, List.setIfInBounds_toArray, List.set_cons_zero, List.set_cons_succ]
  (repeat (first | (refine loose_skip (by rfl) ?_; simp only [Act.put, List.setIfInBounds_toArray, List.set_cons_zero, List.set_cons_succ]) | (refine loose_plain (by rfl) (by rfl) (by rfl) (fun Kc hKc => ?_); go_big_quiet_op; refine hKc _ ?_; clear hKc Kc)))
  refine loose_nil ?_
  intro wp hbp _
  have hbp2 := below_trans Hbq.out hbp
  have Hbp := Lib.hid hbp2
  obtain ⟨g0, g1, g2, g3, g4⟩ := gcells (Hg0.out.below hbp2 Hg0.out.lt)
  obtain ⟨q0, q1, q2⟩ := three_cells (Hu0.out.below hbp2 Hu0.out.lt)
  clear l0 l1 l2 l3 l4 l5 l6 l7 hbp hbp2
  go_wp2_with fail
  have l0 := Later.cell g0
  have l1 := Later.cell g1
  have l2 := Later.cell g2
  have l3 := Later.cell g3
  have l4 := Later.cell g4
  have l5 := Later.cell q0
  have l6 := Later.cell q1
  have l7 := Later.cell q2
  refine region_loose [(37, fun u _ => u = .int .u64 (E3 : Int)), (38, fun u w => ∃ A c, u = .slice A 2 c ∧ Nums w A c [O, E3]), (39, fun u _ => u = .int .u64 (M2 : Int))]
    (Know.stable_cons (fun _ _ _ h _ => h) (Know.stable_cons (fun _ _ _ h hl => let ⟨A, c, e, hn⟩ := h; ⟨A, c, e, hn.below hl⟩) (Know.stable_cons (fun _ _ _ h _ => h) Know.stable_nil))) (by kernel_rfl) (by kernel_rfl) ?_
  (repeat (first | (refine loose_skip (by rfl) ?_; simp only [Act.put, List.setIfInBounds_toArray, List.set_cons_zero, List.set_cons_succ]) | (refine loose_plain (by rfl) (by rfl) (by rfl) (fun Kc hKc => ?_); go_big_quiet_op; refine hKc _ ?_; clear hKc Kc)))
  refine loose_fix 37 (.int .u64 (E3 : Int)) (f := 45) (args := #[.agg #[.int .u64 (P : Int), .int .u64 (Q : Int), .int .u64 (G : Int), .int .u64 (H : Int), R], .int .u64 (z0 : Int), .int .u64 (r : Int)]) (fun w => by go_simp; try rfl) (by rfl) (by rfl) (by rfl) (fun _ _ => Iff.rfl) (fun wk _ _ => Hc3.out wk) ?_
  simp only [Act.put, List.setIfInBounds_toArray, List.set_cons_zero, List.set_cons_succ]
  refine loose_make 38 (V := fun w => .slice (some ⟨w.heap.size, 0, none⟩) 2 2) (W := fun w => w.alloc (.cells #[.int .u64 (O : Int), .int .u64 (E3 : Int)] 22)) (fun w => by go_simp) (by rfl) (by rfl) (by rfl) (fun w _ _ => ⟨(Below.refl _ _).alloc (Nat.le_refl _) _, _, _, rfl, nums_two w O E3 _ hbO hb3⟩) ?_
  rintro _ wk hlk ⟨As2, cs2, rfl, _⟩
  simp only [Act.put, List.setIfInBounds_toArray, List.set_cons_zero, List.set_cons_succ]
  (repeat (first | (refine loose_skip (by rfl) ?_; simp only [Act.put, List.setIfInBounds_toArray, List.set_cons_zero, List.set_cons_succ]) | (refine loose_plain (by rfl) (by rfl) (by rfl) (fun Kc hKc => ?_); go_big_quiet_op; refine hKc _ ?_; clear hKc Kc)))
  refine loose_fix 39 (.int .u64 (M2 : Int)) (f := 47) (args := #[.agg #[.int .u64 (P : Int), .int .u64 (Q : Int), .int .u64 (G : Int), .int .u64 (H : Int), R], .slice As2 2 cs2]) (fun w => by go_simp; try rfl) (by rfl) (by rfl) (by rfl) (fun _ _ => Iff.rfl) (fun wk _ hd => by
    obtain ⟨A', c', he, hn⟩ := hd 38 (by decide) _ (.inl ⟨rfl, rfl⟩)
    injection he with h1 _ h2
    subst h1 h2
    exact Hd2.out As2 cs2 wk hn) ?_
  simp only [Act.put, List.setIfInBounds_toArray, List.set_cons_zero, List.set_cons_succ]
  (repeat (first | (refine loose_skip (by rfl) ?_; simp only [Act.put, List.setIfInBounds_toArray, List.set_cons_zero, List.set_cons_succ]) | (refine loose_plain (by rfl) (by rfl) (by rfl) (fun Kc hKc => ?_); go_big_quiet_op; refine hKc _ ?_; clear hKc Kc)))
  refine loose_nil ?_
  intro wz hbz _
  have hbt := below_trans Hbp.out hbz
  obtain ⟨q0, q1, q2⟩ := three_cells (Hu0.out.below hbt Hu0.out.lt)
  obtain ⟨o0, o1, o2⟩ := three_cells (Ho0.out.below hbt Ho0.out.lt)
  have f0 := (Ho0.out.below hbt Ho0.out.lt).frozen 0
  have f1 := (Ho0.out.below hbt Ho0.out.lt).frozen 1
  have f2 := (Ho0.out.below hbt Ho0.out.lt).frozen 2
  obtain ⟨wy, hwy⟩ : ∃ wy, wy = ((wz.setCell ⟨w.heap.size + 1 + 1, 0, none⟩ (.int .u64 (U : Int))).setCell ⟨w.heap.size + 1 + 1, 1, none⟩ (.int .u64 (M1 : Int))).setCell ⟨w.heap.size + 1 + 1, 2, none⟩ (.int .u64 (M2 : Int)) := ⟨_, rfl⟩
  have hy := (((Ho0.out.below hbt Ho0.out.lt).set 0 (.int .u64 (U : Int))).set 1 (.int .u64 (M1 : Int))).set 2 (.int .u64 (M2 : Int))
  have hby : Lat w wy := by rw [hwy]; exact below_set (below_set (below_set (below_trans Hb0.out hbt) (by omega) _ _) (by omega) _ _) (by omega) _ _
  rw [show List.set (List.set (List.set [Value.int .u64 0, .int .u64 0, .int .u64 0] 0 (.int .u64 (U : Int))) 1 (.int .u64 (M1 : Int))) 2 (.int .u64 (M2 : Int)) = [.int .u64 (U : Int), .int .u64 (M1 : Int), .int .u64 (M2 : Int)] from rfl, ← hwy] at hy
  obtain ⟨y0, y1, y2⟩ := three_cells hy
  have Hby := Lib.hid hby
  have Hwy := Lib.hid hwy
  clear l0 l1 l2 l3 l4 l5 l6 l7 hbz hlk hbt hy hby hwy g0 g1 g2 g3 g4 
  go_wp2_with fail
  rw [← Hwy.out]
  exact bodyPost_ret (v := .agg #[.int .u64 (U : Int), .int .u64 (M1 : Int), .int .u64 (M2 : Int)]) (by simp [results, Tryz.results29, go_sem, y0, y1, y2]) rfl ⟨rfl, Hby.out⟩
end Go.Proofs.YtinlciofhegciaaGreat

/- What divides: the inverse that Euclid's way finds. Plain. -/
namespace Go.Proofs.YtinlciofhegciaaGreat

theorem subM_int {a b m : Nat} (hr : rightB m = true) : ∃ k : Int, ((subM a b m : Nat) : Int) = a - b + k * m := by
  have hm := rightB_yes hr
  rw [subM_yes hr]
  have h1 := Nat.div_add_mod a m
  have h2 := Nat.div_add_mod b m
  have h3 := Nat.div_add_mod (a % m + m - b % m) m
  have hb : b % m < m := Nat.mod_lt _ (by omega)
  refine ⟨((b / m : Nat) : Int) - (a / m : Nat) + 1 - ((a % m + m - b % m) / m : Nat), ?_⟩
  have e1 : ((m : Int) * (a / m : Nat)) + (a % m : Nat) = a := by exact_mod_cast h1
  have e2 : ((m : Int) * (b / m : Nat)) + (b % m : Nat) = b := by exact_mod_cast h2
  have e3 : ((m : Int) * ((a % m + m - b % m) / m : Nat)) + ((a % m + m - b % m) % m : Nat) = (a % m : Nat) + m - (b % m : Nat) := by
    have : ((a % m + m - b % m : Nat) : Int) = (a % m : Nat) + m - (b % m : Nat) := by omega
    rw [← this]; exact_mod_cast h3
  generalize ((a % m + m - b % m) % m : Nat) = s at *
  generalize ((a % m + m - b % m) / m : Nat) = t at *
  generalize (a / m : Nat) = u at *
  generalize (b / m : Nat) = v at *
  generalize (a % m : Nat) = x at *
  generalize (b % m : Nat) = y at *
  clear h1 h2 h3
  grind
theorem step_int {S q is was a now before m k1 k2 k3 r : Int} (h1 : was * a = before + k1 * m) (h2 : is * a = now + k2 * m) (h3 : S = was - q * is + k3 * m) (h4 : before = q * now + r) : S * a = r + (k1 - q * k2 + k3 * a) * m := by
  grind
theorem invL_law (m a : Nat) (hr : rightB m = true) : ∀ now before was is : Nat, (∃ k : Int, (was : Int) * a = before + k * m) → (∃ k : Int, (is : Int) * a = now + k * m) →
    (∃ k : Int, ((invL m before now was is).2 : Int) * a = (invL m before now was is).1 + k * m) ∧ (invL m before now was is).1 = Nat.gcd before now := by
  intro now
  induction now using Nat.strongRecOn with
  | _ now ih =>
    intro before was is h1 h2
    by_cases h0 : now = 0
    · subst h0
      rw [invL_zero]
      exact ⟨h1, by simp⟩
    · rw [invL_step _ _ _ _ _ h0]
      obtain ⟨k1, h1⟩ := h1
      obtain ⟨k2, h2⟩ := h2
      have h4 := Nat.div_add_mod before now
      have h5 : (before : Int) = (before / now : Nat) * now + (before % now : Nat) := by
        have : (before : Int) = ((now * (before / now) + before % now : Nat) : Int) := by rw [h4]
        rw [this]; push_cast; rw [Int.mul_comm]
      obtain ⟨k3, h3⟩ := subM_int (a := was) (b := before / now * is % m) hr
      have h6 : ((before / now * is % m : Nat) : Int) = (before / now : Nat) * is - (m : Int) * ((before / now * is / m : Nat) : Int) := by
        have := Nat.div_add_mod (before / now * is) m
        have h7 : (((m * (before / now * is / m) + before / now * is % m : Nat)) : Int) = ((before / now * is : Nat) : Int) := by rw [this]
        push_cast at h7 ⊢
        omega
      have h8 : ((subM was (before / now * is % m) m : Nat) : Int) = was - ((before / now : Nat) : Int) * is + (k3 + ((before / now * is / m : Nat) : Int)) * m := by
        rw [h3, h6, Int.add_mul]
        generalize ((before / now * is / m : Nat) : Int) = z
        rw [Int.mul_comm (m : Int) z]
        omega
      have hs := step_int h1 h2 h8 h5
      obtain ⟨r1, r2⟩ := ih (before % now) (Nat.mod_lt _ (Nat.pos_of_ne_zero h0)) now is (subM was (before / now * is % m) m) ⟨k2, h2⟩ ⟨_, hs⟩
      refine ⟨r1, ?_⟩
      rw [r2, Nat.gcd_comm now, ← Nat.gcd_rec, Nat.gcd_comm]
/-- Where a number and the modulus have nothing in common, the inverse is found. -/
theorem invM_law {a P : Nat} (hr : rightB P = true) (hg : Nat.gcd P a = 1) : a * (invM a P).1 % P = 1 % P := by
  have hm := rightB_yes hr
  have h0 : ∃ k : Int, ((0 : Nat) : Int) * (a : Int) = (P : Nat) + k * P := ⟨-1, by omega⟩
  have h1 : ∃ k : Int, ((1 : Nat) : Int) * (a : Int) = ((a % P : Nat) : Int) + k * P := by
    refine ⟨((a / P : Nat) : Int), ?_⟩
    have := Nat.div_add_mod a P
    have h7 : (((P * (a / P) + a % P : Nat)) : Int) = (a : Int) := by rw [this]
    push_cast at h7 ⊢
    rw [Int.mul_comm ((a : Int) / P)]
    omega
  obtain ⟨⟨k, hk⟩, h2⟩ := invL_law P a hr (a % P) P 0 1 h0 h1
  have h3 : (invL P P (a % P) 0 1).1 = 1 := by
    rw [h2, ← hg, Nat.gcd_comm P (a % P), ← Nat.gcd_rec]
  unfold invM
  rw [if_pos hr, if_pos h3]
  rw [h3] at hk
  show a * (invL P P (a % P) 0 1).2 % P = 1 % P
  generalize (invL P P (a % P) 0 1).2 = v at hk
  have h4 : ((a * v : Nat) : Int) = 1 + k * P := by push_cast; rw [Int.mul_comm]; exact_mod_cast hk
  have h5 : ((a * v % P : Nat) : Int) = ((1 % P : Nat) : Int) := by
    rw [Int.natCast_emod, h4, Int.add_mul_emod_self_right]
    rfl
  exact_mod_cast h5
theorem coprime_of {a P Q : Nat} (hP : 2 ≤ P) (hQ : 0 < Q) (h : a ^ Q % P = 1 % P) : Nat.gcd P a = 1 := by
  have hs : a ∣ a ^ Q := by
    obtain ⟨n, rfl⟩ : ∃ n, Q = n + 1 := ⟨Q - 1, by omega⟩
    rw [Nat.pow_succ]; exact Nat.dvd_mul_left _ _
  have h1 : Nat.gcd P a ∣ a ^ Q := Nat.dvd_trans (Nat.gcd_dvd_right P a) hs
  have h2 : Nat.gcd P a ∣ P := Nat.gcd_dvd_left P a
  have h3 : 1 % P = 1 := Nat.mod_eq_of_lt (by omega)
  rw [h3] at h
  have h4 := Nat.div_add_mod (a ^ Q) P
  rw [h] at h4
  have h5 : Nat.gcd P a ∣ P * (a ^ Q / P) := Nat.dvd_trans h2 (Nat.dvd_mul_right _ _)
  rw [← h4] at h1
  have h6 := (Nat.dvd_add_right h5).1 h1
  exact Nat.dvd_one.1 h6
/-- Of an element, the inverse is found. -/
theorem inv_elem {P Q y : Nat} (hr : rightB P = true) (hQ : 0 < Q) (h : y ^ Q % P = 1 % P) : y * (invM y P).1 % P = 1 % P :=
  invM_law hr (coprime_of (rightB_yes hr).1 hQ h)
theorem inv_uniq {P a b u : Nat} (ha : u * a % P = 1 % P) (hb : u * b % P = 1 % P) : a % P = b % P := by
  have h1 : a * (u * b) % P = a * 1 % P := mm rfl hb
  have h2 : u * a * b % P = 1 * b % P := mm ha rfl
  rw [Nat.mul_one] at h1
  rw [Nat.one_mul] at h2
  rw [← h1, ← h2]
  congr 1
  rw [← Nat.mul_assoc, Nat.mul_comm a u]
theorem inv_pow {P Q y : Nat} (hr : rightB P = true) (hQ : 0 < Q) (h : y ^ Q % P = 1 % P) (n : Nat) : (invM (y ^ n) P).1 % P = (invM y P).1 ^ n % P := by
  refine inv_uniq (u := y ^ n) (inv_elem hr hQ (pow_ord h n)) ?_
  rw [← Nat.mul_pow, mp (inv_elem hr hQ h), Nat.one_pow]
theorem inv_ord {P Q y : Nat} (hr : rightB P = true) (hQ : 0 < Q) (h : y ^ Q % P = 1 % P) : (invM y P).1 ^ Q % P = 1 % P := by
  have h1 := mp (inv_elem hr hQ h) Q
  rw [Nat.mul_pow, Nat.one_pow] at h1
  have h2 := mm h (rfl : (invM y P).1 ^ Q % P = (invM y P).1 ^ Q % P)
  rw [Nat.one_mul] at h2
  rw [← h2, h1]
/-- A claim of elements, of what they give for V, is good. -/
theorem good_claim {label : List UInt8} {P Q G H n : Nat} {T : List Nat} {L : List (List Nat)} {V D : List Nat} (hr : rightB P = true) (hq : rightB Q = true) (hL : 1 ≤ L.length) (hL2 : L.length ≤ 64) (hrow : ∀ l ∈ L, l.length = n ∧ ∀ b ∈ l, inG P Q b = true) (hn : 1 ≤ n) (hn2 : n ≤ 64)
    (hV : V.length = n) (hD : D.length = n) (hT : T = L.map (imgRow P Q V)) : holdsO T (imgO P Q T L V) = true ∧ ∃ t z, proveO label P Q G H T L V D = some (t, z) := by
  have hq2 := rightB_yes hq
  have hP2 := rightB_yes hr
  have hTi : outs P Q T = false := by
    unfold outs
    rw [List.any_eq_false]
    intro x hx
    rw [hT] at hx
    obtain ⟨l, hl, rfl⟩ := List.mem_map.1 hx
    have hb : ∀ b ∈ l, b ^ Q % P = 1 % P := fun b hb => (inG_pow hr ((hrow l hl).2 b hb)).1
    have h1 : (1 : Nat) ^ Q % P = 1 % P := by rw [Nat.one_pow]
    have := inG_of hr (by omega) (img_ord hr l V hb 1 h1) (img_lt hr l V 1 (by omega))
    unfold imgRow
    simp [this]
  have hs : sizeC P Q T L = n := by
    have hTl : T.length = L.length := by rw [hT, List.length_map]
    have hh : n = (L.headD []).length := by
      cases L with
      | nil => simp at hL
      | cons a l => exact ((hrow a (by simp)).1).symm
    rw [sizeC_rows (by omega) hTi hh, if_pos]
    rw [List.all_eq_true]
    intro l hl
    have ho : outs P Q l = false := by
      unfold outs
      rw [List.any_eq_false]
      intro b hb
      simp [(hrow l hl).2 b hb]
    unfold rowOk
    simp [(hrow l hl).1, ho, hn2]
  have hi : imgO P Q T L V = some (L.map (imgRow P Q V)) := imgO_some (by omega)
  have hi2 : imgO P Q T L D = some (L.map (imgRow P Q D)) := imgO_some (by omega)
  refine ⟨by rw [hi, ← hT]; simp [holdsO], ?_⟩
  unfold proveO ansO
  rw [hi2]
  simp only [hV, hD, ne_eq, not_true, if_false]
  exact ⟨_, _, rfl⟩
end Go.Proofs.YtinlciofhegciaaGreat

/- Of what was made by a secret and draws, what is claimed holds: plain. -/
namespace Go.Proofs.YtinlciofhegciaaGreat

theorem expG_lt_P {P Q b e : Nat} (hr : rightB P = true) : expG P Q b e < P := by
  rw [expG, powM_yes hr]; exact Nat.mod_lt _ (by have := rightB_yes hr; omega)
theorem overG_lt_P {P x y : Nat} (hr : rightB P = true) : overG P x y < P := mulM_lt_P hr
theorem one_lt_P {P : Nat} (hr : rightB P = true) : 1 < P := by have := rightB_yes hr; omega
theorem mul_one_l {P e : Nat} (hr : rightB P = true) (he : e < P) : mulM 1 e P = e := by rw [mulM_yes hr, Nat.one_mul, Nat.mod_eq_of_lt he]
theorem againU_one {P Q G r : Nat} (hr : rightB P = true) : againU P Q G 1 r = expG P Q G r := by
  rw [againU, prod_two hr (one_lt_P hr), mul_one_l hr (expG_lt_P hr)]
theorem againV_of {P Q key n r : Nat} (hr : rightB P = true) (hn : n < P) : againV P Q key n r = mulM n (expG P Q key r) P := by
  rw [againV, prod_two hr hn]
theorem elem_exp {P Q b e : Nat} (hr : rightB P = true) (hb : b ^ Q % P = 1 % P) : (expG P Q b e) ^ Q % P = 1 % P := by
  rw [expG, powM_yes hr, ← Nat.pow_mod]; exact pow_ord hb _
theorem elem_mul {P Q a b : Nat} (hr : rightB P = true) (ha : a ^ Q % P = 1 % P) (hb : b ^ Q % P = 1 % P) : (mulM a b P) ^ Q % P = 1 % P := by
  rw [mulM_yes hr, ← Nat.pow_mod, Nat.mul_pow]
  have := mm ha hb
  rwa [Nat.one_mul] at this
theorem elem_over {P Q a b : Nat} (hr : rightB P = true) (hQ : 0 < Q) (ha : a ^ Q % P = 1 % P) (hb : b ^ Q % P = 1 % P) : (overG P a b) ^ Q % P = 1 % P :=
  elem_mul hr ha (inv_ord hr hQ hb)
theorem invM_mod {P a : Nat} : invM (a % P) P = invM a P := by unfold invM; rw [Nat.mod_mod]
theorem over_one {P e : Nat} (hr : rightB P = true) (he : e < P) : overG P e 1 = e := by
  have h := inv_elem hr (Q := 1) (y := 1) (by omega) (by simp)
  rw [Nat.one_mul] at h
  rw [overG, mulM_yes hr]
  have := mm (rfl : e % P = e % P) h
  rw [Nat.mul_one] at this
  rw [this, Nat.mod_eq_of_lt he]
theorem cross_eq {P Q U V x z r : Nat} (hr : rightB P = true) (hQ : 0 < Q) (hU : U ^ Q % P = 1 % P) (hV : V ^ Q % P = 1 % P) :
    overG P (crossV P Q U V x z r) V = mulM (mulM 1 (expG P Q (overG P 1 U) x) P) (expG P Q z r) P := by
  have hb := inv_elem hr hQ hV
  have hc : (invM (expG P Q U x) P).1 % P = (invM U P).1 ^ (x % Q) % P := by
    rw [expG, powM_yes hr, invM_mod]
    exact inv_pow hr hQ hU _
  obtain ⟨T, hT⟩ : ∃ T, T = expG P Q z r := ⟨_, rfl⟩
  rw [crossV, prod_two hr (overG_lt_P hr), ← hT]
  rw [overG, overG, mulM_yes hr, mulM_yes hr, mulM_yes hr, mulM_yes hr, mulM_yes hr, overG, mulM_yes hr, Nat.one_mul, Nat.one_mul]
  rw [expG, powM_yes hr] at hc
  rw [expG, powM_yes hr, expG, powM_yes hr, mod2, ← Nat.pow_mod]
  generalize (invM (U ^ (x % Q) % P) P).1 = C at hc ⊢
  generalize (invM U P).1 ^ (x % Q) = A at hc ⊢
  generalize (invM V P).1 = B at hb ⊢
  rw [Nat.mod_mul_mod, Nat.mod_mul_mod]
  have h1 : (V * C % P * T) * B % P = V * B * (C * T) % P := by
    rw [Nat.mul_assoc, Nat.mod_mul_mod]
    congr 1
    rw [Nat.mul_assoc, Nat.mul_assoc, Nat.mul_comm B, Nat.mul_assoc]
  rw [h1]
  have h2 := mm hb (mm hc (rfl : T % P = T % P))
  rw [Nat.one_mul] at h2
  exact h2
theorem img_first {P Q b e : Nat} (hr : rightB P = true) : imgStep P Q 1 (b, e) = expG P Q b e := by
  show mulM 1 (expG P Q b e) P = _
  exact mul_one_l hr (expG_lt_P hr)
theorem img_skip {P Q x e : Nat} (hr : rightB P = true) (hx : x < P) : imgStep P Q x (1, e) = x := step_one hr hx
theorem keeps_eq {P Q G x : Nat} (hr : rightB P = true) : [expG P Q G x] = [[G]].map (imgRow P Q [x]) := by
  simp only [List.map_cons, List.map_nil, imgRow, List.zip_cons_cons, List.zip_nil_right, List.foldl_cons, List.foldl_nil, img_first hr]
theorem expG_1 {P Q e : Nat} (hr : rightB P = true) : expG P Q 1 e = 1 := by rw [expG, powM_yes hr, Nat.one_pow, Nat.mod_eq_of_lt (one_lt_P hr)]
theorem knows_eq {P Q G r0 r1 r2 : Nat} (hr : rightB P = true) : [againU P Q G 1 r0, againU P Q G 1 r1, againU P Q G 1 r2] = [[G, 1, 1], [1, G, 1], [1, 1, G]].map (imgRow P Q [r0, r1, r2]) := by
  simp only [List.map_cons, List.map_nil, imgRow, List.zip_cons_cons, List.zip_nil_right, List.foldl_cons, List.foldl_nil, img_first hr, img_skip hr (expG_lt_P hr), img_skip hr (one_lt_P hr), expG_1 hr, againU_one hr]
theorem shares_eq {P Q G U x : Nat} (hr : rightB P = true) : [expG P Q G x, expG P Q U x] = [[G], [U]].map (imgRow P Q [x]) := by
  simp only [List.map_cons, List.map_nil, imgRow, List.zip_cons_cons, List.zip_nil_right, List.foldl_cons, List.foldl_nil, img_first hr]
theorem crosses_eq {P Q G U V x z r : Nat} (hr : rightB P = true) (hQ : 0 < Q) (hU : U ^ Q % P = 1 % P) (hV : V ^ Q % P = 1 % P) :
    [expG P Q G x, overG P (againU P Q G 1 r) 1, overG P (crossV P Q U V x z r) V] = [[G, 1], [1, G], [overG P 1 U, z]].map (imgRow P Q [x, r]) := by
  rw [cross_eq hr hQ hU hV, againU_one hr, over_one hr (expG_lt_P hr)]
  simp only [List.map_cons, List.map_nil, imgRow, List.zip_cons_cons, List.zip_nil_right, List.foldl_cons, List.foldl_nil, img_first hr, img_skip hr (expG_lt_P hr), img_skip hr (one_lt_P hr), expG_1 hr]
  simp only [imgStep, mul_one_l hr (expG_lt_P hr)]
theorem one_elem {P Q : Nat} (hr : rightB P = true) (hQ : 0 < Q) : inG P Q 1 = true := inG_of hr hQ (by rw [Nat.one_pow]) (one_lt_P hr)
end Go.Proofs.YtinlciofhegciaaGreat

/- Claims of tries: the program's walk. -/
namespace Go.Proofs.YtinlciofhegciaaGreat
open Go.RowKit Go.BigFrame

set_option maxRecDepth 100000 in
set_option maxHeartbeats 2000000 in
theorem knows_any (P Q G H p0 q0 p1 q1 p2 q2 : Nat) (R : Value) (w : World) (hG : G < 18446744073709551616) (h0 : p0 < 18446744073709551616) (h1 : p1 < 18446744073709551616) (h2 : p2 < 18446744073709551616) :
    Calls Tryz.prog 20 #[gval P Q G H R, sval p0 q0 p1 q1 p2 q2] w fun e w' => OutClaim [p0, p1, p2] [[G, 1, 1], [1, G, 1], [1, 1, G]] e w' ∧ Below w.heap.size w w' := by
  unfold gval sval
  go_enter Tryz.func20, Tryz.ntmps20
  go_wp2_with fail
  obtain ⟨W4, hW4⟩ : ∃ W4, W4 = (((w.alloc (.cells #[.int .u64 (P : Int), .int .u64 (Q : Int), .int .u64 (G : Int), .int .u64 (H : Int), R] 25)).alloc (.cells #[.int .u64 (p0 : Int), .int .u64 (q0 : Int), .int .u64 (p1 : Int), .int .u64 (q1 : Int), .int .u64 (p2 : Int), .int .u64 (q2 : Int)] 46)).alloc (.cells #[.slice none 0 0, .slice none 0 0] 29)).alloc (.cells #[.slice none 0 0, .slice none 0 0] 29) := ⟨_, rfl⟩
  rw [← hW4]
  have HF0 := Lib.hid (KF.first P Q G H p0 q0 p1 q1 p2 q2 R w _ hW4)
  have HK0 := Lib.hid (KW.first (T1 := 57) (B := w.heap.size + 4) (c := w.heap.size + 3) (w := W4) (by rw [hW4]; exact Blk.at_new _ _ _ _ _ (by simp) rfl))
  clear hW4
  go_loopw [10] (fun iv wr => ∃ (k : Nat) (tv bv : Value) (rs : List NumV), iv = .int .i64 (k : Int) ∧ k ≤ 3 ∧ rs.length = k ∧ rs.map (·.l) = [[G, 1, 1], [1, G, 1], [1, 1, G]].take k ∧ KW 57 (w.heap.size + 4) (w.heap.size + 3) tv bv ([p0, p1, p2].take k) rs rs wr ∧ KF (glist P Q G H R) (slist p0 q0 p1 q1 p2 q2) w wr) (fun iv _ => 3 - (intOf iv).toNat)
  case atStart => exact ⟨0, _, _, [], rfl, by omega, rfl, rfl, HK0.out, HF0.out⟩
  case round =>
    obtain ⟨k, tv, bv, rs, rfl, hk, hrl, hm, hK, hF⟩ := hrel
    clear HF0 HK0
    have hk4 : k = 0 ∨ k = 1 ∨ k = 2 ∨ k = 3 := by omega
    rcases hk4 with rfl | rfl | rfl | rfl
    · -- round 0
      obtain ⟨W, hW⟩ : ∃ W, W = (wr.alloc (.cells #[.int .u64 (p0 : Int), .int .u64 (q0 : Int)] 44)).alloc (.cells #[.int .u64 (G : Int), .int .u64 1, .int .u64 1] 57) := ⟨_, rfl⟩
      obtain ⟨b0, hb0⟩ : ∃ b0, b0 = wr.heap.size + 1 := ⟨_, rfl⟩
      have hlW : Lat wr W := by rw [hW]; exact lat_alloc (lat_alloc (Below.refl _ _) _) _
      have hsW : W.heap.size = b0 + 1 := by rw [hW, hb0]; simp
      have hKW := (hK.below hlW).more ⟨some ⟨b0, 0, none⟩, 3, [G, 1, 1]⟩ ⟨b0, rfl, rfl, by have := hF.b.size; have := hK.blk.lt; omega, by rw [hW]; exact Blk.at_new _ _ _ _ _ (by simp [hb0]) rfl, (fun he => by have := (hK.t.block b0 he.symm).2; omega)⟩
      have hFW := hF.below hlW
      have HKW := Lib.hid hKW
      have HFW := Lib.hid hFW
      have hBW : w.heap.size + 4 ≤ W.heap.size := by have := hK.blk.lt; have := hlW.size; omega
      have hb0' := hK.blk
      have c0 : wr.cell? ⟨w.heap.size + 1 + 1 + 1, 0, none⟩ = some tv := (two_cells hb0').1
      have d0 : wr.cell? ⟨w.heap.size, 2, none⟩ = some (.int .u64 (G : Int)) := hF.g.cell 2
      have c1 := fun o1 o2 => below_cell (lat_alloc (lat_alloc (Below.refl wr.heap.size wr) o1) o2) c0
      have d1 := fun o1 o2 => below_cell (lat_alloc (lat_alloc (Below.refl wr.heap.size wr) o1) o2) d0
      clear hb0'
      have HW := Lib.hid hW
      have Hb0 := Lib.hid hb0
      have HsW := Lib.hid hsW
      clear hK hF hKW hFW hlW hb0 hsW hW
      have hix := ix_box0 p0 q0 p1 q1 p2 q2
      go_wp2_with (at_builtin; go_must (rw [← HW.out]; refine ap_oneW (B := w.heap.size + 4) (xs := u64s []) Tryz.un_nums Tryz.inf_u64 rfl HKW.out.t rfl (by omega) (by simp [u64s]) hBW rfl _ _ rfl rfl (by rw [HsW.out, Hb0.out]; rfl) ?_; intro v1 w1 hr0 hg1 hw1; have hr1 := row_len hr0 (show _ = 1 by simp [u64s]) rfl; have HKc := Lib.hid (KW.pushT HKW.out (by omega) p0 hg1 hr1 (fun b hb => hw1.elim (fun h => .inl (h ▸ hb)) (fun h => .inr (by rw [h] at hb; injection hb with hb; omega)))); have HFc := Lib.hid ((HFW.out.grown hg1 (fun c hc => row_ne_low HKW.out.t hc)).set (c := w.heap.size + 3) (Nat.le_refl _) 0 v1); have hb1 := HKW.out.blk.grown hg1 (row_ne_low HKW.out.t (by omega)); have k1 : w1.cell? ⟨w.heap.size + 1 + 1 + 1, 0, none⟩ = some tv := hb1.cell 0; have k2 : w1.cell? ⟨w.heap.size + 1 + 1 + 1, 1, none⟩ = some bv := hb1.cell 1; have f1 : w1.frozen? ⟨w.heap.size + 1 + 1 + 1, 0, none⟩ = false := hb1.frozen 0; obtain ⟨X1, cc1, hv1⟩ := hr1.slice; subst hv1; clear hr0 hr1 hb1 hg1 hw1))
      obtain ⟨W2, hW2⟩ : ∃ W2, W2 = w1.setCell ⟨w.heap.size + 1 + 1 + 1, 0, none⟩ (.slice X1 1 cc1) := ⟨_, rfl⟩
      rw [← hW2, ← Hb0.out]
      have hK2 : KW 57 (w.heap.size + 4) (w.heap.size + 3) (.slice X1 1 cc1) bv ([] ++ [p0]) rs (rs ++ [⟨some ⟨b0, 0, none⟩, 3, [G, 1, 1]⟩]) W2 := by rw [hW2]; exact HKc.out
      have hF2 : KF (glist P Q G H R) (slist p0 q0 p1 q1 p2 q2) w W2 := by rw [hW2]; exact HFc.out
      have HK2 := Lib.hid hK2
      have HF2 := Lib.hid hF2
      have hB2 : w.heap.size + 4 ≤ W2.heap.size := by have := hK2.blk.lt; omega
      have hHO := row_len hK2.b (show rs.length = (rs.map NumV.val).length by simp) rfl
      have hB3 : (rs.map NumV.val).length + 1 ≤ 1000 := by simp; omega
      have Hrl := Lib.hid hrl
      have Hm := Lib.hid hm
      have k2' : W2.cell? ⟨w.heap.size + 1 + 1 + 1, 1, none⟩ = some bv := (two_cells hK2.blk).2
      have hne : some (w.heap.size + 3) ≠ bv.ownBlock := row_ne_low hK2.b (by omega)
      have l1 := LaterR.cell (ρ := bv.ownBlock) k2' hne
      clear hK2 hF2 hW2 HKc HFc HKW HFW HW HsW c0 c1 d0 d1 hix k1 k2 k2' f1 hrl hm hBW
      refine region_one 29 30 4 6 (by decide) hHO (.slice (some ⟨b0, 0, none⟩) 3 3) hB2 hB3 (by rfl) (by rfl) (by kernel_rfl) (by kernel_rfl) (by rfl) ?_
      simp only [List.take_succ_cons, List.take_zero, List.drop_succ_cons, List.drop_zero]
      (repeat (first | (refine appA_skip (by decide) (by rfl) ?_; simp only [Act.put, List.setIfInBounds_toArray, List.set_cons_zero, List.set_cons_succ]) | (refine appA_plain (by decide) (by rfl) (by rfl) (by rfl) (fun Kc hKc => ?_); go_big_quiet_op; refine hKc _ ?_; clear hKc Kc)))
      refine appA_make 29 (V := fun w => .slice (some ⟨w.heap.size, 0, none⟩) 1 1) (W := fun w => w.alloc (.cells #[.slice (some ⟨b0, 0, none⟩) 3 3] 26)) (by decide) (fun w => by go_simp) (by rfl) (by rfl) (by rfl) (fun wk hlk _ => ⟨(Below.refl _ _).alloc (Nat.le_refl _) _, _, rfl, hlk.size, Blk.of _ _ _ _ rfl⟩) ?_
      rintro _ wk hlk ⟨bs, rfl, hbs, hbk⟩
      simp only [Act.put, List.setIfInBounds_toArray, List.set_cons_zero, List.set_cons_succ]
      refine appA_one 30 (B := w.heap.size + 4) (v := bv) (xs := rs.map NumV.val) (ad := ⟨bs, 0, none⟩) (y := .slice (some ⟨b0, 0, none⟩) 3 3) Tryz.un_numss Tryz.inf_nums rfl hHO rfl rfl (by omega) (by have := hB3; omega) hB2 rfl rfl _ _ rfl rfl rfl (fun wx hlx hd => by
        obtain ⟨b', he, _, hbk⟩ := hd 29 (by decide) _ (.inl ⟨rfl, rfl⟩)
        injection he with he
        injection he with he
        injection he with he
        subst he
        exact hbk.cell 0) (by rfl) (by rfl) (by rfl) (fun u wx h1 h2 => ⟨h1, h2⟩) ?_
      rintro bv1 wk1 hlk1 hbv1
      simp only [Act.put, List.setIfInBounds_toArray, List.set_cons_zero, List.set_cons_succ]
      (repeat (first | (refine appA_skip (by decide) (by rfl) ?_; simp only [Act.put, List.setIfInBounds_toArray, List.set_cons_zero, List.set_cons_succ]) | (refine appA_plain (by decide) (by rfl) (by rfl) (by rfl) (fun Kc hKc => ?_); go_big_quiet_op; refine hKc _ ?_; clear hKc Kc)))
      refine appA_nil ?_
      intro wq hlq hkn
      have hrow := (hkn 30 bv1 (by simp [behind, gadd])).1
      have hrow' := row_len hrow (show _ = 1 by simp [Hrl.out]) rfl
      have hb3 := HK2.out.blk.grown hlq hne
      have k3 : wq.cell? ⟨w.heap.size + 1 + 1 + 1, 1, none⟩ = some bv := hb3.cell 1
      have f3 : wq.frozen? ⟨w.heap.size + 1 + 1 + 1, 1, none⟩ = false := hb3.frozen 1
      have HK3 := Lib.hid (KW.pushB HK2.out (by decide) (by omega) ⟨some ⟨b0, 0, none⟩, 3, [G, 1, 1]⟩ hlq (row_len hrow (by simp) rfl))
      have HF3 := Lib.hid ((HF2.out.grown hlq (fun c hc => row_ne_low HK2.out.b hc)).set (c := w.heap.size + 3) (Nat.le_refl _) 1 bv1)
      obtain ⟨Xb, cb, hvb⟩ := hrow'.slice
      subst hvb
      clear hkn hrow hrow' hb3 hlq hbv1 hlk1 hlk hbk hbs l1 HK2 HF2 hHO hne
      go_wp2_with fail
      refine NoPanic.normal ?_
      go_wp2_with fail
      go_roundw
      case rel => exact ⟨1, _, _, rs ++ [_], rfl, by omega, by simp [Hrl.out], by simp [Hm.out], HK3.out, HF3.out⟩
      case measure => simp [intOf]
    · -- round 1
      obtain ⟨W, hW⟩ : ∃ W, W = (wr.alloc (.cells #[.int .u64 (p1 : Int), .int .u64 (q1 : Int)] 44)).alloc (.cells #[.int .u64 1, .int .u64 (G : Int), .int .u64 1] 57) := ⟨_, rfl⟩
      obtain ⟨b0, hb0⟩ : ∃ b0, b0 = wr.heap.size + 1 := ⟨_, rfl⟩
      have hlW : Lat wr W := by rw [hW]; exact lat_alloc (lat_alloc (Below.refl _ _) _) _
      have hsW : W.heap.size = b0 + 1 := by rw [hW, hb0]; simp
      have hKW := (hK.below hlW).more ⟨some ⟨b0, 0, none⟩, 3, [1, G, 1]⟩ ⟨b0, rfl, rfl, by have := hF.b.size; have := hK.blk.lt; omega, by rw [hW]; exact Blk.at_new _ _ _ _ _ (by simp [hb0]) rfl, (fun he => by have := (hK.t.block b0 he.symm).2; omega)⟩
      have hFW := hF.below hlW
      have HKW := Lib.hid hKW
      have HFW := Lib.hid hFW
      have hBW : w.heap.size + 4 ≤ W.heap.size := by have := hK.blk.lt; have := hlW.size; omega
      have hb0' := hK.blk
      have c0 : wr.cell? ⟨w.heap.size + 1 + 1 + 1, 0, none⟩ = some tv := (two_cells hb0').1
      have d0 : wr.cell? ⟨w.heap.size, 2, none⟩ = some (.int .u64 (G : Int)) := hF.g.cell 2
      have c1 := fun o1 o2 => below_cell (lat_alloc (lat_alloc (Below.refl wr.heap.size wr) o1) o2) c0
      have d1 := fun o1 o2 => below_cell (lat_alloc (lat_alloc (Below.refl wr.heap.size wr) o1) o2) d0
      clear hb0'
      have HW := Lib.hid hW
      have Hb0 := Lib.hid hb0
      have HsW := Lib.hid hsW
      clear hK hF hKW hFW hlW hb0 hsW hW
      have hix := ix_box1 p0 q0 p1 q1 p2 q2
      go_wp2_with (at_builtin; go_must (rw [← HW.out]; refine ap_oneW (B := w.heap.size + 4) (xs := u64s [p0]) Tryz.un_nums Tryz.inf_u64 rfl HKW.out.t rfl (by omega) (by simp [u64s]) hBW rfl _ _ rfl rfl (by rw [HsW.out, Hb0.out]; rfl) ?_; intro v1 w1 hr0 hg1 hw1; have hr1 := row_len hr0 (show _ = 2 by simp [u64s]) rfl; have HKc := Lib.hid (KW.pushT HKW.out (by omega) p1 hg1 hr1 (fun b hb => hw1.elim (fun h => .inl (h ▸ hb)) (fun h => .inr (by rw [h] at hb; injection hb with hb; omega)))); have HFc := Lib.hid ((HFW.out.grown hg1 (fun c hc => row_ne_low HKW.out.t hc)).set (c := w.heap.size + 3) (Nat.le_refl _) 0 v1); have hb1 := HKW.out.blk.grown hg1 (row_ne_low HKW.out.t (by omega)); have k1 : w1.cell? ⟨w.heap.size + 1 + 1 + 1, 0, none⟩ = some tv := hb1.cell 0; have k2 : w1.cell? ⟨w.heap.size + 1 + 1 + 1, 1, none⟩ = some bv := hb1.cell 1; have f1 : w1.frozen? ⟨w.heap.size + 1 + 1 + 1, 0, none⟩ = false := hb1.frozen 0; obtain ⟨X1, cc1, hv1⟩ := hr1.slice; subst hv1; clear hr0 hr1 hb1 hg1 hw1))
      obtain ⟨W2, hW2⟩ : ∃ W2, W2 = w1.setCell ⟨w.heap.size + 1 + 1 + 1, 0, none⟩ (.slice X1 2 cc1) := ⟨_, rfl⟩
      rw [← hW2, ← Hb0.out]
      have hK2 : KW 57 (w.heap.size + 4) (w.heap.size + 3) (.slice X1 2 cc1) bv ([p0] ++ [p1]) rs (rs ++ [⟨some ⟨b0, 0, none⟩, 3, [1, G, 1]⟩]) W2 := by rw [hW2]; exact HKc.out
      have hF2 : KF (glist P Q G H R) (slist p0 q0 p1 q1 p2 q2) w W2 := by rw [hW2]; exact HFc.out
      have HK2 := Lib.hid hK2
      have HF2 := Lib.hid hF2
      have hB2 : w.heap.size + 4 ≤ W2.heap.size := by have := hK2.blk.lt; omega
      have hHO := row_len hK2.b (show rs.length = (rs.map NumV.val).length by simp) rfl
      have hB3 : (rs.map NumV.val).length + 1 ≤ 1000 := by simp; omega
      have Hrl := Lib.hid hrl
      have Hm := Lib.hid hm
      have k2' : W2.cell? ⟨w.heap.size + 1 + 1 + 1, 1, none⟩ = some bv := (two_cells hK2.blk).2
      have hne : some (w.heap.size + 3) ≠ bv.ownBlock := row_ne_low hK2.b (by omega)
      have l1 := LaterR.cell (ρ := bv.ownBlock) k2' hne
      clear hK2 hF2 hW2 HKc HFc HKW HFW HW HsW c0 c1 d0 d1 hix k1 k2 k2' f1 hrl hm hBW
      refine region_one 29 30 4 6 (by decide) hHO (.slice (some ⟨b0, 0, none⟩) 3 3) hB2 hB3 (by rfl) (by rfl) (by kernel_rfl) (by kernel_rfl) (by rfl) ?_
      simp only [List.take_succ_cons, List.take_zero, List.drop_succ_cons, List.drop_zero]
      (repeat (first | (refine appA_skip (by decide) (by rfl) ?_; simp only [Act.put, List.setIfInBounds_toArray, List.set_cons_zero, List.set_cons_succ]) | (refine appA_plain (by decide) (by rfl) (by rfl) (by rfl) (fun Kc hKc => ?_); go_big_quiet_op; refine hKc _ ?_; clear hKc Kc)))
      refine appA_make 29 (V := fun w => .slice (some ⟨w.heap.size, 0, none⟩) 1 1) (W := fun w => w.alloc (.cells #[.slice (some ⟨b0, 0, none⟩) 3 3] 26)) (by decide) (fun w => by go_simp) (by rfl) (by rfl) (by rfl) (fun wk hlk _ => ⟨(Below.refl _ _).alloc (Nat.le_refl _) _, _, rfl, hlk.size, Blk.of _ _ _ _ rfl⟩) ?_
      rintro _ wk hlk ⟨bs, rfl, hbs, hbk⟩
      simp only [Act.put, List.setIfInBounds_toArray, List.set_cons_zero, List.set_cons_succ]
      refine appA_one 30 (B := w.heap.size + 4) (v := bv) (xs := rs.map NumV.val) (ad := ⟨bs, 0, none⟩) (y := .slice (some ⟨b0, 0, none⟩) 3 3) Tryz.un_numss Tryz.inf_nums rfl hHO rfl rfl (by omega) (by have := hB3; omega) hB2 rfl rfl _ _ rfl rfl rfl (fun wx hlx hd => by
        obtain ⟨b', he, _, hbk⟩ := hd 29 (by decide) _ (.inl ⟨rfl, rfl⟩)
        injection he with he
        injection he with he
        injection he with he
        subst he
        exact hbk.cell 0) (by rfl) (by rfl) (by rfl) (fun u wx h1 h2 => ⟨h1, h2⟩) ?_
      rintro bv1 wk1 hlk1 hbv1
      simp only [Act.put, List.setIfInBounds_toArray, List.set_cons_zero, List.set_cons_succ]
      (repeat (first | (refine appA_skip (by decide) (by rfl) ?_; simp only [Act.put, List.setIfInBounds_toArray, List.set_cons_zero, List.set_cons_succ]) | (refine appA_plain (by decide) (by rfl) (by rfl) (by rfl) (fun Kc hKc => ?_); go_big_quiet_op; refine hKc _ ?_; clear hKc Kc)))
      refine appA_nil ?_
      intro wq hlq hkn
      have hrow := (hkn 30 bv1 (by simp [behind, gadd])).1
      have hrow' := row_len hrow (show _ = 2 by simp [Hrl.out]) rfl
      have hb3 := HK2.out.blk.grown hlq hne
      have k3 : wq.cell? ⟨w.heap.size + 1 + 1 + 1, 1, none⟩ = some bv := hb3.cell 1
      have f3 : wq.frozen? ⟨w.heap.size + 1 + 1 + 1, 1, none⟩ = false := hb3.frozen 1
      have HK3 := Lib.hid (KW.pushB HK2.out (by decide) (by omega) ⟨some ⟨b0, 0, none⟩, 3, [1, G, 1]⟩ hlq (row_len hrow (by simp) rfl))
      have HF3 := Lib.hid ((HF2.out.grown hlq (fun c hc => row_ne_low HK2.out.b hc)).set (c := w.heap.size + 3) (Nat.le_refl _) 1 bv1)
      obtain ⟨Xb, cb, hvb⟩ := hrow'.slice
      subst hvb
      clear hkn hrow hrow' hb3 hlq hbv1 hlk1 hlk hbk hbs l1 HK2 HF2 hHO hne
      go_wp2_with fail
      refine NoPanic.normal ?_
      go_wp2_with fail
      go_roundw
      case rel => exact ⟨2, _, _, rs ++ [_], rfl, by omega, by simp [Hrl.out], by simp [Hm.out], HK3.out, HF3.out⟩
      case measure => simp [intOf]
    · -- round 2
      obtain ⟨W, hW⟩ : ∃ W, W = (wr.alloc (.cells #[.int .u64 (p2 : Int), .int .u64 (q2 : Int)] 44)).alloc (.cells #[.int .u64 1, .int .u64 1, .int .u64 (G : Int)] 57) := ⟨_, rfl⟩
      obtain ⟨b0, hb0⟩ : ∃ b0, b0 = wr.heap.size + 1 := ⟨_, rfl⟩
      have hlW : Lat wr W := by rw [hW]; exact lat_alloc (lat_alloc (Below.refl _ _) _) _
      have hsW : W.heap.size = b0 + 1 := by rw [hW, hb0]; simp
      have hKW := (hK.below hlW).more ⟨some ⟨b0, 0, none⟩, 3, [1, 1, G]⟩ ⟨b0, rfl, rfl, by have := hF.b.size; have := hK.blk.lt; omega, by rw [hW]; exact Blk.at_new _ _ _ _ _ (by simp [hb0]) rfl, (fun he => by have := (hK.t.block b0 he.symm).2; omega)⟩
      have hFW := hF.below hlW
      have HKW := Lib.hid hKW
      have HFW := Lib.hid hFW
      have hBW : w.heap.size + 4 ≤ W.heap.size := by have := hK.blk.lt; have := hlW.size; omega
      have hb0' := hK.blk
      have c0 : wr.cell? ⟨w.heap.size + 1 + 1 + 1, 0, none⟩ = some tv := (two_cells hb0').1
      have d0 : wr.cell? ⟨w.heap.size, 2, none⟩ = some (.int .u64 (G : Int)) := hF.g.cell 2
      have c1 := fun o1 o2 => below_cell (lat_alloc (lat_alloc (Below.refl wr.heap.size wr) o1) o2) c0
      have d1 := fun o1 o2 => below_cell (lat_alloc (lat_alloc (Below.refl wr.heap.size wr) o1) o2) d0
      clear hb0'
      have HW := Lib.hid hW
      have Hb0 := Lib.hid hb0
      have HsW := Lib.hid hsW
      clear hK hF hKW hFW hlW hb0 hsW hW
      have hix := ix_box2 p0 q0 p1 q1 p2 q2
      go_wp2_with (at_builtin; go_must (rw [← HW.out]; refine ap_oneW (B := w.heap.size + 4) (xs := u64s [p0, p1]) Tryz.un_nums Tryz.inf_u64 rfl HKW.out.t rfl (by omega) (by simp [u64s]) hBW rfl _ _ rfl rfl (by rw [HsW.out, Hb0.out]; rfl) ?_; intro v1 w1 hr0 hg1 hw1; have hr1 := row_len hr0 (show _ = 3 by simp [u64s]) rfl; have HKc := Lib.hid (KW.pushT HKW.out (by omega) p2 hg1 hr1 (fun b hb => hw1.elim (fun h => .inl (h ▸ hb)) (fun h => .inr (by rw [h] at hb; injection hb with hb; omega)))); have HFc := Lib.hid ((HFW.out.grown hg1 (fun c hc => row_ne_low HKW.out.t hc)).set (c := w.heap.size + 3) (Nat.le_refl _) 0 v1); have hb1 := HKW.out.blk.grown hg1 (row_ne_low HKW.out.t (by omega)); have k1 : w1.cell? ⟨w.heap.size + 1 + 1 + 1, 0, none⟩ = some tv := hb1.cell 0; have k2 : w1.cell? ⟨w.heap.size + 1 + 1 + 1, 1, none⟩ = some bv := hb1.cell 1; have f1 : w1.frozen? ⟨w.heap.size + 1 + 1 + 1, 0, none⟩ = false := hb1.frozen 0; obtain ⟨X1, cc1, hv1⟩ := hr1.slice; subst hv1; clear hr0 hr1 hb1 hg1 hw1))
      obtain ⟨W2, hW2⟩ : ∃ W2, W2 = w1.setCell ⟨w.heap.size + 1 + 1 + 1, 0, none⟩ (.slice X1 3 cc1) := ⟨_, rfl⟩
      rw [← hW2, ← Hb0.out]
      have hK2 : KW 57 (w.heap.size + 4) (w.heap.size + 3) (.slice X1 3 cc1) bv ([p0, p1] ++ [p2]) rs (rs ++ [⟨some ⟨b0, 0, none⟩, 3, [1, 1, G]⟩]) W2 := by rw [hW2]; exact HKc.out
      have hF2 : KF (glist P Q G H R) (slist p0 q0 p1 q1 p2 q2) w W2 := by rw [hW2]; exact HFc.out
      have HK2 := Lib.hid hK2
      have HF2 := Lib.hid hF2
      have hB2 : w.heap.size + 4 ≤ W2.heap.size := by have := hK2.blk.lt; omega
      have hHO := row_len hK2.b (show rs.length = (rs.map NumV.val).length by simp) rfl
      have hB3 : (rs.map NumV.val).length + 1 ≤ 1000 := by simp; omega
      have Hrl := Lib.hid hrl
      have Hm := Lib.hid hm
      have k2' : W2.cell? ⟨w.heap.size + 1 + 1 + 1, 1, none⟩ = some bv := (two_cells hK2.blk).2
      have hne : some (w.heap.size + 3) ≠ bv.ownBlock := row_ne_low hK2.b (by omega)
      have l1 := LaterR.cell (ρ := bv.ownBlock) k2' hne
      clear hK2 hF2 hW2 HKc HFc HKW HFW HW HsW c0 c1 d0 d1 hix k1 k2 k2' f1 hrl hm hBW
      refine region_one 29 30 4 6 (by decide) hHO (.slice (some ⟨b0, 0, none⟩) 3 3) hB2 hB3 (by rfl) (by rfl) (by kernel_rfl) (by kernel_rfl) (by rfl) ?_
      simp only [List.take_succ_cons, List.take_zero, List.drop_succ_cons, List.drop_zero]
      (repeat (first | (refine appA_skip (by decide) (by rfl) ?_; simp only [Act.put, List.setIfInBounds_toArray, List.set_cons_zero, List.set_cons_succ]) | (refine appA_plain (by decide) (by rfl) (by rfl) (by rfl) (fun Kc hKc => ?_); go_big_quiet_op; refine hKc _ ?_; clear hKc Kc)))
      refine appA_make 29 (V := fun w => .slice (some ⟨w.heap.size, 0, none⟩) 1 1) (W := fun w => w.alloc (.cells #[.slice (some ⟨b0, 0, none⟩) 3 3] 26)) (by decide) (fun w => by go_simp) (by rfl) (by rfl) (by rfl) (fun wk hlk _ => ⟨(Below.refl _ _).alloc (Nat.le_refl _) _, _, rfl, hlk.size, Blk.of _ _ _ _ rfl⟩) ?_
      rintro _ wk hlk ⟨bs, rfl, hbs, hbk⟩
      simp only [Act.put, List.setIfInBounds_toArray, List.set_cons_zero, List.set_cons_succ]
      refine appA_one 30 (B := w.heap.size + 4) (v := bv) (xs := rs.map NumV.val) (ad := ⟨bs, 0, none⟩) (y := .slice (some ⟨b0, 0, none⟩) 3 3) Tryz.un_numss Tryz.inf_nums rfl hHO rfl rfl (by omega) (by have := hB3; omega) hB2 rfl rfl _ _ rfl rfl rfl (fun wx hlx hd => by
        obtain ⟨b', he, _, hbk⟩ := hd 29 (by decide) _ (.inl ⟨rfl, rfl⟩)
        injection he with he
        injection he with he
        injection he with he
        subst he
        exact hbk.cell 0) (by rfl) (by rfl) (by rfl) (fun u wx h1 h2 => ⟨h1, h2⟩) ?_
      rintro bv1 wk1 hlk1 hbv1
      simp only [Act.put, List.setIfInBounds_toArray, List.set_cons_zero, List.set_cons_succ]
      (repeat (first | (refine appA_skip (by decide) (by rfl) ?_; simp only [Act.put, List.setIfInBounds_toArray, List.set_cons_zero, List.set_cons_succ]) | (refine appA_plain (by decide) (by rfl) (by rfl) (by rfl) (fun Kc hKc => ?_); go_big_quiet_op; refine hKc _ ?_; clear hKc Kc)))
      refine appA_nil ?_
      intro wq hlq hkn
      have hrow := (hkn 30 bv1 (by simp [behind, gadd])).1
      have hrow' := row_len hrow (show _ = 3 by simp [Hrl.out]) rfl
      have hb3 := HK2.out.blk.grown hlq hne
      have k3 : wq.cell? ⟨w.heap.size + 1 + 1 + 1, 1, none⟩ = some bv := hb3.cell 1
      have f3 : wq.frozen? ⟨w.heap.size + 1 + 1 + 1, 1, none⟩ = false := hb3.frozen 1
      have HK3 := Lib.hid (KW.pushB HK2.out (by decide) (by omega) ⟨some ⟨b0, 0, none⟩, 3, [1, 1, G]⟩ hlq (row_len hrow (by simp) rfl))
      have HF3 := Lib.hid ((HF2.out.grown hlq (fun c hc => row_ne_low HK2.out.b hc)).set (c := w.heap.size + 3) (Nat.le_refl _) 1 bv1)
      obtain ⟨Xb, cb, hvb⟩ := hrow'.slice
      subst hvb
      clear hkn hrow hrow' hb3 hlq hbv1 hlk1 hlk hbk hbs l1 HK2 HF2 hHO hne
      go_wp2_with fail
      refine NoPanic.normal ?_
      go_wp2_with fail
      go_roundw
      case rel => exact ⟨3, _, _, rs ++ [_], rfl, by omega, by simp [Hrl.out], by simp [Hm.out], HK3.out, HF3.out⟩
      case measure => simp [intOf]
    · -- behind the rounds
      obtain ⟨Xt, ct, hvt⟩ := (row_len hK.t (show _ = 3 from rfl) rfl).slice
      obtain ⟨Xb, cb, hvb⟩ := (row_len hK.b hrl rfl).slice
      subst hvt hvb
      obtain ⟨tv, htv⟩ : ∃ tv, tv = Value.slice Xt 3 ct := ⟨_, rfl⟩
      obtain ⟨bv, hbv⟩ : ∃ bv, bv = Value.slice Xb 3 cb := ⟨_, rfl⟩
      rw [← htv, ← hbv] at hK
      have c0 : wr.cell? ⟨w.heap.size + 1 + 1 + 1, 0, none⟩ = some tv := (two_cells hK.blk).1
      have c1 : wr.cell? ⟨w.heap.size + 1 + 1 + 1, 1, none⟩ = some bv := (two_cells hK.blk).2
      have o0 : wr.cell? ⟨w.heap.size + 1 + 1, 0, none⟩ = some (.slice none 0 0) := (two_cells hF.o).1
      have o1 : wr.cell? ⟨w.heap.size + 1 + 1, 1, none⟩ = some (.slice none 0 0) := (two_cells hF.o).2
      have f0 : wr.frozen? ⟨w.heap.size + 1 + 1, 0, none⟩ = false := hF.o.frozen 0
      have f1 : wr.frozen? ⟨w.heap.size + 1 + 1, 1, none⟩ = false := hF.o.frozen 1
      obtain ⟨wz, hwz⟩ : ∃ wz, wz = (wr.setCell ⟨w.heap.size + 1 + 1, 0, none⟩ tv).setCell ⟨w.heap.size + 1 + 1, 1, none⟩ bv := ⟨_, rfl⟩
      have hz := two_cells ((hF.o.set 0 tv).set 1 bv)
      have z0 : wz.cell? ⟨w.heap.size + 1 + 1, 0, none⟩ = some tv := by rw [hwz]; exact hz.1
      have z1 : wz.cell? ⟨w.heap.size + 1 + 1, 1, none⟩ = some bv := by rw [hwz]; exact hz.2
      have HO := Lib.hid (((hK.low (o := w.heap.size + 2) (by omega) (by omega) 0 tv).low (o := w.heap.size + 2) (by omega) (by omega) 1 bv).out (by omega) hm (by simp [h0, h1, h2]) (by simp [hG]))
      have HB := Lib.hid (below_set (below_set hF.b (b := w.heap.size + 2) (by omega) 0 tv) (b := w.heap.size + 2) (by omega) 1 bv)
      clear hK hF hz hm
      subst htv hbv
      go_wp2_with fail
      rw [show w.heap.size + 2 = w.heap.size + 1 + 1 from rfl, ← hwz] at HO HB
      rw [← hwz]
      exact bodyPost_ret (v := .agg #[.slice Xt 3 ct, .slice Xb 3 cb]) (by simp [results, Tryz.results20, go_sem, z0, z1]) rfl ⟨HO.out, HB.out⟩
end Go.Proofs.YtinlciofhegciaaGreat

/- Claims of tries: the reference's walk. -/
namespace Go.Proofs.YtinlciofhegciaaGreat
open Go.RowKit Go.BigFrame

set_option maxRecDepth 100000 in
set_option maxHeartbeats 2000000 in
theorem refKnows_any (P Q G H p0 q0 p1 q1 p2 q2 : Nat) (R : Value) (w : World) (hG : G < 18446744073709551616) (h0 : p0 < 18446744073709551616) (h1 : p1 < 18446744073709551616) (h2 : p2 < 18446744073709551616) :
    Calls Tryz.prog 21 #[gval P Q G H R, sval p0 q0 p1 q1 p2 q2] w fun e w' => OutClaim [p0, p1, p2] [[G, 1, 1], [1, G, 1], [1, 1, G]] e w' ∧ Below w.heap.size w w' := by
  unfold gval sval
  go_enter Tryz.func21, Tryz.ntmps21
  go_wp2_with fail
  obtain ⟨W4, hW4⟩ : ∃ W4, W4 = (((w.alloc (.cells #[.int .u64 (P : Int), .int .u64 (Q : Int), .int .u64 (G : Int), .int .u64 (H : Int), R] 25)).alloc (.cells #[.int .u64 (p0 : Int), .int .u64 (q0 : Int), .int .u64 (p1 : Int), .int .u64 (q1 : Int), .int .u64 (p2 : Int), .int .u64 (q2 : Int)] 46)).alloc (.cells #[.slice none 0 0, .slice none 0 0] 29)).alloc (.cells #[.slice none 0 0, .slice none 0 0] 29) := ⟨_, rfl⟩
  rw [← hW4]
  have HF0 := Lib.hid (KF.first P Q G H p0 q0 p1 q1 p2 q2 R w _ hW4)
  have HK0 := Lib.hid (KW.first (T1 := 22) (B := w.heap.size + 4) (c := w.heap.size + 3) (w := W4) (by rw [hW4]; exact Blk.at_new _ _ _ _ _ (by simp) rfl))
  clear hW4
  go_loopw [6] (fun iv wr => ∃ (k : Nat) (tv bv : Value) (rs : List NumV), iv = .int .i64 (k : Int) ∧ k ≤ 3 ∧ rs.length = k ∧ rs.map (·.l) = [[G, 1, 1], [1, G, 1], [1, 1, G]].take k ∧ KW 22 (w.heap.size + 4) (w.heap.size + 3) tv bv ([p0, p1, p2].take k) rs rs wr ∧ KF (glist P Q G H R) (slist p0 q0 p1 q1 p2 q2) w wr) (fun iv _ => 3 - (intOf iv).toNat)
  case atStart => exact ⟨0, _, _, [], rfl, by omega, rfl, rfl, HK0.out, HF0.out⟩
  case round =>
    obtain ⟨k, tv, bv, rs, rfl, hk, hrl, hm, hK, hF⟩ := hrel
    clear HF0 HK0
    have hk4 : k = 0 ∨ k = 1 ∨ k = 2 ∨ k = 3 := by omega
    rcases hk4 with rfl | rfl | rfl | rfl
    · -- round 0
      obtain ⟨W, hW⟩ : ∃ W, W = wr.alloc (.cells #[.int .u64 (G : Int), .int .u64 1, .int .u64 1] 22) := ⟨_, rfl⟩
      obtain ⟨b0, hb0⟩ : ∃ b0, b0 = wr.heap.size := ⟨_, rfl⟩
      have hlW : Lat wr W := by rw [hW]; exact lat_alloc (Below.refl _ _) _
      have hsW : W.heap.size = b0 + 1 := by rw [hW, hb0]; simp
      have hKW := (hK.below hlW).more ⟨some ⟨b0, 0, none⟩, 3, [G, 1, 1]⟩ ⟨b0, rfl, rfl, by have := hF.b.size; have := hK.blk.lt; omega, by rw [hW]; exact Blk.at_new _ _ _ _ _ (by simp [hb0]) rfl, (fun he => by have := (hK.t.block b0 he.symm).2; omega)⟩
      have hFW := hF.below hlW
      have HKW := Lib.hid hKW
      have HFW := Lib.hid hFW
      have hBW : w.heap.size + 4 ≤ W.heap.size := by have := hK.blk.lt; have := hlW.size; omega
      have d0 : wr.cell? ⟨w.heap.size, 2, none⟩ = some (.int .u64 (G : Int)) := hF.g.cell 2
      have d1 := fun o1 => below_cell (lat_alloc (Below.refl wr.heap.size wr) o1) d0
      have c0 : W.cell? ⟨w.heap.size + 1 + 1 + 1, 0, none⟩ = some tv := (two_cells hKW.blk).1
      have c1 : W.cell? ⟨w.heap.size + 1, 0, none⟩ = some (.int .u64 (p0 : Int)) := hFW.s.cell 0
      have hne : some (w.heap.size + 3) ≠ tv.ownBlock := row_ne_low hKW.t (by omega)
      have hne1 : some (w.heap.size + 1) ≠ tv.ownBlock := row_ne_low hKW.t (by omega)
      have HW := Lib.hid hW
      have Hb0 := Lib.hid hb0
      have HsW := Lib.hid hsW
      clear hK hF hKW hFW hlW hb0 hsW hW
      go_wp2_with fail
      rw [← HW.out, ← Hb0.out]
      have l1 := LaterR.cell (ρ := tv.ownBlock) c0 hne
      have l2 := LaterR.cell (ρ := tv.ownBlock) c1 hne1
      clear c0 c1 d0 d1 HW
      refine region_one 25 26 7 9 (by decide) HKW.out.t (.int .u64 (p0 : Int)) hBW (by simp [u64s]) (by rfl) (by rfl) (by kernel_rfl) (by kernel_rfl) (by rfl) ?_
      simp only [List.take_succ_cons, List.take_zero, List.drop_succ_cons, List.drop_zero]
      (repeat (first | (refine appA_skip (by decide) (by rfl) ?_; simp only [Act.put, List.setIfInBounds_toArray, List.set_cons_zero, List.set_cons_succ]) | (refine appA_plain (by decide) (by rfl) (by rfl) (by rfl) (fun Kc hKc => ?_); go_big_quiet_op; refine hKc _ ?_; clear hKc Kc)))
      refine appA_make 25 (V := fun w => .slice (some ⟨w.heap.size, 0, none⟩) 1 1) (W := fun w => w.alloc (.cells #[.int .u64 (p0 : Int)] 22)) (by decide) (fun w => by go_simp) (by rfl) (by rfl) (by rfl) (fun wk hlk _ => ⟨(Below.refl _ _).alloc (Nat.le_refl _) _, _, rfl, hlk.size, Blk.of _ _ _ _ rfl⟩) ?_
      rintro _ wk hlk ⟨bs, rfl, hbs, hbk⟩
      simp only [Act.put, List.setIfInBounds_toArray, List.set_cons_zero, List.set_cons_succ]
      refine appA_one 26 (B := w.heap.size + 4) (v := tv) (xs := u64s []) (ad := ⟨bs, 0, none⟩) (y := .int .u64 (p0 : Int)) Tryz.un_nums Tryz.inf_u64 rfl HKW.out.t rfl rfl (by omega) (by simp [u64s]) hBW rfl rfl _ _ rfl rfl rfl (fun wx hlx hd => by
        obtain ⟨b', he, _, hbk⟩ := hd 25 (by decide) _ (.inl ⟨rfl, rfl⟩)
        injection he with he
        injection he with he
        injection he with he
        subst he
        exact hbk.cell 0) (by rfl) (by rfl) (by rfl) (fun u wx h1 h2 => ⟨h1, h2⟩) ?_
      rintro tv1 wk1 hlk1 htv1
      simp only [Act.put, List.setIfInBounds_toArray, List.set_cons_zero, List.set_cons_succ]
      (repeat (first | (refine appA_skip (by decide) (by rfl) ?_; simp only [Act.put, List.setIfInBounds_toArray, List.set_cons_zero, List.set_cons_succ]) | (refine appA_plain (by decide) (by rfl) (by rfl) (by rfl) (fun Kc hKc => ?_); go_big_quiet_op; refine hKc _ ?_; clear hKc Kc)))
      refine appA_nil ?_
      intro wq hlq hkn
      obtain ⟨hrow, hwh⟩ := hkn 26 tv1 (by simp [behind, gadd])
      have hrow' := row_len hrow (show _ = 1 by simp [u64s]) rfl
      have hb3 := HKW.out.blk.grown hlq hne
      have k3 : wq.cell? ⟨w.heap.size + 1 + 1 + 1, 0, none⟩ = some tv := hb3.cell 0
      have f3 : wq.frozen? ⟨w.heap.size + 1 + 1 + 1, 0, none⟩ = false := hb3.frozen 0
      have HKc := Lib.hid (KW.pushT HKW.out (by omega) p0 hlq hrow' hwh)
      have HFc := Lib.hid ((HFW.out.grown hlq (fun c hc => row_ne_low HKW.out.t hc)).set (c := w.heap.size + 3) (Nat.le_refl _) 0 tv1)
      obtain ⟨X1, cc1, hv1⟩ := hrow'.slice
      subst hv1
      clear hkn hrow hrow' hwh hb3 hlq htv1 hlk1 hlk hbk hbs l1 l2 HKW HFW hne hne1 HsW hBW
      go_wp2_with fail
      refine NoPanic.normal ?_
      obtain ⟨W2, hW2⟩ : ∃ W2, W2 = wq.setCell ⟨w.heap.size + 1 + 1 + 1, 0, none⟩ (.slice X1 1 cc1) := ⟨_, rfl⟩
      rw [← hW2]
      have hK2 : KW 22 (w.heap.size + 4) (w.heap.size + 3) (.slice X1 1 cc1) bv ([] ++ [p0]) rs (rs ++ [⟨some ⟨b0, 0, none⟩, 3, [G, 1, 1]⟩]) W2 := by rw [hW2]; exact HKc.out
      have hF2 : KF (glist P Q G H R) (slist p0 q0 p1 q1 p2 q2) w W2 := by rw [hW2]; exact HFc.out
      have HK2 := Lib.hid hK2
      have HF2 := Lib.hid hF2
      have hB2 : w.heap.size + 4 ≤ W2.heap.size := by have := hK2.blk.lt; omega
      have hHO := row_len hK2.b (show rs.length = (rs.map NumV.val).length by simp) rfl
      have hB3 : ((rs.map NumV.val).length + 1) * 24 ≤ 140737488355328 := by simp; omega
      have HHO := Lib.hid hHO
      have Hrl := Lib.hid hrl
      have Hm := Lib.hid hm
      have k4 : W2.cell? ⟨w.heap.size + 1 + 1 + 1, 1, none⟩ = some bv := (two_cells hK2.blk).2
      have hne : some (w.heap.size + 3) ≠ bv.ownBlock := row_ne_low hK2.b (by omega)
      clear hK2 hF2 hW2 HKc HFc k3 f3 hrl hm hHO
      go_wp2_with (at_builtin; go_must (refine ap_oneW (B := w.heap.size + 4) (xs := rs.map NumV.val) Tryz.un_numss Tryz.inf_nums rfl HHO.out rfl (by omega) hB3 hB2 rfl _ _ rfl rfl rfl ?_; intro v1 w1 hr0 hg1 hw1; have HK3 := Lib.hid (KW.pushB HK2.out (by decide) (by omega) ⟨some ⟨b0, 0, none⟩, 3, [G, 1, 1]⟩ hg1 (row_len hr0 (by simp) rfl)); have HF3 := Lib.hid ((HF2.out.grown hg1 (fun c hc => row_ne_low HK2.out.b hc)).set (c := w.heap.size + 3) (Nat.le_refl _) 1 v1); have hb1 := HK2.out.blk.grown hg1 hne; have k1 : w1.cell? ⟨w.heap.size + 1 + 1 + 1, 1, none⟩ = some bv := hb1.cell 1; have f1 : w1.frozen? ⟨w.heap.size + 1 + 1 + 1, 1, none⟩ = false := hb1.frozen 1; obtain ⟨Xb, cb, hvb⟩ := (row_len hr0 (show _ = 1 by simp [Hrl.out]) rfl).slice; subst hvb; clear hr0 hb1 hg1 hw1))
      go_roundw
      case rel => exact ⟨1, _, _, rs ++ [_], rfl, by omega, by simp [Hrl.out], by simp [Hm.out], HK3.out, HF3.out⟩
      case measure => simp [intOf]
    · -- round 1
      obtain ⟨W, hW⟩ : ∃ W, W = wr.alloc (.cells #[.int .u64 1, .int .u64 (G : Int), .int .u64 1] 22) := ⟨_, rfl⟩
      obtain ⟨b0, hb0⟩ : ∃ b0, b0 = wr.heap.size := ⟨_, rfl⟩
      have hlW : Lat wr W := by rw [hW]; exact lat_alloc (Below.refl _ _) _
      have hsW : W.heap.size = b0 + 1 := by rw [hW, hb0]; simp
      have hKW := (hK.below hlW).more ⟨some ⟨b0, 0, none⟩, 3, [1, G, 1]⟩ ⟨b0, rfl, rfl, by have := hF.b.size; have := hK.blk.lt; omega, by rw [hW]; exact Blk.at_new _ _ _ _ _ (by simp [hb0]) rfl, (fun he => by have := (hK.t.block b0 he.symm).2; omega)⟩
      have hFW := hF.below hlW
      have HKW := Lib.hid hKW
      have HFW := Lib.hid hFW
      have hBW : w.heap.size + 4 ≤ W.heap.size := by have := hK.blk.lt; have := hlW.size; omega
      have d0 : wr.cell? ⟨w.heap.size, 2, none⟩ = some (.int .u64 (G : Int)) := hF.g.cell 2
      have d1 := fun o1 => below_cell (lat_alloc (Below.refl wr.heap.size wr) o1) d0
      have c0 : W.cell? ⟨w.heap.size + 1 + 1 + 1, 0, none⟩ = some tv := (two_cells hKW.blk).1
      have c1 : W.cell? ⟨w.heap.size + 1, 2, none⟩ = some (.int .u64 (p1 : Int)) := hFW.s.cell 2
      have hne : some (w.heap.size + 3) ≠ tv.ownBlock := row_ne_low hKW.t (by omega)
      have hne1 : some (w.heap.size + 1) ≠ tv.ownBlock := row_ne_low hKW.t (by omega)
      have HW := Lib.hid hW
      have Hb0 := Lib.hid hb0
      have HsW := Lib.hid hsW
      clear hK hF hKW hFW hlW hb0 hsW hW
      go_wp2_with fail
      rw [← HW.out, ← Hb0.out]
      have l1 := LaterR.cell (ρ := tv.ownBlock) c0 hne
      have l2 := LaterR.cell (ρ := tv.ownBlock) c1 hne1
      clear c0 c1 d0 d1 HW
      refine region_one 25 26 7 9 (by decide) HKW.out.t (.int .u64 (p1 : Int)) hBW (by simp [u64s]) (by rfl) (by rfl) (by kernel_rfl) (by kernel_rfl) (by rfl) ?_
      simp only [List.take_succ_cons, List.take_zero, List.drop_succ_cons, List.drop_zero]
      (repeat (first | (refine appA_skip (by decide) (by rfl) ?_; simp only [Act.put, List.setIfInBounds_toArray, List.set_cons_zero, List.set_cons_succ]) | (refine appA_plain (by decide) (by rfl) (by rfl) (by rfl) (fun Kc hKc => ?_); go_big_quiet_op; refine hKc _ ?_; clear hKc Kc)))
      refine appA_make 25 (V := fun w => .slice (some ⟨w.heap.size, 0, none⟩) 1 1) (W := fun w => w.alloc (.cells #[.int .u64 (p1 : Int)] 22)) (by decide) (fun w => by go_simp) (by rfl) (by rfl) (by rfl) (fun wk hlk _ => ⟨(Below.refl _ _).alloc (Nat.le_refl _) _, _, rfl, hlk.size, Blk.of _ _ _ _ rfl⟩) ?_
      rintro _ wk hlk ⟨bs, rfl, hbs, hbk⟩
      simp only [Act.put, List.setIfInBounds_toArray, List.set_cons_zero, List.set_cons_succ]
      refine appA_one 26 (B := w.heap.size + 4) (v := tv) (xs := u64s [p0]) (ad := ⟨bs, 0, none⟩) (y := .int .u64 (p1 : Int)) Tryz.un_nums Tryz.inf_u64 rfl HKW.out.t rfl rfl (by omega) (by simp [u64s]) hBW rfl rfl _ _ rfl rfl rfl (fun wx hlx hd => by
        obtain ⟨b', he, _, hbk⟩ := hd 25 (by decide) _ (.inl ⟨rfl, rfl⟩)
        injection he with he
        injection he with he
        injection he with he
        subst he
        exact hbk.cell 0) (by rfl) (by rfl) (by rfl) (fun u wx h1 h2 => ⟨h1, h2⟩) ?_
      rintro tv1 wk1 hlk1 htv1
      simp only [Act.put, List.setIfInBounds_toArray, List.set_cons_zero, List.set_cons_succ]
      (repeat (first | (refine appA_skip (by decide) (by rfl) ?_; simp only [Act.put, List.setIfInBounds_toArray, List.set_cons_zero, List.set_cons_succ]) | (refine appA_plain (by decide) (by rfl) (by rfl) (by rfl) (fun Kc hKc => ?_); go_big_quiet_op; refine hKc _ ?_; clear hKc Kc)))
      refine appA_nil ?_
      intro wq hlq hkn
      obtain ⟨hrow, hwh⟩ := hkn 26 tv1 (by simp [behind, gadd])
      have hrow' := row_len hrow (show _ = 2 by simp [u64s]) rfl
      have hb3 := HKW.out.blk.grown hlq hne
      have k3 : wq.cell? ⟨w.heap.size + 1 + 1 + 1, 0, none⟩ = some tv := hb3.cell 0
      have f3 : wq.frozen? ⟨w.heap.size + 1 + 1 + 1, 0, none⟩ = false := hb3.frozen 0
      have HKc := Lib.hid (KW.pushT HKW.out (by omega) p1 hlq hrow' hwh)
      have HFc := Lib.hid ((HFW.out.grown hlq (fun c hc => row_ne_low HKW.out.t hc)).set (c := w.heap.size + 3) (Nat.le_refl _) 0 tv1)
      obtain ⟨X1, cc1, hv1⟩ := hrow'.slice
      subst hv1
      clear hkn hrow hrow' hwh hb3 hlq htv1 hlk1 hlk hbk hbs l1 l2 HKW HFW hne hne1 HsW hBW
      go_wp2_with fail
      refine NoPanic.normal ?_
      obtain ⟨W2, hW2⟩ : ∃ W2, W2 = wq.setCell ⟨w.heap.size + 1 + 1 + 1, 0, none⟩ (.slice X1 2 cc1) := ⟨_, rfl⟩
      rw [← hW2]
      have hK2 : KW 22 (w.heap.size + 4) (w.heap.size + 3) (.slice X1 2 cc1) bv ([p0] ++ [p1]) rs (rs ++ [⟨some ⟨b0, 0, none⟩, 3, [1, G, 1]⟩]) W2 := by rw [hW2]; exact HKc.out
      have hF2 : KF (glist P Q G H R) (slist p0 q0 p1 q1 p2 q2) w W2 := by rw [hW2]; exact HFc.out
      have HK2 := Lib.hid hK2
      have HF2 := Lib.hid hF2
      have hB2 : w.heap.size + 4 ≤ W2.heap.size := by have := hK2.blk.lt; omega
      have hHO := row_len hK2.b (show rs.length = (rs.map NumV.val).length by simp) rfl
      have hB3 : ((rs.map NumV.val).length + 1) * 24 ≤ 140737488355328 := by simp; omega
      have HHO := Lib.hid hHO
      have Hrl := Lib.hid hrl
      have Hm := Lib.hid hm
      have k4 : W2.cell? ⟨w.heap.size + 1 + 1 + 1, 1, none⟩ = some bv := (two_cells hK2.blk).2
      have hne : some (w.heap.size + 3) ≠ bv.ownBlock := row_ne_low hK2.b (by omega)
      clear hK2 hF2 hW2 HKc HFc k3 f3 hrl hm hHO
      go_wp2_with (at_builtin; go_must (refine ap_oneW (B := w.heap.size + 4) (xs := rs.map NumV.val) Tryz.un_numss Tryz.inf_nums rfl HHO.out rfl (by omega) hB3 hB2 rfl _ _ rfl rfl rfl ?_; intro v1 w1 hr0 hg1 hw1; have HK3 := Lib.hid (KW.pushB HK2.out (by decide) (by omega) ⟨some ⟨b0, 0, none⟩, 3, [1, G, 1]⟩ hg1 (row_len hr0 (by simp) rfl)); have HF3 := Lib.hid ((HF2.out.grown hg1 (fun c hc => row_ne_low HK2.out.b hc)).set (c := w.heap.size + 3) (Nat.le_refl _) 1 v1); have hb1 := HK2.out.blk.grown hg1 hne; have k1 : w1.cell? ⟨w.heap.size + 1 + 1 + 1, 1, none⟩ = some bv := hb1.cell 1; have f1 : w1.frozen? ⟨w.heap.size + 1 + 1 + 1, 1, none⟩ = false := hb1.frozen 1; obtain ⟨Xb, cb, hvb⟩ := (row_len hr0 (show _ = 2 by simp [Hrl.out]) rfl).slice; subst hvb; clear hr0 hb1 hg1 hw1))
      go_roundw
      case rel => exact ⟨2, _, _, rs ++ [_], rfl, by omega, by simp [Hrl.out], by simp [Hm.out], HK3.out, HF3.out⟩
      case measure => simp [intOf]
    · -- round 2
      obtain ⟨W, hW⟩ : ∃ W, W = wr.alloc (.cells #[.int .u64 1, .int .u64 1, .int .u64 (G : Int)] 22) := ⟨_, rfl⟩
      obtain ⟨b0, hb0⟩ : ∃ b0, b0 = wr.heap.size := ⟨_, rfl⟩
      have hlW : Lat wr W := by rw [hW]; exact lat_alloc (Below.refl _ _) _
      have hsW : W.heap.size = b0 + 1 := by rw [hW, hb0]; simp
      have hKW := (hK.below hlW).more ⟨some ⟨b0, 0, none⟩, 3, [1, 1, G]⟩ ⟨b0, rfl, rfl, by have := hF.b.size; have := hK.blk.lt; omega, by rw [hW]; exact Blk.at_new _ _ _ _ _ (by simp [hb0]) rfl, (fun he => by have := (hK.t.block b0 he.symm).2; omega)⟩
      have hFW := hF.below hlW
      have HKW := Lib.hid hKW
      have HFW := Lib.hid hFW
      have hBW : w.heap.size + 4 ≤ W.heap.size := by have := hK.blk.lt; have := hlW.size; omega
      have d0 : wr.cell? ⟨w.heap.size, 2, none⟩ = some (.int .u64 (G : Int)) := hF.g.cell 2
      have d1 := fun o1 => below_cell (lat_alloc (Below.refl wr.heap.size wr) o1) d0
      have c0 : W.cell? ⟨w.heap.size + 1 + 1 + 1, 0, none⟩ = some tv := (two_cells hKW.blk).1
      have c1 : W.cell? ⟨w.heap.size + 1, 4, none⟩ = some (.int .u64 (p2 : Int)) := hFW.s.cell 4
      have hne : some (w.heap.size + 3) ≠ tv.ownBlock := row_ne_low hKW.t (by omega)
      have hne1 : some (w.heap.size + 1) ≠ tv.ownBlock := row_ne_low hKW.t (by omega)
      have HW := Lib.hid hW
      have Hb0 := Lib.hid hb0
      have HsW := Lib.hid hsW
      clear hK hF hKW hFW hlW hb0 hsW hW
      go_wp2_with fail
      rw [← HW.out, ← Hb0.out]
      have l1 := LaterR.cell (ρ := tv.ownBlock) c0 hne
      have l2 := LaterR.cell (ρ := tv.ownBlock) c1 hne1
      clear c0 c1 d0 d1 HW
      refine region_one 25 26 7 9 (by decide) HKW.out.t (.int .u64 (p2 : Int)) hBW (by simp [u64s]) (by rfl) (by rfl) (by kernel_rfl) (by kernel_rfl) (by rfl) ?_
      simp only [List.take_succ_cons, List.take_zero, List.drop_succ_cons, List.drop_zero]
      (repeat (first | (refine appA_skip (by decide) (by rfl) ?_; simp only [Act.put, List.setIfInBounds_toArray, List.set_cons_zero, List.set_cons_succ]) | (refine appA_plain (by decide) (by rfl) (by rfl) (by rfl) (fun Kc hKc => ?_); go_big_quiet_op; refine hKc _ ?_; clear hKc Kc)))
      refine appA_make 25 (V := fun w => .slice (some ⟨w.heap.size, 0, none⟩) 1 1) (W := fun w => w.alloc (.cells #[.int .u64 (p2 : Int)] 22)) (by decide) (fun w => by go_simp) (by rfl) (by rfl) (by rfl) (fun wk hlk _ => ⟨(Below.refl _ _).alloc (Nat.le_refl _) _, _, rfl, hlk.size, Blk.of _ _ _ _ rfl⟩) ?_
      rintro _ wk hlk ⟨bs, rfl, hbs, hbk⟩
      simp only [Act.put, List.setIfInBounds_toArray, List.set_cons_zero, List.set_cons_succ]
      refine appA_one 26 (B := w.heap.size + 4) (v := tv) (xs := u64s [p0, p1]) (ad := ⟨bs, 0, none⟩) (y := .int .u64 (p2 : Int)) Tryz.un_nums Tryz.inf_u64 rfl HKW.out.t rfl rfl (by omega) (by simp [u64s]) hBW rfl rfl _ _ rfl rfl rfl (fun wx hlx hd => by
        obtain ⟨b', he, _, hbk⟩ := hd 25 (by decide) _ (.inl ⟨rfl, rfl⟩)
        injection he with he
        injection he with he
        injection he with he
        subst he
        exact hbk.cell 0) (by rfl) (by rfl) (by rfl) (fun u wx h1 h2 => ⟨h1, h2⟩) ?_
      rintro tv1 wk1 hlk1 htv1
      simp only [Act.put, List.setIfInBounds_toArray, List.set_cons_zero, List.set_cons_succ]
      (repeat (first | (refine appA_skip (by decide) (by rfl) ?_; simp only [Act.put, List.setIfInBounds_toArray, List.set_cons_zero, List.set_cons_succ]) | (refine appA_plain (by decide) (by rfl) (by rfl) (by rfl) (fun Kc hKc => ?_); go_big_quiet_op; refine hKc _ ?_; clear hKc Kc)))
      refine appA_nil ?_
      intro wq hlq hkn
      obtain ⟨hrow, hwh⟩ := hkn 26 tv1 (by simp [behind, gadd])
      have hrow' := row_len hrow (show _ = 3 by simp [u64s]) rfl
      have hb3 := HKW.out.blk.grown hlq hne
      have k3 : wq.cell? ⟨w.heap.size + 1 + 1 + 1, 0, none⟩ = some tv := hb3.cell 0
      have f3 : wq.frozen? ⟨w.heap.size + 1 + 1 + 1, 0, none⟩ = false := hb3.frozen 0
      have HKc := Lib.hid (KW.pushT HKW.out (by omega) p2 hlq hrow' hwh)
      have HFc := Lib.hid ((HFW.out.grown hlq (fun c hc => row_ne_low HKW.out.t hc)).set (c := w.heap.size + 3) (Nat.le_refl _) 0 tv1)
      obtain ⟨X1, cc1, hv1⟩ := hrow'.slice
      subst hv1
      clear hkn hrow hrow' hwh hb3 hlq htv1 hlk1 hlk hbk hbs l1 l2 HKW HFW hne hne1 HsW hBW
      go_wp2_with fail
      refine NoPanic.normal ?_
      obtain ⟨W2, hW2⟩ : ∃ W2, W2 = wq.setCell ⟨w.heap.size + 1 + 1 + 1, 0, none⟩ (.slice X1 3 cc1) := ⟨_, rfl⟩
      rw [← hW2]
      have hK2 : KW 22 (w.heap.size + 4) (w.heap.size + 3) (.slice X1 3 cc1) bv ([p0, p1] ++ [p2]) rs (rs ++ [⟨some ⟨b0, 0, none⟩, 3, [1, 1, G]⟩]) W2 := by rw [hW2]; exact HKc.out
      have hF2 : KF (glist P Q G H R) (slist p0 q0 p1 q1 p2 q2) w W2 := by rw [hW2]; exact HFc.out
      have HK2 := Lib.hid hK2
      have HF2 := Lib.hid hF2
      have hB2 : w.heap.size + 4 ≤ W2.heap.size := by have := hK2.blk.lt; omega
      have hHO := row_len hK2.b (show rs.length = (rs.map NumV.val).length by simp) rfl
      have hB3 : ((rs.map NumV.val).length + 1) * 24 ≤ 140737488355328 := by simp; omega
      have HHO := Lib.hid hHO
      have Hrl := Lib.hid hrl
      have Hm := Lib.hid hm
      have k4 : W2.cell? ⟨w.heap.size + 1 + 1 + 1, 1, none⟩ = some bv := (two_cells hK2.blk).2
      have hne : some (w.heap.size + 3) ≠ bv.ownBlock := row_ne_low hK2.b (by omega)
      clear hK2 hF2 hW2 HKc HFc k3 f3 hrl hm hHO
      go_wp2_with (at_builtin; go_must (refine ap_oneW (B := w.heap.size + 4) (xs := rs.map NumV.val) Tryz.un_numss Tryz.inf_nums rfl HHO.out rfl (by omega) hB3 hB2 rfl _ _ rfl rfl rfl ?_; intro v1 w1 hr0 hg1 hw1; have HK3 := Lib.hid (KW.pushB HK2.out (by decide) (by omega) ⟨some ⟨b0, 0, none⟩, 3, [1, 1, G]⟩ hg1 (row_len hr0 (by simp) rfl)); have HF3 := Lib.hid ((HF2.out.grown hg1 (fun c hc => row_ne_low HK2.out.b hc)).set (c := w.heap.size + 3) (Nat.le_refl _) 1 v1); have hb1 := HK2.out.blk.grown hg1 hne; have k1 : w1.cell? ⟨w.heap.size + 1 + 1 + 1, 1, none⟩ = some bv := hb1.cell 1; have f1 : w1.frozen? ⟨w.heap.size + 1 + 1 + 1, 1, none⟩ = false := hb1.frozen 1; obtain ⟨Xb, cb, hvb⟩ := (row_len hr0 (show _ = 3 by simp [Hrl.out]) rfl).slice; subst hvb; clear hr0 hb1 hg1 hw1))
      go_roundw
      case rel => exact ⟨3, _, _, rs ++ [_], rfl, by omega, by simp [Hrl.out], by simp [Hm.out], HK3.out, HF3.out⟩
      case measure => simp [intOf]
    · -- behind the rounds
      obtain ⟨Xt, ct, hvt⟩ := (row_len hK.t (show _ = 3 from rfl) rfl).slice
      obtain ⟨Xb, cb, hvb⟩ := (row_len hK.b hrl rfl).slice
      subst hvt hvb
      obtain ⟨tv, htv⟩ : ∃ tv, tv = Value.slice Xt 3 ct := ⟨_, rfl⟩
      obtain ⟨bv, hbv⟩ : ∃ bv, bv = Value.slice Xb 3 cb := ⟨_, rfl⟩
      rw [← htv, ← hbv] at hK
      have c0 : wr.cell? ⟨w.heap.size + 1 + 1 + 1, 0, none⟩ = some tv := (two_cells hK.blk).1
      have c1 : wr.cell? ⟨w.heap.size + 1 + 1 + 1, 1, none⟩ = some bv := (two_cells hK.blk).2
      have o0 : wr.cell? ⟨w.heap.size + 1 + 1, 0, none⟩ = some (.slice none 0 0) := (two_cells hF.o).1
      have o1 : wr.cell? ⟨w.heap.size + 1 + 1, 1, none⟩ = some (.slice none 0 0) := (two_cells hF.o).2
      have f0 : wr.frozen? ⟨w.heap.size + 1 + 1, 0, none⟩ = false := hF.o.frozen 0
      have f1 : wr.frozen? ⟨w.heap.size + 1 + 1, 1, none⟩ = false := hF.o.frozen 1
      obtain ⟨wz, hwz⟩ : ∃ wz, wz = (wr.setCell ⟨w.heap.size + 1 + 1, 0, none⟩ tv).setCell ⟨w.heap.size + 1 + 1, 1, none⟩ bv := ⟨_, rfl⟩
      have hz := two_cells ((hF.o.set 0 tv).set 1 bv)
      have z0 : wz.cell? ⟨w.heap.size + 1 + 1, 0, none⟩ = some tv := by rw [hwz]; exact hz.1
      have z1 : wz.cell? ⟨w.heap.size + 1 + 1, 1, none⟩ = some bv := by rw [hwz]; exact hz.2
      have HO := Lib.hid (((hK.low (o := w.heap.size + 2) (by omega) (by omega) 0 tv).low (o := w.heap.size + 2) (by omega) (by omega) 1 bv).out (by omega) hm (by simp [h0, h1, h2]) (by simp [hG]))
      have HB := Lib.hid (below_set (below_set hF.b (b := w.heap.size + 2) (by omega) 0 tv) (b := w.heap.size + 2) (by omega) 1 bv)
      clear hK hF hz hm
      subst htv hbv
      go_wp2_with fail
      rw [show w.heap.size + 2 = w.heap.size + 1 + 1 from rfl, ← hwz] at HO HB
      rw [← hwz]
      exact bodyPost_ret (v := .agg #[.slice Xt 3 ct, .slice Xb 3 cb]) (by simp [results, Tryz.results21, go_sem, z0, z1]) rfl ⟨HO.out, HB.out⟩
end Go.Proofs.YtinlciofhegciaaGreat

/- The same proof? The reference's walk. -/
namespace Go.Proofs.YtinlciofhegciaaGreat
open Go.RowKit

set_option maxRecDepth 100000 in
set_option maxHeartbeats 1000000 in
theorem sameP_any (A1 : Option Addr) (c1 : Nat) (L1 : List Nat) (A2 : Option Addr) (c2 : Nat) (L2 : List Nat) (A3 : Option Addr) (c3 : Nat) (L3 : List Nat) (A4 : Option Addr) (c4 : Nat) (L4 : List Nat) (w : World)
    (h1 : Nums w A1 c1 L1) (h2 : Nums w A2 c2 L2) (h3 : Nums w A3 c3 L3) (h4 : Nums w A4 c4 L4) (l1 : L1.length < 1000000) (l2 : L2.length < 1000000) (l3 : L3.length < 1000000) (l4 : L4.length < 1000000) :
    Calls Tryz.prog 12 #[.agg #[.slice A1 L1.length c1, .slice A2 L2.length c2], .agg #[.slice A3 L3.length c3, .slice A4 L4.length c4]] w fun e w' => e = .returned (.bool (decide (L1 = L3) && decide (L2 = L4))) ∧ Below w.heap.size w w' := by
  have hs1 := fun W hb => refSame_any A1 c1 L1 A3 c3 L3 W (h1.below (w1 := W) hb) (h3.below hb) l1 l3
  have hs2 := fun W hb => refSame_any A2 c2 L2 A4 c4 L4 W (h2.below (w1 := W) hb) (h4.below hb) l2 l4
  obtain ⟨n1, hn1⟩ : ∃ n, n = L1.length := ⟨_, rfl⟩
  obtain ⟨n2, hn2⟩ : ∃ n, n = L2.length := ⟨_, rfl⟩
  obtain ⟨n3, hn3⟩ : ∃ n, n = L3.length := ⟨_, rfl⟩
  obtain ⟨n4, hn4⟩ : ∃ n, n = L4.length := ⟨_, rfl⟩
  obtain ⟨r1, hr1⟩ : ∃ r, r = decide (L1 = L3) := ⟨_, rfl⟩
  obtain ⟨r2, hr2⟩ : ∃ r, r = decide (L2 = L4) := ⟨_, rfl⟩
  rw [← hr1, ← hn1, ← hn3] at hs1
  rw [← hr2, ← hn2, ← hn4] at hs2
  rw [← hr1, ← hr2, ← hn1, ← hn2, ← hn3, ← hn4]
  have hb0 : Below w.heap.size w ((w.alloc (.cells #[.slice A1 n1 c1, .slice A2 n2 c2] 36)).alloc (.cells #[.slice A3 n3 c3, .slice A4 n4 c4] 36)) := ((Below.refl _ _).alloc (Nat.le_refl _) _).alloc (by simp) _
  have Hs1 := Lib.hid hs1
  have Hs2 := Lib.hid hs2
  have Hb0 := Lib.hid hb0
  clear hs1 hs2 hb0 h1 h2 h3 h4 l1 l2 l3 l4 hn1 hn2 hn3 hn4 hr1 hr2
  cases r1 with
  | false =>
    go_enter Tryz.func12, Tryz.ntmps12
    go_wp2_with (go_at_call 39; refine (Hs1.out _ Hb0.out).mono ?_; rintro e w2 ⟨rfl, q, rfl⟩)
    go_ret
    exact ⟨rfl, below_drewN Hb0.out _⟩
  | true =>
    go_enter Tryz.func12, Tryz.ntmps12
    go_wp2_with fail
    refine (Hs1.out _ Hb0.out).mono ?_
    rintro e w2 ⟨rfl, q, rfl⟩
    go_wp2_with fail
    refine (Hs2.out _ (below_drewN Hb0.out q)).mono ?_
    rintro e w2 ⟨rfl, q2, rfl⟩
    go_wp2_with fail
    go_ret
    exact ⟨by simp, below_drewN Hb0.out _⟩
end Go.Proofs.YtinlciofhegciaaGreat
