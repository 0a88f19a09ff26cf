/- Joined texts, part 1: contracts of the functions that the laws reach, and what is needed for them. -/
import Derived.WalkKit
import Derived.ProofKit
import Derived.Maps.AppendAt
import Derived.Lib.Repeat
import Derived.Deep.DeepMust
import Derived.Deep.DeepFit
import Derived.OwnWalk
import Derived.Lib.Hide
import Derived.IntWalk
import Derived.Laws.BytesArg
import Derived.Deep.QuietTactic
import Derived.BigQuiet
import Derived.Shelf.Small.Bits
import Derived.Shelf.Strconv.Itoa0
import Derived.Test.YtbpenkaficiodaaGreatProg
import Derived.Lib.ItoaNum
import Derived.Laws.BitsAllLaws
import Derived.KernelRfl
import Derived.Shelf.Strings.Builder1
import Derived.Shelf.Strings.Builder2
import Derived.Shelf.Strings.BuilderF
import Derived.Shelf.Strings.BuilderK
import Derived.Shelf.Strings.Builder2Cap
import Derived.Shelf.Strings.Prefix
import Derived.Shelf.Bits.Mul64
import Derived.Shelf.Strings.Repeat
import Derived.Shelf.Strings.BuilderCap
import Derived.Shelf.Lays
import Derived.Shelf.Spec.BitsCarry
/- Division of a number of two words by one of one word, a digit at a time: the law of it, without a program. -/
namespace Go.Proofs.YtbpenkaficiodaaGreat

section
variable {B un yn1 yn0 u1 q r : Nat}
theorem digit_lt (hu : un < yn1 * B + yn0) (h1 : u1 < B) : (un * B + u1) / (yn1 * B + yn0) < B := by
  rw [Nat.div_lt_iff_lt_mul (by omega)]
  have := Nat.mul_le_mul_right B (show un + 1 ≤ yn1 * B + yn0 by omega)
  rw [Nat.add_mul] at this
  rw [Nat.mul_comm B]
  omega
theorem digit_over (hu : un < yn1 * B + yn0) (h1 : u1 < B) (hqr : q * yn1 + r = un) (h : B ≤ q ∨ B * r + u1 < q * yn0) :
    (un * B + u1) / (yn1 * B + yn0) < q := by
  rcases h with h | h
  · exact Nat.lt_of_lt_of_le (digit_lt hu h1) h
  · rw [Nat.div_lt_iff_lt_mul (by omega), Nat.mul_add, ← Nat.mul_assoc, ← hqr, Nat.add_mul, Nat.mul_comm r B]
    omega
theorem digit_under (hu : un < yn1 * B + yn0) (hqr : q * yn1 + r = un) (h : q * yn0 ≤ B * r + u1) :
    q ≤ (un * B + u1) / (yn1 * B + yn0) := by
  rw [Nat.le_div_iff_mul_le (by omega), Nat.mul_add, ← Nat.mul_assoc, ← hqr, Nat.add_mul, Nat.mul_comm r B]
  omega
theorem digit_first (hu : un < yn1 * B + yn0) (h1 : u1 < B) (h0 : yn0 < B) (hy : B ≤ 2 * yn1) :
    (un * B + u1) / (yn1 * B + yn0) ≤ un / yn1 ∧ un / yn1 ≤ B + 1 := by
  have hp : 0 < yn1 := by omega
  constructor
  · rw [Nat.le_div_iff_mul_le hp]
    have h := Nat.div_mul_le_self (un * B + u1) (yn1 * B + yn0)
    obtain ⟨Q, hQ⟩ : ∃ Q, Q = (un * B + u1) / (yn1 * B + yn0) := ⟨_, rfl⟩
    rw [← hQ] at h ⊢
    rw [Nat.mul_add, ← Nat.mul_assoc] at h
    have h2 : Q * yn1 * B < (un + 1) * B := by rw [Nat.add_mul]; omega
    have := Nat.lt_of_mul_lt_mul_right h2
    omega
  · have h3 : un / yn1 < B + 2 := by
      rw [Nat.div_lt_iff_lt_mul hp, Nat.add_mul, Nat.mul_comm B]
      omega
    omega
/-- What holds at the head of a digit's loop. -/
structure Dig (B un yn1 yn0 u1 q r : Nat) : Prop where
  ge : (un * B + u1) / (yn1 * B + yn0) ≤ q
  eq : q * yn1 + r = un
  q : q ≤ B + 1
  r : r < B
theorem Dig.first (hu : un < yn1 * B + yn0) (h1 : u1 < B) (h0 : yn0 < B) (hy : B ≤ 2 * yn1) (hy2 : yn1 < B) : Dig B un yn1 yn0 u1 (un / yn1) (un % yn1) := by
  obtain ⟨ha, hb⟩ := digit_first hu h1 h0 hy
  have := Nat.mod_lt un (show 0 < yn1 by omega)
  exact ⟨ha, by rw [Nat.mul_comm]; exact Nat.div_add_mod un yn1, hb, by omega⟩
theorem Dig.dec (hu : un < yn1 * B + yn0) (h1 : u1 < B) (D : Dig B un yn1 yn0 u1 q r) (h : B ≤ q ∨ B * r + u1 < q * yn0) :
    1 ≤ q ∧ (un * B + u1) / (yn1 * B + yn0) ≤ q - 1 ∧ (q - 1) * yn1 + (r + yn1) = un ∧ q - 1 ≤ B := by
  have ho := digit_over hu h1 D.eq h
  have hq := D.q
  have he := D.eq
  have h1q : 1 ≤ q := Nat.lt_of_le_of_lt (Nat.zero_le _) ho
  refine ⟨h1q, Nat.le_sub_one_of_lt ho, ?_, by omega⟩
  obtain ⟨p, rfl⟩ : ∃ p, q = p + 1 := ⟨q - 1, by omega⟩
  rw [Nat.add_sub_cancel]
  rw [Nat.add_mul] at he
  omega
theorem Dig.next (hu : un < yn1 * B + yn0) (h1 : u1 < B) (D : Dig B un yn1 yn0 u1 q r) (h : B ≤ q ∨ B * r + u1 < q * yn0) (hr : r + yn1 < B) : Dig B un yn1 yn0 u1 (q - 1) (r + yn1) := by
  obtain ⟨_, ha, hb, hc⟩ := D.dec hu h1 h
  exact ⟨ha, hb, by omega, hr⟩
theorem Dig.broken (hu : un < yn1 * B + yn0) (h1 : u1 < B) (h0 : yn0 < B) (D : Dig B un yn1 yn0 u1 q r) (h : B ≤ q ∨ B * r + u1 < q * yn0) (hr : B ≤ r + yn1) :
    q - 1 = (un * B + u1) / (yn1 * B + yn0) := by
  obtain ⟨_, ha, hb, hc⟩ := D.dec hu h1 h
  refine Nat.le_antisymm (digit_under hu hb ?_) ha
  have h2 : (q - 1) * yn0 ≤ B * (r + yn1) := Nat.mul_le_mul hc (by omega)
  omega
theorem Dig.done (hu : un < yn1 * B + yn0) (D : Dig B un yn1 yn0 u1 q r) (h : q * yn0 ≤ B * r + u1) : q = (un * B + u1) / (yn1 * B + yn0) :=
  Nat.le_antisymm (digit_under hu D.eq h) D.ge
theorem Dig.prod (h0 : yn0 < B) (D : Dig B un yn1 yn0 u1 q r) : q * yn0 < B * B := by
  have := D.q
  have h2 : q * yn0 ≤ (B + 1) * (B - 1) := Nat.mul_le_mul this (by omega)
  obtain ⟨c, rfl⟩ : ∃ c, B = c + 1 := ⟨B - 1, by omega⟩
  have h3 : (c + 1 + 1) * (c + 1 - 1) < (c + 1) * (c + 1) := by
    rw [Nat.add_sub_cancel]
    simp only [Nat.add_mul, Nat.mul_add]
    omega
  exact Nat.lt_of_le_of_lt h2 h3
end
/-- The two digits, and what is left. -/
theorem digits {B N y s Y U u0 : Nat} (hY : Y = y * 2 ^ s) (hy : 0 < y) (hN : N * 2 ^ s = U * B + u0) :
    (U / Y) * B + ((U % Y) * B + u0) / Y = N / y ∧ (((U % Y) * B + u0) % Y) / 2 ^ s = N % y := by
  have hp : 0 < 2 ^ s := Nat.two_pow_pos s
  have hYp : 0 < Y := by rw [hY]; exact Nat.mul_pos hy hp
  have e1 := Nat.div_add_mod U Y
  have e2 := Nat.div_add_mod ((U % Y) * B + u0) Y
  have hl := Nat.mod_lt ((U % Y) * B + u0) hYp
  obtain ⟨q1, hq1⟩ : ∃ q, q = U / Y := ⟨_, rfl⟩
  obtain ⟨r1, hr1⟩ : ∃ q, q = U % Y := ⟨_, rfl⟩
  rw [← hq1, ← hr1] at e1
  rw [← hr1] at e2 hl
  rw [← hr1, ← hq1]
  obtain ⟨q0, hq0⟩ : ∃ q, q = (r1 * B + u0) / Y := ⟨_, rfl⟩
  obtain ⟨r0, hr0⟩ : ∃ q, q = (r1 * B + u0) % Y := ⟨_, rfl⟩
  rw [← hq0, ← hr0] at e2
  rw [← hr0] at hl
  rw [← hq0, ← hr0]
  have key : N * 2 ^ s = Y * (q1 * B + q0) + r0 := by
    rw [hN, ← e1, Nat.mul_add, Nat.add_mul, ← Nat.mul_assoc]
    omega
  have hd : N * 2 ^ s / Y = q1 * B + q0 := by
    rw [key, Nat.mul_add_div hYp, Nat.div_eq_of_lt hl, Nat.add_zero]
  have hm : N * 2 ^ s % Y = r0 := by
    rw [key, Nat.mul_add_mod, Nat.mod_eq_of_lt hl]
  constructor
  · rw [← hd, hY, Nat.mul_div_mul_right _ _ hp]
  · rw [← hm, hY, Nat.mul_mod_mul_right, Nat.mul_div_cancel _ hp]
end Go.Proofs.YtbpenkaficiodaaGreat

/- The loops of a body, in their order. -/
namespace Go.Proofs.YtbpenkaficiodaaGreat
def loopsOf : Code → List Code
  | .loop c => [c]
  | .seq a b => loopsOf a ++ loopsOf b
  | .block _ c => loopsOf c
  | .scope c => loopsOf c
  | .cond _ a b => loopsOf a ++ loopsOf b
  | _ => []
def nthLoop (c : Code) (n : Nat) : Code := (loopsOf c).getD n .skip
end Go.Proofs.YtbpenkaficiodaaGreat

/- Small laws on what a call makes for itself: appends of one cell, bytes as a string, worlds that only grow. -/
namespace Go.Proofs.YtbpenkaficiodaaGreat
open Go.RowKit

/-- A slice of one-cell elements that the call owns. -/
def Own (w : World) (B : Nat) (e : TypeId) (v : Value) (xs : List Value) : Prop := w.ownsRow B e 1 v xs.length xs

theorem Own.nil (w : World) (B : Nat) (e : TypeId) : Own w B e (.slice none 0 0) [] := World.ownsRow_nil w B e 1
theorem Own.alloc {w : World} {B : Nat} {e : TypeId} {v : Value} {xs : List Value} (h : Own w B e v xs) (o : Obj) : Own (w.alloc o) B e v xs := World.ownsRow.alloc h o
theorem Own.block {w : World} {B : Nat} {e : TypeId} {v : Value} {xs : List Value} (h : Own w B e v xs) (k : Nat) (hk : v.ownBlock = some k) : B ≤ k ∧ k < w.heap.size := World.ownsRow.lt h k hk
theorem grownBy_of_below {w w1 : World} (h : Below w.heap.size w w1) (row : Option Nat) : w.grownBy w1 row := ⟨h.os, h.tape, h.output, h.size, fun i hi _ => h.block i hi⟩
theorem Own.below {w w1 : World} {B : Nat} {e : TypeId} {v : Value} {xs : List Value} (h : Own w B e v xs) (hb : Below w.heap.size w w1) : Own w1 B e v xs :=
  World.ownsRow.kept h (grownBy_of_below hb none) (by cases v.ownBlock <;> simp)
theorem Own.drew {w : World} {B : Nat} {e : TypeId} {v : Value} {xs : List Value} (h : Own w B e v xs) : Own w.drew B e v xs := h

theorem below_cell {w w1 : World} (h : Below w.heap.size w w1) {a : Addr} {v : Value} (hc : w.cell? a = some v) : w1.cell? a = some v :=
  (h.cell (World.block_lt_of_cell? w a hc)).trans hc
theorem below_trans {w w1 w2 : World} (h : Below w.heap.size w w1) (k : Below w1.heap.size w1 w2) : Below w.heap.size w w2 := h.trans (k.mono h.size)

section
variable {P : Program} {ops : Array Oper} {rest : List Oper} {o : Oper} {a : Act} {Q : Exit → Act → World → Prop}
/-- append(v, y): behind 'at_builtin'; the world is that in which y's own block was laid. -/
theorem ap1 {w0 W : World} {e : TypeId} {v : Value} {xs : List Value} {y : Value} (HO : Own W w0.heap.size e v xs) (HB : Below w0.heap.size w0 W) {t : TypeId} {z : Value} {bytes : Nat}
    (ht : P.underlying t = some (.slice e)) (hinfo : (P.info? e).map (fun i => (i.zero, i.size, i.bytes)) = some (some z, 1, bytes)) (hz : z.cells.size = 1) (hb0 : 0 < bytes) (hl : (xs.length + 1) * bytes ≤ 140737488355328)
    (hgd : o.guard = none) (s x : Operand) (ho : o.op = .call { callee := .builtin .append, args := #[s, x], argTypes := #[t, t] })
    (hs : a.eval s = v) (hx : a.eval x = .slice (some ⟨W.heap.size, 0, none⟩) 1 1) (h1 : y.oneCell' = true)
    (h : ∀ v1 w1, Own w1 w0.heap.size e v1 (xs ++ [y]) → Below w0.heap.size w0 w1 → W.grownBy w1 v.ownBlock → wpList P ops Q rest (a.put o.dst v1) w1) :
    wpList P ops Q (o :: rest) a (W.alloc (.cells #[y] e)) := by
  obtain ⟨i, hi, hz3⟩ := Option.map_eq_some_iff.1 hinfo
  simp only [Prod.mk.injEq] at hz3
  obtain ⟨hz0, hz1, hz2⟩ := hz3
  have hlen : xs.length + 1 ≤ 140737488355328 := Nat.le_trans (Nat.le_mul_of_pos_right _ hb0) hl
  refine wpList_append_own_at (W.alloc (.cells #[y] e)) hgd s x t ho w0.heap.size e i z 1 bytes ht hi hz0 hz1 hz2 hz (by omega) v xs.length xs hs (World.ownsRow.alloc HO _) ⟨W.heap.size, 0, none⟩ 1 1 [y] hx rfl
    (cell_one_new W y e) (by simpa using h1) (by simp only [maxLen]; omega) hl (by have := HB.size; simp; omega) ?_
  intro v1 w1 hown hg _ _
  have hg' : W.grownBy w1 v.ownBlock := ⟨hg.os, hg.tape, hg.output, by have := hg.size; simp at this; omega, fun k hk hne => by
    rw [hg.block k (by simp; omega) hne]; exact Below.heap_alloc W _ k hk⟩
  refine h v1 w1 (by unfold Own; simpa using hown) (HB.grown hg' HB.size fun k hk => (HO.block k hk).1) hg'
end

/-- Bytes as values. -/
def vbytes (l : List UInt8) : List Value := l.map fun c => .int .u8 (c.toNat : Int)
theorem vbytes_append (l m : List UInt8) : vbytes (l ++ m) = vbytes l ++ vbytes m := by simp [vbytes]
theorem vbytes_length (l : List UInt8) : (vbytes l).length = l.length := by simp [vbytes]

/-- Bytes as a string. -/
def str (l : List UInt8) : ByteArray := ⟨l.toArray⟩
theorem str_size (l : List UInt8) : (str l).size = l.length := by simp [str, ByteArray.size]
theorem str_list (l : List UInt8) : (str l).data.toList = l := by simp [str]
theorem str_of (s : ByteArray) : str s.data.toList = s := by cases s; simp [str]

theorem Own.string {P : Program} {w : World} {B : Nat} {src dst e : TypeId} {v : Value} {l : List UInt8} (hs : P.underlying src = some (.slice e)) (he : P.underlying e = some (.int .u8)) (hd : P.underlying dst = some .string)
    (h : Own w B e v (vbytes l)) : (convert src dst v).run P w = .ok (.string (str l)) w := by
  have hl : (vbytes l).length = l.length := vbytes_length l
  rcases h.2 with ⟨hv, h0⟩ | ⟨g, cap, cur, hv, _, hg, _, _, _, ht⟩
  · obtain rfl : l = [] := List.eq_nil_of_length_eq_zero (by omega)
    rw [hv, run_convert_bytes_nil w src e hs he 0 0 dst hd]; rfl
  · rw [hv, hl]
    have hx := run_convert_bytes_arg (P := P) w src e hs he g 0 l.length cap (l.map fun c => (c.toNat : Int)) (by simp) (fun i hi => ?_) dst hd
    · rw [hx]
      congr 2
      simp only [strOfNums, str, List.map_map]
      congr 2
      conv => rhs; rw [← List.map_id l]
      apply List.map_congr_left
      intro c _
      simp
    · have hc := World.ownsRow.cells h (g := g) (by rw [hv]; rfl) i (.int .u8 ((l.map fun c => (c.toNat : Int)).getD i 0)) (by simp [vbytes, hi])
      have ha : (⟨g, 0, none⟩ : Addr).add i = ⟨g, 0 + i, none⟩ := by unfold Addr.add; split <;> simp_all
      rwa [ha] at hc

/-! ### A block that is known whole -/
/-- Block b: these cells, none of them frozen. -/
def Blk (w : World) (b : Nat) (T : TypeId) (cs : List Value) : Prop := w.heap[b]? = some (.cells cs.toArray T (0, 0))
theorem Blk.lt {w : World} {b : Nat} {T : TypeId} {cs : List Value} (h : Blk w b T cs) : b < w.heap.size := (Array.getElem?_eq_some_iff.1 h).1
theorem Blk.cell {w : World} {b : Nat} {T : TypeId} {cs : List Value} (h : Blk w b T cs) (o : Nat) : w.cell? ⟨b, o, none⟩ = cs[o]? := by
  unfold Blk at h
  simp [World.cell?, h]
theorem Blk.frozen {w : World} {b : Nat} {T : TypeId} {cs : List Value} (h : Blk w b T cs) (o : Nat) : w.frozen? ⟨b, o, none⟩ = false := by
  unfold Blk at h
  simp [World.frozen?, h]
theorem Blk.set {w : World} {b : Nat} {T : TypeId} {cs : List Value} (h : Blk w b T cs) (o : Nat) (v : Value) : Blk (w.setCell ⟨b, o, none⟩ v) b T (cs.set o v) := by
  unfold Blk at *
  simp [World.setCell, Array.getElem?_modify, h]
theorem Blk.drew {w : World} {b : Nat} {T : TypeId} {cs : List Value} (h : Blk w b T cs) : Blk w.drew b T cs := h
theorem Blk.drewN {w : World} {b : Nat} {T : TypeId} {cs : List Value} (h : Blk w b T cs) (n : Nat) : Blk (w.drewN n) b T cs := h
theorem Blk.alloc {w : World} {b : Nat} {T : TypeId} {cs : List Value} (h : Blk w b T cs) (o : Obj) : Blk (w.alloc o) b T cs := (Below.heap_alloc w o b h.lt).trans h
theorem Blk.new (w : World) (T : TypeId) (cs : List Value) : Blk (w.alloc (.cells cs.toArray T)) w.heap.size T cs := by
  exact heap_alloc_new w _
theorem Blk.of (w : World) (T : TypeId) (arr : Array Value) (cs : List Value) (h : arr.toList = cs) : Blk (w.alloc (.cells arr T)) w.heap.size T cs := by
  subst h
  exact Blk.new w T arr.toList
theorem Blk.other {w : World} {b : Nat} {T : TypeId} {cs : List Value} (h : Blk w b T cs) {a : Addr} (ha : b ≠ a.block) (v : Value) : Blk (w.setCell a v) b T cs := (Below.heap_setCell w a v b ha).trans h
theorem Blk.grown {w w1 : World} {b : Nat} {T : TypeId} {cs : List Value} (h : Blk w b T cs) {row : Option Nat} (hg : w.grownBy w1 row) (hne : some b ≠ row) : Blk w1 b T cs := (hg.block b h.lt hne).trans h
theorem Blk.below {w w1 : World} {b : Nat} {T : TypeId} {cs : List Value} (h : Blk w b T cs) {B : Nat} (hg : Below B w w1) (hne : b < B) : Blk w1 b T cs := (hg.block b hne).trans h
theorem grown_set (w : World) (b o : Nat) (v : Value) : w.grownBy (w.setCell ⟨b, o, none⟩ v) (some b) :=
  ⟨rfl, rfl, rfl, by simp [World.setCell], fun k _ hne => Below.heap_setCell w _ v k (fun h => hne (by rw [h]))⟩
theorem grown_set_drew (w : World) (b o : Nat) (v : Value) : w.grownBy (w.setCell ⟨b, o, none⟩ v).drew (some b) := let h := grown_set w b o v; ⟨h.os, h.tape, h.output, h.size, h.block⟩
theorem below_set {B : Nat} {w0 w : World} (h : Below B w0 w) {b : Nat} (hb : B ≤ b) (o : Nat) (v : Value) : Below B w0 (w.setCell ⟨b, o, none⟩ v) := h.setCell (p := ⟨b, o, none⟩) hb v
theorem below_set_drew {B : Nat} {w0 w : World} (h : Below B w0 w) {b : Nat} (hb : B ≤ b) (o : Nat) (v : Value) : Below B w0 (w.setCell ⟨b, o, none⟩ v).drew := (h.setCell (p := ⟨b, o, none⟩) hb v).drew
theorem below_drewN {B : Nat} {w0 w : World} (h : Below B w0 w) (n : Nat) : Below B w0 (w.drewN n) := ⟨h.os, h.tape, h.output, h.size, h.block⟩
theorem grown_of_below_lt {w w1 : World} (h : Below w.heap.size w w1) {row : Option Nat} : w.grownBy w1 row := grownBy_of_below h row
theorem grown_refl (w : World) (row : Option Nat) : w.grownBy w row := ⟨rfl, rfl, rfl, Nat.le_refl _, fun _ _ _ => rfl⟩
theorem grown_trans {a b c : World} {row : Option Nat} (h : a.grownBy b row) (k : b.grownBy c row) : a.grownBy c row :=
  ⟨k.os.trans h.os, k.tape.trans h.tape, k.output.trans h.output, Nat.le_trans h.size k.size, fun i hi hne => (k.block i (Nat.lt_of_lt_of_le hi h.size) hne).trans (h.block i hi hne)⟩
theorem grown_drewN (w : World) (n : Nat) (row : Option Nat) : w.grownBy (w.drewN n) row := ⟨rfl, rfl, rfl, Nat.le_refl _, fun _ _ _ => rfl⟩
theorem grown_alloc (w : World) (o : Obj) (row : Option Nat) : w.grownBy (w.alloc o) row := World.grownBy_alloc w o row
theorem below_of_grown {w0 w w1 : World} {b : Nat} (h : Below w0.heap.size w0 w) (hg : w.grownBy w1 (some b)) (hb : w0.heap.size ≤ b) : Below w0.heap.size w0 w1 :=
  h.grown hg h.size (fun k hk => by cases hk; exact hb)

theorem set_same {α : Type} {l : List α} {i : Nat} {x : α} (h : l[i]? = some x) : l.set i x = l := by
  apply List.ext_getElem?
  intro j
  rw [List.getElem?_set]
  split
  · subst_vars
    split
    · exact h.symm
    · rename_i hn; rw [List.getElem?_eq_none (by omega)]
  · rfl
/-! ### Strings -/
theorem run_index_str {P : Program} {T : TypeId} (hT : P.underlying T = some .string) (s : ByteArray) (i : Int) (n : Nat) (c : UInt8) (hi : i = (n : Int)) (hc : s.data.toList[n]? = some c) (w : World) :
    (Instr.index T (.string s) (.int .i64 i)).run P w = .ok (.int .u8 (c.toNat : Int)) w := by
  subst hi
  have h : s[n]? = some c := by
    rw [← hc]
    by_cases hn : n < s.size
    · rw [getElem?_pos s n hn, Array.getElem?_toList, getElem?_pos s.data n hn]; rfl
    · rw [getElem?_neg s n hn, Array.getElem?_toList, getElem?_neg s.data n hn]
  unfold Instr.index
  simp [asIntOf, run_underlying hT, h, Sem.run_bind, Sem.run_pure]
theorem str_get (l : List UInt8) (n : Nat) : (str l).data.toList[n]? = l[n]? := by simp [str]

theorem str_take (l : List UInt8) (n : Nat) : (str l).extract 0 n = str (l.take n) := by
  apply ByteArray.ext
  simp [str, ByteArray.data_extract]
theorem str_drop (l : List UInt8) (n : Nat) : (str l).extract n l.length = str (l.drop n) := by
  apply ByteArray.ext
  simp only [str, ByteArray.data_extract]
  apply Array.ext'
  simp [List.take_of_length_le]
theorem str_append (l m : List UInt8) : str l ++ str m = str (l ++ m) := by
  apply ByteArray.ext
  simp [str, ByteArray.data_append]
/-- A string value's length. -/
def slen : Value → Nat
  | .string s => s.size
  | _ => 0

theorem str_add (P : Program) (x y : List UInt8) (h : x.length + y.length ≤ 9223372036854775807) (W : World) : (Op.stringOp .add (str x) (str y)).run P W = .ok (.string (str (x ++ y))) W := by
  rw [run_string_add_sum W _ _ (by rw [str_size, str_size]; exact h), str_append]
theorem repeatL_one (c : UInt8) (n : Nat) : Lib.repeatL [c] n = List.replicate n c := by
  induction n with
  | zero => rfl
  | succ n ih => simp [Lib.repeatL, ih, List.replicate_succ]

end Go.Proofs.YtbpenkaficiodaaGreat

namespace Go.Proofs
def Tryz.lays134_ren : Go.Shelf.Ren := ⟨fun | 134 => 194 | 129 => 199 | n => n, fun | 53 => 22 | 3 => 3 | 4 => 4 | 46 => 94 | 5 => 5 | 9 => 9 | n => n, fun | n => n⟩
theorem Tryz.lays134 : Go.Proofs.Lays.n134 Tryz.prog Tryz.lays134_ren := {
  mixed := by kernel_rfl
  f129 := Tryz.func199.trans (congrArg some (by kernel_rfl))
  f134 := Tryz.func194.trans (congrArg some (by kernel_rfl))
  t3 := Tryz.underlying3
  a3 := Tryz.isAgg3
  z3 := Tryz.sizeOf3
  v3 := Tryz.zeroValue3
  t4 := Tryz.underlying4
  a4 := Tryz.isAgg4
  z4 := Tryz.sizeOf4
  v4 := Tryz.zeroValue4
  t5 := Tryz.underlying5
  a5 := Tryz.isAgg5
  z5 := Tryz.sizeOf5
  v5 := Tryz.zeroValue5
  t9 := Tryz.underlying9
  a9 := Tryz.isAgg9
  z9 := Tryz.sizeOf9
  v9 := Tryz.zeroValue9
  t46 := Tryz.underlying94
  a46 := Tryz.isAgg94
  z46 := Tryz.sizeOf94
  v46 := Tryz.zeroValue94
  t53 := Tryz.underlying22
  a53 := Tryz.isAgg22
  z53 := Tryz.sizeOf22
  v53 := Tryz.zeroValue22 }
/-- bits.LeadingZeros64: "LeadingZeros64 returns the number of leading zero bits in x; the result is 64 for x == 0.": IT RETURNS '64 - Lib.bitLen x'; the world is as it was. ITS CALLEE bits.Len64 IS MET BY ITS OWN CONTRACT OFF THE SHELF (lay that first): entered in place it sends the kernel out of memory. (LAID: no walk: one application.) -/
theorem Tryz.bits_LeadingZeros64 (x : Int) (w : World) (h0 : 0 ≤ x) (h1 : x ≤ 18446744073709551615) :
    Calls Tryz.prog 194 #[.int .u64 x] w fun e w' => e = .returned (.int .i64 (64 - (Lib.bitLen x.toNat : Int))) ∧ w' = w := Any.bits_LeadingZeros64 Tryz.lays134 x w h0 h1
def Tryz.lays129_ren : Go.Shelf.Ren := ⟨fun | 129 => 199 | n => n, fun | 53 => 22 | 3 => 3 | 4 => 4 | 46 => 94 | 5 => 5 | 9 => 9 | n => n, fun | n => n⟩
theorem Tryz.lays129 : Go.Proofs.Lays.n129 Tryz.prog Tryz.lays129_ren := {
  mixed := by kernel_rfl
  f129 := Tryz.func199.trans (congrArg some (by kernel_rfl))
  t3 := Tryz.underlying3
  a3 := Tryz.isAgg3
  z3 := Tryz.sizeOf3
  v3 := Tryz.zeroValue3
  t4 := Tryz.underlying4
  a4 := Tryz.isAgg4
  z4 := Tryz.sizeOf4
  v4 := Tryz.zeroValue4
  t5 := Tryz.underlying5
  a5 := Tryz.isAgg5
  z5 := Tryz.sizeOf5
  v5 := Tryz.zeroValue5
  t9 := Tryz.underlying9
  a9 := Tryz.isAgg9
  z9 := Tryz.sizeOf9
  v9 := Tryz.zeroValue9
  t46 := Tryz.underlying94
  a46 := Tryz.isAgg94
  z46 := Tryz.sizeOf94
  v46 := Tryz.zeroValue94
  t53 := Tryz.underlying22
  a53 := Tryz.isAgg22
  z53 := Tryz.sizeOf22
  v53 := Tryz.zeroValue22 }
/-- bits.Len64: "Len64 returns the minimum number of bits required to represent x; the result is 0 for x == 0.": IT RETURNS 'Lib.bitLen x'; the world is as it was. ('h0', 'h1': x is a uint64.) (LAID: no walk: one application.) -/
theorem Tryz.bits_Len64 (x : Int) (w : World) (h0 : 0 ≤ x) (h1 : x ≤ 18446744073709551615) :
    Calls Tryz.prog 199 #[.int .u64 x] w fun e w' => e = .returned (.int .i64 (Lib.bitLen x.toNat)) ∧ w' = w := Any.bits_Len64 Tryz.lays129 x w h0 h1
end Go.Proofs

/- The document's sums in plain Lean: words of 32 bits, the rounds, the padding. -/
namespace Go.Proofs.YtbpenkaficiodaaGreat
abbrev W32 := BitVec 32

/-- A word as a number: not to be looked into by the walk. -/
def iw (x : W32) : Int := (x.toNat : Int)
/-- A word as a value. -/
abbrev v32 (x : W32) : Value := .int .u32 (iw x)

theorem iw_bound (x : W32) : 0 ≤ iw x ∧ iw x < 4294967296 := by
  have := x.isLt
  unfold iw; omega
theorem w32_wrap (n : Nat) : IntKind.u32.wrap (n : Int) = iw (BitVec.ofNat 32 n) := by
  rw [IntKind.wrap_u32']; simp [iw]
theorem w32_add (x y : W32) : IntKind.u32.wrap (iw x + iw y) = iw (x + y) := by
  rw [IntKind.wrap_u32']; simp [iw, BitVec.toNat_add]
theorem w32_of (x : W32) : BitVec.ofInt 32 (x.toNat : Int) = x := by
  rw [BitVec.ofInt_natCast, BitVec.ofNat_toNat]; simp
theorem w32_iw (x : W32) : IntKind.u32.wrap (iw x) = iw x := by
  unfold iw; rw [w32_wrap, BitVec.ofNat_toNat]; simp [iw]
theorem w32_toNat_wrap (x : W32) : IntKind.u32.wrap (x.toNat : Int) = iw x := w32_iw x
theorem w32_and (x y : W32) : bits .and .u32 (iw x) (iw y) = iw (x &&& y) := by
  simp only [bits, IntKind.bits, iw, w32_of, w32_toNat_wrap]; rfl
theorem w32_or (x y : W32) : bits .or .u32 (iw x) (iw y) = iw (x ||| y) := by
  simp only [bits, IntKind.bits, iw, w32_of, w32_toNat_wrap]; rfl
theorem w32_xor (x y : W32) : bits .xor .u32 (iw x) (iw y) = iw (x ^^^ y) := by
  simp only [bits, IntKind.bits, iw, w32_of, w32_toNat_wrap]; rfl
theorem w32_shl (x : W32) (n : Nat) : iw x * 2 ^ n % (4294967296 : Int) = iw (x <<< n) := by
  simp [iw, Nat.shiftLeft_eq]
theorem w32_shr (x : W32) (n : Nat) : iw x / 2 ^ n = iw (x >>> n) := by
  simp [iw, Nat.shiftRight_eq_div_pow]
theorem w32_shl8 (x : W32) : IntKind.u32.wrap (iw x * 256) = iw (x <<< 8) := by
  rw [IntKind.wrap_u32']; exact w32_shl x 8
theorem w32_shr3 (x : W32) : iw x / (8 : Int) = iw (x >>> 3) := w32_shr x 3
theorem w32_shr10 (x : W32) : iw x / (1024 : Int) = iw (x >>> 10) := w32_shr x 10
theorem iw_add (a b : W32) : iw (a + b) = (iw a + iw b) % (4294967296 : Int) := by rw [← w32_add, IntKind.wrap_u32']
theorem w32_add4 (a b c d : W32) : (iw a + iw b + iw c + iw d) % (4294967296 : Int) = iw (a + b + c + d) := by
  rw [iw_add, iw_add, iw_add]; omega
theorem w32_add5 (a b c d e : W32) : (iw a + iw b + iw c + iw d + iw e) % (4294967296 : Int) = iw (a + b + c + d + e) := by
  rw [iw_add, iw_add, iw_add, iw_add]; omega
theorem wval (x16 x15 x7 x2 : W32) : (iw x16 + bits .xor .u32 (iw (x15.rotateRight 7 ^^^ x15.rotateRight 18)) (iw x15 / (8 : Int)) + iw x7 + bits .xor .u32 (iw (x2.rotateRight 17 ^^^ x2.rotateRight 19)) (iw x2 / (1024 : Int))) % (4294967296 : Int) =
    iw (x16 + (x15.rotateRight 7 ^^^ x15.rotateRight 18 ^^^ x15 >>> 3) + x7 + (x2.rotateRight 17 ^^^ x2.rotateRight 19 ^^^ x2 >>> 10)) := by
  rw [w32_shr3, w32_shr10, w32_xor, w32_xor, w32_add4]
theorem w32_shl16 (x : W32) : IntKind.u32.wrap (iw x * 65536) = iw (x <<< 16) := by
  rw [IntKind.wrap_u32']; exact w32_shl x 16
theorem w32_shl24 (x : W32) : IntKind.u32.wrap (iw x * 16777216) = iw (x <<< 24) := by
  rw [IntKind.wrap_u32']; exact w32_shl x 24
theorem w32_not (x : W32) : bits .xor .u32 (if IntKind.u32.signed = true then -1 else IntKind.u32.max) (iw x) = iw (~~~x) := by
  have h : (if IntKind.u32.signed = true then -1 else IntKind.u32.max) = iw (BitVec.allOnes 32) := by decide +kernel
  rw [h, w32_xor, BitVec.allOnes_xor]
theorem rot_eq (x : W32) (n : Nat) (h1 : 1 ≤ n) (h2 : n ≤ 31) : x <<< (32 - n) ||| x >>> n = x.rotateRight n := by
  rw [BitVec.rotateRight_def, Nat.mod_eq_of_lt (by omega), BitVec.or_comm]

/-- A number's bytes, the highest first. -/
def be : Nat → Nat → List UInt8
  | 0, _ => []
  | k + 1, n => UInt8.ofNat (n / 256 ^ k) :: be k n

theorem be_length (k n : Nat) : (be k n).length = k := by
  induction k with
  | zero => rfl
  | succ k ih => simp [be, ih]
theorem be_get (size n k : Nat) (h : k < size) : (be size n)[k]? = some (UInt8.ofNat (n / 256 ^ (size - 1 - k))) := by
  induction size generalizing k with
  | zero => omega
  | succ m ih =>
    cases k with
    | zero => simp [be]
    | succ k =>
      rw [be, List.getElem?_cons_succ, ih k (by omega)]
      congr 4; omega
theorem be_val (n m : Nat) : ((n : Int) / 2 ^ (8 * m) % 256) = ((UInt8.ofNat (n / 256 ^ m)).toNat : Int) := by
  have h : (2 : Nat) ^ (8 * m) = 256 ^ m := by rw [Nat.pow_mul]
  have : ((n : Int) / 2 ^ (8 * m) % 256) = ((n / 2 ^ (8 * m) % 256 : Nat) : Int) := by simp
  rw [this, h, UInt8.toNat_ofNat']
theorem be_take_succ (size n k : Nat) (h : k < size) : (be size n).take (k + 1) = (be size n).take k ++ [UInt8.ofNat (n / 256 ^ (size - 1 - k))] := by
  rw [List.take_add_one, be_get size n k h]; rfl

/-- Of digest.behind: is t's cube at most p times 2^96, as the program asks it? -/
def cubeB (p t : Nat) : Bool :=
  let h := t * t / 18446744073709551616
  let l := t * t % 18446744073709551616
  let h1 := l * t / 18446744073709551616
  let l1 := l * t % 18446744073709551616
  let l2 := h * t % 18446744073709551616
  let mid := (h1 + l2) % 18446744073709551616
  let over := (h1 + l2) / 18446744073709551616
  over == 0 && (decide (mid < p * 4294967296) || (mid == p * 4294967296 && l1 == 0))
/-- Its loop: j bits are left. -/
def behindL (p : Nat) : Nat → Nat → Nat
  | 0, r => r
  | j + 1, r => behindL p j (if cubeB p (r ||| 2 ^ j) then r ||| 2 ^ j else r)

theorem behindL_succ (p j r : Nat) : behindL p (j + 1) r = behindL p j (if cubeB p (r ||| 2 ^ j) then r ||| 2 ^ j else r) := rfl
theorem cubeB_def (p t h l h1 l1 h2 mid over : Nat) (eh : h = t * t / 18446744073709551616) (el : l = t * t % 18446744073709551616) (eh1 : h1 = l * t / 18446744073709551616)
    (el1 : l1 = l * t % 18446744073709551616) (eh2 : h2 = h * t % 18446744073709551616) (em : mid = (h1 + h2) % 18446744073709551616) (eo : over = (h1 + h2) / 18446744073709551616) :
    cubeB p t = (over == 0 && (decide (mid < p * 4294967296) || (mid == p * 4294967296 && l1 == 0))) := by
  unfold cubeB
  simp only [eo, em, eh2, eh1, el1, el, eh]
theorem cubeB_yes {p t mid over l1 : Nat} (h : cubeB p t = (over == 0 && (decide (mid < p * 4294967296) || (mid == p * 4294967296 && l1 == 0)))) (g : over = 0 ∧ (mid < p * 4294967296 ∨ (mid = p * 4294967296 ∧ l1 = 0))) : cubeB p t = true := by
  rw [h]; simpa using g
theorem cubeB_no {p t mid over l1 : Nat} (h : cubeB p t = (over == 0 && (decide (mid < p * 4294967296) || (mid == p * 4294967296 && l1 == 0)))) (g : ¬ (over = 0 ∧ (mid < p * 4294967296 ∨ (mid = p * 4294967296 ∧ l1 = 0)))) : ¬ cubeB p t = true := by
  rw [h]; simpa using g

/-! ### The primes, and K -/
def trial (p : Nat) : Nat → Nat → Bool → Bool
  | 0, _, b => b
  | f + 1, d, b => if d * d ≤ p then trial p f (d + 1) (b && p % d != 0) else b
def isPr (p : Nat) : Bool := trial p 20 2 true
/-- The primes from 2 up to below p + 2. -/
def prs : Nat → List Nat
  | 0 => []
  | p + 1 => prs p ++ (if isPr (p + 2) then [p + 2] else [])
def kOf (p : Nat) : W32 := BitVec.ofNat 32 (behindL p 36 0)
def kList : List W32 := [1116352408, 1899447441, 3049323471, 3921009573, 961987163, 1508970993, 2453635748, 2870763221, 3624381080, 310598401, 607225278, 1426881987, 1925078388, 2162078206, 2614888103, 3248222580, 3835390401, 4022224774, 264347078, 604807628, 770255983, 1249150122, 1555081692, 1996064986, 2554220882, 2821834349, 2952996808, 3210313671, 3336571891, 3584528711, 113926993, 338241895, 666307205, 773529912, 1294757372, 1396182291, 1695183700, 1986661051, 2177026350, 2456956037, 2730485921, 2820302411, 3259730800, 3345764771, 3516065817, 3600352804, 4094571909, 275423344, 430227734, 506948616, 659060556, 883997877, 958139571, 1322822218, 1537002063, 1747873779, 1955562222, 2024104815, 2227730452, 2361852424, 2428436474, 2756734187, 3204031479, 3329325298]
theorem prs_all : (prs 310).length = 64 := by decide +kernel
theorem prs_k : (prs 310).map kOf = kList := by decide +kernel
theorem prs_mono (p q : Nat) (h : p ≤ q) : (prs p).length ≤ (prs q).length := by
  induction q with
  | zero => obtain rfl : p = 0 := by omega
            exact Nat.le_refl _
  | succ q ih =>
    rcases Nat.lt_or_ge q p with h1 | h1
    · obtain rfl : p = q + 1 := by omega
      exact Nat.le_refl _
    · have := ih h1
      simp only [prs, List.length_append]
      omega
theorem prs_309 : (prs 309).length = 63 := by decide +kernel

/-! ### A block -/
/-- The word so far: i bytes from 4 t on. -/
def pword (s : List UInt8) (t : Nat) : Nat → W32
  | 0 => 0
  | i + 1 => pword s t i <<< 8 ||| BitVec.ofNat 32 (s.getD (4 * t + i) 0).toNat
def sg0 (x : W32) : W32 := x.rotateRight 7 ^^^ x.rotateRight 18 ^^^ x >>> 3
def sg1 (x : W32) : W32 := x.rotateRight 17 ^^^ x.rotateRight 19 ^^^ x >>> 10
def wnext (s : List UInt8) (t : Nat) (ws : List W32) : W32 :=
  if t < 16 then pword s t 4 else ws.getD (t - 16) 0 + sg0 (ws.getD (t - 15) 0) + ws.getD (t - 7) 0 + sg1 (ws.getD (t - 2) 0)
/-- The first t words of the schedule. -/
def sch (s : List UInt8) : Nat → List W32
  | 0 => []
  | t + 1 => sch s t ++ [wnext s t (sch s t)]
theorem sch_length (s : List UInt8) (t : Nat) : (sch s t).length = t := by
  induction t with
  | zero => rfl
  | succ t ih => simp [sch, ih]
structure St where
  a : W32
  b : W32
  c : W32
  d : W32
  e : W32
  f : W32
  g : W32
  h : W32
def St.cells (s : St) : List Value := [v32 s.a, v32 s.b, v32 s.c, v32 s.d, v32 s.e, v32 s.f, v32 s.g, v32 s.h]
def one (v : St) (k w : W32) : W32 := v.h + (v.e.rotateRight 6 ^^^ v.e.rotateRight 11 ^^^ v.e.rotateRight 25) + (v.e &&& v.f ^^^ ~~~v.e &&& v.g) + k + w
def two (v : St) : W32 := (v.a.rotateRight 2 ^^^ v.a.rotateRight 13 ^^^ v.a.rotateRight 22) + (v.a &&& v.b ^^^ v.a &&& v.c ^^^ v.b &&& v.c)
def rnd (v : St) (k w : W32) : St := ⟨one v k w + two v, v.a, v.b, v.c, v.d + one v k w, v.e, v.f, v.g⟩
def rnds (ws : List W32) (v : St) : Nat → St
  | 0 => v
  | t + 1 => rnd (rnds ws v t) (kList.getD t 0) (ws.getD t 0)
def St.add (x y : St) : St := ⟨x.a + y.a, x.b + y.b, x.c + y.c, x.d + y.d, x.e + y.e, x.f + y.f, x.g + y.g, x.h + y.h⟩
def comp (h : St) (s : List UInt8) : St := h.add (rnds (sch s 64) h 64)
/-- The array of words, when t of them are laid. -/
def wArr (s : List UInt8) (t : Nat) : List Value := (sch s t).map v32 ++ List.replicate (64 - t) (v32 0)
theorem wArr_length (s : List UInt8) (t : Nat) (h : t ≤ 64) : (wArr s t).length = 64 := by simp [wArr, sch_length]; omega
theorem wArr_get (s : List UInt8) (t j : Nat) (h : j < t) : (wArr s t)[j]? = some (v32 ((sch s t).getD j 0)) := by
  have : j < (sch s t).length := by rw [sch_length]; exact h
  simp [wArr, List.getElem?_append_left, this, List.getD_eq_getElem?_getD]
theorem wArr_zero (s : List UInt8) (t : Nat) (h : t < 64) : (wArr s t)[t]? = some (v32 0) := by
  rw [wArr, List.getElem?_append_right (by simp [sch_length]), List.getElem?_replicate, if_pos (by simp [sch_length]; omega)]
theorem wArr_succ (s : List UInt8) (t : Nat) (h : t < 64) : (wArr s t).set t (v32 (wnext s t (sch s t))) = wArr s (t + 1) := by
  obtain ⟨m, hm⟩ : ∃ m, 64 - t = m + 1 := ⟨63 - t, by omega⟩
  have e : 64 - (t + 1) = m := by omega
  rw [wArr, wArr, List.set_append_right _ _ (by simp [sch_length])]
  simp [sch, sch_length, hm, e, List.replicate_succ]

def St.list (s : St) : List W32 := [s.a, s.b, s.c, s.d, s.e, s.f, s.g, s.h]
theorem St.cells_eq (s : St) : s.cells = s.list.map v32 := rfl
/-- The first i numbers have been added. -/
def addTo (xs ys : List W32) (i : Nat) : List W32 := (List.zipWith (· + ·) xs ys).take i ++ xs.drop i
theorem addTo_zero (xs ys : List W32) : addTo xs ys 0 = xs := rfl
theorem addTo_end (x y : St) : addTo x.list y.list 8 = (x.add y).list := rfl
theorem addTo_get (x y : St) (i : Nat) (h : i < 8) : (addTo x.list y.list i)[i]? = some (x.list.getD i 0) := by
  have : i = 0 ∨ i = 1 ∨ i = 2 ∨ i = 3 ∨ i = 4 ∨ i = 5 ∨ i = 6 ∨ i = 7 := by omega
  rcases this with rfl | rfl | rfl | rfl | rfl | rfl | rfl | rfl <;> rfl
theorem addTo_set (x y : St) (i : Nat) (h : i < 8) : (addTo x.list y.list i).set i (x.list.getD i 0 + y.list.getD i 0) = addTo x.list y.list (i + 1) := by
  have : i = 0 ∨ i = 1 ∨ i = 2 ∨ i = 3 ∨ i = 4 ∨ i = 5 ∨ i = 6 ∨ i = 7 := by omega
  rcases this with rfl | rfl | rfl | rfl | rfl | rfl | rfl | rfl <;> rfl
theorem St.get (x : St) (i : Nat) (h : i < 8) : x.cells[i]? = some (v32 (x.list.getD i 0)) := by
  have : i = 0 ∨ i = 1 ∨ i = 2 ∨ i = 3 ∨ i = 4 ∨ i = 5 ∨ i = 6 ∨ i = 7 := by omega
  rcases this with rfl | rfl | rfl | rfl | rfl | rfl | rfl | rfl <;> rfl

end Go.Proofs.YtbpenkaficiodaaGreat

namespace Go.Proofs.YtbpenkaficiodaaGreat
open Go.RowKit

noncomputable def divLoop0 : Code := nthLoop (Tryz.f182.body.getD .skip) 0

set_option maxRecDepth 100000 in
set_option maxHeartbeats 2000000 in
theorem divLoop0_any (un yn1 yn0 u1 q0 r0 Qd : Nat) (w0 : World) (Q : Exit → Act → World → Prop) (hu : un < yn1 * 4294967296 + yn0) (h1 : u1 < 4294967296) (h0 : yn0 < 4294967296) (hy : 4294967296 ≤ 2 * yn1) (hy2 : yn1 < 4294967296) (D0 : Dig 4294967296 un yn1 yn0 u1 q0 r0)
    (hQd : Qd = (un * 4294967296 + u1) / (yn1 * 4294967296 + yn0)) (x0 x1 x2 x3 x4 x5 x6 x7 x8 x12 x14 x17 x18 x19 x20 x21 x22 x23 x24 x25 x26 x27 x28 x29 x30 x31 x32 x33 x34 x35 x36 x37 x38 x39 x40 x41 x42 x43 x44 x45 x46 x47 x48 x49 x50 x51 x52 x53 x54 x55 x56 x57 x58 x59 x60 x61 x62 x63 x64 x65 x66 x67 x68 x69 x70 x71 x72 x73 x74 x75 x76 x77 x78 x79 x80 x81 x82 x83 x84 x85 x86 x87 x88 x89 x90 x91 x92 x93 x94 x95 x96 x97 x98 x99 x100 x101 x102 x103 x104 x105 x106 x107 x108 x109 x110 x111 x112 x113 x114 x115 x116 x117 x118 x119 x120 x121 x122 x123 x124 x125 x126 x127 x128 x129 x130 x131 x132 x133 x134 : Value)
    (hexit : ∀ (u16 u67 u68 u69 u70 u71 u72 u73 u74 u75 u76 u77 u78 u79 u80 u81 u82 u83 u84 u85 : Value), Q (.exit 0) ⟨List.toArray (x0 :: x1 :: x2 :: x3 :: x4 :: x5 :: x6 :: x7 :: x8 :: .int .u64 (yn1 : Int) :: .int .u64 (yn0 : Int) :: .int .u64 (un : Int) :: x12 :: .int .u64 (u1 : Int) :: x14 :: .int .u64 (Qd : Int) :: u16 :: x17 :: x18 :: x19 :: x20 :: x21 :: x22 :: x23 :: x24 :: x25 :: x26 :: x27 :: x28 :: x29 :: x30 :: x31 :: x32 :: x33 :: x34 :: x35 :: x36 :: x37 :: x38 :: x39 :: x40 :: x41 :: x42 :: x43 :: x44 :: x45 :: x46 :: x47 :: x48 :: x49 :: x50 :: x51 :: x52 :: x53 :: x54 :: x55 :: x56 :: x57 :: x58 :: x59 :: x60 :: x61 :: x62 :: x63 :: x64 :: x65 :: x66 :: u67 :: u68 :: u69 :: u70 :: u71 :: u72 :: u73 :: u74 :: u75 :: u76 :: u77 :: u78 :: u79 :: u80 :: u81 :: u82 :: u83 :: u84 :: u85 :: x86 :: x87 :: x88 :: x89 :: x90 :: x91 :: x92 :: x93 :: x94 :: x95 :: x96 :: x97 :: x98 :: x99 :: x100 :: x101 :: x102 :: x103 :: x104 :: x105 :: x106 :: x107 :: x108 :: x109 :: x110 :: x111 :: x112 :: x113 :: x114 :: x115 :: x116 :: x117 :: x118 :: x119 :: x120 :: x121 :: x122 :: x123 :: x124 :: x125 :: x126 :: x127 :: x128 :: x129 :: x130 :: x131 :: x132 :: x133 :: x134 :: []), []⟩ w0) :
    (Code.loop divLoop0).wp Tryz.prog Q ⟨List.toArray (x0 :: x1 :: x2 :: x3 :: x4 :: x5 :: x6 :: x7 :: x8 :: .int .u64 (yn1 : Int) :: .int .u64 (yn0 : Int) :: .int .u64 (un : Int) :: x12 :: .int .u64 (u1 : Int) :: x14 :: .int .u64 (q0 : Int) :: .int .u64 (r0 : Int) :: x17 :: x18 :: x19 :: x20 :: x21 :: x22 :: x23 :: x24 :: x25 :: x26 :: x27 :: x28 :: x29 :: x30 :: x31 :: x32 :: x33 :: x34 :: x35 :: x36 :: x37 :: x38 :: x39 :: x40 :: x41 :: x42 :: x43 :: x44 :: x45 :: x46 :: x47 :: x48 :: x49 :: x50 :: x51 :: x52 :: x53 :: x54 :: x55 :: x56 :: x57 :: x58 :: x59 :: x60 :: x61 :: x62 :: x63 :: x64 :: x65 :: x66 :: x67 :: x68 :: x69 :: x70 :: x71 :: x72 :: x73 :: x74 :: x75 :: x76 :: x77 :: x78 :: x79 :: x80 :: x81 :: x82 :: x83 :: x84 :: x85 :: x86 :: x87 :: x88 :: x89 :: x90 :: x91 :: x92 :: x93 :: x94 :: x95 :: x96 :: x97 :: x98 :: x99 :: x100 :: x101 :: x102 :: x103 :: x104 :: x105 :: x106 :: x107 :: x108 :: x109 :: x110 :: x111 :: x112 :: x113 :: x114 :: x115 :: x116 :: x117 :: x118 :: x119 :: x120 :: x121 :: x122 :: x123 :: x124 :: x125 :: x126 :: x127 :: x128 :: x129 :: x130 :: x131 :: x132 :: x133 :: x134 :: []), []⟩ w0 := by
  have Hexit := Lib.hid hexit
  have HQd := Lib.hid hQd
  have HD0 := Lib.hid D0
  clear hexit hQd D0
  conv => arg 2; arg 1; whnf
  go_loopw [15, 16] (fun x y wr => ∃ q r : Nat, x = .int .u64 (q : Int) ∧ y = .int .u64 (r : Int) ∧ Dig 4294967296 un yn1 yn0 u1 q r ∧ wr = w0) (fun x _ _ => (intOf x).toNat)
  case atStart => exact ⟨q0, r0, rfl, rfl, HD0.out, rfl⟩
  case round =>
    obtain ⟨q, r, rfl, rfl, hD, rfl⟩ := hrel
    have hqb := hD.q
    have hrb := hD.r
    have hpb := hD.prod h0
    have D := Lib.hid hD
    clear hD HD0
    obtain ⟨C, hC⟩ : ∃ C, C = q * yn0 := ⟨_, rfl⟩
    have hmul : IntKind.u64.wrap ((q : Int) * (yn0 : Int)) = (C : Int) := by
      rw [IntKind.wrap_u64, hC]
      rw [← hC] at hpb ⊢
      have : (q : Int) * (yn0 : Int) = (C : Int) := by rw [hC]; push_cast; rfl
      rw [this]; omega
    rw [← hC] at hpb
    have HC := Lib.hid hC
    clear hC
    by_cases hq : 4294967296 ≤ q
    · have d1 : decide ((4294967296 : Int) ≤ (q : Int)) = true := decide_eq_true (by omega)
      by_cases hr : 4294967296 ≤ r + yn1
      · skip
        have d3 : decide ((4294967296 : Int) ≤ (r : Int) + (yn1 : Int)) = true := decide_eq_true (by omega)
        have hres := D.out.broken hu h1 h0 (.inl hq) hr
        have Hres := Lib.hid hres
        have hq1 := (D.out.dec hu h1 (.inl hq)).1
        have hsub : (q : Int) - 1 = ((q - 1 : Nat) : Int) := by omega
        obtain ⟨p, hp⟩ : ∃ p, p = q - 1 := ⟨_, rfl⟩
        rw [← hp] at hsub Hres
        clear hres hp HC D
        go_wp2_with fail
        have hpQ : p = Qd := Hres.out.trans HQd.out.symm
        subst hpQ
        exact Hexit.out _ _ _ _ _ _ _ _ _ _ _ _ _ _ _ _ _ _ _ _ 
      · skip
        have d3 : decide ((4294967296 : Int) ≤ (r : Int) + (yn1 : Int)) = false := decide_eq_false (by omega)
        have hnx := D.out.next hu h1 (.inl hq) (by omega)
        have Hnx := Lib.hid hnx
        have hq1 := (D.out.dec hu h1 (.inl hq)).1
        clear hnx HC D
        go_wp2_with fail
        go_roundw
        case rel => exact ⟨q - 1, r + yn1, by go_num, by go_num, Hnx.out, trivial⟩
        case measure => simp [intOf]; omega
    · have d1 : decide ((4294967296 : Int) ≤ (q : Int)) = false := decide_eq_false (by omega)
      by_cases hc : 4294967296 * r + u1 < C
      · have d2 : decide (4294967296 * (r : Int) + (u1 : Int) < (C : Int)) = true := decide_eq_true (by omega)
        by_cases hr : 4294967296 ≤ r + yn1
        · skip
          have d3 : decide ((4294967296 : Int) ≤ (r : Int) + (yn1 : Int)) = true := decide_eq_true (by omega)
          have hres := D.out.broken hu h1 h0 (.inr (by rw [← HC.out]; exact hc)) hr
          have Hres := Lib.hid hres
          have hq1 := (D.out.dec hu h1 (.inr (by rw [← HC.out]; exact hc))).1
          have hsub : (q : Int) - 1 = ((q - 1 : Nat) : Int) := by omega
          obtain ⟨p, hp⟩ : ∃ p, p = q - 1 := ⟨_, rfl⟩
          rw [← hp] at hsub Hres
          clear hres hp HC D
          go_wp2_with fail
          have hpQ : p = Qd := Hres.out.trans HQd.out.symm
          subst hpQ
          exact Hexit.out _ _ _ _ _ _ _ _ _ _ _ _ _ _ _ _ _ _ _ _ 
        · skip
          have d3 : decide ((4294967296 : Int) ≤ (r : Int) + (yn1 : Int)) = false := decide_eq_false (by omega)
          have hnx := D.out.next hu h1 (.inr (by rw [← HC.out]; exact hc)) (by omega)
          have Hnx := Lib.hid hnx
          have hq1 := (D.out.dec hu h1 (.inr (by rw [← HC.out]; exact hc))).1
          clear hnx HC D
          go_wp2_with fail
          go_roundw
          case rel => exact ⟨q - 1, r + yn1, by go_num, by go_num, Hnx.out, trivial⟩
          case measure => simp [intOf]; omega
      · have d2 : decide (4294967296 * (r : Int) + (u1 : Int) < (C : Int)) = false := decide_eq_false (by omega)
        have hres := D.out.done hu (by rw [← HC.out]; omega)
        have Hres := Lib.hid hres
        clear hres HC D
        go_wp2_with fail
        have hpQ : q = Qd := Hres.out.trans HQd.out.symm
        subst hpQ
        exact Hexit.out _ _ _ _ _ _ _ _ _ _ _ _ _ _ _ _ _ _ _ _ 

noncomputable def divLoop1 : Code := nthLoop (Tryz.f182.body.getD .skip) 1

set_option maxRecDepth 100000 in
set_option maxHeartbeats 2000000 in
theorem divLoop1_any (un yn1 yn0 u1 q0 r0 Qd : Nat) (w0 : World) (Q : Exit → Act → World → Prop) (hu : un < yn1 * 4294967296 + yn0) (h1 : u1 < 4294967296) (h0 : yn0 < 4294967296) (hy : 4294967296 ≤ 2 * yn1) (hy2 : yn1 < 4294967296) (D0 : Dig 4294967296 un yn1 yn0 u1 q0 r0)
    (hQd : Qd = (un * 4294967296 + u1) / (yn1 * 4294967296 + yn0)) (x0 x1 x2 x3 x4 x5 x6 x7 x8 x11 x12 x13 x15 x19 x20 x21 x22 x23 x24 x25 x26 x27 x28 x29 x30 x31 x32 x33 x34 x35 x36 x37 x38 x39 x40 x41 x42 x43 x44 x45 x46 x47 x48 x49 x50 x51 x52 x53 x54 x55 x56 x57 x58 x59 x60 x61 x62 x63 x64 x65 x66 x67 x68 x69 x70 x71 x72 x73 x74 x75 x76 x77 x78 x79 x80 x81 x82 x83 x84 x85 x86 x87 x88 x89 x90 x91 x92 x93 x94 x95 x96 x97 x98 x99 x100 x101 x102 x103 x104 x105 x106 x107 x108 x109 x110 x111 x112 x113 x114 x115 x116 x117 x118 x119 x120 x121 x122 x123 x124 x125 x126 x127 x128 x129 x130 x131 x132 x133 x134 : Value)
    (hexit : ∀ (u16 u102 u103 u104 u105 u106 u107 u108 u109 u110 u111 u112 u113 u114 u115 u116 u117 u118 u119 u120 : Value), Q (.exit 2) ⟨List.toArray (x0 :: x1 :: x2 :: x3 :: x4 :: x5 :: x6 :: x7 :: x8 :: .int .u64 (yn1 : Int) :: .int .u64 (yn0 : Int) :: x11 :: x12 :: x13 :: .int .u64 (u1 : Int) :: x15 :: u16 :: .int .u64 (un : Int) :: .int .u64 (Qd : Int) :: x19 :: x20 :: x21 :: x22 :: x23 :: x24 :: x25 :: x26 :: x27 :: x28 :: x29 :: x30 :: x31 :: x32 :: x33 :: x34 :: x35 :: x36 :: x37 :: x38 :: x39 :: x40 :: x41 :: x42 :: x43 :: x44 :: x45 :: x46 :: x47 :: x48 :: x49 :: x50 :: x51 :: x52 :: x53 :: x54 :: x55 :: x56 :: x57 :: x58 :: x59 :: x60 :: x61 :: x62 :: x63 :: x64 :: x65 :: x66 :: x67 :: x68 :: x69 :: x70 :: x71 :: x72 :: x73 :: x74 :: x75 :: x76 :: x77 :: x78 :: x79 :: x80 :: x81 :: x82 :: x83 :: x84 :: x85 :: x86 :: x87 :: x88 :: x89 :: x90 :: x91 :: x92 :: x93 :: x94 :: x95 :: x96 :: x97 :: x98 :: x99 :: x100 :: x101 :: u102 :: u103 :: u104 :: u105 :: u106 :: u107 :: u108 :: u109 :: u110 :: u111 :: u112 :: u113 :: u114 :: u115 :: u116 :: u117 :: u118 :: u119 :: u120 :: x121 :: x122 :: x123 :: x124 :: x125 :: x126 :: x127 :: x128 :: x129 :: x130 :: x131 :: x132 :: x133 :: x134 :: []), []⟩ w0) :
    (Code.loop divLoop1).wp Tryz.prog Q ⟨List.toArray (x0 :: x1 :: x2 :: x3 :: x4 :: x5 :: x6 :: x7 :: x8 :: .int .u64 (yn1 : Int) :: .int .u64 (yn0 : Int) :: x11 :: x12 :: x13 :: .int .u64 (u1 : Int) :: x15 :: .int .u64 (r0 : Int) :: .int .u64 (un : Int) :: .int .u64 (q0 : Int) :: x19 :: x20 :: x21 :: x22 :: x23 :: x24 :: x25 :: x26 :: x27 :: x28 :: x29 :: x30 :: x31 :: x32 :: x33 :: x34 :: x35 :: x36 :: x37 :: x38 :: x39 :: x40 :: x41 :: x42 :: x43 :: x44 :: x45 :: x46 :: x47 :: x48 :: x49 :: x50 :: x51 :: x52 :: x53 :: x54 :: x55 :: x56 :: x57 :: x58 :: x59 :: x60 :: x61 :: x62 :: x63 :: x64 :: x65 :: x66 :: x67 :: x68 :: x69 :: x70 :: x71 :: x72 :: x73 :: x74 :: x75 :: x76 :: x77 :: x78 :: x79 :: x80 :: x81 :: x82 :: x83 :: x84 :: x85 :: x86 :: x87 :: x88 :: x89 :: x90 :: x91 :: x92 :: x93 :: x94 :: x95 :: x96 :: x97 :: x98 :: x99 :: x100 :: x101 :: x102 :: x103 :: x104 :: x105 :: x106 :: x107 :: x108 :: x109 :: x110 :: x111 :: x112 :: x113 :: x114 :: x115 :: x116 :: x117 :: x118 :: x119 :: x120 :: x121 :: x122 :: x123 :: x124 :: x125 :: x126 :: x127 :: x128 :: x129 :: x130 :: x131 :: x132 :: x133 :: x134 :: []), []⟩ w0 := by
  have Hexit := Lib.hid hexit
  have HQd := Lib.hid hQd
  have HD0 := Lib.hid D0
  clear hexit hQd D0
  conv => arg 2; arg 1; whnf
  go_loopw [18, 16] (fun x y wr => ∃ q r : Nat, x = .int .u64 (q : Int) ∧ y = .int .u64 (r : Int) ∧ Dig 4294967296 un yn1 yn0 u1 q r ∧ wr = w0) (fun x _ _ => (intOf x).toNat)
  case atStart => exact ⟨q0, r0, rfl, rfl, HD0.out, rfl⟩
  case round =>
    obtain ⟨q, r, rfl, rfl, hD, rfl⟩ := hrel
    have hqb := hD.q
    have hrb := hD.r
    have hpb := hD.prod h0
    have D := Lib.hid hD
    clear hD HD0
    obtain ⟨C, hC⟩ : ∃ C, C = q * yn0 := ⟨_, rfl⟩
    have hmul : IntKind.u64.wrap ((q : Int) * (yn0 : Int)) = (C : Int) := by
      rw [IntKind.wrap_u64, hC]
      rw [← hC] at hpb ⊢
      have : (q : Int) * (yn0 : Int) = (C : Int) := by rw [hC]; push_cast; rfl
      rw [this]; omega
    rw [← hC] at hpb
    have HC := Lib.hid hC
    clear hC
    by_cases hq : 4294967296 ≤ q
    · have d1 : decide ((4294967296 : Int) ≤ (q : Int)) = true := decide_eq_true (by omega)
      by_cases hr : 4294967296 ≤ r + yn1
      · skip
        have d3 : decide ((4294967296 : Int) ≤ (r : Int) + (yn1 : Int)) = true := decide_eq_true (by omega)
        have hres := D.out.broken hu h1 h0 (.inl hq) hr
        have Hres := Lib.hid hres
        have hq1 := (D.out.dec hu h1 (.inl hq)).1
        have hsub : (q : Int) - 1 = ((q - 1 : Nat) : Int) := by omega
        obtain ⟨p, hp⟩ : ∃ p, p = q - 1 := ⟨_, rfl⟩
        rw [← hp] at hsub Hres
        clear hres hp HC D
        go_wp2_with fail
        have hpQ : p = Qd := Hres.out.trans HQd.out.symm
        subst hpQ
        exact Hexit.out _ _ _ _ _ _ _ _ _ _ _ _ _ _ _ _ _ _ _ _ 
      · skip
        have d3 : decide ((4294967296 : Int) ≤ (r : Int) + (yn1 : Int)) = false := decide_eq_false (by omega)
        have hnx := D.out.next hu h1 (.inl hq) (by omega)
        have Hnx := Lib.hid hnx
        have hq1 := (D.out.dec hu h1 (.inl hq)).1
        clear hnx HC D
        go_wp2_with fail
        go_roundw
        case rel => exact ⟨q - 1, r + yn1, by go_num, by go_num, Hnx.out, trivial⟩
        case measure => simp [intOf]; omega
    · have d1 : decide ((4294967296 : Int) ≤ (q : Int)) = false := decide_eq_false (by omega)
      by_cases hc : 4294967296 * r + u1 < C
      · have d2 : decide (4294967296 * (r : Int) + (u1 : Int) < (C : Int)) = true := decide_eq_true (by omega)
        by_cases hr : 4294967296 ≤ r + yn1
        · skip
          have d3 : decide ((4294967296 : Int) ≤ (r : Int) + (yn1 : Int)) = true := decide_eq_true (by omega)
          have hres := D.out.broken hu h1 h0 (.inr (by rw [← HC.out]; exact hc)) hr
          have Hres := Lib.hid hres
          have hq1 := (D.out.dec hu h1 (.inr (by rw [← HC.out]; exact hc))).1
          have hsub : (q : Int) - 1 = ((q - 1 : Nat) : Int) := by omega
          obtain ⟨p, hp⟩ : ∃ p, p = q - 1 := ⟨_, rfl⟩
          rw [← hp] at hsub Hres
          clear hres hp HC D
          go_wp2_with fail
          have hpQ : p = Qd := Hres.out.trans HQd.out.symm
          subst hpQ
          exact Hexit.out _ _ _ _ _ _ _ _ _ _ _ _ _ _ _ _ _ _ _ _ 
        · skip
          have d3 : decide ((4294967296 : Int) ≤ (r : Int) + (yn1 : Int)) = false := decide_eq_false (by omega)
          have hnx := D.out.next hu h1 (.inr (by rw [← HC.out]; exact hc)) (by omega)
          have Hnx := Lib.hid hnx
          have hq1 := (D.out.dec hu h1 (.inr (by rw [← HC.out]; exact hc))).1
          clear hnx HC D
          go_wp2_with fail
          go_roundw
          case rel => exact ⟨q - 1, r + yn1, by go_num, by go_num, Hnx.out, trivial⟩
          case measure => simp [intOf]; omega
      · have d2 : decide (4294967296 * (r : Int) + (u1 : Int) < (C : Int)) = false := decide_eq_false (by omega)
        have hres := D.out.done hu (by rw [← HC.out]; omega)
        have Hres := Lib.hid hres
        clear hres HC D
        go_wp2_with fail
        have hpQ : q = Qd := Hres.out.trans HQd.out.symm
        subst hpQ
        exact Hexit.out _ _ _ _ _ _ _ _ _ _ _ _ _ _ _ _ _ _ _ _ 

end Go.Proofs.YtbpenkaficiodaaGreat

namespace Go.Proofs.YtbpenkaficiodaaGreat
open Go.RowKit

/-- Where the highest bit stands. -/
theorem lead_spec (y : Nat) (h0 : 0 < y) (h1 : y < 9223372036854775808) : ∃ s : Nat, 64 - (Lib.bitLen y : Int) = (s : Int) ∧ 1 ≤ s ∧ s ≤ 63 ∧ 9223372036854775808 ≤ y * 2 ^ s ∧ y * 2 ^ s < 18446744073709551616 := by
  obtain ⟨ha, hb, hc⟩ := Lib.bitLenAux_bounds 64 y (by omega) (by omega)
  have hd := Lib.bitLen_le y 63 (by omega) (by omega)
  have he : Lib.bitLenAux 64 y = Lib.bitLen y := rfl
  rw [he] at ha hb hc
  generalize Lib.bitLen y = L at *
  refine ⟨64 - L, by omega, by omega, by omega, ?_, ?_⟩
  · calc 9223372036854775808 = 2 ^ (L - 1) * 2 ^ (64 - L) := by rw [← Nat.pow_add, show L - 1 + (64 - L) = 63 by omega]
      _ ≤ y * 2 ^ (64 - L) := Nat.mul_le_mul_right _ hb
  · calc y * 2 ^ (64 - L) < 2 ^ L * 2 ^ (64 - L) := Nat.mul_lt_mul_of_pos_right hc (Nat.two_pow_pos _)
      _ = 18446744073709551616 := by rw [← Nat.pow_add, show L + (64 - L) = 64 by omega]

theorem u64_mask32 (x : Nat) (hx : x < 18446744073709551616) : bits .and .u64 (x : Int) 4294967295 = ((x % 4294967296 : Nat) : Int) := by
  show IntKind.u64.wrap ((BitVec.ofInt 64 (x : Int) &&& BitVec.ofInt 64 ((4294967295 : Nat) : Int)).toNat : Int) = _
  rw [BitVec.toNat_and, ofInt_u64 x hx, ofInt_u64 4294967295 (by omega), show 4294967295 = 2 ^ 32 - 1 from rfl, Nat.and_two_pow_sub_one_eq_mod, IntKind.wrap_u64]
  omega

set_option maxRecDepth 100000 in
set_option maxHeartbeats 2000000 in
theorem div_any (hi lo y : Nat) (w : World) (hl : lo < 18446744073709551616) (hy : hi < y) (hy2 : y ≤ 4611686018427387904) :
    Calls Tryz.prog 182 #[.int .u64 (hi : Int), .int .u64 (lo : Int), .int .u64 (y : Int)] w fun e w' =>
      e = .returned (.tuple #[.int .u64 (((hi * 18446744073709551616 + lo) / y : Nat) : Int), .int .u64 (((hi * 18446744073709551616 + lo) % y : Nat) : Int)]) ∧ ∃ n, w' = w.drewN n := by
  have t1 : ((y : Int) == 0) = false := by rw [beq_eq_false_iff_ne]; omega
  have t2 : decide ((y : Int) ≤ (hi : Int)) = false := decide_eq_false (by omega)
  by_cases h0 : hi = 0
  · subst h0
    go_enter Tryz.func182, Tryz.ntmps182
    go_wp2_with fail
    go_quiet (fail)
    go_wp2_with fail
    go_ret2
    refine ⟨?_, _, rfl⟩
    have e1 : IntKind.u64.wrap ((lo : Int) / (y : Int)) = (((0 * 18446744073709551616 + lo) / y : Nat) : Int) := by
      rw [Nat.zero_mul, Nat.zero_add, IntKind.wrap_u64]
      have : lo / y ≤ lo := Nat.div_le_self _ _
      have h2 : (lo : Int) / (y : Int) = ((lo / y : Nat) : Int) := rfl
      rw [h2]
      generalize lo / y = c at *
      omega
    have e2 : (lo : Int) % (y : Int) = (((0 * 18446744073709551616 + lo) % y : Nat) : Int) := by rw [Nat.zero_mul, Nat.zero_add]; rfl
    rw [← e1, ← e2]
    rfl
  have t3 : ((hi : Int) == 0) = false := by rw [beq_eq_false_iff_ne]; omega
  obtain ⟨s, hs, hs1, hs2, hY1, hY2⟩ := lead_spec y (by omega) (by omega)
  have hp0 : 0 < 2 ^ s := Nat.two_pow_pos s
  have hp1 : 0 < 2 ^ (64 - s) := Nat.two_pow_pos _
  have hpp : 2 ^ s * 2 ^ (64 - s) = 18446744073709551616 := by rw [← Nat.pow_add, show s + (64 - s) = 64 by omega]
  obtain ⟨Y, hY⟩ : ∃ Y, Y = y * 2 ^ s := ⟨_, rfl⟩
  rw [← hY] at hY1 hY2
  have f0 : IntKind.u64.wrap ((y : Int) * 2 ^ s) = (Y : Int) := by
    rw [IntKind.wrap_u64, show (y : Int) * 2 ^ s = (Y : Int) from by rw [hY]; push_cast; rfl]; omega
  obtain ⟨yn1, hyn1⟩ : ∃ c, c = Y / 4294967296 := ⟨_, rfl⟩
  obtain ⟨yn0, hyn0⟩ : ∃ c, c = Y % 4294967296 := ⟨_, rfl⟩
  have hYe : Y = yn1 * 4294967296 + yn0 := by omega
  have b1 : 2147483648 ≤ yn1 := by omega
  have b2 : yn1 < 4294967296 := by omega
  have b3 : yn0 < 4294967296 := by omega
  have f1 : (Y : Int) / 4294967296 = (yn1 : Int) := by omega
  have f2 : bits .and .u64 (Y : Int) 4294967295 = (yn0 : Int) := by rw [u64_mask32 Y hY2, hyn0]
  obtain ⟨h2, hh2⟩ : ∃ c, c = hi * 2 ^ s := ⟨_, rfl⟩
  obtain ⟨l2, hl2⟩ : ∃ c, c = lo / 2 ^ (64 - s) := ⟨_, rfl⟩
  have hl2b : l2 < 2 ^ s := by rw [hl2, Nat.div_lt_iff_lt_mul hp1, hpp]; exact hl
  have hun : h2 + l2 < Y := by
    have : (hi + 1) * 2 ^ s ≤ y * 2 ^ s := Nat.mul_le_mul_right _ hy
    rw [Nat.add_mul, ← hh2, ← hY] at this
    omega
  have f3 : IntKind.u64.wrap ((hi : Int) * 2 ^ s) = (h2 : Int) := by
    rw [IntKind.wrap_u64, show (hi : Int) * 2 ^ s = (h2 : Int) from by rw [hh2]; push_cast; rfl]; omega
  have f4 : (lo : Int) / 2 ^ (64 - s) = (l2 : Int) := by rw [hl2]; push_cast; rfl
  have f5 : (64 - (s : Int)).toNat = 64 - s := by omega
  have f5b : IntKind.u64.wrap (64 - (s : Int)) = 64 - (s : Int) := by rw [IntKind.wrap_u64]; omega
  obtain ⟨un, hun2⟩ : ∃ c, c = h2 + l2 := ⟨_, rfl⟩
  have f6 : bits .or .u64 (h2 : Int) (l2 : Int) = (un : Int) := by
    rw [u64_or_nat h2 l2 (by omega) (by omega), hun2, hh2]
    rw [hh2] at hun2
    have := Nat.shiftLeft_add_eq_or_of_lt hl2b hi
    rw [Nat.shiftLeft_eq] at this
    rw [this]
  rw [← hun2] at hun
  obtain ⟨u10, hu10⟩ : ∃ c, c = lo * 2 ^ s % 18446744073709551616 := ⟨_, rfl⟩
  have f7 : IntKind.u64.wrap ((lo : Int) * 2 ^ s) = (u10 : Int) := by
    rw [IntKind.wrap_u64, show (lo : Int) * 2 ^ s = ((lo * 2 ^ s : Nat) : Int) from by push_cast; rfl, hu10]; rfl
  have hu10b : u10 < 18446744073709551616 := by rw [hu10]; exact Nat.mod_lt _ (by omega)
  obtain ⟨u1, hu1⟩ : ∃ c, c = u10 / 4294967296 := ⟨_, rfl⟩
  obtain ⟨u0, hu0⟩ : ∃ c, c = u10 % 4294967296 := ⟨_, rfl⟩
  have b4 : u1 < 4294967296 := by omega
  have b5 : u0 < 4294967296 := by omega
  have f8 : (u10 : Int) / 4294967296 = (u1 : Int) := by omega
  have f9 : bits .and .u64 (u10 : Int) 4294967295 = (u0 : Int) := by rw [u64_mask32 u10 hu10b, hu0]
  have hN : (hi * 18446744073709551616 + lo) * 2 ^ s = (un * 4294967296 + u1) * 4294967296 + u0 := by
    have e1 : lo * 2 ^ s = l2 * 18446744073709551616 + u10 := by
      have h1 := Nat.div_add_mod (lo * 2 ^ s) 18446744073709551616
      have h2 : lo * 2 ^ s / 18446744073709551616 = l2 := by
        rw [hl2, ← hpp, Nat.mul_comm lo, Nat.mul_div_mul_left _ _ hp0]
      rw [h2, ← hu10] at h1
      omega
    rw [Nat.add_mul, e1, Nat.mul_right_comm, ← hh2]
    omega
  have hdig := digits (B := 4294967296) (U := un * 4294967296 + u1) (u0 := u0) hY (by omega) hN
  obtain ⟨Qd, hQd⟩ : ∃ c, c = (un * 4294967296 + u1) / Y := ⟨_, rfl⟩
  obtain ⟨U1, hU1⟩ : ∃ c, c = (un * 4294967296 + u1) % Y := ⟨_, rfl⟩
  have hU1b : U1 < Y := by rw [hU1]; exact Nat.mod_lt _ (by omega)
  have hdm1 := Nat.div_add_mod (un * 4294967296 + u1) Y
  rw [← hQd, ← hU1] at hdm1
  rw [← hQd, ← hU1] at hdig
  obtain ⟨Qe, hQe⟩ : ∃ c, c = (U1 * 4294967296 + u0) / Y := ⟨_, rfl⟩
  obtain ⟨U2, hU2⟩ : ∃ c, c = (U1 * 4294967296 + u0) % Y := ⟨_, rfl⟩
  have hU2b : U2 < Y := by rw [hU2]; exact Nat.mod_lt _ (by omega)
  have hdm2 := Nat.div_add_mod (U1 * 4294967296 + u0) Y
  rw [← hQe, ← hU2] at hdm2
  rw [← hQe, ← hU2] at hdig
  have hQdb : Qd < 4294967296 := by rw [hQd, hYe]; exact digit_lt (by omega) b4
  have hQeb : Qe < 4294967296 := by rw [hQe, hYe]; exact digit_lt (by omega) b5
  -- the first digit
  obtain ⟨qa, hqa⟩ : ∃ c, c = un / yn1 := ⟨_, rfl⟩
  obtain ⟨ra, hra⟩ : ∃ c, c = un % yn1 := ⟨_, rfl⟩
  have D1 : Dig 4294967296 un yn1 yn0 u1 qa ra := by rw [hqa, hra]; exact Dig.first (by omega) b4 b3 (by omega) b2
  obtain ⟨ma, hma⟩ : ∃ c, c = qa * yn1 := ⟨_, rfl⟩
  have hma2 : ma + ra = un := by rw [hma]; exact D1.eq
  have g1 : (un : Int) / (yn1 : Int) = (qa : Int) := by rw [hqa]; rfl
  have g2 : IntKind.u64.wrap ((qa : Int) * (yn1 : Int)) = (ma : Int) := by
    rw [IntKind.wrap_u64, show (qa : Int) * (yn1 : Int) = (ma : Int) from by rw [hma]; push_cast; rfl]; omega
  have g3 : (un : Int) - (ma : Int) = (ra : Int) := by omega
  -- the second digit
  obtain ⟨qb, hqb⟩ : ∃ c, c = U1 / yn1 := ⟨_, rfl⟩
  obtain ⟨rb, hrb⟩ : ∃ c, c = U1 % yn1 := ⟨_, rfl⟩
  have D2 : Dig 4294967296 U1 yn1 yn0 u0 qb rb := by rw [hqb, hrb]; exact Dig.first (by omega) b5 b3 (by omega) b2
  obtain ⟨mb, hmb⟩ : ∃ c, c = qb * yn1 := ⟨_, rfl⟩
  have hmb2 : mb + rb = U1 := by rw [hmb]; exact D2.eq
  have g4 : (U1 : Int) / (yn1 : Int) = (qb : Int) := by rw [hqb]; rfl
  have g5 : IntKind.u64.wrap ((qb : Int) * (yn1 : Int)) = (mb : Int) := by
    rw [IntKind.wrap_u64, show (qb : Int) * (yn1 : Int) = (mb : Int) from by rw [hmb]; push_cast; rfl]; omega
  have g6 : (U1 : Int) - (mb : Int) = (rb : Int) := by omega
  -- what is left behind the first
  obtain ⟨P1, hP1⟩ : ∃ c, c = Y * Qd := ⟨_, rfl⟩
  rw [← hP1] at hdm1
  obtain ⟨k1, hk1⟩ : ∃ c, c = un * 4294967296 % 18446744073709551616 := ⟨_, rfl⟩
  obtain ⟨k2, hk2⟩ : ∃ c, c = (k1 + u1) % 18446744073709551616 := ⟨_, rfl⟩
  obtain ⟨k3, hk3⟩ : ∃ c, c = P1 % 18446744073709551616 := ⟨_, rfl⟩
  have m1 : IntKind.u64.wrap ((un : Int) * 4294967296) = (k1 : Int) := by rw [IntKind.wrap_u64]; omega
  have m2 : IntKind.u64.wrap ((k1 : Int) + (u1 : Int)) = (k2 : Int) := by rw [IntKind.wrap_u64]; omega
  have m3 : IntKind.u64.wrap ((Qd : Int) * (Y : Int)) = (k3 : Int) := by
    rw [IntKind.wrap_u64, show (Qd : Int) * (Y : Int) = (P1 : Int) from by rw [hP1, Nat.mul_comm]; push_cast; rfl]; omega
  have m4 : IntKind.u64.wrap ((k2 : Int) - (k3 : Int)) = (U1 : Int) := by rw [IntKind.wrap_u64]; omega
  obtain ⟨P2, hP2⟩ : ∃ c, c = Y * Qe := ⟨_, rfl⟩
  rw [← hP2] at hdm2
  obtain ⟨k4, hk4⟩ : ∃ c, c = U1 * 4294967296 % 18446744073709551616 := ⟨_, rfl⟩
  obtain ⟨k5, hk5⟩ : ∃ c, c = (k4 + u0) % 18446744073709551616 := ⟨_, rfl⟩
  obtain ⟨k6, hk6⟩ : ∃ c, c = P2 % 18446744073709551616 := ⟨_, rfl⟩
  have m5 : IntKind.u64.wrap ((U1 : Int) * 4294967296) = (k4 : Int) := by rw [IntKind.wrap_u64]; omega
  have m6 : IntKind.u64.wrap ((k4 : Int) + (u0 : Int)) = (k5 : Int) := by rw [IntKind.wrap_u64]; omega
  have m7 : IntKind.u64.wrap ((Qe : Int) * (Y : Int)) = (k6 : Int) := by
    rw [IntKind.wrap_u64, show (Qe : Int) * (Y : Int) = (P2 : Int) from by rw [hP2, Nat.mul_comm]; push_cast; rfl]; omega
  have m8 : IntKind.u64.wrap ((k5 : Int) - (k6 : Int)) = (U2 : Int) := by rw [IntKind.wrap_u64]; omega
  have m9 : (U2 : Int) / 2 ^ s = ((U2 / 2 ^ s : Nat) : Int) := by push_cast; rfl
  rw [← hdig.1, ← hdig.2]
  obtain ⟨V, hV⟩ : ∃ c, c = U2 / 2 ^ s := ⟨_, rfl⟩
  rw [← hV] at m9 ⊢
  have hqab := D1.q
  have hqbb := D2.q
  have w1 : IntKind.u64.wrap (qa : Int) = (qa : Int) := by rw [IntKind.wrap_u64]; omega
  have w2 : IntKind.u64.wrap (qb : Int) = (qb : Int) := by rw [IntKind.wrap_u64]; omega
  have HD1 := Lib.hid D1
  have HD2 := Lib.hid D2
  have HQd := Lib.hid hQd
  have HQe := Lib.hid hQe
  rw [hYe] at HQd HQe
  have huny : un < yn1 * 4294967296 + yn0 := by omega
  have hU1y : U1 < yn1 * 4294967296 + yn0 := by omega
  clear hV hdig hk1 hk2 hk3 hk4 hk5 hk6 hP1 hP2 hmb2 hmb hqb hrb hma hma2 hqa hra D1 D2 hdm1 hdm2 hQd hQe hU1 hU2 hN hu1 hu0 hu10 hun2 hl2 hh2 hYe hyn1 hyn0 hY hpp hp0 hp1 hl2b
  go_enter Tryz.func182, Tryz.ntmps182
  go_wp2_with fail
  refine (Tryz.bits_LeadingZeros64 (y : Int) _ (by omega) (by omega)).mono ?_
  rintro e w' ⟨rfl, rfl⟩
  rw [Int.toNat_natCast, hs]
  clear hs
  go_wp2_with fail
  refine divLoop0_any un yn1 yn0 u1 qa ra Qd _ _ huny b4 b3 (by omega) b2 HD1.out HQd.out _ _ _ _ _ _ _ _ _ _ _ _ _ _ _ _ _ _ _ _ _ _ _ _ _ _ _ _ _ _ _ _ _ _ _ _ _ _ _ _ _ _ _ _ _ _ _ _ _ _ _ _ _ _ _ _ _ _ _ _ _ _ _ _ _ _ _ _ _ _ _ _ _ _ _ _ _ _ _ _ _ _ _ _ _ _ _ _ _ _ _ _ _ _ _ _ _ _ _ _ _ _ _ _ _ _ _ _ _ _ _ _ _ _ _ _ _ _ _ _ _ _ _ _ _ _ _ _ _ ?_
  intro v16 v67 v68 v69 v70 v71 v72 v73 v74 v75 v76 v77 v78 v79 v80 v81 v82 v83 v84 v85
  go_wp2_with fail
  refine divLoop1_any U1 yn1 yn0 u0 qb rb Qe _ _ hU1y b5 b3 (by omega) b2 HD2.out HQe.out _ _ _ _ _ _ _ _ _ _ _ _ _ _ _ _ _ _ _ _ _ _ _ _ _ _ _ _ _ _ _ _ _ _ _ _ _ _ _ _ _ _ _ _ _ _ _ _ _ _ _ _ _ _ _ _ _ _ _ _ _ _ _ _ _ _ _ _ _ _ _ _ _ _ _ _ _ _ _ _ _ _ _ _ _ _ _ _ _ _ _ _ _ _ _ _ _ _ _ _ _ _ _ _ _ _ _ _ _ _ _ _ _ _ _ _ _ _ _ _ _ _ _ _ _ _ _ _ _ ?_
  intro y16 y102 y103 y104 y105 y106 y107 y108 y109 y110 y111 y112 y113 y114 y115 y116 y117 y118 y119 y120
  go_wp2_with fail
  go_ret2
  refine ⟨?_, 0, ?_⟩
  · rw [Int.natCast_add, Int.natCast_mul]; rfl
  · rfl
end Go.Proofs.YtbpenkaficiodaaGreat

namespace Go.Proofs.YtbpenkaficiodaaGreat
open Go.RowKit

theorem neg_and31 (n : Nat) (h1 : 1 ≤ n) (h2 : n ≤ 31) : bits BinOp.and IntKind.u64 (IntKind.u64.wrap (-(n : Int))) 31 = ((32 - n : Nat) : Int) := by
  have : ∀ n ∈ List.range 32, 1 ≤ n → bits BinOp.and IntKind.u64 (IntKind.u64.wrap (-(n : Int))) 31 = ((32 - n : Nat) : Int) := by decide +kernel
  exact this n (by simp; omega) h1

set_option maxHeartbeats 400000 in
theorem rot_any (x : W32) (n : Nat) (w : World) (h1 : 1 ≤ n) (h2 : n ≤ 31) :
    Calls Tryz.prog 207 #[v32 x, .int .i64 (n : Int)] w fun e w' => e = .returned (v32 (x.rotateRight n)) ∧ w = w' := by
  have hk := neg_and31 n h1 h2
  have hl := w32_shl x (32 - n)
  have hr := w32_shr x n
  have ho := w32_or (x <<< (32 - n)) (x >>> n)
  have hs : (32 : Int) - ((32 - n : Nat) : Int) = (n : Int) := by omega
  rw [← rot_eq x n h1 h2]
  go_enter Tryz.func207, Tryz.ntmps207
  go_wp2
  go_ret
  exact ⟨by simp, rfl⟩
theorem Tryz.underlying_bytes : Tryz.prog.underlying 201 = some (.slice 5) := by kernel_rfl
theorem Tryz.underlying_u8 : Tryz.prog.underlying 5 = some (.int .u8) := by kernel_rfl
theorem Tryz.underlying_str : Tryz.prog.underlying 9 = some .string := by kernel_rfl
theorem Tryz.info_u8 : (Tryz.prog.info? 5).map (fun i => (i.zero, i.size, i.bytes)) = some (some (.int .u8 0), 1, 1) := by kernel_rfl

set_option maxRecDepth 100000 in
set_option maxHeartbeats 400000 in
theorem number_any (n size : Nat) (w : World) (h1 : 1 ≤ size) (h2 : size ≤ 8) :
    Calls Tryz.prog 186 #[.int .u64 (n : Int), .int .i64 (size : Int)] w fun e w' => e = .returned (.string (str (be size n))) ∧ Below w.heap.size w w' := by
  go_enter Tryz.func186, Tryz.ntmps186
  go_wp2
  go_loopw [5, 6] (fun v i wr => ∃ (k : Nat) (z : Int), k ≤ size ∧ z = 8 * ((size : Int) - 1 - k) ∧ i = .int .i64 z ∧ Own wr w.heap.size 5 v (vbytes ((be size n).take k)) ∧ Below w.heap.size w wr) (fun _ i _ => (intOf i + 8).toNat)
  case atStart => exact ⟨0, _, by omega, by simp, rfl, by simpa [vbytes] using Own.nil w w.heap.size 5, Below.refl _ _⟩
  case round =>
    obtain ⟨k, z, hk, hz, rfl, hown, hb⟩ := hrel
    have Hown := Lib.hid hown
    have Hb := Lib.hid hb
    have Hz := Lib.hid hz
    have z1 : z ≤ 56 := by omega
    have z2 : -8 ≤ z := by omega
    clear hown hb hz
    by_cases hlt : k < size
    · have z0 : 0 ≤ z := by have := Hz.out; omega
      have hz8 : z.toNat = 8 * (size - 1 - k) := by have := Hz.out; omega
      have hl : (vbytes ((be size n).take k)).length = k := by rw [vbytes_length, List.length_take, be_length]; omega
      have hval : (Value.int .u8 ((n : Int) / 2 ^ z.toNat % 256)) = .int .u8 (((UInt8.ofNat (n / 256 ^ (size - 1 - k))).toNat : Nat) : Int) := by
        rw [hz8, be_val]
      have hstep := be_take_succ size n k hlt
      have Hval := Lib.hid hval
      have Hstep := Lib.hid hstep
      have Hl := Lib.hid hl
      clear hval hstep hz8 hl
      go_wp2_with (at_builtin; go_must (refine ap1 Hown.out Hb.out Tryz.underlying_bytes Tryz.info_u8 rfl (by omega) (by rw [Hl.out]; omega) rfl _ _ rfl rfl rfl rfl ?_; intro v1 w1 hown1 hb1 hg1; rw [Hval.out, show ∀ c : UInt8, [Value.int .u8 (c.toNat : Int)] = vbytes [c] from fun _ => rfl, ← vbytes_append, ← Hstep.out] at hown1; have Hown1 := Lib.hid hown1; have Hb1 := Lib.hid hb1; clear hown1 hb1 hg1))
      go_roundw
      case rel => exact ⟨k + 1, z - 8, by omega, by have := Hz.out; push_cast; omega, by go_num, Hown1.out, Hb1.out⟩
      case measure => simp [intOf]; omega
    · have z0 : z < 0 := by have := Hz.out; omega
      have hk' : k = size := by omega
      have hstr : ∀ W, Own W w.heap.size 5 u5 (vbytes ((be size n).take k)) → (convert 201 9 u5).run Tryz.prog W = .ok (.string (str (be size n))) W := by
        intro W h
        rw [hk', List.take_of_length_le (by rw [be_length]; omega)] at h
        exact Own.string Tryz.underlying_bytes Tryz.underlying_u8 Tryz.underlying_str h
      have hs1 := hstr _ Hown.out
      clear hk' hstr
      go_wp2
      go_ret
      exact ⟨rfl, Hb.out⟩
end Go.Proofs.YtbpenkaficiodaaGreat

/-
  DERIVED: THE SHELF's CONTRACTS AT THIS DUMP, IN PLAIN WORDS (tools/lay-plain.mjs out of 'TryzShelf.lean', which tools/lay-shelf.mjs wrote): THE SAME DECLARATIONS UNDER THE SAME NAMES: 'import', 'namespace', 'open', 'def', 'theorem' AND NOTHING ELSE: no command of the shelf's: FOR A HAND-IN. Each laying: the table of numbers ('.._ren') and one theorem, a field a fact of the dump's own or the kernel's comparison; each contract: ONE APPLICATION.
-/
namespace Go.Proofs
open Go.Shelf
def Tryz.lays170_ren : Go.Shelf.Ren := ⟨fun | 170 => 210 | n => n, fun | 70 => 212 | 3 => 3 | 0 => 0 | 72 => 214 | 37 => 201 | 5 => 5 | n => n, fun | n => n⟩
theorem Tryz.lays170 : Go.Proofs.Lays.n170 Tryz.prog Tryz.lays170_ren := {
  mixed := by kernel_rfl
  f170 := Tryz.func210.trans (congrArg some (by kernel_rfl))
  t0 := Tryz.underlying0
  a0 := Tryz.isAgg0
  z0 := Tryz.sizeOf0
  v0 := Tryz.zeroValue0
  t3 := Tryz.underlying3
  a3 := Tryz.isAgg3
  z3 := Tryz.sizeOf3
  v3 := Tryz.zeroValue3
  t37 := Tryz.underlying201
  a37 := Tryz.isAgg201
  z37 := Tryz.sizeOf201
  v37 := Tryz.zeroValue201
  t70 := Tryz.underlying212
  a70 := Tryz.isAgg212
  z70 := Tryz.sizeOf212
  v70 := Tryz.zeroValue212
  t72 := Tryz.underlying214
  a72 := Tryz.isAgg214
  z72 := Tryz.sizeOf214
  v72 := Tryz.zeroValue214 }
open Go.RowKit in
/-- (*strings.Builder).Len: "Len returns the number of accumulated bytes; b.Len() == len(b.String()).": the world is as it was. (LAID: no walk: one application.) -/
theorem Tryz.Builder_Len (B b : Nat) (bs : List Value) (w : World) (h : Lib.IsBuilder 214 5 B b bs w) :
    Calls Tryz.prog 210 #[.pointer (some ⟨b, 0, none⟩)] w fun e w' => e = .returned (.int .i64 bs.length) ∧ w' = w := Any.Builder_Len Tryz.lays170 B b bs w h
def Tryz.lays169_ren : Go.Shelf.Ren := ⟨fun | 169 => 184 | n => n, fun | 70 => 212 | 9 => 9 | 0 => 0 | 72 => 214 | 37 => 201 | 127 => 227 | 3 => 3 | 5 => 5 | n => n, fun | n => n⟩
theorem Tryz.lays169 : Go.Proofs.Lays.n169 Tryz.prog Tryz.lays169_ren := {
  mixed := by kernel_rfl
  f169 := Tryz.func184.trans (congrArg some (by kernel_rfl))
  t0 := Tryz.underlying0
  a0 := Tryz.isAgg0
  z0 := Tryz.sizeOf0
  v0 := Tryz.zeroValue0
  t3 := Tryz.underlying3
  a3 := Tryz.isAgg3
  z3 := Tryz.sizeOf3
  v3 := Tryz.zeroValue3
  t9 := Tryz.underlying9
  a9 := Tryz.isAgg9
  z9 := Tryz.sizeOf9
  v9 := Tryz.zeroValue9
  t37 := Tryz.underlying201
  a37 := Tryz.isAgg201
  z37 := Tryz.sizeOf201
  v37 := Tryz.zeroValue201
  t70 := Tryz.underlying212
  a70 := Tryz.isAgg212
  z70 := Tryz.sizeOf212
  v70 := Tryz.zeroValue212
  t72 := Tryz.underlying214
  a72 := Tryz.isAgg214
  z72 := Tryz.sizeOf214
  v72 := Tryz.zeroValue214
  t127 := Tryz.underlying227
  a127 := Tryz.isAgg227
  z127 := Tryz.sizeOf227
  v127 := Tryz.zeroValue227 }
theorem Tryz.Builder_Extra_169 : Builder.Extra Tryz.prog Tryz.lays169_ren := {
  sizeBuilder := by kernel_rfl
  liesBuilder := by kernel_rfl
  t5 := Tryz.underlying5
  a5 := Tryz.isAgg5
  z5 := Tryz.sizeOf5
  v5 := Tryz.zeroValue5
  infoByte := by kernel_rfl
  cellsByte := by kernel_rfl
  sizeByte := by kernel_rfl
  neB5 := by decide }
open Go.RowKit in
/-- (*strings.Builder).String: "String returns the accumulated string.": OF A BUILDER THAT HOLDS AT LEAST ONE BYTE. ✋ THE MODEL FREEZES THOSE BYTES IN THE BUFFER (unsafe.String): a later write INTO them ends the model's run without an answer; a later append BEHIND them goes on. The statement's order of evaluation is drawn: one draw. (LAID: no walk: one application.) -/
theorem Tryz.Builder_String (B b : Nat) (l : List UInt8) (w : World) (h : Lib.IsBuilder 214 5 B b (Lib.byteCells l) w) (h0 : l ≠ []) :
    Calls Tryz.prog 184 #[.pointer (some ⟨b, 0, none⟩)] w fun e w' => e = .returned (.string ⟨l.toArray⟩) ∧ Below B w w' := Any.Builder_String Tryz.lays169 Tryz.Builder_Extra_169 B b l w h h0
open Go.RowKit in
/-- (*strings.Builder).String OF A BUILDER THAT HOLDS NO BYTE: the empty string. (Its buffer is nil, or a row of which it has taken nothing yet; where that row has NO capacity the model lays one new block for unsafe.SliceData's 'some address'.) One draw. (LAID: no walk: one application.) -/
theorem Tryz.Builder_String_empty (B b : Nat) (w : World) (h : Lib.IsBuilder 214 5 B b [] w) (hBw : B ≤ w.heap.size) :
    Calls Tryz.prog 184 #[.pointer (some ⟨b, 0, none⟩)] w fun e w' => e = .returned (.string ⟨#[]⟩) ∧ Below B w w' := Any.Builder_String_empty Tryz.lays169 Tryz.Builder_Extra_169 B b w h hBw
open Go.RowKit in
/-- (*strings.Builder).String: "String returns the accumulated string.": WHATEVER THE BUILDER HOLDS. (LAID: no walk: one application.) -/
theorem Tryz.Builder_String_any (B b : Nat) (l : List UInt8) (w : World) (h : Lib.IsBuilder 214 5 B b (Lib.byteCells l) w) (hBw : B ≤ w.heap.size) :
    Calls Tryz.prog 184 #[.pointer (some ⟨b, 0, none⟩)] w fun e w' => e = .returned (.string ⟨l.toArray⟩) ∧ Below B w w' := Any.Builder_String_any Tryz.lays169 Tryz.Builder_Extra_169 B b l w h hBw
def Tryz.lays241_ren : Go.Shelf.Ren := ⟨fun | 241 => 216 | 277 => 221 | n => n, fun | 70 => 212 | 3 => 3 | 0 => 0 | 72 => 214 | 37 => 201 | 5 => 5 | n => n, fun | n => n⟩
theorem Tryz.lays241 : Go.Proofs.Lays.n241 Tryz.prog Tryz.lays241_ren := {
  mixed := by kernel_rfl
  f241 := Tryz.func216.trans (congrArg some (by kernel_rfl))
  f277 := Tryz.func221.trans (congrArg some (by kernel_rfl))
  t0 := Tryz.underlying0
  a0 := Tryz.isAgg0
  z0 := Tryz.sizeOf0
  v0 := Tryz.zeroValue0
  t3 := Tryz.underlying3
  a3 := Tryz.isAgg3
  z3 := Tryz.sizeOf3
  v3 := Tryz.zeroValue3
  t37 := Tryz.underlying201
  a37 := Tryz.isAgg201
  z37 := Tryz.sizeOf201
  v37 := Tryz.zeroValue201
  t70 := Tryz.underlying212
  a70 := Tryz.isAgg212
  z70 := Tryz.sizeOf212
  v70 := Tryz.zeroValue212
  t72 := Tryz.underlying214
  a72 := Tryz.isAgg214
  z72 := Tryz.sizeOf214
  v72 := Tryz.zeroValue214 }
theorem Tryz.Builder_Extra_241 : Builder.Extra Tryz.prog Tryz.lays241_ren := {
  sizeBuilder := by kernel_rfl
  liesBuilder := by kernel_rfl
  t5 := Tryz.underlying5
  a5 := Tryz.isAgg5
  z5 := Tryz.sizeOf5
  v5 := Tryz.zeroValue5
  infoByte := by kernel_rfl
  cellsByte := by kernel_rfl
  sizeByte := by kernel_rfl
  neB5 := by decide }
open Go.RowKit in
/-- (*strings.Builder).grow (no doc but "grow copies the buffer to a new, larger buffer so that there are at least n bytes of capacity beyond len(b.buf)."): AT A BUILDER WITHOUT A BUFFER: a new row of whatever bytes for its buffer, none of them its own yet. Three draws. (LAID: no walk: one application.) -/
theorem Tryz.Builder_grow_fresh (B b n : Nat) (w : World) (hB : B ≤ b) (hbk : w.heap[b]? = some (.cells #[.pointer (some ⟨b, 0, none⟩), .slice none 0 0] 214 (0, 0))) (hBw : B ≤ w.heap.size) (hn : n ≤ 281474976710656) :
    Calls Tryz.prog 216 #[.pointer (some ⟨b, 0, none⟩), .int .i64 n] w fun e w' => e = .returned (.tuple #[]) ∧ (Lib.BuilderAt 214 5 B b (.pointer (some ⟨b, 0, none⟩)) [] w' ∧ Below B w w') := Any.Builder_grow_fresh Tryz.lays241 Tryz.Builder_Extra_241 B b n w hB hbk hBw hn
def Tryz.lays165_ren : Go.Shelf.Ren := ⟨fun | 165 => 209 | 240 => 195 | 241 => 216 | 276 => 200 | 277 => 221 | n => n, fun | 70 => 212 | 3 => 3 | 0 => 0 | 4 => 4 | 9 => 9 | 20 => 20 | 72 => 214 | 37 => 201 | 164 => 247 | 5 => 5 | n => n, fun | n => n⟩
theorem Tryz.lays165 : Go.Proofs.Lays.n165 Tryz.prog Tryz.lays165_ren := {
  mixed := by kernel_rfl
  f165 := Tryz.func209.trans (congrArg some (by kernel_rfl))
  f240 := Tryz.func195.trans (congrArg some (by kernel_rfl))
  f241 := Tryz.func216.trans (congrArg some (by kernel_rfl))
  f276 := Tryz.func200.trans (congrArg some (by kernel_rfl))
  f277 := Tryz.func221.trans (congrArg some (by kernel_rfl))
  t0 := Tryz.underlying0
  a0 := Tryz.isAgg0
  z0 := Tryz.sizeOf0
  v0 := Tryz.zeroValue0
  t3 := Tryz.underlying3
  a3 := Tryz.isAgg3
  z3 := Tryz.sizeOf3
  v3 := Tryz.zeroValue3
  t4 := Tryz.underlying4
  a4 := Tryz.isAgg4
  z4 := Tryz.sizeOf4
  v4 := Tryz.zeroValue4
  t9 := Tryz.underlying9
  a9 := Tryz.isAgg9
  z9 := Tryz.sizeOf9
  v9 := Tryz.zeroValue9
  t20 := Tryz.underlying20
  a20 := Tryz.isAgg20
  z20 := Tryz.sizeOf20
  v20 := Tryz.zeroValue20
  t37 := Tryz.underlying201
  a37 := Tryz.isAgg201
  z37 := Tryz.sizeOf201
  v37 := Tryz.zeroValue201
  t70 := Tryz.underlying212
  a70 := Tryz.isAgg212
  z70 := Tryz.sizeOf212
  v70 := Tryz.zeroValue212
  t72 := Tryz.underlying214
  a72 := Tryz.isAgg214
  z72 := Tryz.sizeOf214
  v72 := Tryz.zeroValue214
  t164 := Tryz.underlying247
  a164 := Tryz.isAgg247
  z164 := Tryz.sizeOf247
  v164 := Tryz.zeroValue247 }
theorem Tryz.Builder_Extra_165 : Builder.Extra Tryz.prog Tryz.lays165_ren := {
  sizeBuilder := by kernel_rfl
  liesBuilder := by kernel_rfl
  t5 := Tryz.underlying5
  a5 := Tryz.isAgg5
  z5 := Tryz.sizeOf5
  v5 := Tryz.zeroValue5
  infoByte := by kernel_rfl
  cellsByte := by kernel_rfl
  sizeByte := by kernel_rfl
  neB5 := by decide }
open Go.RowKit in
/-- (*strings.Builder).Grow AT A BUILDER THAT HAS NOT BEEN WRITTEN ('var b strings.Builder; b.Grow(n)'): "Grow grows b's capacity, if necessary, to guarantee space for another n bytes.": it holds no byte behind it as before it. (LAID: no walk: one application.) -/
theorem Tryz.Builder_Grow_fresh (B b n : Nat) (w : World) (hB : B ≤ b) (hbk : w.heap[b]? = some (.cells #[.pointer none, .slice none 0 0] 214 (0, 0))) (hBw : B ≤ w.heap.size) (hn : n ≤ 281474976710656) :
    Calls Tryz.prog 209 #[.pointer (some ⟨b, 0, none⟩), .int .i64 n] w fun e w' => e = .returned (.tuple #[]) ∧ (Lib.BuilderAt 214 5 B b (.pointer (some ⟨b, 0, none⟩)) [] w' ∧ Below B w w') := Any.Builder_Grow_fresh Tryz.lays165 Tryz.Builder_Extra_165 B b n w hB hbk hBw hn
open Go.RowKit in
/-- (*strings.Builder).Len: "Len returns the number of accumulated bytes; b.Len() == len(b.String()).": the world is as it was. (THE FORM '_f': 'Lib.IsBuilderF'.) (LAID: no walk: one application.) -/
theorem Tryz.Builder_Len_f (B b : Nat) (bs : List Value) (w : World) (h : Lib.IsBuilderF 214 5 B b bs w) :
    Calls Tryz.prog 210 #[.pointer (some ⟨b, 0, none⟩)] w fun e w' => e = .returned (.int .i64 bs.length) ∧ w' = w := Any.Builder_Len_f Tryz.lays170 B b bs w h
open Go.RowKit in
/-- (*strings.Builder).String: "String returns the accumulated string.": OF A BUILDER THAT HOLDS AT LEAST ONE BYTE. ✋ THE MODEL FREEZES THOSE BYTES IN THE BUFFER (unsafe.String): a later write INTO them ends the model's run without an answer; a later append BEHIND them goes on. The statement's order of evaluation is drawn: one draw. THE FORM '_f': IT SAYS BESIDES THAT THE BUILDER IS A BUILDER STILL ('Lib.IsBuilderF', the same bytes): SO IT CAN BE WRITTEN ON: 'b.WriteString(b.String()[:k])'. (LAID: no walk: one application.) -/
theorem Tryz.Builder_String_f (B b : Nat) (l : List UInt8) (w : World) (h : Lib.IsBuilderF 214 5 B b (Lib.byteCells l) w) (h0 : l ≠ []) :
    Calls Tryz.prog 184 #[.pointer (some ⟨b, 0, none⟩)] w fun e w' => e = .returned (.string ⟨l.toArray⟩) ∧ (Lib.IsBuilderF 214 5 B b (Lib.byteCells l) w' ∧ Below B w w') := Any.Builder_String_f Tryz.lays169 Tryz.Builder_Extra_169 B b l w h h0
open Go.RowKit in
/-- (*strings.Builder).String OF A BUILDER THAT HOLDS NO BYTE: the empty string; THE FORM '_f': a builder still. (LAID: no walk: one application.) -/
theorem Tryz.Builder_String_empty_f (B b : Nat) (w : World) (h : Lib.IsBuilderF 214 5 B b [] w) (hBw : B ≤ w.heap.size) :
    Calls Tryz.prog 184 #[.pointer (some ⟨b, 0, none⟩)] w fun e w' => e = .returned (.string ⟨#[]⟩) ∧ (Lib.IsBuilderF 214 5 B b [] w' ∧ Below B w w') := Any.Builder_String_empty_f Tryz.lays169 Tryz.Builder_Extra_169 B b w h hBw
open Go.RowKit in
/-- (*strings.Builder).String: "String returns the accumulated string.": WHATEVER THE BUILDER HOLDS; THE FORM '_f': OF A BUILDER THAT MAY HAVE BEEN READ BEFORE; AND IT IS A BUILDER STILL, holding the same bytes: it can be written on. (LAID: no walk: one application.) -/
theorem Tryz.Builder_String_any_f (B b : Nat) (l : List UInt8) (w : World) (h : Lib.IsBuilderF 214 5 B b (Lib.byteCells l) w) (hBw : B ≤ w.heap.size) :
    Calls Tryz.prog 184 #[.pointer (some ⟨b, 0, none⟩)] w fun e w' => e = .returned (.string ⟨l.toArray⟩) ∧ (Lib.IsBuilderF 214 5 B b (Lib.byteCells l) w' ∧ Below B w w') := Any.Builder_String_any_f Tryz.lays169 Tryz.Builder_Extra_169 B b l w h hBw
open Go.RowKit in
/-- (*strings.Builder).String: "String returns the accumulated string.": OF A BUILDER THAT HOLDS AT LEAST ONE BYTE. ✋ THE MODEL FREEZES THOSE BYTES IN THE BUFFER (unsafe.String): a later write INTO them ends the model's run without an answer; a later append BEHIND them goes on. The statement's order of evaluation is drawn: one draw. THE FORM '_k': OVER 'Lib.IsBuilderF' (a builder that 'String()' may have read), AND WITH THE FRAME THAT REACHES ABOVE THE BUILDER: 'Lib.OthersKept': every block that is not b and is no row of uint8's stands as it stood: the iterator of a range among them. (LAID: no walk: one application.) -/
theorem Tryz.Builder_String_k (B b : Nat) (l : List UInt8) (w : World) (h : Lib.IsBuilderF 214 5 B b (Lib.byteCells l) w) (h0 : l ≠ []) :
    Calls Tryz.prog 184 #[.pointer (some ⟨b, 0, none⟩)] w fun e w' => e = .returned (.string ⟨l.toArray⟩) ∧ (Lib.IsBuilderF 214 5 B b (Lib.byteCells l) w' ∧ Below B w w' ∧ Lib.OthersKept 5 (some b) w w') := Any.Builder_String_k Tryz.lays169 Tryz.Builder_Extra_169 B b l w h h0
open Go.RowKit in
/-- (*strings.Builder).String OF A BUILDER THAT HOLDS NO BYTE: the empty string; THE FORM '_k': OVER 'Lib.IsBuilderF' (a builder that 'String()' may have read), AND WITH THE FRAME THAT REACHES ABOVE THE BUILDER: 'Lib.OthersKept': every block that is not b and is no row of uint8's stands as it stood: the iterator of a range among them. (LAID: no walk: one application.) -/
theorem Tryz.Builder_String_empty_k (B b : Nat) (w : World) (h : Lib.IsBuilderF 214 5 B b [] w) (hBw : B ≤ w.heap.size) :
    Calls Tryz.prog 184 #[.pointer (some ⟨b, 0, none⟩)] w fun e w' => e = .returned (.string ⟨#[]⟩) ∧ (Lib.IsBuilderF 214 5 B b [] w' ∧ Below B w w' ∧ Lib.OthersKept 5 (some b) w w') := Any.Builder_String_empty_k Tryz.lays169 Tryz.Builder_Extra_169 B b w h hBw
open Go.RowKit in
/-- (*strings.Builder).String: "String returns the accumulated string.": WHATEVER THE BUILDER HOLDS; THE FORM '_k': OVER 'Lib.IsBuilderF' (a builder that 'String()' may have read), AND WITH THE FRAME THAT REACHES ABOVE THE BUILDER: 'Lib.OthersKept': every block that is not b and is no row of uint8's stands as it stood: the iterator of a range among them. (LAID: no walk: one application.) -/
theorem Tryz.Builder_String_any_k (B b : Nat) (l : List UInt8) (w : World) (h : Lib.IsBuilderF 214 5 B b (Lib.byteCells l) w) (hBw : B ≤ w.heap.size) :
    Calls Tryz.prog 184 #[.pointer (some ⟨b, 0, none⟩)] w fun e w' => e = .returned (.string ⟨l.toArray⟩) ∧ (Lib.IsBuilderF 214 5 B b (Lib.byteCells l) w' ∧ Below B w w' ∧ Lib.OthersKept 5 (some b) w w') := Any.Builder_String_any_k Tryz.lays169 Tryz.Builder_Extra_169 B b l w h hBw
open Go.RowKit in
/-- (*strings.Builder).grow (no doc but "grow copies the buffer to a new, larger buffer so that there are at least n bytes of capacity beyond len(b.buf)."): AT A BUILDER WITHOUT A BUFFER: a new row of whatever bytes for its buffer, none of them its own yet. Three draws. (LAID: no walk: one application.) -/
theorem Tryz.Builder_grow_fresh_cap (B b n : Nat) (w : World) (hB : B ≤ b) (hbk : w.heap[b]? = some (.cells #[.pointer (some ⟨b, 0, none⟩), .slice none 0 0] 214 (0, 0))) (hBw : B ≤ w.heap.size) (hn : n ≤ 281474976710656) :
    Calls Tryz.prog 216 #[.pointer (some ⟨b, 0, none⟩), .int .i64 n] w fun e w' => e = .returned (.tuple #[]) ∧ (Lib.BuilderAt 214 5 B b (.pointer (some ⟨b, 0, none⟩)) [] w' ∧ Below B w w') ∧ ∃ p cap, w'.cell? ⟨b, 1, none⟩ = some (.slice p 0 cap) ∧ n ≤ cap := Any.Builder_grow_fresh_cap Tryz.lays241 Tryz.Builder_Extra_241 B b n w hB hbk hBw hn
open Go.RowKit in
/-- (*strings.Builder).Grow AT A BUILDER THAT HAS NOT BEEN WRITTEN ('var b strings.Builder; b.Grow(n)'): "Grow grows b's capacity, if necessary, to guarantee space for another n bytes.": it holds no byte behind it as before it. (LAID: no walk: one application.) -/
theorem Tryz.Builder_Grow_fresh_cap (B b n : Nat) (w : World) (hB : B ≤ b) (hbk : w.heap[b]? = some (.cells #[.pointer none, .slice none 0 0] 214 (0, 0))) (hBw : B ≤ w.heap.size) (hn : n ≤ 281474976710656) :
    Calls Tryz.prog 209 #[.pointer (some ⟨b, 0, none⟩), .int .i64 n] w fun e w' => e = .returned (.tuple #[]) ∧ (Lib.BuilderAt 214 5 B b (.pointer (some ⟨b, 0, none⟩)) [] w' ∧ Below B w w') ∧ ∃ p cap, w'.cell? ⟨b, 1, none⟩ = some (.slice p 0 cap) ∧ n ≤ cap := Any.Builder_Grow_fresh_cap Tryz.lays165 Tryz.Builder_Extra_165 B b n w hB hbk hBw hn
def Tryz.lays206_ren : Go.Shelf.Ren := ⟨fun | 206 => 215 | n => n, fun | 9 => 9 | 4 => 4 | 3 => 3 | n => n, fun | n => n⟩
theorem Tryz.lays206 : Go.Proofs.Lays.n206 Tryz.prog Tryz.lays206_ren := {
  mixed := by kernel_rfl
  f206 := Tryz.func215.trans (congrArg some (by kernel_rfl))
  t3 := Tryz.underlying3
  a3 := Tryz.isAgg3
  z3 := Tryz.sizeOf3
  v3 := Tryz.zeroValue3
  t4 := Tryz.underlying4
  a4 := Tryz.isAgg4
  z4 := Tryz.sizeOf4
  v4 := Tryz.zeroValue4
  t9 := Tryz.underlying9
  a9 := Tryz.isAgg9
  z9 := Tryz.sizeOf9
  v9 := Tryz.zeroValue9 }
open Go.RowKit Go.Lib in
/-- internal/stringslite.HasPrefix (what strings.HasPrefix calls). (LAID: no walk: one application.) -/
theorem Tryz.stringslite_HasPrefix (s p : ByteArray) (w : World) :
    Calls Tryz.prog 215 #[.string s, .string p] w fun e w' => e = .returned (.bool (Lib.hasPrefix s.data.toList p.data.toList)) ∧ w' = w := Any.stringslite_HasPrefix Tryz.lays206 s p w
def Tryz.lays99_ren : Go.Shelf.Ren := ⟨fun | 99 => 208 | 206 => 215 | n => n, fun | 9 => 9 | 4 => 4 | 3 => 3 | n => n, fun | n => n⟩
theorem Tryz.lays99 : Go.Proofs.Lays.n99 Tryz.prog Tryz.lays99_ren := {
  mixed := by kernel_rfl
  f99 := Tryz.func208.trans (congrArg some (by kernel_rfl))
  f206 := Tryz.func215.trans (congrArg some (by kernel_rfl))
  t3 := Tryz.underlying3
  a3 := Tryz.isAgg3
  z3 := Tryz.sizeOf3
  v3 := Tryz.zeroValue3
  t4 := Tryz.underlying4
  a4 := Tryz.isAgg4
  z4 := Tryz.sizeOf4
  v4 := Tryz.zeroValue4
  t9 := Tryz.underlying9
  a9 := Tryz.isAgg9
  z9 := Tryz.sizeOf9
  v9 := Tryz.zeroValue9 }
open Go.RowKit Go.Lib in
/-- strings.HasPrefix: "HasPrefix reports whether the string s begins with prefix.": IT RETURNS 'Lib.hasPrefix s prefix'; the world is as it was. (LAID: no walk: one application.) -/
theorem Tryz.strings_HasPrefix (s p : ByteArray) (w : World) :
    Calls Tryz.prog 208 #[.string s, .string p] w fun e w' => e = .returned (.bool (Lib.hasPrefix s.data.toList p.data.toList)) ∧ w' = w := Any.strings_HasPrefix Tryz.lays99 s p w
def Tryz.lays264_ren : Go.Shelf.Ren := ⟨fun | 264 => 181 | n => n, fun | 53 => 22 | 46 => 94 | n => n, fun | n => n⟩
theorem Tryz.lays264 : Go.Proofs.Lays.n264 Tryz.prog Tryz.lays264_ren := {
  mixed := by kernel_rfl
  f264 := Tryz.func181.trans (congrArg some (by kernel_rfl))
  t46 := Tryz.underlying94
  a46 := Tryz.isAgg94
  z46 := Tryz.sizeOf94
  v46 := Tryz.zeroValue94
  t53 := Tryz.underlying22
  a53 := Tryz.isAgg22
  z53 := Tryz.sizeOf22
  v53 := Tryz.zeroValue22 }
open Go.RowKit Go.Lib in
theorem Tryz.bits_Mul64 (x y : Nat) (hx : x < 18446744073709551616) (hy : y < 18446744073709551616) (w : World) :
    Calls Tryz.prog 181 #[.int .u64 x, .int .u64 y] w fun e w' => e = .returned (.tuple #[.int .u64 ((x * y / 18446744073709551616 : Nat) : Int), .int .u64 ((x * y % 18446744073709551616 : Nat) : Int)]) ∧ w' = w := Any.bits_Mul64 Tryz.lays264 x y hx hy w
def Tryz.lays212_ren : Go.Shelf.Ren := ⟨fun | 212 => 180 | 263 => 193 | 264 => 181 | n => n, fun | 46 => 94 | 51 => 223 | 146 => 224 | 53 => 22 | 148 => 209 | n => n, fun | n => n⟩
theorem Tryz.lays212 : Go.Proofs.Lays.n212 Tryz.prog Tryz.lays212_ren := {
  mixed := by kernel_rfl
  f212 := Tryz.func180.trans (congrArg some (by kernel_rfl))
  f263 := Tryz.func193.trans (congrArg some (by kernel_rfl))
  f264 := Tryz.func181.trans (congrArg some (by kernel_rfl))
  t46 := Tryz.underlying94
  a46 := Tryz.isAgg94
  z46 := Tryz.sizeOf94
  v46 := Tryz.zeroValue94
  t51 := Tryz.underlying223
  a51 := Tryz.isAgg223
  z51 := Tryz.sizeOf223
  v51 := Tryz.zeroValue223
  t53 := Tryz.underlying22
  a53 := Tryz.isAgg22
  z53 := Tryz.sizeOf22
  v53 := Tryz.zeroValue22
  t146 := Tryz.underlying224
  a146 := Tryz.isAgg224
  z146 := Tryz.sizeOf224
  v146 := Tryz.zeroValue224
  t148 := Tryz.underlying209
  a148 := Tryz.isAgg209
  z148 := Tryz.sizeOf209
  v148 := Tryz.zeroValue209 }
open Go.RowKit Go.Lib in
/-- math/bits.Mul: "Mul returns the full-width product of x and y": on a machine of 64 bits: Mul64's. (LAID: no walk: one application.) -/
theorem Tryz.bits_Mul (x y : Nat) (hx : x < 18446744073709551616) (hy : y < 18446744073709551616) (w : World) :
    Calls Tryz.prog 180 #[.int .u64 x, .int .u64 y] w fun e w' => e = .returned (.tuple #[.int .u64 ((x * y / 18446744073709551616 : Nat) : Int), .int .u64 ((x * y % 18446744073709551616 : Nat) : Int)]) ∧ w' = w := Any.bits_Mul Tryz.lays212 x y hx hy w
def Tryz.lays105_ren : Go.Shelf.Ren := ⟨fun | 105 => 203 | 212 => 180 | 99 => 208 | 165 => 209 | 166 => 185 | 170 => 210 | 169 => 184 | 263 => 193 | 264 => 181 | 206 => 215 | 240 => 195 | 241 => 216 | 276 => 200 | 277 => 221 | n => n, fun | 9 => 9 | 3 => 3 | 4 => 4 | 20 => 20 | 0 => 0 | 46 => 94 | 109 => 207 | 5 => 5 | 72 => 214 | 76 => 219 | 51 => 223 | 146 => 224 | 53 => 22 | 148 => 209 | 70 => 212 | 37 => 201 | 75 => 216 | 127 => 227 | 164 => 247 | 80 => 218 | n => n, fun | n => n⟩
theorem Tryz.lays105 : Go.Proofs.Lays.n105 Tryz.prog Tryz.lays105_ren := {
  mixed := by kernel_rfl
  f99 := Tryz.func208.trans (congrArg some (by kernel_rfl))
  f105 := Tryz.func203.trans (congrArg some (by kernel_rfl))
  f165 := Tryz.func209.trans (congrArg some (by kernel_rfl))
  f166 := Tryz.func185.trans (congrArg some (by kernel_rfl))
  f169 := Tryz.func184.trans (congrArg some (by kernel_rfl))
  f170 := Tryz.func210.trans (congrArg some (by kernel_rfl))
  f206 := Tryz.func215.trans (congrArg some (by kernel_rfl))
  f212 := Tryz.func180.trans (congrArg some (by kernel_rfl))
  f240 := Tryz.func195.trans (congrArg some (by kernel_rfl))
  f241 := Tryz.func216.trans (congrArg some (by kernel_rfl))
  f263 := Tryz.func193.trans (congrArg some (by kernel_rfl))
  f264 := Tryz.func181.trans (congrArg some (by kernel_rfl))
  f276 := Tryz.func200.trans (congrArg some (by kernel_rfl))
  f277 := Tryz.func221.trans (congrArg some (by kernel_rfl))
  t0 := Tryz.underlying0
  a0 := Tryz.isAgg0
  z0 := Tryz.sizeOf0
  v0 := Tryz.zeroValue0
  t3 := Tryz.underlying3
  a3 := Tryz.isAgg3
  z3 := Tryz.sizeOf3
  v3 := Tryz.zeroValue3
  t4 := Tryz.underlying4
  a4 := Tryz.isAgg4
  z4 := Tryz.sizeOf4
  v4 := Tryz.zeroValue4
  t5 := Tryz.underlying5
  a5 := Tryz.isAgg5
  z5 := Tryz.sizeOf5
  v5 := Tryz.zeroValue5
  t9 := Tryz.underlying9
  a9 := Tryz.isAgg9
  z9 := Tryz.sizeOf9
  v9 := Tryz.zeroValue9
  t20 := Tryz.underlying20
  a20 := Tryz.isAgg20
  z20 := Tryz.sizeOf20
  v20 := Tryz.zeroValue20
  t37 := Tryz.underlying201
  a37 := Tryz.isAgg201
  z37 := Tryz.sizeOf201
  v37 := Tryz.zeroValue201
  t46 := Tryz.underlying94
  a46 := Tryz.isAgg94
  z46 := Tryz.sizeOf94
  v46 := Tryz.zeroValue94
  t51 := Tryz.underlying223
  a51 := Tryz.isAgg223
  z51 := Tryz.sizeOf223
  v51 := Tryz.zeroValue223
  t53 := Tryz.underlying22
  a53 := Tryz.isAgg22
  z53 := Tryz.sizeOf22
  v53 := Tryz.zeroValue22
  t70 := Tryz.underlying212
  a70 := Tryz.isAgg212
  z70 := Tryz.sizeOf212
  v70 := Tryz.zeroValue212
  t72 := Tryz.underlying214
  a72 := Tryz.isAgg214
  z72 := Tryz.sizeOf214
  v72 := Tryz.zeroValue214
  t75 := Tryz.underlying216
  a75 := Tryz.isAgg216
  z75 := Tryz.sizeOf216
  v75 := Tryz.zeroValue216
  t76 := Tryz.underlying219
  a76 := Tryz.isAgg219
  z76 := Tryz.sizeOf219
  v76 := Tryz.zeroValue219
  t109 := Tryz.underlying207
  a109 := Tryz.isAgg207
  z109 := Tryz.sizeOf207
  v109 := Tryz.zeroValue207
  t127 := Tryz.underlying227
  a127 := Tryz.isAgg227
  z127 := Tryz.sizeOf227
  v127 := Tryz.zeroValue227
  t146 := Tryz.underlying224
  a146 := Tryz.isAgg224
  z146 := Tryz.sizeOf224
  v146 := Tryz.zeroValue224
  t148 := Tryz.underlying209
  a148 := Tryz.isAgg209
  z148 := Tryz.sizeOf209
  v148 := Tryz.zeroValue209
  t164 := Tryz.underlying247
  a164 := Tryz.isAgg247
  z164 := Tryz.sizeOf247
  v164 := Tryz.zeroValue247 }
theorem Tryz.Builder_Extra_105 : Builder.Extra Tryz.prog Tryz.lays105_ren := {
  sizeBuilder := by kernel_rfl
  liesBuilder := by kernel_rfl
  t5 := Tryz.underlying5
  a5 := Tryz.isAgg5
  z5 := Tryz.sizeOf5
  v5 := Tryz.zeroValue5
  infoByte := by kernel_rfl
  cellsByte := by kernel_rfl
  sizeByte := by kernel_rfl
  neB5 := by decide }
open Go.RowKit Go.Lib in
/-- THE MAIN CASE: at least two copies of a string that is not empty. (LAID: no walk: one application.) -/
theorem Tryz.strings_Repeat_main (s : ByteArray) (c : Nat) (w : World) (hc2 : 2 ≤ c) (hc : c ≤ 9223372036854775807) (hlen : s.size * c ≤ 140737488355328) (h0 : 0 < s.size) :
    Calls Tryz.prog 203 #[.string s, .int .i64 c] w fun e w' => e = .returned (.string ⟨(Lib.repeatL s.data.toList c).toArray⟩) ∧ Below w.heap.size w w' := Any.strings_Repeat_main Tryz.lays105 Tryz.Builder_Extra_105 s c w hc2 hc hlen h0
open Go.RowKit Go.Lib in
theorem Tryz.strings_Repeat_zero (s : ByteArray) (w : World) :
    Calls Tryz.prog 203 #[.string s, .int .i64 0] w fun e w' => e = .returned (.string ⟨#[]⟩) ∧ w' = w := Any.strings_Repeat_zero Tryz.lays105 s w
open Go.RowKit Go.Lib in
theorem Tryz.strings_Repeat_one (s : ByteArray) (w : World) :
    Calls Tryz.prog 203 #[.string s, .int .i64 1] w fun e w' => e = .returned (.string s) ∧ w' = w := Any.strings_Repeat_one Tryz.lays105 s w
open Go.RowKit Go.Lib in
/-- Copies of the empty string. (LAID: no walk: one application.) -/
theorem Tryz.strings_Repeat_empty (s : ByteArray) (c : Nat) (w : World) (hc2 : 2 ≤ c) (hc : c ≤ 9223372036854775807) (h0 : s.size = 0) :
    Calls Tryz.prog 203 #[.string s, .int .i64 c] w fun e w' => e = .returned (.string ⟨#[]⟩) ∧ w' = w := Any.strings_Repeat_empty Tryz.lays105 s c w hc2 hc h0
open Go.RowKit Go.Lib in
/-- count < 0: "It panics if count is negative". (LAID: no walk: one application.) -/
theorem Tryz.strings_Repeat_negative (s : ByteArray) (c : Int) (w : World) (hc : c < 0) :
    Calls Tryz.prog 203 #[.string s, .int .i64 c] w fun e w' => e = .panicked [{ v := repeatPanic Tryz.lays105_ren "strings: negative Repeat count", recovered := false }] ∧ w' = w := Any.strings_Repeat_negative Tryz.lays105 s c w hc
open Go.RowKit Go.Lib in
/-- len(s) * count is no int: ".. or if the result of (len(s) * count) overflows". (LAID: no walk: one application.) -/
theorem Tryz.strings_Repeat_overflow (s : ByteArray) (c : Nat) (w : World) (hc : c ≤ 9223372036854775807) (hs : s.size ≤ 9223372036854775807) (hbig : 9223372036854775807 < s.size * c) :
    Calls Tryz.prog 203 #[.string s, .int .i64 c] w fun e w' => e = .panicked [{ v := repeatPanic Tryz.lays105_ren "strings: Repeat output length overflow", recovered := false }] ∧ w' = w := Any.strings_Repeat_overflow Tryz.lays105 s c w hc hs hbig
open Go.RowKit Go.Lib in
/-- **strings.Repeat: count ≥ 0, the result within one allocation: count copies of s.** (LAID: no walk: one application.) -/
theorem Tryz.strings_Repeat (s : ByteArray) (c : Nat) (w : World) (hc : c ≤ 9223372036854775807) (hlen : s.size * c ≤ 140737488355328) :
    Calls Tryz.prog 203 #[.string s, .int .i64 c] w fun e w' => e = .returned (.string ⟨(Lib.repeatL s.data.toList c).toArray⟩) ∧ Below w.heap.size w w' := Any.strings_Repeat Tryz.lays105 Tryz.Builder_Extra_105 s c w hc hlen
end Go.Proofs

/- The shelf's contracts of strings.Builder's writers, laid at this translation by hand: the one command passes them over here. -/
namespace Go.Proofs
open Go.Shelf
def Tryz.bl_ren : Go.Shelf.Ren := ⟨fun | 240 => 195 | 276 => 200 | 166 => 185 | n => n, fun | 0 => 0 | 3 => 3 | 4 => 4 | 5 => 5 | 9 => 9 | 20 => 20 | 37 => 201 | 70 => 212 | 72 => 214 | 75 => 216 | 80 => 218 | 164 => 247 | n => n, fun | n => n⟩
theorem Tryz.bl240 : Lays.n240 Tryz.prog Tryz.bl_ren := {
  mixed := by kernel_rfl
  f240 := Tryz.func195.trans (congrArg some (by kernel_rfl))
  f276 := Tryz.func200.trans (congrArg some (by kernel_rfl))
  t0 := Tryz.underlying0
  a0 := Tryz.isAgg0
  z0 := Tryz.sizeOf0
  v0 := Tryz.zeroValue0
  t4 := Tryz.underlying4
  a4 := Tryz.isAgg4
  z4 := Tryz.sizeOf4
  v4 := Tryz.zeroValue4
  t9 := Tryz.underlying9
  a9 := Tryz.isAgg9
  z9 := Tryz.sizeOf9
  v9 := Tryz.zeroValue9
  t20 := Tryz.underlying20
  a20 := Tryz.isAgg20
  z20 := Tryz.sizeOf20
  v20 := Tryz.zeroValue20
  t70 := Tryz.underlying212
  a70 := Tryz.isAgg212
  z70 := Tryz.sizeOf212
  v70 := Tryz.zeroValue212
  t72 := Tryz.underlying214
  a72 := Tryz.isAgg214
  z72 := Tryz.sizeOf214
  v72 := Tryz.zeroValue214
  t164 := Tryz.underlying247
  a164 := Tryz.isAgg247
  z164 := Tryz.sizeOf247
  v164 := Tryz.zeroValue247 }
theorem Tryz.bl166 : Lays.n166 Tryz.prog Tryz.bl_ren := {
  mixed := by kernel_rfl
  f166 := Tryz.func185.trans (congrArg some (by kernel_rfl))
  f240 := Tryz.func195.trans (congrArg some (by kernel_rfl))
  f276 := Tryz.func200.trans (congrArg some (by kernel_rfl))
  t0 := Tryz.underlying0
  a0 := Tryz.isAgg0
  z0 := Tryz.sizeOf0
  v0 := Tryz.zeroValue0
  t3 := Tryz.underlying3
  a3 := Tryz.isAgg3
  z3 := Tryz.sizeOf3
  v3 := Tryz.zeroValue3
  t4 := Tryz.underlying4
  a4 := Tryz.isAgg4
  z4 := Tryz.sizeOf4
  v4 := Tryz.zeroValue4
  t9 := Tryz.underlying9
  a9 := Tryz.isAgg9
  z9 := Tryz.sizeOf9
  v9 := Tryz.zeroValue9
  t20 := Tryz.underlying20
  a20 := Tryz.isAgg20
  z20 := Tryz.sizeOf20
  v20 := Tryz.zeroValue20
  t37 := Tryz.underlying201
  a37 := Tryz.isAgg201
  z37 := Tryz.sizeOf201
  v37 := Tryz.zeroValue201
  t70 := Tryz.underlying212
  a70 := Tryz.isAgg212
  z70 := Tryz.sizeOf212
  v70 := Tryz.zeroValue212
  t72 := Tryz.underlying214
  a72 := Tryz.isAgg214
  z72 := Tryz.sizeOf214
  v72 := Tryz.zeroValue214
  t75 := Tryz.underlying216
  a75 := Tryz.isAgg216
  z75 := Tryz.sizeOf216
  v75 := Tryz.zeroValue216
  t164 := Tryz.underlying247
  a164 := Tryz.isAgg247
  z164 := Tryz.sizeOf247
  v164 := Tryz.zeroValue247 }
theorem Tryz.bl_X72 : Builder.X72 Tryz.prog Tryz.bl_ren := {
  sizeBuilder := by kernel_rfl
  liesBuilder := by kernel_rfl }
theorem Tryz.bl_Extra : Builder.Extra Tryz.prog Tryz.bl_ren := {
  sizeBuilder := by kernel_rfl
  liesBuilder := by kernel_rfl
  t5 := Tryz.underlying5
  a5 := Tryz.isAgg5
  z5 := Tryz.sizeOf5
  v5 := Tryz.zeroValue5
  infoByte := by kernel_rfl
  cellsByte := by kernel_rfl
  sizeByte := by kernel_rfl
  neB5 := by decide }
open Go.RowKit in
theorem Tryz.bl_WriteString (B b : Nat) (bs : List Value) (s : ByteArray) (w : World) (h : Lib.IsBuilderF 214 5 B b bs w) (hlen : bs.length + s.size ≤ 140737488355328) (hBw : B ≤ w.heap.size) :
    Calls Tryz.prog 185 #[.pointer (some ⟨b, 0, none⟩), .string s] w fun e w' => e = .returned (.tuple #[.int .i64 s.size, .nilIface]) ∧ (Lib.BuilderAtF 214 5 B b (.pointer (some ⟨b, 0, none⟩)) (bs ++ Lib.strCells s) w' ∧ Below B w w') := Any.Builder_WriteString_f Tryz.bl166 Tryz.bl_Extra B b bs s w h hlen hBw
def Tryz.bl25_ren : Go.Shelf.Ren := ⟨fun | 25 => 213 | n => n, fun | 22 => 22 | n => n, fun | n => n⟩
theorem Tryz.bl25 : Lays7.n25 Tryz.prog Tryz.bl25_ren := {
  mixed := by kernel_rfl
  f25 := Tryz.func213.trans (congrArg some (by kernel_rfl))
  t22 := Tryz.underlying22
  a22 := Tryz.isAgg22
  z22 := Tryz.sizeOf22
  v22 := Tryz.zeroValue22
  i22 := by kernel_rfl }
theorem Tryz.bl_Add64 (x y : Nat) (w : World) : (callFunc 213 #[.int .u64 x, .int .u64 y, .int .u64 0]).run Tryz.prog w =
    .ok (.value (.tuple #[.int .u64 (((x + y) % 18446744073709551616 : Nat) : Int), .int .u64 (((x + y) / 18446744073709551616 : Nat) : Int)])) w := Any7.bits_Add64 Tryz.bl25 x y 0 (by omega) w
end Go.Proofs

namespace Go.Proofs.YtbpenkaficiodaaGreat
open Go.RowKit

theorem mul_named (x y : Nat) (hx : x < 18446744073709551616) (hy : y < 18446744073709551616) (w : World) :
    Calls Tryz.prog 181 #[.int .u64 (x : Int), .int .u64 (y : Int)] w fun e w' => ∃ h l : Nat, e = .returned (.tuple #[.int .u64 (h : Int), .int .u64 (l : Int)]) ∧
      Hid (h = x * y / 18446744073709551616 ∧ l = x * y % 18446744073709551616) ∧ w = w' :=
  (Tryz.bits_Mul64 x y hx hy w).mono fun _ _ ⟨he, hw⟩ => ⟨_, _, he, ⟨rfl, rfl⟩, hw.symm⟩

set_option maxRecDepth 100000 in
set_option maxHeartbeats 1000000 in
theorem behind_core (p : Nat) (R : Nat) (hR : Hid (behindL p 36 0 = R)) (w : World) (hp : p < 65536) :
    Calls Tryz.prog 206 #[.int .u64 (p : Int)] w fun e w' => e = .returned (v32 (BitVec.ofNat 32 R)) ∧ w = w' := by
  go_enter Tryz.func206, Tryz.ntmps206
  go_wp2
  go_loop [3, 4] (fun x y => ∃ j r : Nat, j ≤ 36 ∧ r < 68719476736 ∧ behindL p j r = R ∧ x = .int .u64 (r : Int) ∧ y = .int .u64 ((2 ^ j / 2 : Nat) : Int)) (fun _ y => (intOf y).toNat)
  case atStart => exact ⟨36, 0, by omega, by omega, hR.out, rfl, rfl⟩
  case round =>
    obtain ⟨j, r, hj, hr, heq, rfl, rfl⟩ := hrel
    cases j with
    | zero =>
      have hv : (Value.int .u32 ((r : Int) % 4294967296)) = v32 (BitVec.ofNat 32 R) := by
        rw [← heq]; simp [behindL, v32, iw]
      have Hv := Lib.hid hv
      clear hv heq
      go_wp2
      go_ret
      exact ⟨congrArg _ Hv.out, rfl⟩
    | succ j =>
      obtain ⟨b, hb⟩ : ∃ b : Nat, b = 2 ^ (j + 1) / 2 := ⟨_, rfl⟩
      have hb1 : b = 2 ^ j := by rw [hb, Nat.pow_succ]; omega
      have hb0 : 0 < b := by rw [hb1]; exact Nat.two_pow_pos j
      have hb2 : b ≤ 34359738368 := by rw [hb1]; exact Nat.pow_le_pow_right (by omega) (by omega : j ≤ 35)
      obtain ⟨t, ht⟩ : ∃ t : Nat, t = r ||| b := ⟨_, rfl⟩
      have ht1 : t < 68719476736 := by
        rw [ht]; exact Nat.or_lt_two_pow (n := 36) hr (by omega)
      have ho : bits .or .u64 (r : Int) (b : Int) = (t : Int) := by rw [ht]; exact u64_or_nat r b (by omega) (by omega)
      rw [← hb]
      have Hb1 := Lib.hid hb1
      have Ht := Lib.hid ht
      have Heq := Lib.hid heq
      clear hb hb1 ht heq
      go_wp2_with fail
      refine (mul_named t t (by omega) (by omega) _).mono ?_
      rintro e w' ⟨h, l, rfl, Hh, rfl⟩
      go_wp2_with fail
      refine (mul_named l t (by have := Hh.out; omega) (by omega) _).mono ?_
      rintro e w' ⟨h1, l1, rfl, Hh1, rfl⟩
      go_wp2_with fail
      refine (mul_named h t (by have := Hh.out; have := Nat.mul_lt_mul'' ht1 ht1; omega) (by omega) _).mono ?_
      rintro e w' ⟨h2, l2, rfl, Hh2, rfl⟩
      obtain ⟨mid, hmid⟩ : ∃ m : Nat, m = (h1 + l2) % 18446744073709551616 := ⟨_, rfl⟩
      obtain ⟨over, hover⟩ : ∃ m : Nat, m = (h1 + l2) / 18446744073709551616 := ⟨_, rfl⟩
      have ha := Tryz.bl_Add64 h1 l2
      rw [← hmid, ← hover] at ha
      have hC : cubeB p t = (over == 0 && (decide (mid < p * 4294967296) || (mid == p * 4294967296 && l1 == 0))) := by
        exact cubeB_def p t h l h1 l1 l2 mid over Hh.out.1 Hh.out.2 Hh1.out.1 Hh1.out.2 Hh2.out.2 hmid hover
      have HC := Lib.hid hC
      clear hmid hover hC
      have hstep : behindL p j (if cubeB p t then t else r) = R := by
        rw [← Heq.out, Ht.out, Hb1.out, behindL_succ]
      have Hstep := Lib.hid hstep
      have hbj : ((b : Int) / 2) = ((2 ^ j / 2 : Nat) : Int) := by rw [Hb1.out]; omega
      have Hbj := Lib.hid hbj
      clear hstep hbj
      by_cases c1 : over = 0
      · have d1 : ((over : Int) == 0) = true := by simp <;> omega
        by_cases c2 : mid < p * 4294967296
        · have d2 : decide ((mid : Int) < (p : Int) * 4294967296) = true := by simp <;> omega
          go_wp2
          refine ⟨?_, by simp [intOf]; omega⟩
          have hc := cubeB_yes HC.out (by omega)
          exact ⟨j, t, by omega, by omega, (by have := Hstep.out; rwa [if_pos hc] at this), rfl, by rw [Hbj.out]⟩
        · have d2 : decide ((mid : Int) < (p : Int) * 4294967296) = false := by simp <;> omega
          by_cases c3 : mid = p * 4294967296
          · have d3 : ((mid : Int) == (p : Int) * 4294967296) = true := by simp <;> omega
            by_cases c4 : l1 = 0
            · have d4 : ((l1 : Int) == 0) = true := by simp <;> omega
              go_wp2
              refine ⟨?_, by simp [intOf]; omega⟩
              have hc := cubeB_yes HC.out (by omega)
              exact ⟨j, t, by omega, by omega, (by have := Hstep.out; rwa [if_pos hc] at this), rfl, by rw [Hbj.out]⟩
            · have d4 : ((l1 : Int) == 0) = false := by simp <;> omega
              go_wp2
              refine ⟨?_, by simp [intOf]; omega⟩
              have hc := cubeB_no HC.out (by omega)
              exact ⟨j, r, by omega, by omega, (by have := Hstep.out; rwa [if_neg hc] at this), rfl, by rw [Hbj.out]⟩
          · have d3 : ((mid : Int) == (p : Int) * 4294967296) = false := by simp <;> omega
            go_wp2
            refine ⟨?_, by simp [intOf]; omega⟩
            have hc := cubeB_no HC.out (by omega)
            exact ⟨j, r, by omega, by omega, (by have := Hstep.out; rwa [if_neg hc] at this), rfl, by rw [Hbj.out]⟩
      · have d1 : ((over : Int) == 0) = false := by simp <;> omega
        go_wp2
        refine ⟨?_, by simp [intOf]; omega⟩
        have hc := cubeB_no HC.out (by omega)
        exact ⟨j, r, by omega, by omega, (by have := Hstep.out; rwa [if_neg hc] at this), rfl, by rw [Hbj.out]⟩
theorem behind_any (p : Nat) (w : World) (hp : p < 65536) :
    Calls Tryz.prog 206 #[.int .u64 (p : Int)] w fun e w' => e = .returned (v32 (BitVec.ofNat 32 (behindL p 36 0))) ∧ w = w' :=
  behind_core p _ (Lib.hid rfl) w hp
end Go.Proofs.YtbpenkaficiodaaGreat
