/- Small laws on what a call makes for itself: appends of one cell, bytes as a string, worlds that only grow. -/
import Derived.WalkKit
import Derived.ProofKit
import Derived.Maps.AppendAt
import Derived.Lib.Repeat
import Derived.Deep.DeepMust
import Derived.Deep.DeepFit
import Derived.OwnWalk
import Derived.Lib.Hide
import Derived.IntWalk
import Derived.Laws.BytesArg
import Derived.Deep.QuietTactic
import Derived.BigQuiet
namespace Go.Proofs.Ytgbnkoeidejhfaa
open Go.RowKit

/-- A slice of one-cell elements that the call owns. -/
def Own (w : World) (B : Nat) (e : TypeId) (v : Value) (xs : List Value) : Prop := w.ownsRow B e 1 v xs.length xs

theorem Own.nil (w : World) (B : Nat) (e : TypeId) : Own w B e (.slice none 0 0) [] := World.ownsRow_nil w B e 1
theorem Own.alloc {w : World} {B : Nat} {e : TypeId} {v : Value} {xs : List Value} (h : Own w B e v xs) (o : Obj) : Own (w.alloc o) B e v xs := World.ownsRow.alloc h o
theorem Own.block {w : World} {B : Nat} {e : TypeId} {v : Value} {xs : List Value} (h : Own w B e v xs) (k : Nat) (hk : v.ownBlock = some k) : B ≤ k ∧ k < w.heap.size := World.ownsRow.lt h k hk
theorem grownBy_of_below {w w1 : World} (h : Below w.heap.size w w1) (row : Option Nat) : w.grownBy w1 row := ⟨h.os, h.tape, h.output, h.size, fun i hi _ => h.block i hi⟩
theorem Own.below {w w1 : World} {B : Nat} {e : TypeId} {v : Value} {xs : List Value} (h : Own w B e v xs) (hb : Below w.heap.size w w1) : Own w1 B e v xs :=
  World.ownsRow.kept h (grownBy_of_below hb none) (by cases v.ownBlock <;> simp)
theorem Own.drew {w : World} {B : Nat} {e : TypeId} {v : Value} {xs : List Value} (h : Own w B e v xs) : Own w.drew B e v xs := h

theorem below_cell {w w1 : World} (h : Below w.heap.size w w1) {a : Addr} {v : Value} (hc : w.cell? a = some v) : w1.cell? a = some v :=
  (h.cell (World.block_lt_of_cell? w a hc)).trans hc
theorem below_trans {w w1 w2 : World} (h : Below w.heap.size w w1) (k : Below w1.heap.size w1 w2) : Below w.heap.size w w2 := h.trans (k.mono h.size)

section
variable {P : Program} {ops : Array Oper} {rest : List Oper} {o : Oper} {a : Act} {Q : Exit → Act → World → Prop}
/-- append(v, y): behind 'at_builtin'; the world is that in which y's own block was laid. -/
theorem ap1 {w0 W : World} {e : TypeId} {v : Value} {xs : List Value} {y : Value} (HO : Own W w0.heap.size e v xs) (HB : Below w0.heap.size w0 W) {t : TypeId} {z : Value} {bytes : Nat}
    (ht : P.underlying t = some (.slice e)) (hinfo : (P.info? e).map (fun i => (i.zero, i.size, i.bytes)) = some (some z, 1, bytes)) (hz : z.cells.size = 1) (hb0 : 0 < bytes) (hl : (xs.length + 1) * bytes ≤ 140737488355328)
    (hgd : o.guard = none) (s x : Operand) (ho : o.op = .call { callee := .builtin .append, args := #[s, x], argTypes := #[t, t] })
    (hs : a.eval s = v) (hx : a.eval x = .slice (some ⟨W.heap.size, 0, none⟩) 1 1) (h1 : y.oneCell' = true)
    (h : ∀ v1 w1, Own w1 w0.heap.size e v1 (xs ++ [y]) → Below w0.heap.size w0 w1 → W.grownBy w1 v.ownBlock → wpList P ops Q rest (a.put o.dst v1) w1) :
    wpList P ops Q (o :: rest) a (W.alloc (.cells #[y] e)) := by
  obtain ⟨i, hi, hz3⟩ := Option.map_eq_some_iff.1 hinfo
  simp only [Prod.mk.injEq] at hz3
  obtain ⟨hz0, hz1, hz2⟩ := hz3
  have hlen : xs.length + 1 ≤ 140737488355328 := Nat.le_trans (Nat.le_mul_of_pos_right _ hb0) hl
  refine wpList_append_own_at (W.alloc (.cells #[y] e)) hgd s x t ho w0.heap.size e i z 1 bytes ht hi hz0 hz1 hz2 hz (by omega) v xs.length xs hs (World.ownsRow.alloc HO _) ⟨W.heap.size, 0, none⟩ 1 1 [y] hx rfl
    (cell_one_new W y e) (by simpa using h1) (by simp only [maxLen]; omega) hl (by have := HB.size; simp; omega) ?_
  intro v1 w1 hown hg _ _
  have hg' : W.grownBy w1 v.ownBlock := ⟨hg.os, hg.tape, hg.output, by have := hg.size; simp at this; omega, fun k hk hne => by
    rw [hg.block k (by simp; omega) hne]; exact Below.heap_alloc W _ k hk⟩
  refine h v1 w1 (by unfold Own; simpa using hown) (HB.grown hg' HB.size fun k hk => (HO.block k hk).1) hg'
end

/-- Bytes as values. -/
def vbytes (l : List UInt8) : List Value := l.map fun c => .int .u8 (c.toNat : Int)
theorem vbytes_append (l m : List UInt8) : vbytes (l ++ m) = vbytes l ++ vbytes m := by simp [vbytes]
theorem vbytes_length (l : List UInt8) : (vbytes l).length = l.length := by simp [vbytes]

/-- Bytes as a string. -/
def str (l : List UInt8) : ByteArray := ⟨l.toArray⟩
theorem str_size (l : List UInt8) : (str l).size = l.length := by simp [str, ByteArray.size]
theorem str_list (l : List UInt8) : (str l).data.toList = l := by simp [str]
theorem str_of (s : ByteArray) : str s.data.toList = s := by cases s; simp [str]

theorem Own.string {P : Program} {w : World} {B : Nat} {src dst e : TypeId} {v : Value} {l : List UInt8} (hs : P.underlying src = some (.slice e)) (he : P.underlying e = some (.int .u8)) (hd : P.underlying dst = some .string)
    (h : Own w B e v (vbytes l)) : (convert src dst v).run P w = .ok (.string (str l)) w := by
  have hl : (vbytes l).length = l.length := vbytes_length l
  rcases h.2 with ⟨hv, h0⟩ | ⟨g, cap, cur, hv, _, hg, _, _, _, ht⟩
  · obtain rfl : l = [] := List.eq_nil_of_length_eq_zero (by omega)
    rw [hv, run_convert_bytes_nil w src e hs he 0 0 dst hd]; rfl
  · rw [hv, hl]
    have hx := run_convert_bytes_arg (P := P) w src e hs he g 0 l.length cap (l.map fun c => (c.toNat : Int)) (by simp) (fun i hi => ?_) dst hd
    · rw [hx]
      congr 2
      simp only [strOfNums, str, List.map_map]
      congr 2
      conv => rhs; rw [← List.map_id l]
      apply List.map_congr_left
      intro c _
      simp
    · have hc := World.ownsRow.cells h (g := g) (by rw [hv]; rfl) i (.int .u8 ((l.map fun c => (c.toNat : Int)).getD i 0)) (by simp [vbytes, hi])
      have ha : (⟨g, 0, none⟩ : Addr).add i = ⟨g, 0 + i, none⟩ := by unfold Addr.add; split <;> simp_all
      rwa [ha] at hc

/-! ### A block that is known whole -/
/-- Block b: these cells, none of them frozen. -/
def Blk (w : World) (b : Nat) (T : TypeId) (cs : List Value) : Prop := w.heap[b]? = some (.cells cs.toArray T (0, 0))
theorem Blk.lt {w : World} {b : Nat} {T : TypeId} {cs : List Value} (h : Blk w b T cs) : b < w.heap.size := (Array.getElem?_eq_some_iff.1 h).1
theorem Blk.cell {w : World} {b : Nat} {T : TypeId} {cs : List Value} (h : Blk w b T cs) (o : Nat) : w.cell? ⟨b, o, none⟩ = cs[o]? := by
  unfold Blk at h
  simp [World.cell?, h]
theorem Blk.frozen {w : World} {b : Nat} {T : TypeId} {cs : List Value} (h : Blk w b T cs) (o : Nat) : w.frozen? ⟨b, o, none⟩ = false := by
  unfold Blk at h
  simp [World.frozen?, h]
theorem Blk.set {w : World} {b : Nat} {T : TypeId} {cs : List Value} (h : Blk w b T cs) (o : Nat) (v : Value) : Blk (w.setCell ⟨b, o, none⟩ v) b T (cs.set o v) := by
  unfold Blk at *
  simp [World.setCell, Array.getElem?_modify, h]
theorem Blk.drew {w : World} {b : Nat} {T : TypeId} {cs : List Value} (h : Blk w b T cs) : Blk w.drew b T cs := h
theorem Blk.drewN {w : World} {b : Nat} {T : TypeId} {cs : List Value} (h : Blk w b T cs) (n : Nat) : Blk (w.drewN n) b T cs := h
theorem Blk.alloc {w : World} {b : Nat} {T : TypeId} {cs : List Value} (h : Blk w b T cs) (o : Obj) : Blk (w.alloc o) b T cs := (Below.heap_alloc w o b h.lt).trans h
theorem Blk.new (w : World) (T : TypeId) (cs : List Value) : Blk (w.alloc (.cells cs.toArray T)) w.heap.size T cs := by
  exact heap_alloc_new w _
theorem Blk.of (w : World) (T : TypeId) (arr : Array Value) (cs : List Value) (h : arr.toList = cs) : Blk (w.alloc (.cells arr T)) w.heap.size T cs := by
  subst h
  exact Blk.new w T arr.toList
theorem Blk.other {w : World} {b : Nat} {T : TypeId} {cs : List Value} (h : Blk w b T cs) {a : Addr} (ha : b ≠ a.block) (v : Value) : Blk (w.setCell a v) b T cs := (Below.heap_setCell w a v b ha).trans h
theorem Blk.grown {w w1 : World} {b : Nat} {T : TypeId} {cs : List Value} (h : Blk w b T cs) {row : Option Nat} (hg : w.grownBy w1 row) (hne : some b ≠ row) : Blk w1 b T cs := (hg.block b h.lt hne).trans h
theorem Blk.below {w w1 : World} {b : Nat} {T : TypeId} {cs : List Value} (h : Blk w b T cs) {B : Nat} (hg : Below B w w1) (hne : b < B) : Blk w1 b T cs := (hg.block b hne).trans h
theorem grown_set (w : World) (b o : Nat) (v : Value) : w.grownBy (w.setCell ⟨b, o, none⟩ v) (some b) :=
  ⟨rfl, rfl, rfl, by simp [World.setCell], fun k _ hne => Below.heap_setCell w _ v k (fun h => hne (by rw [h]))⟩
theorem grown_set_drew (w : World) (b o : Nat) (v : Value) : w.grownBy (w.setCell ⟨b, o, none⟩ v).drew (some b) := let h := grown_set w b o v; ⟨h.os, h.tape, h.output, h.size, h.block⟩
theorem below_set {B : Nat} {w0 w : World} (h : Below B w0 w) {b : Nat} (hb : B ≤ b) (o : Nat) (v : Value) : Below B w0 (w.setCell ⟨b, o, none⟩ v) := h.setCell (p := ⟨b, o, none⟩) hb v
theorem below_set_drew {B : Nat} {w0 w : World} (h : Below B w0 w) {b : Nat} (hb : B ≤ b) (o : Nat) (v : Value) : Below B w0 (w.setCell ⟨b, o, none⟩ v).drew := (h.setCell (p := ⟨b, o, none⟩) hb v).drew
theorem below_drewN {B : Nat} {w0 w : World} (h : Below B w0 w) (n : Nat) : Below B w0 (w.drewN n) := ⟨h.os, h.tape, h.output, h.size, h.block⟩
theorem grown_of_below_lt {w w1 : World} (h : Below w.heap.size w w1) {row : Option Nat} : w.grownBy w1 row := grownBy_of_below h row
theorem grown_refl (w : World) (row : Option Nat) : w.grownBy w row := ⟨rfl, rfl, rfl, Nat.le_refl _, fun _ _ _ => rfl⟩
theorem grown_trans {a b c : World} {row : Option Nat} (h : a.grownBy b row) (k : b.grownBy c row) : a.grownBy c row :=
  ⟨k.os.trans h.os, k.tape.trans h.tape, k.output.trans h.output, Nat.le_trans h.size k.size, fun i hi hne => (k.block i (Nat.lt_of_lt_of_le hi h.size) hne).trans (h.block i hi hne)⟩
theorem grown_drewN (w : World) (n : Nat) (row : Option Nat) : w.grownBy (w.drewN n) row := ⟨rfl, rfl, rfl, Nat.le_refl _, fun _ _ _ => rfl⟩
theorem grown_alloc (w : World) (o : Obj) (row : Option Nat) : w.grownBy (w.alloc o) row := World.grownBy_alloc w o row
theorem below_of_grown {w0 w w1 : World} {b : Nat} (h : Below w0.heap.size w0 w) (hg : w.grownBy w1 (some b)) (hb : w0.heap.size ≤ b) : Below w0.heap.size w0 w1 :=
  h.grown hg h.size (fun k hk => by cases hk; exact hb)

theorem set_same {α : Type} {l : List α} {i : Nat} {x : α} (h : l[i]? = some x) : l.set i x = l := by
  apply List.ext_getElem?
  intro j
  rw [List.getElem?_set]
  split
  · subst_vars
    split
    · exact h.symm
    · rename_i hn; rw [List.getElem?_eq_none (by omega)]
  · rfl
/-! ### Strings -/
theorem run_index_str {P : Program} {T : TypeId} (hT : P.underlying T = some .string) (s : ByteArray) (i : Int) (n : Nat) (c : UInt8) (hi : i = (n : Int)) (hc : s.data.toList[n]? = some c) (w : World) :
    (Instr.index T (.string s) (.int .i64 i)).run P w = .ok (.int .u8 (c.toNat : Int)) w := by
  subst hi
  have h : s[n]? = some c := by
    rw [← hc]
    by_cases hn : n < s.size
    · rw [getElem?_pos s n hn, Array.getElem?_toList, getElem?_pos s.data n hn]; rfl
    · rw [getElem?_neg s n hn, Array.getElem?_toList, getElem?_neg s.data n hn]
  unfold Instr.index
  simp [asIntOf, run_underlying hT, h, Sem.run_bind, Sem.run_pure]
theorem str_get (l : List UInt8) (n : Nat) : (str l).data.toList[n]? = l[n]? := by simp [str]

theorem str_take (l : List UInt8) (n : Nat) : (str l).extract 0 n = str (l.take n) := by
  apply ByteArray.ext
  simp [str, ByteArray.data_extract]
theorem str_drop (l : List UInt8) (n : Nat) : (str l).extract n l.length = str (l.drop n) := by
  apply ByteArray.ext
  simp only [str, ByteArray.data_extract]
  apply Array.ext'
  simp [List.take_of_length_le]
theorem str_append (l m : List UInt8) : str l ++ str m = str (l ++ m) := by
  apply ByteArray.ext
  simp [str, ByteArray.data_append]
/-- A string value's length. -/
def slen : Value → Nat
  | .string s => s.size
  | _ => 0

theorem str_add (P : Program) (x y : List UInt8) (h : x.length + y.length ≤ 9223372036854775807) (W : World) : (Op.stringOp .add (str x) (str y)).run P W = .ok (.string (str (x ++ y))) W := by
  rw [run_string_add_sum W _ _ (by rw [str_size, str_size]; exact h), str_append]
theorem repeatL_one (c : UInt8) (n : Nat) : Lib.repeatL [c] n = List.replicate n c := by
  induction n with
  | zero => rfl
  | succ n ih => simp [Lib.repeatL, ih, List.replicate_succ]

end Go.Proofs.Ytgbnkoeidejhfaa
