/- Joined texts, part 1: contracts of the functions that the laws reach, and what is needed for them. -/
import Derived.WalkKit
import Derived.ProofKit
import Derived.Maps.AppendAt
import Derived.Lib.Repeat
import Derived.Deep.DeepMust
import Derived.Deep.DeepFit
import Derived.OwnWalk
import Derived.Lib.Hide
import Derived.IntWalk
import Derived.Laws.BytesArg
import Derived.Deep.QuietTactic
import Derived.BigQuiet
import Derived.Test.YtinlciofhegciaaDoorProg
import Derived.KernelRfl
import Derived.Shelf.Strings.Builder1
import Derived.Shelf.Strings.Builder2
import Derived.Shelf.Strings.Trim
import Derived.Shelf.Small.Utf8
import Derived.Shelf.Small.Strs
import Derived.Shelf.Strings.BuilderF
import Derived.Shelf.Strings.BuilderK
import Derived.Shelf.Strings.Builder2Cap
import Derived.Shelf.Strings.Search1
import Derived.Shelf.Strings.Prefix
import Derived.Shelf.Strings.Runes
import Derived.Shelf.Strings.AsciiSet
import Derived.Shelf.Bits.Mul64
import Derived.Shelf.Strings.Repeat
import Derived.Shelf.Unicode.DecodeSlow
import Derived.Shelf.Strings.BuilderCap
import Derived.Shelf.Lays
import Derived.Shelf.Spec.BitsCarry
import Derived.StillTailTactics
import Derived.Defers
import Derived.Laws.LoneSync
/- The document's sums in plain Lean: words of 32 bits, the rounds, the padding. -/
namespace Go.Proofs.YtinlciofhegciaaDoor
abbrev W32 := BitVec 32

/-- A word as a number: not to be looked into by the walk. -/
def iw (x : W32) : Int := (x.toNat : Int)
/-- A word as a value. -/
abbrev v32 (x : W32) : Value := .int .u32 (iw x)

theorem iw_bound (x : W32) : 0 ≤ iw x ∧ iw x < 4294967296 := by
  have := x.isLt
  unfold iw; omega
theorem w32_wrap (n : Nat) : IntKind.u32.wrap (n : Int) = iw (BitVec.ofNat 32 n) := by
  rw [IntKind.wrap_u32']; simp [iw]
theorem w32_add (x y : W32) : IntKind.u32.wrap (iw x + iw y) = iw (x + y) := by
  rw [IntKind.wrap_u32']; simp [iw, BitVec.toNat_add]
theorem w32_of (x : W32) : BitVec.ofInt 32 (x.toNat : Int) = x := by
  rw [BitVec.ofInt_natCast, BitVec.ofNat_toNat]; simp
theorem w32_iw (x : W32) : IntKind.u32.wrap (iw x) = iw x := by
  unfold iw; rw [w32_wrap, BitVec.ofNat_toNat]; simp [iw]
theorem w32_toNat_wrap (x : W32) : IntKind.u32.wrap (x.toNat : Int) = iw x := w32_iw x
theorem w32_and (x y : W32) : bits .and .u32 (iw x) (iw y) = iw (x &&& y) := by
  simp only [bits, IntKind.bits, iw, w32_of, w32_toNat_wrap]; rfl
theorem w32_or (x y : W32) : bits .or .u32 (iw x) (iw y) = iw (x ||| y) := by
  simp only [bits, IntKind.bits, iw, w32_of, w32_toNat_wrap]; rfl
theorem w32_xor (x y : W32) : bits .xor .u32 (iw x) (iw y) = iw (x ^^^ y) := by
  simp only [bits, IntKind.bits, iw, w32_of, w32_toNat_wrap]; rfl
theorem w32_shl (x : W32) (n : Nat) : iw x * 2 ^ n % (4294967296 : Int) = iw (x <<< n) := by
  simp [iw, Nat.shiftLeft_eq]
theorem w32_shr (x : W32) (n : Nat) : iw x / 2 ^ n = iw (x >>> n) := by
  simp [iw, Nat.shiftRight_eq_div_pow]
theorem w32_shl8 (x : W32) : IntKind.u32.wrap (iw x * 256) = iw (x <<< 8) := by
  rw [IntKind.wrap_u32']; exact w32_shl x 8
theorem w32_shr3 (x : W32) : iw x / (8 : Int) = iw (x >>> 3) := w32_shr x 3
theorem w32_shr10 (x : W32) : iw x / (1024 : Int) = iw (x >>> 10) := w32_shr x 10
theorem iw_add (a b : W32) : iw (a + b) = (iw a + iw b) % (4294967296 : Int) := by rw [← w32_add, IntKind.wrap_u32']
theorem w32_add4 (a b c d : W32) : (iw a + iw b + iw c + iw d) % (4294967296 : Int) = iw (a + b + c + d) := by
  rw [iw_add, iw_add, iw_add]; omega
theorem w32_add5 (a b c d e : W32) : (iw a + iw b + iw c + iw d + iw e) % (4294967296 : Int) = iw (a + b + c + d + e) := by
  rw [iw_add, iw_add, iw_add, iw_add]; omega
theorem wval (x16 x15 x7 x2 : W32) : (iw x16 + bits .xor .u32 (iw (x15.rotateRight 7 ^^^ x15.rotateRight 18)) (iw x15 / (8 : Int)) + iw x7 + bits .xor .u32 (iw (x2.rotateRight 17 ^^^ x2.rotateRight 19)) (iw x2 / (1024 : Int))) % (4294967296 : Int) =
    iw (x16 + (x15.rotateRight 7 ^^^ x15.rotateRight 18 ^^^ x15 >>> 3) + x7 + (x2.rotateRight 17 ^^^ x2.rotateRight 19 ^^^ x2 >>> 10)) := by
  rw [w32_shr3, w32_shr10, w32_xor, w32_xor, w32_add4]
theorem w32_shl16 (x : W32) : IntKind.u32.wrap (iw x * 65536) = iw (x <<< 16) := by
  rw [IntKind.wrap_u32']; exact w32_shl x 16
theorem w32_shl24 (x : W32) : IntKind.u32.wrap (iw x * 16777216) = iw (x <<< 24) := by
  rw [IntKind.wrap_u32']; exact w32_shl x 24
theorem w32_not (x : W32) : bits .xor .u32 (if IntKind.u32.signed = true then -1 else IntKind.u32.max) (iw x) = iw (~~~x) := by
  have h : (if IntKind.u32.signed = true then -1 else IntKind.u32.max) = iw (BitVec.allOnes 32) := by decide +kernel
  rw [h, w32_xor, BitVec.allOnes_xor]
theorem rot_eq (x : W32) (n : Nat) (h1 : 1 ≤ n) (h2 : n ≤ 31) : x <<< (32 - n) ||| x >>> n = x.rotateRight n := by
  rw [BitVec.rotateRight_def, Nat.mod_eq_of_lt (by omega), BitVec.or_comm]

/-- A number's bytes, the highest first. -/
def be : Nat → Nat → List UInt8
  | 0, _ => []
  | k + 1, n => UInt8.ofNat (n / 256 ^ k) :: be k n

theorem be_length (k n : Nat) : (be k n).length = k := by
  induction k with
  | zero => rfl
  | succ k ih => simp [be, ih]
theorem be_get (size n k : Nat) (h : k < size) : (be size n)[k]? = some (UInt8.ofNat (n / 256 ^ (size - 1 - k))) := by
  induction size generalizing k with
  | zero => omega
  | succ m ih =>
    cases k with
    | zero => simp [be]
    | succ k =>
      rw [be, List.getElem?_cons_succ, ih k (by omega)]
      congr 4; omega
theorem be_val (n m : Nat) : ((n : Int) / 2 ^ (8 * m) % 256) = ((UInt8.ofNat (n / 256 ^ m)).toNat : Int) := by
  have h : (2 : Nat) ^ (8 * m) = 256 ^ m := by rw [Nat.pow_mul]
  have : ((n : Int) / 2 ^ (8 * m) % 256) = ((n / 2 ^ (8 * m) % 256 : Nat) : Int) := by simp
  rw [this, h, UInt8.toNat_ofNat']
theorem be_take_succ (size n k : Nat) (h : k < size) : (be size n).take (k + 1) = (be size n).take k ++ [UInt8.ofNat (n / 256 ^ (size - 1 - k))] := by
  rw [List.take_add_one, be_get size n k h]; rfl

/-- Of digest.behind: is t's cube at most p times 2^96, as the program asks it? -/
def cubeB (p t : Nat) : Bool :=
  let h := t * t / 18446744073709551616
  let l := t * t % 18446744073709551616
  let h1 := l * t / 18446744073709551616
  let l1 := l * t % 18446744073709551616
  let l2 := h * t % 18446744073709551616
  let mid := (h1 + l2) % 18446744073709551616
  let over := (h1 + l2) / 18446744073709551616
  over == 0 && (decide (mid < p * 4294967296) || (mid == p * 4294967296 && l1 == 0))
/-- Its loop: j bits are left. -/
def behindL (p : Nat) : Nat → Nat → Nat
  | 0, r => r
  | j + 1, r => behindL p j (if cubeB p (r ||| 2 ^ j) then r ||| 2 ^ j else r)

theorem behindL_succ (p j r : Nat) : behindL p (j + 1) r = behindL p j (if cubeB p (r ||| 2 ^ j) then r ||| 2 ^ j else r) := rfl
theorem cubeB_def (p t h l h1 l1 h2 mid over : Nat) (eh : h = t * t / 18446744073709551616) (el : l = t * t % 18446744073709551616) (eh1 : h1 = l * t / 18446744073709551616)
    (el1 : l1 = l * t % 18446744073709551616) (eh2 : h2 = h * t % 18446744073709551616) (em : mid = (h1 + h2) % 18446744073709551616) (eo : over = (h1 + h2) / 18446744073709551616) :
    cubeB p t = (over == 0 && (decide (mid < p * 4294967296) || (mid == p * 4294967296 && l1 == 0))) := by
  unfold cubeB
  simp only [eo, em, eh2, eh1, el1, el, eh]
theorem cubeB_yes {p t mid over l1 : Nat} (h : cubeB p t = (over == 0 && (decide (mid < p * 4294967296) || (mid == p * 4294967296 && l1 == 0)))) (g : over = 0 ∧ (mid < p * 4294967296 ∨ (mid = p * 4294967296 ∧ l1 = 0))) : cubeB p t = true := by
  rw [h]; simpa using g
theorem cubeB_no {p t mid over l1 : Nat} (h : cubeB p t = (over == 0 && (decide (mid < p * 4294967296) || (mid == p * 4294967296 && l1 == 0)))) (g : ¬ (over = 0 ∧ (mid < p * 4294967296 ∨ (mid = p * 4294967296 ∧ l1 = 0)))) : ¬ cubeB p t = true := by
  rw [h]; simpa using g

/-! ### The primes, and K -/
def trial (p : Nat) : Nat → Nat → Bool → Bool
  | 0, _, b => b
  | f + 1, d, b => if d * d ≤ p then trial p f (d + 1) (b && p % d != 0) else b
def isPr (p : Nat) : Bool := trial p 20 2 true
/-- The primes from 2 up to below p + 2. -/
def prs : Nat → List Nat
  | 0 => []
  | p + 1 => prs p ++ (if isPr (p + 2) then [p + 2] else [])
def kOf (p : Nat) : W32 := BitVec.ofNat 32 (behindL p 36 0)
def kList : List W32 := [1116352408, 1899447441, 3049323471, 3921009573, 961987163, 1508970993, 2453635748, 2870763221, 3624381080, 310598401, 607225278, 1426881987, 1925078388, 2162078206, 2614888103, 3248222580, 3835390401, 4022224774, 264347078, 604807628, 770255983, 1249150122, 1555081692, 1996064986, 2554220882, 2821834349, 2952996808, 3210313671, 3336571891, 3584528711, 113926993, 338241895, 666307205, 773529912, 1294757372, 1396182291, 1695183700, 1986661051, 2177026350, 2456956037, 2730485921, 2820302411, 3259730800, 3345764771, 3516065817, 3600352804, 4094571909, 275423344, 430227734, 506948616, 659060556, 883997877, 958139571, 1322822218, 1537002063, 1747873779, 1955562222, 2024104815, 2227730452, 2361852424, 2428436474, 2756734187, 3204031479, 3329325298]
theorem prs_all : (prs 310).length = 64 := by decide +kernel
theorem prs_k : (prs 310).map kOf = kList := by decide +kernel
theorem prs_mono (p q : Nat) (h : p ≤ q) : (prs p).length ≤ (prs q).length := by
  induction q with
  | zero => obtain rfl : p = 0 := by omega
            exact Nat.le_refl _
  | succ q ih =>
    rcases Nat.lt_or_ge q p with h1 | h1
    · obtain rfl : p = q + 1 := by omega
      exact Nat.le_refl _
    · have := ih h1
      simp only [prs, List.length_append]
      omega
theorem prs_309 : (prs 309).length = 63 := by decide +kernel

/-! ### A block -/
/-- The word so far: i bytes from 4 t on. -/
def pword (s : List UInt8) (t : Nat) : Nat → W32
  | 0 => 0
  | i + 1 => pword s t i <<< 8 ||| BitVec.ofNat 32 (s.getD (4 * t + i) 0).toNat
def sg0 (x : W32) : W32 := x.rotateRight 7 ^^^ x.rotateRight 18 ^^^ x >>> 3
def sg1 (x : W32) : W32 := x.rotateRight 17 ^^^ x.rotateRight 19 ^^^ x >>> 10
def wnext (s : List UInt8) (t : Nat) (ws : List W32) : W32 :=
  if t < 16 then pword s t 4 else ws.getD (t - 16) 0 + sg0 (ws.getD (t - 15) 0) + ws.getD (t - 7) 0 + sg1 (ws.getD (t - 2) 0)
/-- The first t words of the schedule. -/
def sch (s : List UInt8) : Nat → List W32
  | 0 => []
  | t + 1 => sch s t ++ [wnext s t (sch s t)]
theorem sch_length (s : List UInt8) (t : Nat) : (sch s t).length = t := by
  induction t with
  | zero => rfl
  | succ t ih => simp [sch, ih]
structure St where
  a : W32
  b : W32
  c : W32
  d : W32
  e : W32
  f : W32
  g : W32
  h : W32
def St.cells (s : St) : List Value := [v32 s.a, v32 s.b, v32 s.c, v32 s.d, v32 s.e, v32 s.f, v32 s.g, v32 s.h]
def one (v : St) (k w : W32) : W32 := v.h + (v.e.rotateRight 6 ^^^ v.e.rotateRight 11 ^^^ v.e.rotateRight 25) + (v.e &&& v.f ^^^ ~~~v.e &&& v.g) + k + w
def two (v : St) : W32 := (v.a.rotateRight 2 ^^^ v.a.rotateRight 13 ^^^ v.a.rotateRight 22) + (v.a &&& v.b ^^^ v.a &&& v.c ^^^ v.b &&& v.c)
def rnd (v : St) (k w : W32) : St := ⟨one v k w + two v, v.a, v.b, v.c, v.d + one v k w, v.e, v.f, v.g⟩
def rnds (ws : List W32) (v : St) : Nat → St
  | 0 => v
  | t + 1 => rnd (rnds ws v t) (kList.getD t 0) (ws.getD t 0)
def St.add (x y : St) : St := ⟨x.a + y.a, x.b + y.b, x.c + y.c, x.d + y.d, x.e + y.e, x.f + y.f, x.g + y.g, x.h + y.h⟩
def comp (h : St) (s : List UInt8) : St := h.add (rnds (sch s 64) h 64)
/-- The array of words, when t of them are laid. -/
def wArr (s : List UInt8) (t : Nat) : List Value := (sch s t).map v32 ++ List.replicate (64 - t) (v32 0)
theorem wArr_length (s : List UInt8) (t : Nat) (h : t ≤ 64) : (wArr s t).length = 64 := by simp [wArr, sch_length]; omega
theorem wArr_get (s : List UInt8) (t j : Nat) (h : j < t) : (wArr s t)[j]? = some (v32 ((sch s t).getD j 0)) := by
  have : j < (sch s t).length := by rw [sch_length]; exact h
  simp [wArr, List.getElem?_append_left, this, List.getD_eq_getElem?_getD]
theorem wArr_zero (s : List UInt8) (t : Nat) (h : t < 64) : (wArr s t)[t]? = some (v32 0) := by
  rw [wArr, List.getElem?_append_right (by simp [sch_length]), List.getElem?_replicate, if_pos (by simp [sch_length]; omega)]
theorem wArr_succ (s : List UInt8) (t : Nat) (h : t < 64) : (wArr s t).set t (v32 (wnext s t (sch s t))) = wArr s (t + 1) := by
  obtain ⟨m, hm⟩ : ∃ m, 64 - t = m + 1 := ⟨63 - t, by omega⟩
  have e : 64 - (t + 1) = m := by omega
  rw [wArr, wArr, List.set_append_right _ _ (by simp [sch_length])]
  simp [sch, sch_length, hm, e, List.replicate_succ]

def St.list (s : St) : List W32 := [s.a, s.b, s.c, s.d, s.e, s.f, s.g, s.h]
theorem St.cells_eq (s : St) : s.cells = s.list.map v32 := rfl
/-- The first i numbers have been added. -/
def addTo (xs ys : List W32) (i : Nat) : List W32 := (List.zipWith (· + ·) xs ys).take i ++ xs.drop i
theorem addTo_zero (xs ys : List W32) : addTo xs ys 0 = xs := rfl
theorem addTo_end (x y : St) : addTo x.list y.list 8 = (x.add y).list := rfl
theorem addTo_get (x y : St) (i : Nat) (h : i < 8) : (addTo x.list y.list i)[i]? = some (x.list.getD i 0) := by
  have : i = 0 ∨ i = 1 ∨ i = 2 ∨ i = 3 ∨ i = 4 ∨ i = 5 ∨ i = 6 ∨ i = 7 := by omega
  rcases this with rfl | rfl | rfl | rfl | rfl | rfl | rfl | rfl <;> rfl
theorem addTo_set (x y : St) (i : Nat) (h : i < 8) : (addTo x.list y.list i).set i (x.list.getD i 0 + y.list.getD i 0) = addTo x.list y.list (i + 1) := by
  have : i = 0 ∨ i = 1 ∨ i = 2 ∨ i = 3 ∨ i = 4 ∨ i = 5 ∨ i = 6 ∨ i = 7 := by omega
  rcases this with rfl | rfl | rfl | rfl | rfl | rfl | rfl | rfl <;> rfl
theorem St.get (x : St) (i : Nat) (h : i < 8) : x.cells[i]? = some (v32 (x.list.getD i 0)) := by
  have : i = 0 ∨ i = 1 ∨ i = 2 ∨ i = 3 ∨ i = 4 ∨ i = 5 ∨ i = 6 ∨ i = 7 := by omega
  rcases this with rfl | rfl | rfl | rfl | rfl | rfl | rfl | rfl <;> rfl

end Go.Proofs.YtinlciofhegciaaDoor

/- Small laws on what a call makes for itself: appends of one cell, bytes as a string, worlds that only grow. -/
namespace Go.Proofs.YtinlciofhegciaaDoor
open Go.RowKit

/-- A slice of one-cell elements that the call owns. -/
def Own (w : World) (B : Nat) (e : TypeId) (v : Value) (xs : List Value) : Prop := w.ownsRow B e 1 v xs.length xs

theorem Own.nil (w : World) (B : Nat) (e : TypeId) : Own w B e (.slice none 0 0) [] := World.ownsRow_nil w B e 1
theorem Own.alloc {w : World} {B : Nat} {e : TypeId} {v : Value} {xs : List Value} (h : Own w B e v xs) (o : Obj) : Own (w.alloc o) B e v xs := World.ownsRow.alloc h o
theorem Own.block {w : World} {B : Nat} {e : TypeId} {v : Value} {xs : List Value} (h : Own w B e v xs) (k : Nat) (hk : v.ownBlock = some k) : B ≤ k ∧ k < w.heap.size := World.ownsRow.lt h k hk
theorem grownBy_of_below {w w1 : World} (h : Below w.heap.size w w1) (row : Option Nat) : w.grownBy w1 row := ⟨h.os, h.tape, h.output, h.size, fun i hi _ => h.block i hi⟩
theorem Own.below {w w1 : World} {B : Nat} {e : TypeId} {v : Value} {xs : List Value} (h : Own w B e v xs) (hb : Below w.heap.size w w1) : Own w1 B e v xs :=
  World.ownsRow.kept h (grownBy_of_below hb none) (by cases v.ownBlock <;> simp)
theorem Own.drew {w : World} {B : Nat} {e : TypeId} {v : Value} {xs : List Value} (h : Own w B e v xs) : Own w.drew B e v xs := h

theorem below_cell {w w1 : World} (h : Below w.heap.size w w1) {a : Addr} {v : Value} (hc : w.cell? a = some v) : w1.cell? a = some v :=
  (h.cell (World.block_lt_of_cell? w a hc)).trans hc
theorem below_trans {w w1 w2 : World} (h : Below w.heap.size w w1) (k : Below w1.heap.size w1 w2) : Below w.heap.size w w2 := h.trans (k.mono h.size)

section
variable {P : Program} {ops : Array Oper} {rest : List Oper} {o : Oper} {a : Act} {Q : Exit → Act → World → Prop}
/-- append(v, y): behind 'at_builtin'; the world is that in which y's own block was laid. -/
theorem ap1 {w0 W : World} {e : TypeId} {v : Value} {xs : List Value} {y : Value} (HO : Own W w0.heap.size e v xs) (HB : Below w0.heap.size w0 W) {t : TypeId} {z : Value} {bytes : Nat}
    (ht : P.underlying t = some (.slice e)) (hinfo : (P.info? e).map (fun i => (i.zero, i.size, i.bytes)) = some (some z, 1, bytes)) (hz : z.cells.size = 1) (hb0 : 0 < bytes) (hl : (xs.length + 1) * bytes ≤ 140737488355328)
    (hgd : o.guard = none) (s x : Operand) (ho : o.op = .call { callee := .builtin .append, args := #[s, x], argTypes := #[t, t] })
    (hs : a.eval s = v) (hx : a.eval x = .slice (some ⟨W.heap.size, 0, none⟩) 1 1) (h1 : y.oneCell' = true)
    (h : ∀ v1 w1, Own w1 w0.heap.size e v1 (xs ++ [y]) → Below w0.heap.size w0 w1 → W.grownBy w1 v.ownBlock → wpList P ops Q rest (a.put o.dst v1) w1) :
    wpList P ops Q (o :: rest) a (W.alloc (.cells #[y] e)) := by
  obtain ⟨i, hi, hz3⟩ := Option.map_eq_some_iff.1 hinfo
  simp only [Prod.mk.injEq] at hz3
  obtain ⟨hz0, hz1, hz2⟩ := hz3
  have hlen : xs.length + 1 ≤ 140737488355328 := Nat.le_trans (Nat.le_mul_of_pos_right _ hb0) hl
  refine wpList_append_own_at (W.alloc (.cells #[y] e)) hgd s x t ho w0.heap.size e i z 1 bytes ht hi hz0 hz1 hz2 hz (by omega) v xs.length xs hs (World.ownsRow.alloc HO _) ⟨W.heap.size, 0, none⟩ 1 1 [y] hx rfl
    (cell_one_new W y e) (by simpa using h1) (by simp only [maxLen]; omega) hl (by have := HB.size; simp; omega) ?_
  intro v1 w1 hown hg _ _
  have hg' : W.grownBy w1 v.ownBlock := ⟨hg.os, hg.tape, hg.output, by have := hg.size; simp at this; omega, fun k hk hne => by
    rw [hg.block k (by simp; omega) hne]; exact Below.heap_alloc W _ k hk⟩
  refine h v1 w1 (by unfold Own; simpa using hown) (HB.grown hg' HB.size fun k hk => (HO.block k hk).1) hg'
end

/-- Bytes as values. -/
def vbytes (l : List UInt8) : List Value := l.map fun c => .int .u8 (c.toNat : Int)
theorem vbytes_append (l m : List UInt8) : vbytes (l ++ m) = vbytes l ++ vbytes m := by simp [vbytes]
theorem vbytes_length (l : List UInt8) : (vbytes l).length = l.length := by simp [vbytes]

/-- Bytes as a string. -/
def str (l : List UInt8) : ByteArray := ⟨l.toArray⟩
theorem str_size (l : List UInt8) : (str l).size = l.length := by simp [str, ByteArray.size]
theorem str_list (l : List UInt8) : (str l).data.toList = l := by simp [str]
theorem str_of (s : ByteArray) : str s.data.toList = s := by cases s; simp [str]

theorem Own.string {P : Program} {w : World} {B : Nat} {src dst e : TypeId} {v : Value} {l : List UInt8} (hs : P.underlying src = some (.slice e)) (he : P.underlying e = some (.int .u8)) (hd : P.underlying dst = some .string)
    (h : Own w B e v (vbytes l)) : (convert src dst v).run P w = .ok (.string (str l)) w := by
  have hl : (vbytes l).length = l.length := vbytes_length l
  rcases h.2 with ⟨hv, h0⟩ | ⟨g, cap, cur, hv, _, hg, _, _, _, ht⟩
  · obtain rfl : l = [] := List.eq_nil_of_length_eq_zero (by omega)
    rw [hv, run_convert_bytes_nil w src e hs he 0 0 dst hd]; rfl
  · rw [hv, hl]
    have hx := run_convert_bytes_arg (P := P) w src e hs he g 0 l.length cap (l.map fun c => (c.toNat : Int)) (by simp) (fun i hi => ?_) dst hd
    · rw [hx]
      congr 2
      simp only [strOfNums, str, List.map_map]
      congr 2
      conv => rhs; rw [← List.map_id l]
      apply List.map_congr_left
      intro c _
      simp
    · have hc := World.ownsRow.cells h (g := g) (by rw [hv]; rfl) i (.int .u8 ((l.map fun c => (c.toNat : Int)).getD i 0)) (by simp [vbytes, hi])
      have ha : (⟨g, 0, none⟩ : Addr).add i = ⟨g, 0 + i, none⟩ := by unfold Addr.add; split <;> simp_all
      rwa [ha] at hc

/-! ### A block that is known whole -/
/-- Block b: these cells, none of them frozen. -/
def Blk (w : World) (b : Nat) (T : TypeId) (cs : List Value) : Prop := w.heap[b]? = some (.cells cs.toArray T (0, 0))
theorem Blk.lt {w : World} {b : Nat} {T : TypeId} {cs : List Value} (h : Blk w b T cs) : b < w.heap.size := (Array.getElem?_eq_some_iff.1 h).1
theorem Blk.cell {w : World} {b : Nat} {T : TypeId} {cs : List Value} (h : Blk w b T cs) (o : Nat) : w.cell? ⟨b, o, none⟩ = cs[o]? := by
  unfold Blk at h
  simp [World.cell?, h]
theorem Blk.frozen {w : World} {b : Nat} {T : TypeId} {cs : List Value} (h : Blk w b T cs) (o : Nat) : w.frozen? ⟨b, o, none⟩ = false := by
  unfold Blk at h
  simp [World.frozen?, h]
theorem Blk.set {w : World} {b : Nat} {T : TypeId} {cs : List Value} (h : Blk w b T cs) (o : Nat) (v : Value) : Blk (w.setCell ⟨b, o, none⟩ v) b T (cs.set o v) := by
  unfold Blk at *
  simp [World.setCell, Array.getElem?_modify, h]
theorem Blk.drew {w : World} {b : Nat} {T : TypeId} {cs : List Value} (h : Blk w b T cs) : Blk w.drew b T cs := h
theorem Blk.drewN {w : World} {b : Nat} {T : TypeId} {cs : List Value} (h : Blk w b T cs) (n : Nat) : Blk (w.drewN n) b T cs := h
theorem Blk.alloc {w : World} {b : Nat} {T : TypeId} {cs : List Value} (h : Blk w b T cs) (o : Obj) : Blk (w.alloc o) b T cs := (Below.heap_alloc w o b h.lt).trans h
theorem Blk.new (w : World) (T : TypeId) (cs : List Value) : Blk (w.alloc (.cells cs.toArray T)) w.heap.size T cs := by
  exact heap_alloc_new w _
theorem Blk.of (w : World) (T : TypeId) (arr : Array Value) (cs : List Value) (h : arr.toList = cs) : Blk (w.alloc (.cells arr T)) w.heap.size T cs := by
  subst h
  exact Blk.new w T arr.toList
theorem Blk.other {w : World} {b : Nat} {T : TypeId} {cs : List Value} (h : Blk w b T cs) {a : Addr} (ha : b ≠ a.block) (v : Value) : Blk (w.setCell a v) b T cs := (Below.heap_setCell w a v b ha).trans h
theorem Blk.grown {w w1 : World} {b : Nat} {T : TypeId} {cs : List Value} (h : Blk w b T cs) {row : Option Nat} (hg : w.grownBy w1 row) (hne : some b ≠ row) : Blk w1 b T cs := (hg.block b h.lt hne).trans h
theorem Blk.below {w w1 : World} {b : Nat} {T : TypeId} {cs : List Value} (h : Blk w b T cs) {B : Nat} (hg : Below B w w1) (hne : b < B) : Blk w1 b T cs := (hg.block b hne).trans h
theorem grown_set (w : World) (b o : Nat) (v : Value) : w.grownBy (w.setCell ⟨b, o, none⟩ v) (some b) :=
  ⟨rfl, rfl, rfl, by simp [World.setCell], fun k _ hne => Below.heap_setCell w _ v k (fun h => hne (by rw [h]))⟩
theorem grown_set_drew (w : World) (b o : Nat) (v : Value) : w.grownBy (w.setCell ⟨b, o, none⟩ v).drew (some b) := let h := grown_set w b o v; ⟨h.os, h.tape, h.output, h.size, h.block⟩
theorem below_set {B : Nat} {w0 w : World} (h : Below B w0 w) {b : Nat} (hb : B ≤ b) (o : Nat) (v : Value) : Below B w0 (w.setCell ⟨b, o, none⟩ v) := h.setCell (p := ⟨b, o, none⟩) hb v
theorem below_set_drew {B : Nat} {w0 w : World} (h : Below B w0 w) {b : Nat} (hb : B ≤ b) (o : Nat) (v : Value) : Below B w0 (w.setCell ⟨b, o, none⟩ v).drew := (h.setCell (p := ⟨b, o, none⟩) hb v).drew
theorem below_drewN {B : Nat} {w0 w : World} (h : Below B w0 w) (n : Nat) : Below B w0 (w.drewN n) := ⟨h.os, h.tape, h.output, h.size, h.block⟩
theorem grown_of_below_lt {w w1 : World} (h : Below w.heap.size w w1) {row : Option Nat} : w.grownBy w1 row := grownBy_of_below h row
theorem grown_refl (w : World) (row : Option Nat) : w.grownBy w row := ⟨rfl, rfl, rfl, Nat.le_refl _, fun _ _ _ => rfl⟩
theorem grown_trans {a b c : World} {row : Option Nat} (h : a.grownBy b row) (k : b.grownBy c row) : a.grownBy c row :=
  ⟨k.os.trans h.os, k.tape.trans h.tape, k.output.trans h.output, Nat.le_trans h.size k.size, fun i hi hne => (k.block i (Nat.lt_of_lt_of_le hi h.size) hne).trans (h.block i hi hne)⟩
theorem grown_drewN (w : World) (n : Nat) (row : Option Nat) : w.grownBy (w.drewN n) row := ⟨rfl, rfl, rfl, Nat.le_refl _, fun _ _ _ => rfl⟩
theorem grown_alloc (w : World) (o : Obj) (row : Option Nat) : w.grownBy (w.alloc o) row := World.grownBy_alloc w o row
theorem below_of_grown {w0 w w1 : World} {b : Nat} (h : Below w0.heap.size w0 w) (hg : w.grownBy w1 (some b)) (hb : w0.heap.size ≤ b) : Below w0.heap.size w0 w1 :=
  h.grown hg h.size (fun k hk => by cases hk; exact hb)

theorem set_same {α : Type} {l : List α} {i : Nat} {x : α} (h : l[i]? = some x) : l.set i x = l := by
  apply List.ext_getElem?
  intro j
  rw [List.getElem?_set]
  split
  · subst_vars
    split
    · exact h.symm
    · rename_i hn; rw [List.getElem?_eq_none (by omega)]
  · rfl
/-! ### Strings -/
theorem run_index_str {P : Program} {T : TypeId} (hT : P.underlying T = some .string) (s : ByteArray) (i : Int) (n : Nat) (c : UInt8) (hi : i = (n : Int)) (hc : s.data.toList[n]? = some c) (w : World) :
    (Instr.index T (.string s) (.int .i64 i)).run P w = .ok (.int .u8 (c.toNat : Int)) w := by
  subst hi
  have h : s[n]? = some c := by
    rw [← hc]
    by_cases hn : n < s.size
    · rw [getElem?_pos s n hn, Array.getElem?_toList, getElem?_pos s.data n hn]; rfl
    · rw [getElem?_neg s n hn, Array.getElem?_toList, getElem?_neg s.data n hn]
  unfold Instr.index
  simp [asIntOf, run_underlying hT, h, Sem.run_bind, Sem.run_pure]
theorem str_get (l : List UInt8) (n : Nat) : (str l).data.toList[n]? = l[n]? := by simp [str]

theorem str_take (l : List UInt8) (n : Nat) : (str l).extract 0 n = str (l.take n) := by
  apply ByteArray.ext
  simp [str, ByteArray.data_extract]
theorem str_drop (l : List UInt8) (n : Nat) : (str l).extract n l.length = str (l.drop n) := by
  apply ByteArray.ext
  simp only [str, ByteArray.data_extract]
  apply Array.ext'
  simp [List.take_of_length_le]
theorem str_append (l m : List UInt8) : str l ++ str m = str (l ++ m) := by
  apply ByteArray.ext
  simp [str, ByteArray.data_append]
/-- A string value's length. -/
def slen : Value → Nat
  | .string s => s.size
  | _ => 0

theorem str_add (P : Program) (x y : List UInt8) (h : x.length + y.length ≤ 9223372036854775807) (W : World) : (Op.stringOp .add (str x) (str y)).run P W = .ok (.string (str (x ++ y))) W := by
  rw [run_string_add_sum W _ _ (by rw [str_size, str_size]; exact h), str_append]
theorem repeatL_one (c : UInt8) (n : Nat) : Lib.repeatL [c] n = List.replicate n c := by
  induction n with
  | zero => rfl
  | succ n ih => simp [Lib.repeatL, ih, List.replicate_succ]

end Go.Proofs.YtinlciofhegciaaDoor

namespace Go.Proofs.YtinlciofhegciaaDoor
open Go.RowKit

theorem neg_and31 (n : Nat) (h1 : 1 ≤ n) (h2 : n ≤ 31) : bits BinOp.and IntKind.u64 (IntKind.u64.wrap (-(n : Int))) 31 = ((32 - n : Nat) : Int) := by
  have : ∀ n ∈ List.range 32, 1 ≤ n → bits BinOp.and IntKind.u64 (IntKind.u64.wrap (-(n : Int))) 31 = ((32 - n : Nat) : Int) := by decide +kernel
  exact this n (by simp; omega) h1

set_option maxHeartbeats 400000 in
theorem rot_any (x : W32) (n : Nat) (w : World) (h1 : 1 ≤ n) (h2 : n ≤ 31) :
    Calls Tryd.prog 70 #[v32 x, .int .i64 (n : Int)] w fun e w' => e = .returned (v32 (x.rotateRight n)) ∧ w = w' := by
  have hk := neg_and31 n h1 h2
  have hl := w32_shl x (32 - n)
  have hr := w32_shr x n
  have ho := w32_or (x <<< (32 - n)) (x >>> n)
  have hs : (32 : Int) - ((32 - n : Nat) : Int) = (n : Int) := by omega
  rw [← rot_eq x n h1 h2]
  go_enter Tryd.func70, Tryd.ntmps70
  go_wp2
  go_ret
  exact ⟨by simp, rfl⟩
theorem Tryd.underlying_bytes : Tryd.prog.underlying 39 = some (.slice 5) := by kernel_rfl
theorem Tryd.underlying_u8 : Tryd.prog.underlying 5 = some (.int .u8) := by kernel_rfl
theorem Tryd.underlying_str : Tryd.prog.underlying 9 = some .string := by kernel_rfl
theorem Tryd.info_u8 : (Tryd.prog.info? 5).map (fun i => (i.zero, i.size, i.bytes)) = some (some (.int .u8 0), 1, 1) := by kernel_rfl

set_option maxRecDepth 100000 in
set_option maxHeartbeats 400000 in
theorem number_any (n size : Nat) (w : World) (h1 : 1 ≤ size) (h2 : size ≤ 8) :
    Calls Tryd.prog 41 #[.int .u64 (n : Int), .int .i64 (size : Int)] w fun e w' => e = .returned (.string (str (be size n))) ∧ Below w.heap.size w w' := by
  go_enter Tryd.func41, Tryd.ntmps41
  go_wp2
  go_loopw [5, 6] (fun v i wr => ∃ (k : Nat) (z : Int), k ≤ size ∧ z = 8 * ((size : Int) - 1 - k) ∧ i = .int .i64 z ∧ Own wr w.heap.size 5 v (vbytes ((be size n).take k)) ∧ Below w.heap.size w wr) (fun _ i _ => (intOf i + 8).toNat)
  case atStart => exact ⟨0, _, by omega, by simp, rfl, by simpa [vbytes] using Own.nil w w.heap.size 5, Below.refl _ _⟩
  case round =>
    obtain ⟨k, z, hk, hz, rfl, hown, hb⟩ := hrel
    have Hown := Lib.hid hown
    have Hb := Lib.hid hb
    have Hz := Lib.hid hz
    have z1 : z ≤ 56 := by omega
    have z2 : -8 ≤ z := by omega
    clear hown hb hz
    by_cases hlt : k < size
    · have z0 : 0 ≤ z := by have := Hz.out; omega
      have hz8 : z.toNat = 8 * (size - 1 - k) := by have := Hz.out; omega
      have hl : (vbytes ((be size n).take k)).length = k := by rw [vbytes_length, List.length_take, be_length]; omega
      have hval : (Value.int .u8 ((n : Int) / 2 ^ z.toNat % 256)) = .int .u8 (((UInt8.ofNat (n / 256 ^ (size - 1 - k))).toNat : Nat) : Int) := by
        rw [hz8, be_val]
      have hstep := be_take_succ size n k hlt
      have Hval := Lib.hid hval
      have Hstep := Lib.hid hstep
      have Hl := Lib.hid hl
      clear hval hstep hz8 hl
      go_wp2_with (at_builtin; go_must (refine ap1 Hown.out Hb.out Tryd.underlying_bytes Tryd.info_u8 rfl (by omega) (by rw [Hl.out]; omega) rfl _ _ rfl rfl rfl rfl ?_; intro v1 w1 hown1 hb1 hg1; rw [Hval.out, show ∀ c : UInt8, [Value.int .u8 (c.toNat : Int)] = vbytes [c] from fun _ => rfl, ← vbytes_append, ← Hstep.out] at hown1; have Hown1 := Lib.hid hown1; have Hb1 := Lib.hid hb1; clear hown1 hb1 hg1))
      go_roundw
      case rel => exact ⟨k + 1, z - 8, by omega, by have := Hz.out; push_cast; omega, by go_num, Hown1.out, Hb1.out⟩
      case measure => simp [intOf]; omega
    · have z0 : z < 0 := by have := Hz.out; omega
      have hk' : k = size := by omega
      have hstr : ∀ W, Own W w.heap.size 5 u5 (vbytes ((be size n).take k)) → (convert 39 9 u5).run Tryd.prog W = .ok (.string (str (be size n))) W := by
        intro W h
        rw [hk', List.take_of_length_le (by rw [be_length]; omega)] at h
        exact Own.string Tryd.underlying_bytes Tryd.underlying_u8 Tryd.underlying_str h
      have hs1 := hstr _ Hown.out
      clear hk' hstr
      go_wp2
      go_ret
      exact ⟨rfl, Hb.out⟩
end Go.Proofs.YtinlciofhegciaaDoor

/-
  DERIVED: THE SHELF's CONTRACTS AT THIS DUMP, IN PLAIN WORDS (tools/lay-plain.mjs out of 'TrydShelf.lean', which tools/lay-shelf.mjs wrote): THE SAME DECLARATIONS UNDER THE SAME NAMES: 'import', 'namespace', 'open', 'def', 'theorem' AND NOTHING ELSE: no command of the shelf's: FOR A HAND-IN. Each laying: the table of numbers ('.._ren') and one theorem, a field a fact of the dump's own or the kernel's comparison; each contract: ONE APPLICATION.
-/
namespace Go.Proofs
open Go.Shelf
def Tryd.lays170_ren : Go.Shelf.Ren := ⟨fun | 170 => 38 | n => n, fun | 70 => 42 | 3 => 3 | 0 => 0 | 72 => 44 | 37 => 39 | 5 => 5 | n => n, fun | n => n⟩
theorem Tryd.lays170 : Go.Proofs.Lays.n170 Tryd.prog Tryd.lays170_ren := {
  mixed := by kernel_rfl
  f170 := Tryd.func38.trans (congrArg some (by kernel_rfl))
  t0 := Tryd.underlying0
  a0 := Tryd.isAgg0
  z0 := Tryd.sizeOf0
  v0 := Tryd.zeroValue0
  t3 := Tryd.underlying3
  a3 := Tryd.isAgg3
  z3 := Tryd.sizeOf3
  v3 := Tryd.zeroValue3
  t37 := Tryd.underlying39
  a37 := Tryd.isAgg39
  z37 := Tryd.sizeOf39
  v37 := Tryd.zeroValue39
  t70 := Tryd.underlying42
  a70 := Tryd.isAgg42
  z70 := Tryd.sizeOf42
  v70 := Tryd.zeroValue42
  t72 := Tryd.underlying44
  a72 := Tryd.isAgg44
  z72 := Tryd.sizeOf44
  v72 := Tryd.zeroValue44 }
open Go.RowKit in
/-- (*strings.Builder).Len: "Len returns the number of accumulated bytes; b.Len() == len(b.String()).": the world is as it was. (LAID: no walk: one application.) -/
theorem Tryd.Builder_Len (B b : Nat) (bs : List Value) (w : World) (h : Lib.IsBuilder 44 5 B b bs w) :
    Calls Tryd.prog 38 #[.pointer (some ⟨b, 0, none⟩)] w fun e w' => e = .returned (.int .i64 bs.length) ∧ w' = w := Any.Builder_Len Tryd.lays170 B b bs w h
def Tryd.lays169_ren : Go.Shelf.Ren := ⟨fun | 169 => 22 | n => n, fun | 70 => 42 | 9 => 9 | 0 => 0 | 72 => 44 | 37 => 39 | 127 => 81 | 3 => 3 | 5 => 5 | n => n, fun | n => n⟩
theorem Tryd.lays169 : Go.Proofs.Lays.n169 Tryd.prog Tryd.lays169_ren := {
  mixed := by kernel_rfl
  f169 := Tryd.func22.trans (congrArg some (by kernel_rfl))
  t0 := Tryd.underlying0
  a0 := Tryd.isAgg0
  z0 := Tryd.sizeOf0
  v0 := Tryd.zeroValue0
  t3 := Tryd.underlying3
  a3 := Tryd.isAgg3
  z3 := Tryd.sizeOf3
  v3 := Tryd.zeroValue3
  t9 := Tryd.underlying9
  a9 := Tryd.isAgg9
  z9 := Tryd.sizeOf9
  v9 := Tryd.zeroValue9
  t37 := Tryd.underlying39
  a37 := Tryd.isAgg39
  z37 := Tryd.sizeOf39
  v37 := Tryd.zeroValue39
  t70 := Tryd.underlying42
  a70 := Tryd.isAgg42
  z70 := Tryd.sizeOf42
  v70 := Tryd.zeroValue42
  t72 := Tryd.underlying44
  a72 := Tryd.isAgg44
  z72 := Tryd.sizeOf44
  v72 := Tryd.zeroValue44
  t127 := Tryd.underlying81
  a127 := Tryd.isAgg81
  z127 := Tryd.sizeOf81
  v127 := Tryd.zeroValue81 }
theorem Tryd.Builder_Extra_169 : Builder.Extra Tryd.prog Tryd.lays169_ren := {
  sizeBuilder := by kernel_rfl
  liesBuilder := by kernel_rfl
  t5 := Tryd.underlying5
  a5 := Tryd.isAgg5
  z5 := Tryd.sizeOf5
  v5 := Tryd.zeroValue5
  infoByte := by kernel_rfl
  cellsByte := by kernel_rfl
  sizeByte := by kernel_rfl
  neB5 := by decide }
open Go.RowKit in
/-- (*strings.Builder).String: "String returns the accumulated string.": OF A BUILDER THAT HOLDS AT LEAST ONE BYTE. ✋ THE MODEL FREEZES THOSE BYTES IN THE BUFFER (unsafe.String): a later write INTO them ends the model's run without an answer; a later append BEHIND them goes on. The statement's order of evaluation is drawn: one draw. (LAID: no walk: one application.) -/
theorem Tryd.Builder_String (B b : Nat) (l : List UInt8) (w : World) (h : Lib.IsBuilder 44 5 B b (Lib.byteCells l) w) (h0 : l ≠ []) :
    Calls Tryd.prog 22 #[.pointer (some ⟨b, 0, none⟩)] w fun e w' => e = .returned (.string ⟨l.toArray⟩) ∧ Below B w w' := Any.Builder_String Tryd.lays169 Tryd.Builder_Extra_169 B b l w h h0
open Go.RowKit in
/-- (*strings.Builder).String OF A BUILDER THAT HOLDS NO BYTE: the empty string. (Its buffer is nil, or a row of which it has taken nothing yet; where that row has NO capacity the model lays one new block for unsafe.SliceData's 'some address'.) One draw. (LAID: no walk: one application.) -/
theorem Tryd.Builder_String_empty (B b : Nat) (w : World) (h : Lib.IsBuilder 44 5 B b [] w) (hBw : B ≤ w.heap.size) :
    Calls Tryd.prog 22 #[.pointer (some ⟨b, 0, none⟩)] w fun e w' => e = .returned (.string ⟨#[]⟩) ∧ Below B w w' := Any.Builder_String_empty Tryd.lays169 Tryd.Builder_Extra_169 B b w h hBw
open Go.RowKit in
/-- (*strings.Builder).String: "String returns the accumulated string.": WHATEVER THE BUILDER HOLDS. (LAID: no walk: one application.) -/
theorem Tryd.Builder_String_any (B b : Nat) (l : List UInt8) (w : World) (h : Lib.IsBuilder 44 5 B b (Lib.byteCells l) w) (hBw : B ≤ w.heap.size) :
    Calls Tryd.prog 22 #[.pointer (some ⟨b, 0, none⟩)] w fun e w' => e = .returned (.string ⟨l.toArray⟩) ∧ Below B w w' := Any.Builder_String_any Tryd.lays169 Tryd.Builder_Extra_169 B b l w h hBw
def Tryd.lays241_ren : Go.Shelf.Ren := ⟨fun | 241 => 51 | 277 => 60 | n => n, fun | 70 => 42 | 3 => 3 | 0 => 0 | 72 => 44 | 37 => 39 | 5 => 5 | n => n, fun | n => n⟩
theorem Tryd.lays241 : Go.Proofs.Lays.n241 Tryd.prog Tryd.lays241_ren := {
  mixed := by kernel_rfl
  f241 := Tryd.func51.trans (congrArg some (by kernel_rfl))
  f277 := Tryd.func60.trans (congrArg some (by kernel_rfl))
  t0 := Tryd.underlying0
  a0 := Tryd.isAgg0
  z0 := Tryd.sizeOf0
  v0 := Tryd.zeroValue0
  t3 := Tryd.underlying3
  a3 := Tryd.isAgg3
  z3 := Tryd.sizeOf3
  v3 := Tryd.zeroValue3
  t37 := Tryd.underlying39
  a37 := Tryd.isAgg39
  z37 := Tryd.sizeOf39
  v37 := Tryd.zeroValue39
  t70 := Tryd.underlying42
  a70 := Tryd.isAgg42
  z70 := Tryd.sizeOf42
  v70 := Tryd.zeroValue42
  t72 := Tryd.underlying44
  a72 := Tryd.isAgg44
  z72 := Tryd.sizeOf44
  v72 := Tryd.zeroValue44 }
theorem Tryd.Builder_Extra_241 : Builder.Extra Tryd.prog Tryd.lays241_ren := {
  sizeBuilder := by kernel_rfl
  liesBuilder := by kernel_rfl
  t5 := Tryd.underlying5
  a5 := Tryd.isAgg5
  z5 := Tryd.sizeOf5
  v5 := Tryd.zeroValue5
  infoByte := by kernel_rfl
  cellsByte := by kernel_rfl
  sizeByte := by kernel_rfl
  neB5 := by decide }
open Go.RowKit in
/-- (*strings.Builder).grow (no doc but "grow copies the buffer to a new, larger buffer so that there are at least n bytes of capacity beyond len(b.buf)."): AT A BUILDER WITHOUT A BUFFER: a new row of whatever bytes for its buffer, none of them its own yet. Three draws. (LAID: no walk: one application.) -/
theorem Tryd.Builder_grow_fresh (B b n : Nat) (w : World) (hB : B ≤ b) (hbk : w.heap[b]? = some (.cells #[.pointer (some ⟨b, 0, none⟩), .slice none 0 0] 44 (0, 0))) (hBw : B ≤ w.heap.size) (hn : n ≤ 281474976710656) :
    Calls Tryd.prog 51 #[.pointer (some ⟨b, 0, none⟩), .int .i64 n] w fun e w' => e = .returned (.tuple #[]) ∧ (Lib.BuilderAt 44 5 B b (.pointer (some ⟨b, 0, none⟩)) [] w' ∧ Below B w w') := Any.Builder_grow_fresh Tryd.lays241 Tryd.Builder_Extra_241 B b n w hB hbk hBw hn
def Tryd.lays165_ren : Go.Shelf.Ren := ⟨fun | 165 => 36 | 240 => 40 | 241 => 51 | 276 => 54 | 277 => 60 | n => n, fun | 70 => 42 | 3 => 3 | 0 => 0 | 4 => 4 | 9 => 9 | 20 => 20 | 72 => 44 | 37 => 39 | 164 => 92 | 5 => 5 | n => n, fun | n => n⟩
theorem Tryd.lays165 : Go.Proofs.Lays.n165 Tryd.prog Tryd.lays165_ren := {
  mixed := by kernel_rfl
  f165 := Tryd.func36.trans (congrArg some (by kernel_rfl))
  f240 := Tryd.func40.trans (congrArg some (by kernel_rfl))
  f241 := Tryd.func51.trans (congrArg some (by kernel_rfl))
  f276 := Tryd.func54.trans (congrArg some (by kernel_rfl))
  f277 := Tryd.func60.trans (congrArg some (by kernel_rfl))
  t0 := Tryd.underlying0
  a0 := Tryd.isAgg0
  z0 := Tryd.sizeOf0
  v0 := Tryd.zeroValue0
  t3 := Tryd.underlying3
  a3 := Tryd.isAgg3
  z3 := Tryd.sizeOf3
  v3 := Tryd.zeroValue3
  t4 := Tryd.underlying4
  a4 := Tryd.isAgg4
  z4 := Tryd.sizeOf4
  v4 := Tryd.zeroValue4
  t9 := Tryd.underlying9
  a9 := Tryd.isAgg9
  z9 := Tryd.sizeOf9
  v9 := Tryd.zeroValue9
  t20 := Tryd.underlying20
  a20 := Tryd.isAgg20
  z20 := Tryd.sizeOf20
  v20 := Tryd.zeroValue20
  t37 := Tryd.underlying39
  a37 := Tryd.isAgg39
  z37 := Tryd.sizeOf39
  v37 := Tryd.zeroValue39
  t70 := Tryd.underlying42
  a70 := Tryd.isAgg42
  z70 := Tryd.sizeOf42
  v70 := Tryd.zeroValue42
  t72 := Tryd.underlying44
  a72 := Tryd.isAgg44
  z72 := Tryd.sizeOf44
  v72 := Tryd.zeroValue44
  t164 := Tryd.underlying92
  a164 := Tryd.isAgg92
  z164 := Tryd.sizeOf92
  v164 := Tryd.zeroValue92 }
theorem Tryd.Builder_Extra_165 : Builder.Extra Tryd.prog Tryd.lays165_ren := {
  sizeBuilder := by kernel_rfl
  liesBuilder := by kernel_rfl
  t5 := Tryd.underlying5
  a5 := Tryd.isAgg5
  z5 := Tryd.sizeOf5
  v5 := Tryd.zeroValue5
  infoByte := by kernel_rfl
  cellsByte := by kernel_rfl
  sizeByte := by kernel_rfl
  neB5 := by decide }
open Go.RowKit in
/-- (*strings.Builder).Grow AT A BUILDER THAT HAS NOT BEEN WRITTEN ('var b strings.Builder; b.Grow(n)'): "Grow grows b's capacity, if necessary, to guarantee space for another n bytes.": it holds no byte behind it as before it. (LAID: no walk: one application.) -/
theorem Tryd.Builder_Grow_fresh (B b n : Nat) (w : World) (hB : B ≤ b) (hbk : w.heap[b]? = some (.cells #[.pointer none, .slice none 0 0] 44 (0, 0))) (hBw : B ≤ w.heap.size) (hn : n ≤ 281474976710656) :
    Calls Tryd.prog 36 #[.pointer (some ⟨b, 0, none⟩), .int .i64 n] w fun e w' => e = .returned (.tuple #[]) ∧ (Lib.BuilderAt 44 5 B b (.pointer (some ⟨b, 0, none⟩)) [] w' ∧ Below B w w') := Any.Builder_Grow_fresh Tryd.lays165 Tryd.Builder_Extra_165 B b n w hB hbk hBw hn
def Tryd.lays231_ren : Go.Shelf.Ren := ⟨fun | 231 => 25 | n => n, fun | 9 => 9 | 5 => 5 | 3 => 3 | 4 => 4 | n => n, fun | n => n⟩
theorem Tryd.lays231 : Go.Proofs.Lays.n231 Tryd.prog Tryd.lays231_ren := {
  mixed := by kernel_rfl
  f231 := Tryd.func25.trans (congrArg some (by kernel_rfl))
  t3 := Tryd.underlying3
  a3 := Tryd.isAgg3
  z3 := Tryd.sizeOf3
  v3 := Tryd.zeroValue3
  t4 := Tryd.underlying4
  a4 := Tryd.isAgg4
  z4 := Tryd.sizeOf4
  v4 := Tryd.zeroValue4
  t5 := Tryd.underlying5
  a5 := Tryd.isAgg5
  z5 := Tryd.sizeOf5
  v5 := Tryd.zeroValue5
  t9 := Tryd.underlying9
  a9 := Tryd.isAgg9
  z9 := Tryd.sizeOf9
  v9 := Tryd.zeroValue9 }
open Go.RowKit in
/-- strings.trimLeftByte (no doc; what TrimLeft and Trim call at a cutset of one ASCII byte): the leading bytes that are c are cut off. The world is as it was. (LAID: no walk: one application.) -/
theorem Tryd.strings_trimLeftByte (s : ByteArray) (c : UInt8) (w : World) :
    Calls Tryd.prog 25 #[.string s, .int .u8 c.toNat] w fun e w' => e = .returned (.string ⟨(Lib.trimLeftB s.data.toList c).toArray⟩) ∧ w' = w := Any.strings_trimLeftByte Tryd.lays231 s c w
def Tryd.lays232_ren : Go.Shelf.Ren := ⟨fun | 232 => 26 | n => n, fun | 9 => 9 | 5 => 5 | 3 => 3 | 4 => 4 | n => n, fun | n => n⟩
theorem Tryd.lays232 : Go.Proofs.Lays.n232 Tryd.prog Tryd.lays232_ren := {
  mixed := by kernel_rfl
  f232 := Tryd.func26.trans (congrArg some (by kernel_rfl))
  t3 := Tryd.underlying3
  a3 := Tryd.isAgg3
  z3 := Tryd.sizeOf3
  v3 := Tryd.zeroValue3
  t4 := Tryd.underlying4
  a4 := Tryd.isAgg4
  z4 := Tryd.sizeOf4
  v4 := Tryd.zeroValue4
  t5 := Tryd.underlying5
  a5 := Tryd.isAgg5
  z5 := Tryd.sizeOf5
  v5 := Tryd.zeroValue5
  t9 := Tryd.underlying9
  a9 := Tryd.isAgg9
  z9 := Tryd.sizeOf9
  v9 := Tryd.zeroValue9 }
open Go.RowKit in
/-- strings.trimRightByte (no doc; what TrimRight and Trim call at a cutset of one ASCII byte): the trailing bytes that are c are cut off. The world is as it was. ('hs': a string's length is a number that an int holds.) (LAID: no walk: one application.) -/
theorem Tryd.strings_trimRightByte (s : ByteArray) (c : UInt8) (w : World) (hs : s.size ≤ 9223372036854775807) :
    Calls Tryd.prog 26 #[.string s, .int .u8 c.toNat] w fun e w' => e = .returned (.string ⟨(Lib.trimRightB s.data.toList c).toArray⟩) ∧ w' = w := Any.strings_trimRightByte Tryd.lays232 s c w hs
def Tryd.lays160_ren : Go.Shelf.Ren := ⟨fun | 160 => 12 | 232 => 26 | 231 => 25 | 227 => 27 | 234 => 29 | 233 => 28 | 236 => 31 | 235 => 30 | 228 => 42 | 271 => 45 | 151 => 44 | 197 => 43 | 120 => 57 | 152 => 56 | 260 => 55 | 137 => 63 | 119 => 64 | 224 => 65 | 225 => 66 | 217 => 71 | 266 => 76 | n => n, fun | 9 => 9 | 4 => 4 | 3 => 3 | 5 => 5 | 117 => 53 | 116 => 52 | 0 => 0 | 124 => 56 | 21 => 21 | 105 => 83 | 46 => 33 | 119 => 104 | 139 => 107 | 138 => 106 | n => n, fun | 3 => 0 | 4 => 1 | n => n⟩
theorem Tryd.lays160 : Go.Proofs.Lays.n160 Tryd.prog Tryd.lays160_ren := {
  mixed := by kernel_rfl
  f119 := Tryd.func64.trans (congrArg some (by kernel_rfl))
  f120 := Tryd.func57.trans (congrArg some (by kernel_rfl))
  f137 := Tryd.func63.trans (congrArg some (by kernel_rfl))
  f151 := Tryd.func44.trans (congrArg some (by kernel_rfl))
  f152 := Tryd.func56.trans (congrArg some (by kernel_rfl))
  f160 := Tryd.func12.trans (congrArg some (by kernel_rfl))
  f197 := Tryd.func43.trans (congrArg some (by kernel_rfl))
  f217 := Tryd.func71.trans (congrArg some (by kernel_rfl))
  f224 := Tryd.func65.trans (congrArg some (by kernel_rfl))
  f225 := Tryd.func66.trans (congrArg some (by kernel_rfl))
  f227 := Tryd.func27.trans (congrArg some (by kernel_rfl))
  f228 := Tryd.func42.trans (congrArg some (by kernel_rfl))
  f231 := Tryd.func25.trans (congrArg some (by kernel_rfl))
  f232 := Tryd.func26.trans (congrArg some (by kernel_rfl))
  f233 := Tryd.func28.trans (congrArg some (by kernel_rfl))
  f234 := Tryd.func29.trans (congrArg some (by kernel_rfl))
  f235 := Tryd.func30.trans (congrArg some (by kernel_rfl))
  f236 := Tryd.func31.trans (congrArg some (by kernel_rfl))
  f260 := Tryd.func55.trans (congrArg some (by kernel_rfl))
  f266 := Tryd.func76.trans (congrArg some (by kernel_rfl))
  f271 := Tryd.func45.trans (congrArg some (by kernel_rfl))
  t0 := Tryd.underlying0
  a0 := Tryd.isAgg0
  z0 := Tryd.sizeOf0
  v0 := Tryd.zeroValue0
  t3 := Tryd.underlying3
  a3 := Tryd.isAgg3
  z3 := Tryd.sizeOf3
  v3 := Tryd.zeroValue3
  t4 := Tryd.underlying4
  a4 := Tryd.isAgg4
  z4 := Tryd.sizeOf4
  v4 := Tryd.zeroValue4
  t5 := Tryd.underlying5
  a5 := Tryd.isAgg5
  z5 := Tryd.sizeOf5
  v5 := Tryd.zeroValue5
  t9 := Tryd.underlying9
  a9 := Tryd.isAgg9
  z9 := Tryd.sizeOf9
  v9 := Tryd.zeroValue9
  t21 := Tryd.underlying21
  a21 := Tryd.isAgg21
  z21 := Tryd.sizeOf21
  v21 := Tryd.zeroValue21
  t46 := Tryd.underlying33
  a46 := Tryd.isAgg33
  z46 := Tryd.sizeOf33
  v46 := Tryd.zeroValue33
  t105 := Tryd.underlying83
  a105 := Tryd.isAgg83
  z105 := Tryd.sizeOf83
  v105 := Tryd.zeroValue83
  t116 := Tryd.underlying52
  a116 := Tryd.isAgg52
  z116 := Tryd.sizeOf52
  t117 := Tryd.underlying53
  a117 := Tryd.isAgg53
  z117 := Tryd.sizeOf53
  v117 := Tryd.zeroValue53
  t119 := Tryd.underlying104
  a119 := Tryd.isAgg104
  z119 := Tryd.sizeOf104
  t124 := Tryd.underlying56
  a124 := Tryd.isAgg56
  z124 := Tryd.sizeOf56
  v124 := Tryd.zeroValue56
  t138 := Tryd.underlying106
  a138 := Tryd.isAgg106
  z138 := Tryd.sizeOf106
  v138 := Tryd.zeroValue106
  t139 := Tryd.underlying107
  a139 := Tryd.isAgg107
  z139 := Tryd.sizeOf107
  v139 := Tryd.zeroValue107
  g3 := by kernel_rfl
  g4 := by kernel_rfl }
open Go.RowKit in
/-- strings.Trim: "Trim returns a slice of the string s with all leading and trailing Unicode code points contained in cutset removed.": AT A cutset OF ONE ASCII BYTE. THE WORLD BEHIND IT: as it was, or (where s is not empty) with ONE DRAW MORE off the tape: the statement 'return trimLeftByte(trimRightByte(s, c), c)' draws its order of evaluation. (LAID: no walk: one application.) -/
theorem Tryd.strings_Trim_one (s : ByteArray) (c : UInt8) (hc : c.toNat < 128) (w : World) (hs : s.size ≤ 9223372036854775807) :
    Calls Tryd.prog 12 #[.string s, .string ⟨#[c]⟩] w fun e w' => e = .returned (.string ⟨(Lib.trimB s.data.toList c).toArray⟩) ∧ (w' = w ∨ w' = w.drew) := Any.strings_Trim_one Tryd.lays160 s c hc w hs
def Tryd.lays119_ren : Go.Shelf.Ren := ⟨fun | 119 => 64 | n => n, fun | 21 => 21 | 4 => 4 | n => n, fun | n => n⟩
theorem Tryd.lays119 : Go.Proofs.Lays.n119 Tryd.prog Tryd.lays119_ren := {
  mixed := by kernel_rfl
  f119 := Tryd.func64.trans (congrArg some (by kernel_rfl))
  t4 := Tryd.underlying4
  a4 := Tryd.isAgg4
  z4 := Tryd.sizeOf4
  v4 := Tryd.zeroValue4
  t21 := Tryd.underlying21
  a21 := Tryd.isAgg21
  z21 := Tryd.sizeOf21
  v21 := Tryd.zeroValue21 }
/-- utf8.ValidRune: "ValidRune reports whether r can be legally encoded as UTF-8. Code points that are out of range or a surrogate half are illegal.": IT RETURNS 'Lib.validRune r'; the world is as it was. (LAID: no walk: one application.) -/
theorem Tryd.utf8_ValidRune (r : Int) (w : World) :
    Calls Tryd.prog 64 #[.int .i32 r] w fun e w' => e = .returned (.bool (Lib.validRune r)) ∧ w' = w := Any.utf8_ValidRune Tryd.lays119 r w
def Tryd.lays120_ren : Go.Shelf.Ren := ⟨fun | 120 => 57 | n => n, fun | 5 => 5 | 4 => 4 | n => n, fun | n => n⟩
theorem Tryd.lays120 : Go.Proofs.Lays.n120 Tryd.prog Tryd.lays120_ren := {
  mixed := by kernel_rfl
  f120 := Tryd.func57.trans (congrArg some (by kernel_rfl))
  t4 := Tryd.underlying4
  a4 := Tryd.isAgg4
  z4 := Tryd.sizeOf4
  v4 := Tryd.zeroValue4
  t5 := Tryd.underlying5
  a5 := Tryd.isAgg5
  z5 := Tryd.sizeOf5
  v5 := Tryd.zeroValue5 }
/-- utf8.RuneStart: "RuneStart reports whether the byte could be the first byte of an encoded, possibly invalid rune. Second and subsequent bytes always have the top two bits set to 10.": IT RETURNS 'Lib.runeStart b'; the world is as it was. ('h0', 'h1': b is a byte: a caller has it of every byte that it was handed.) (LAID: no walk: one application.) -/
theorem Tryd.utf8_RuneStart (b : Int) (w : World) (h0 : 0 ≤ b) (h1 : b < 256) :
    Calls Tryd.prog 57 #[.int .u8 b] w fun e w' => e = .returned (.bool (Lib.runeStart b)) ∧ w' = w := Any.utf8_RuneStart Tryd.lays120 b w h0 h1
def Tryd.lays137_ren : Go.Shelf.Ren := ⟨fun | 137 => 63 | 217 => 71 | 266 => 76 | n => n, fun | 9 => 9 | 5 => 5 | 3 => 3 | n => n, fun | n => n⟩
theorem Tryd.lays137 : Go.Proofs.Lays.n137 Tryd.prog Tryd.lays137_ren := {
  mixed := by kernel_rfl
  f137 := Tryd.func63.trans (congrArg some (by kernel_rfl))
  f217 := Tryd.func71.trans (congrArg some (by kernel_rfl))
  f266 := Tryd.func76.trans (congrArg some (by kernel_rfl))
  t3 := Tryd.underlying3
  a3 := Tryd.isAgg3
  z3 := Tryd.sizeOf3
  v3 := Tryd.zeroValue3
  t5 := Tryd.underlying5
  a5 := Tryd.isAgg5
  z5 := Tryd.sizeOf5
  v5 := Tryd.zeroValue5
  t9 := Tryd.underlying9
  a9 := Tryd.isAgg9
  z9 := Tryd.sizeOf9
  v9 := Tryd.zeroValue9 }
open Go.RowKit in
/-- strings.IndexByte: "IndexByte returns the index of the first instance of c in s, or -1 if c is not present in s.": IT RETURNS 'Lib.indexByte s c'; the world is as it was. (LAID: no walk: one application.) -/
theorem Tryd.strings_IndexByte (s : ByteArray) (c : Int) (w : World) :
    Calls Tryd.prog 63 #[.string s, .int .u8 c] w fun e w' => e = .returned (.int .i64 (Lib.indexByte s.data.toList c.toNat.toUInt8)) ∧ w' = w := Any.strings_IndexByte Tryd.lays137 s c w
open Go.RowKit in
/-- (*strings.Builder).Len: "Len returns the number of accumulated bytes; b.Len() == len(b.String()).": the world is as it was. (THE FORM '_f': 'Lib.IsBuilderF'.) (LAID: no walk: one application.) -/
theorem Tryd.Builder_Len_f (B b : Nat) (bs : List Value) (w : World) (h : Lib.IsBuilderF 44 5 B b bs w) :
    Calls Tryd.prog 38 #[.pointer (some ⟨b, 0, none⟩)] w fun e w' => e = .returned (.int .i64 bs.length) ∧ w' = w := Any.Builder_Len_f Tryd.lays170 B b bs w h
open Go.RowKit in
/-- (*strings.Builder).String: "String returns the accumulated string.": OF A BUILDER THAT HOLDS AT LEAST ONE BYTE. ✋ THE MODEL FREEZES THOSE BYTES IN THE BUFFER (unsafe.String): a later write INTO them ends the model's run without an answer; a later append BEHIND them goes on. The statement's order of evaluation is drawn: one draw. THE FORM '_f': IT SAYS BESIDES THAT THE BUILDER IS A BUILDER STILL ('Lib.IsBuilderF', the same bytes): SO IT CAN BE WRITTEN ON: 'b.WriteString(b.String()[:k])'. (LAID: no walk: one application.) -/
theorem Tryd.Builder_String_f (B b : Nat) (l : List UInt8) (w : World) (h : Lib.IsBuilderF 44 5 B b (Lib.byteCells l) w) (h0 : l ≠ []) :
    Calls Tryd.prog 22 #[.pointer (some ⟨b, 0, none⟩)] w fun e w' => e = .returned (.string ⟨l.toArray⟩) ∧ (Lib.IsBuilderF 44 5 B b (Lib.byteCells l) w' ∧ Below B w w') := Any.Builder_String_f Tryd.lays169 Tryd.Builder_Extra_169 B b l w h h0
open Go.RowKit in
/-- (*strings.Builder).String OF A BUILDER THAT HOLDS NO BYTE: the empty string; THE FORM '_f': a builder still. (LAID: no walk: one application.) -/
theorem Tryd.Builder_String_empty_f (B b : Nat) (w : World) (h : Lib.IsBuilderF 44 5 B b [] w) (hBw : B ≤ w.heap.size) :
    Calls Tryd.prog 22 #[.pointer (some ⟨b, 0, none⟩)] w fun e w' => e = .returned (.string ⟨#[]⟩) ∧ (Lib.IsBuilderF 44 5 B b [] w' ∧ Below B w w') := Any.Builder_String_empty_f Tryd.lays169 Tryd.Builder_Extra_169 B b w h hBw
open Go.RowKit in
/-- (*strings.Builder).String: "String returns the accumulated string.": WHATEVER THE BUILDER HOLDS; THE FORM '_f': OF A BUILDER THAT MAY HAVE BEEN READ BEFORE; AND IT IS A BUILDER STILL, holding the same bytes: it can be written on. (LAID: no walk: one application.) -/
theorem Tryd.Builder_String_any_f (B b : Nat) (l : List UInt8) (w : World) (h : Lib.IsBuilderF 44 5 B b (Lib.byteCells l) w) (hBw : B ≤ w.heap.size) :
    Calls Tryd.prog 22 #[.pointer (some ⟨b, 0, none⟩)] w fun e w' => e = .returned (.string ⟨l.toArray⟩) ∧ (Lib.IsBuilderF 44 5 B b (Lib.byteCells l) w' ∧ Below B w w') := Any.Builder_String_any_f Tryd.lays169 Tryd.Builder_Extra_169 B b l w h hBw
open Go.RowKit in
/-- (*strings.Builder).String: "String returns the accumulated string.": OF A BUILDER THAT HOLDS AT LEAST ONE BYTE. ✋ THE MODEL FREEZES THOSE BYTES IN THE BUFFER (unsafe.String): a later write INTO them ends the model's run without an answer; a later append BEHIND them goes on. The statement's order of evaluation is drawn: one draw. THE FORM '_k': OVER 'Lib.IsBuilderF' (a builder that 'String()' may have read), AND WITH THE FRAME THAT REACHES ABOVE THE BUILDER: 'Lib.OthersKept': every block that is not b and is no row of uint8's stands as it stood: the iterator of a range among them. (LAID: no walk: one application.) -/
theorem Tryd.Builder_String_k (B b : Nat) (l : List UInt8) (w : World) (h : Lib.IsBuilderF 44 5 B b (Lib.byteCells l) w) (h0 : l ≠ []) :
    Calls Tryd.prog 22 #[.pointer (some ⟨b, 0, none⟩)] w fun e w' => e = .returned (.string ⟨l.toArray⟩) ∧ (Lib.IsBuilderF 44 5 B b (Lib.byteCells l) w' ∧ Below B w w' ∧ Lib.OthersKept 5 (some b) w w') := Any.Builder_String_k Tryd.lays169 Tryd.Builder_Extra_169 B b l w h h0
open Go.RowKit in
/-- (*strings.Builder).String OF A BUILDER THAT HOLDS NO BYTE: the empty string; THE FORM '_k': OVER 'Lib.IsBuilderF' (a builder that 'String()' may have read), AND WITH THE FRAME THAT REACHES ABOVE THE BUILDER: 'Lib.OthersKept': every block that is not b and is no row of uint8's stands as it stood: the iterator of a range among them. (LAID: no walk: one application.) -/
theorem Tryd.Builder_String_empty_k (B b : Nat) (w : World) (h : Lib.IsBuilderF 44 5 B b [] w) (hBw : B ≤ w.heap.size) :
    Calls Tryd.prog 22 #[.pointer (some ⟨b, 0, none⟩)] w fun e w' => e = .returned (.string ⟨#[]⟩) ∧ (Lib.IsBuilderF 44 5 B b [] w' ∧ Below B w w' ∧ Lib.OthersKept 5 (some b) w w') := Any.Builder_String_empty_k Tryd.lays169 Tryd.Builder_Extra_169 B b w h hBw
open Go.RowKit in
/-- (*strings.Builder).String: "String returns the accumulated string.": WHATEVER THE BUILDER HOLDS; THE FORM '_k': OVER 'Lib.IsBuilderF' (a builder that 'String()' may have read), AND WITH THE FRAME THAT REACHES ABOVE THE BUILDER: 'Lib.OthersKept': every block that is not b and is no row of uint8's stands as it stood: the iterator of a range among them. (LAID: no walk: one application.) -/
theorem Tryd.Builder_String_any_k (B b : Nat) (l : List UInt8) (w : World) (h : Lib.IsBuilderF 44 5 B b (Lib.byteCells l) w) (hBw : B ≤ w.heap.size) :
    Calls Tryd.prog 22 #[.pointer (some ⟨b, 0, none⟩)] w fun e w' => e = .returned (.string ⟨l.toArray⟩) ∧ (Lib.IsBuilderF 44 5 B b (Lib.byteCells l) w' ∧ Below B w w' ∧ Lib.OthersKept 5 (some b) w w') := Any.Builder_String_any_k Tryd.lays169 Tryd.Builder_Extra_169 B b l w h hBw
open Go.RowKit in
/-- (*strings.Builder).grow (no doc but "grow copies the buffer to a new, larger buffer so that there are at least n bytes of capacity beyond len(b.buf)."): AT A BUILDER WITHOUT A BUFFER: a new row of whatever bytes for its buffer, none of them its own yet. Three draws. (LAID: no walk: one application.) -/
theorem Tryd.Builder_grow_fresh_cap (B b n : Nat) (w : World) (hB : B ≤ b) (hbk : w.heap[b]? = some (.cells #[.pointer (some ⟨b, 0, none⟩), .slice none 0 0] 44 (0, 0))) (hBw : B ≤ w.heap.size) (hn : n ≤ 281474976710656) :
    Calls Tryd.prog 51 #[.pointer (some ⟨b, 0, none⟩), .int .i64 n] w fun e w' => e = .returned (.tuple #[]) ∧ (Lib.BuilderAt 44 5 B b (.pointer (some ⟨b, 0, none⟩)) [] w' ∧ Below B w w') ∧ ∃ p cap, w'.cell? ⟨b, 1, none⟩ = some (.slice p 0 cap) ∧ n ≤ cap := Any.Builder_grow_fresh_cap Tryd.lays241 Tryd.Builder_Extra_241 B b n w hB hbk hBw hn
open Go.RowKit in
/-- (*strings.Builder).Grow AT A BUILDER THAT HAS NOT BEEN WRITTEN ('var b strings.Builder; b.Grow(n)'): "Grow grows b's capacity, if necessary, to guarantee space for another n bytes.": it holds no byte behind it as before it. (LAID: no walk: one application.) -/
theorem Tryd.Builder_Grow_fresh_cap (B b n : Nat) (w : World) (hB : B ≤ b) (hbk : w.heap[b]? = some (.cells #[.pointer none, .slice none 0 0] 44 (0, 0))) (hBw : B ≤ w.heap.size) (hn : n ≤ 281474976710656) :
    Calls Tryd.prog 36 #[.pointer (some ⟨b, 0, none⟩), .int .i64 n] w fun e w' => e = .returned (.tuple #[]) ∧ (Lib.BuilderAt 44 5 B b (.pointer (some ⟨b, 0, none⟩)) [] w' ∧ Below B w w') ∧ ∃ p cap, w'.cell? ⟨b, 1, none⟩ = some (.slice p 0 cap) ∧ n ≤ cap := Any.Builder_Grow_fresh_cap Tryd.lays165 Tryd.Builder_Extra_165 B b n w hB hbk hBw hn
def Tryd.lays217_ren : Go.Shelf.Ren := ⟨fun | 217 => 71 | 266 => 76 | n => n, fun | 9 => 9 | 5 => 5 | 3 => 3 | n => n, fun | n => n⟩
theorem Tryd.lays217 : Go.Proofs.Lays.n217 Tryd.prog Tryd.lays217_ren := {
  mixed := by kernel_rfl
  f217 := Tryd.func71.trans (congrArg some (by kernel_rfl))
  f266 := Tryd.func76.trans (congrArg some (by kernel_rfl))
  t3 := Tryd.underlying3
  a3 := Tryd.isAgg3
  z3 := Tryd.sizeOf3
  v3 := Tryd.zeroValue3
  t5 := Tryd.underlying5
  a5 := Tryd.isAgg5
  z5 := Tryd.sizeOf5
  v5 := Tryd.zeroValue5
  t9 := Tryd.underlying9
  a9 := Tryd.isAgg9
  z9 := Tryd.sizeOf9
  v9 := Tryd.zeroValue9 }
open Go.RowKit Go.Lib in
/-- internal/stringslite.IndexByte (what strings.IndexByte calls): IT RETURNS 'Lib.indexByte s c'; the world is as it was. (LAID: no walk: one application.) -/
theorem Tryd.stringslite_IndexByte (s : ByteArray) (c : Int) (w : World) :
    Calls Tryd.prog 71 #[.string s, .int .u8 c] w fun e w' => e = .returned (.int .i64 (Lib.indexByte s.data.toList c.toNat.toUInt8)) ∧ w' = w := Any.stringslite_IndexByte Tryd.lays217 s c w
def Tryd.lays224_ren : Go.Shelf.Ren := ⟨fun | 224 => 65 | n => n, fun | 3 => 3 | n => n, fun | n => n⟩
theorem Tryd.lays224 : Go.Proofs.Lays.n224 Tryd.prog Tryd.lays224_ren := {
  mixed := by kernel_rfl
  f224 := Tryd.func65.trans (congrArg some (by kernel_rfl))
  t3 := Tryd.underlying3
  a3 := Tryd.isAgg3
  z3 := Tryd.sizeOf3
  v3 := Tryd.zeroValue3 }
open Go.RowKit Go.Lib in
/-- internal/bytealg.Cutover: "Cutover reports the number of failures of IndexByte we should tolerate before switching over to Index. n is the number of bytes processed so far.": on amd64: (n + 16) / 8. (LAID: no walk: one application.) -/
theorem Tryd.bytealg_Cutover (n : Int) (h0 : 0 ≤ n) (h1 : n < 4611686018427387904) (w : World) :
    Calls Tryd.prog 65 #[.int .i64 n] w fun e w' => e = .returned (.int .i64 ((n + 16) / 8)) ∧ w' = w := Any.bytealg_Cutover Tryd.lays224 n h0 h1 w
def Tryd.lays206_ren : Go.Shelf.Ren := ⟨fun | 206 => 50 | n => n, fun | 9 => 9 | 4 => 4 | 3 => 3 | n => n, fun | n => n⟩
theorem Tryd.lays206 : Go.Proofs.Lays.n206 Tryd.prog Tryd.lays206_ren := {
  mixed := by kernel_rfl
  f206 := Tryd.func50.trans (congrArg some (by kernel_rfl))
  t3 := Tryd.underlying3
  a3 := Tryd.isAgg3
  z3 := Tryd.sizeOf3
  v3 := Tryd.zeroValue3
  t4 := Tryd.underlying4
  a4 := Tryd.isAgg4
  z4 := Tryd.sizeOf4
  v4 := Tryd.zeroValue4
  t9 := Tryd.underlying9
  a9 := Tryd.isAgg9
  z9 := Tryd.sizeOf9
  v9 := Tryd.zeroValue9 }
open Go.RowKit Go.Lib in
/-- internal/stringslite.HasPrefix (what strings.HasPrefix calls). (LAID: no walk: one application.) -/
theorem Tryd.stringslite_HasPrefix (s p : ByteArray) (w : World) :
    Calls Tryd.prog 50 #[.string s, .string p] w fun e w' => e = .returned (.bool (Lib.hasPrefix s.data.toList p.data.toList)) ∧ w' = w := Any.stringslite_HasPrefix Tryd.lays206 s p w
def Tryd.lays99_ren : Go.Shelf.Ren := ⟨fun | 99 => 35 | 206 => 50 | n => n, fun | 9 => 9 | 4 => 4 | 3 => 3 | n => n, fun | n => n⟩
theorem Tryd.lays99 : Go.Proofs.Lays.n99 Tryd.prog Tryd.lays99_ren := {
  mixed := by kernel_rfl
  f99 := Tryd.func35.trans (congrArg some (by kernel_rfl))
  f206 := Tryd.func50.trans (congrArg some (by kernel_rfl))
  t3 := Tryd.underlying3
  a3 := Tryd.isAgg3
  z3 := Tryd.sizeOf3
  v3 := Tryd.zeroValue3
  t4 := Tryd.underlying4
  a4 := Tryd.isAgg4
  z4 := Tryd.sizeOf4
  v4 := Tryd.zeroValue4
  t9 := Tryd.underlying9
  a9 := Tryd.isAgg9
  z9 := Tryd.sizeOf9
  v9 := Tryd.zeroValue9 }
open Go.RowKit Go.Lib in
/-- strings.HasPrefix: "HasPrefix reports whether the string s begins with prefix.": IT RETURNS 'Lib.hasPrefix s prefix'; the world is as it was. (LAID: no walk: one application.) -/
theorem Tryd.strings_HasPrefix (s p : ByteArray) (w : World) :
    Calls Tryd.prog 35 #[.string s, .string p] w fun e w' => e = .returned (.bool (Lib.hasPrefix s.data.toList p.data.toList)) ∧ w' = w := Any.strings_HasPrefix Tryd.lays99 s p w
def Tryd.lays152_ren : Go.Shelf.Ren := ⟨fun | 152 => 56 | 137 => 63 | 119 => 64 | 224 => 65 | 225 => 66 | 217 => 71 | 266 => 76 | n => n, fun | 9 => 9 | 21 => 21 | 3 => 3 | 4 => 4 | 5 => 5 | 0 => 0 | 46 => 33 | n => n, fun | n => n⟩
theorem Tryd.lays152 : Go.Proofs.Lays.n152 Tryd.prog Tryd.lays152_ren := {
  mixed := by kernel_rfl
  f119 := Tryd.func64.trans (congrArg some (by kernel_rfl))
  f137 := Tryd.func63.trans (congrArg some (by kernel_rfl))
  f152 := Tryd.func56.trans (congrArg some (by kernel_rfl))
  f217 := Tryd.func71.trans (congrArg some (by kernel_rfl))
  f224 := Tryd.func65.trans (congrArg some (by kernel_rfl))
  f225 := Tryd.func66.trans (congrArg some (by kernel_rfl))
  f266 := Tryd.func76.trans (congrArg some (by kernel_rfl))
  t0 := Tryd.underlying0
  a0 := Tryd.isAgg0
  z0 := Tryd.sizeOf0
  v0 := Tryd.zeroValue0
  t3 := Tryd.underlying3
  a3 := Tryd.isAgg3
  z3 := Tryd.sizeOf3
  v3 := Tryd.zeroValue3
  t4 := Tryd.underlying4
  a4 := Tryd.isAgg4
  z4 := Tryd.sizeOf4
  v4 := Tryd.zeroValue4
  t5 := Tryd.underlying5
  a5 := Tryd.isAgg5
  z5 := Tryd.sizeOf5
  v5 := Tryd.zeroValue5
  t9 := Tryd.underlying9
  a9 := Tryd.isAgg9
  z9 := Tryd.sizeOf9
  v9 := Tryd.zeroValue9
  t21 := Tryd.underlying21
  a21 := Tryd.isAgg21
  z21 := Tryd.sizeOf21
  v21 := Tryd.zeroValue21
  t46 := Tryd.underlying33
  a46 := Tryd.isAgg33
  z46 := Tryd.sizeOf33
  v46 := Tryd.zeroValue33 }
open Go.RowKit Go.Lib in
theorem Tryd.strings_IndexRune_ascii (s : ByteArray) (r : Int) (w : World) (h0 : 0 ≤ r) (h1 : r < 128) :
    Calls Tryd.prog 56 #[.string s, .int .i32 r] w fun e w' => e = .returned (.int .i64 (Lib.indexByte s.data.toList r.toNat.toUInt8)) ∧ w' = w := Any.strings_IndexRune_ascii Tryd.lays152 s r w h0 h1
def Tryd.lays151_ren : Go.Shelf.Ren := ⟨fun | 151 => 44 | 152 => 56 | 137 => 63 | 119 => 64 | 224 => 65 | 225 => 66 | 217 => 71 | 266 => 76 | n => n, fun | 9 => 9 | 21 => 21 | 4 => 4 | 3 => 3 | 5 => 5 | 0 => 0 | 46 => 33 | n => n, fun | n => n⟩
theorem Tryd.lays151 : Go.Proofs.Lays.n151 Tryd.prog Tryd.lays151_ren := {
  mixed := by kernel_rfl
  f119 := Tryd.func64.trans (congrArg some (by kernel_rfl))
  f137 := Tryd.func63.trans (congrArg some (by kernel_rfl))
  f151 := Tryd.func44.trans (congrArg some (by kernel_rfl))
  f152 := Tryd.func56.trans (congrArg some (by kernel_rfl))
  f217 := Tryd.func71.trans (congrArg some (by kernel_rfl))
  f224 := Tryd.func65.trans (congrArg some (by kernel_rfl))
  f225 := Tryd.func66.trans (congrArg some (by kernel_rfl))
  f266 := Tryd.func76.trans (congrArg some (by kernel_rfl))
  t0 := Tryd.underlying0
  a0 := Tryd.isAgg0
  z0 := Tryd.sizeOf0
  v0 := Tryd.zeroValue0
  t3 := Tryd.underlying3
  a3 := Tryd.isAgg3
  z3 := Tryd.sizeOf3
  v3 := Tryd.zeroValue3
  t4 := Tryd.underlying4
  a4 := Tryd.isAgg4
  z4 := Tryd.sizeOf4
  v4 := Tryd.zeroValue4
  t5 := Tryd.underlying5
  a5 := Tryd.isAgg5
  z5 := Tryd.sizeOf5
  v5 := Tryd.zeroValue5
  t9 := Tryd.underlying9
  a9 := Tryd.isAgg9
  z9 := Tryd.sizeOf9
  v9 := Tryd.zeroValue9
  t21 := Tryd.underlying21
  a21 := Tryd.isAgg21
  z21 := Tryd.sizeOf21
  v21 := Tryd.zeroValue21
  t46 := Tryd.underlying33
  a46 := Tryd.isAgg33
  z46 := Tryd.sizeOf33
  v46 := Tryd.zeroValue33 }
open Go.RowKit Go.Lib in
theorem Tryd.strings_ContainsRune_ascii (s : ByteArray) (r : Int) (w : World) (h0 : 0 ≤ r) (h1 : r < 128) :
    Calls Tryd.prog 44 #[.string s, .int .i32 r] w fun e w' => e = .returned (.bool (decide (0 ≤ Lib.indexByte s.data.toList r.toNat.toUInt8))) ∧ w' = w := Any.strings_ContainsRune_ascii Tryd.lays151 s r w h0 h1
def Tryd.lays227_ren : Go.Shelf.Ren := ⟨fun | 227 => 27 | n => n, fun | 9 => 9 | 116 => 52 | 4 => 4 | 0 => 0 | 3 => 3 | 5 => 5 | n => n, fun | n => n⟩
theorem Tryd.lays227 : Go.Proofs.Lays.n227 Tryd.prog Tryd.lays227_ren := {
  mixed := by kernel_rfl
  f227 := Tryd.func27.trans (congrArg some (by kernel_rfl))
  t0 := Tryd.underlying0
  a0 := Tryd.isAgg0
  z0 := Tryd.sizeOf0
  v0 := Tryd.zeroValue0
  t3 := Tryd.underlying3
  a3 := Tryd.isAgg3
  z3 := Tryd.sizeOf3
  v3 := Tryd.zeroValue3
  t4 := Tryd.underlying4
  a4 := Tryd.isAgg4
  z4 := Tryd.sizeOf4
  v4 := Tryd.zeroValue4
  t5 := Tryd.underlying5
  a5 := Tryd.isAgg5
  z5 := Tryd.sizeOf5
  v5 := Tryd.zeroValue5
  t9 := Tryd.underlying9
  a9 := Tryd.isAgg9
  z9 := Tryd.sizeOf9
  v9 := Tryd.zeroValue9
  t116 := Tryd.underlying52
  a116 := Tryd.isAgg52
  z116 := Tryd.sizeOf52 }
open Go.RowKit Go.Lib in
theorem Tryd.strings_makeASCIISet (hv116 : ∀ w, (zeroValue 52).run Tryd.prog w = .ok (.agg (Array.replicate 256 (.bool false))) w) (chars : ByteArray) (w : World) (hs : chars.size < 4294967281) (hascii : ∀ (j : Nat) b, chars.data.toList[j]? = some b → b.toNat < 128) :
    Calls Tryd.prog 27 #[.string chars] w fun e w' => e = .returned (.tuple #[.agg (Lib.setCells chars.data.toList), .bool true]) ∧ w' = w.alloc (.cells (Lib.setCells chars.data.toList) 52) := Any.strings_makeASCIISet Tryd.lays227 hv116 (by kernel_rfl) chars w hs hascii
def Tryd.lays228_ren : Go.Shelf.Ren := ⟨fun | 228 => 42 | n => n, fun | 124 => 56 | 5 => 5 | 4 => 4 | 0 => 0 | 116 => 52 | n => n, fun | n => n⟩
theorem Tryd.lays228 : Go.Proofs.Lays.n228 Tryd.prog Tryd.lays228_ren := {
  mixed := by kernel_rfl
  f228 := Tryd.func42.trans (congrArg some (by kernel_rfl))
  t0 := Tryd.underlying0
  a0 := Tryd.isAgg0
  z0 := Tryd.sizeOf0
  v0 := Tryd.zeroValue0
  t4 := Tryd.underlying4
  a4 := Tryd.isAgg4
  z4 := Tryd.sizeOf4
  v4 := Tryd.zeroValue4
  t5 := Tryd.underlying5
  a5 := Tryd.isAgg5
  z5 := Tryd.sizeOf5
  v5 := Tryd.zeroValue5
  t116 := Tryd.underlying52
  a116 := Tryd.isAgg52
  z116 := Tryd.sizeOf52
  t124 := Tryd.underlying56
  a124 := Tryd.isAgg56
  z124 := Tryd.sizeOf56
  v124 := Tryd.zeroValue56 }
open Go.RowKit Go.Lib in
/-- '(as *asciiSet) contains(c)': 'as[c]': the set lies at block b, whole. (LAID: no walk: one application.) -/
theorem Tryd.asciiSet_contains (b : Nat) (x : UInt8) (v : Bool) (w : World) (hc : w.cell? ⟨b, x.toNat, none⟩ = some (.bool v)) :
    Calls Tryd.prog 42 #[.pointer (some ⟨b, 0, none⟩), .int .u8 x.toNat] w fun e w' => e = .returned (.bool v) ∧ w' = w := Any.asciiSet_contains Tryd.lays228 b x v w hc
def Tryd.lays264_ren : Go.Shelf.Ren := ⟨fun | 264 => 49 | n => n, fun | 53 => 22 | 46 => 33 | n => n, fun | n => n⟩
theorem Tryd.lays264 : Go.Proofs.Lays.n264 Tryd.prog Tryd.lays264_ren := {
  mixed := by kernel_rfl
  f264 := Tryd.func49.trans (congrArg some (by kernel_rfl))
  t46 := Tryd.underlying33
  a46 := Tryd.isAgg33
  z46 := Tryd.sizeOf33
  v46 := Tryd.zeroValue33
  t53 := Tryd.underlying22
  a53 := Tryd.isAgg22
  z53 := Tryd.sizeOf22
  v53 := Tryd.zeroValue22 }
open Go.RowKit Go.Lib in
theorem Tryd.bits_Mul64 (x y : Nat) (hx : x < 18446744073709551616) (hy : y < 18446744073709551616) (w : World) :
    Calls Tryd.prog 49 #[.int .u64 x, .int .u64 y] w fun e w' => e = .returned (.tuple #[.int .u64 ((x * y / 18446744073709551616 : Nat) : Int), .int .u64 ((x * y % 18446744073709551616 : Nat) : Int)]) ∧ w' = w := Any.bits_Mul64 Tryd.lays264 x y hx hy w
def Tryd.lays212_ren : Go.Shelf.Ren := ⟨fun | 212 => 34 | 263 => 48 | 264 => 49 | n => n, fun | 46 => 33 | 51 => 69 | 146 => 87 | 53 => 22 | 148 => 89 | n => n, fun | n => n⟩
theorem Tryd.lays212 : Go.Proofs.Lays.n212 Tryd.prog Tryd.lays212_ren := {
  mixed := by kernel_rfl
  f212 := Tryd.func34.trans (congrArg some (by kernel_rfl))
  f263 := Tryd.func48.trans (congrArg some (by kernel_rfl))
  f264 := Tryd.func49.trans (congrArg some (by kernel_rfl))
  t46 := Tryd.underlying33
  a46 := Tryd.isAgg33
  z46 := Tryd.sizeOf33
  v46 := Tryd.zeroValue33
  t51 := Tryd.underlying69
  a51 := Tryd.isAgg69
  z51 := Tryd.sizeOf69
  v51 := Tryd.zeroValue69
  t53 := Tryd.underlying22
  a53 := Tryd.isAgg22
  z53 := Tryd.sizeOf22
  v53 := Tryd.zeroValue22
  t146 := Tryd.underlying87
  a146 := Tryd.isAgg87
  z146 := Tryd.sizeOf87
  v146 := Tryd.zeroValue87
  t148 := Tryd.underlying89
  a148 := Tryd.isAgg89
  z148 := Tryd.sizeOf89
  v148 := Tryd.zeroValue89 }
open Go.RowKit Go.Lib in
/-- math/bits.Mul: "Mul returns the full-width product of x and y": on a machine of 64 bits: Mul64's. (LAID: no walk: one application.) -/
theorem Tryd.bits_Mul (x y : Nat) (hx : x < 18446744073709551616) (hy : y < 18446744073709551616) (w : World) :
    Calls Tryd.prog 34 #[.int .u64 x, .int .u64 y] w fun e w' => e = .returned (.tuple #[.int .u64 ((x * y / 18446744073709551616 : Nat) : Int), .int .u64 ((x * y % 18446744073709551616 : Nat) : Int)]) ∧ w' = w := Any.bits_Mul Tryd.lays212 x y hx hy w
def Tryd.lays105_ren : Go.Shelf.Ren := ⟨fun | 105 => 18 | 212 => 34 | 99 => 35 | 165 => 36 | 166 => 37 | 170 => 38 | 169 => 22 | 263 => 48 | 264 => 49 | 206 => 50 | 240 => 40 | 241 => 51 | 276 => 54 | 277 => 60 | n => n, fun | 9 => 9 | 3 => 3 | 4 => 4 | 20 => 20 | 0 => 0 | 46 => 33 | 109 => 58 | 5 => 5 | 72 => 44 | 76 => 62 | 51 => 69 | 146 => 87 | 53 => 22 | 148 => 89 | 70 => 42 | 37 => 39 | 75 => 46 | 127 => 81 | 164 => 92 | 80 => 48 | n => n, fun | n => n⟩
theorem Tryd.lays105 : Go.Proofs.Lays.n105 Tryd.prog Tryd.lays105_ren := {
  mixed := by kernel_rfl
  f99 := Tryd.func35.trans (congrArg some (by kernel_rfl))
  f105 := Tryd.func18.trans (congrArg some (by kernel_rfl))
  f165 := Tryd.func36.trans (congrArg some (by kernel_rfl))
  f166 := Tryd.func37.trans (congrArg some (by kernel_rfl))
  f169 := Tryd.func22.trans (congrArg some (by kernel_rfl))
  f170 := Tryd.func38.trans (congrArg some (by kernel_rfl))
  f206 := Tryd.func50.trans (congrArg some (by kernel_rfl))
  f212 := Tryd.func34.trans (congrArg some (by kernel_rfl))
  f240 := Tryd.func40.trans (congrArg some (by kernel_rfl))
  f241 := Tryd.func51.trans (congrArg some (by kernel_rfl))
  f263 := Tryd.func48.trans (congrArg some (by kernel_rfl))
  f264 := Tryd.func49.trans (congrArg some (by kernel_rfl))
  f276 := Tryd.func54.trans (congrArg some (by kernel_rfl))
  f277 := Tryd.func60.trans (congrArg some (by kernel_rfl))
  t0 := Tryd.underlying0
  a0 := Tryd.isAgg0
  z0 := Tryd.sizeOf0
  v0 := Tryd.zeroValue0
  t3 := Tryd.underlying3
  a3 := Tryd.isAgg3
  z3 := Tryd.sizeOf3
  v3 := Tryd.zeroValue3
  t4 := Tryd.underlying4
  a4 := Tryd.isAgg4
  z4 := Tryd.sizeOf4
  v4 := Tryd.zeroValue4
  t5 := Tryd.underlying5
  a5 := Tryd.isAgg5
  z5 := Tryd.sizeOf5
  v5 := Tryd.zeroValue5
  t9 := Tryd.underlying9
  a9 := Tryd.isAgg9
  z9 := Tryd.sizeOf9
  v9 := Tryd.zeroValue9
  t20 := Tryd.underlying20
  a20 := Tryd.isAgg20
  z20 := Tryd.sizeOf20
  v20 := Tryd.zeroValue20
  t37 := Tryd.underlying39
  a37 := Tryd.isAgg39
  z37 := Tryd.sizeOf39
  v37 := Tryd.zeroValue39
  t46 := Tryd.underlying33
  a46 := Tryd.isAgg33
  z46 := Tryd.sizeOf33
  v46 := Tryd.zeroValue33
  t51 := Tryd.underlying69
  a51 := Tryd.isAgg69
  z51 := Tryd.sizeOf69
  v51 := Tryd.zeroValue69
  t53 := Tryd.underlying22
  a53 := Tryd.isAgg22
  z53 := Tryd.sizeOf22
  v53 := Tryd.zeroValue22
  t70 := Tryd.underlying42
  a70 := Tryd.isAgg42
  z70 := Tryd.sizeOf42
  v70 := Tryd.zeroValue42
  t72 := Tryd.underlying44
  a72 := Tryd.isAgg44
  z72 := Tryd.sizeOf44
  v72 := Tryd.zeroValue44
  t75 := Tryd.underlying46
  a75 := Tryd.isAgg46
  z75 := Tryd.sizeOf46
  v75 := Tryd.zeroValue46
  t76 := Tryd.underlying62
  a76 := Tryd.isAgg62
  z76 := Tryd.sizeOf62
  v76 := Tryd.zeroValue62
  t109 := Tryd.underlying58
  a109 := Tryd.isAgg58
  z109 := Tryd.sizeOf58
  v109 := Tryd.zeroValue58
  t127 := Tryd.underlying81
  a127 := Tryd.isAgg81
  z127 := Tryd.sizeOf81
  v127 := Tryd.zeroValue81
  t146 := Tryd.underlying87
  a146 := Tryd.isAgg87
  z146 := Tryd.sizeOf87
  v146 := Tryd.zeroValue87
  t148 := Tryd.underlying89
  a148 := Tryd.isAgg89
  z148 := Tryd.sizeOf89
  v148 := Tryd.zeroValue89
  t164 := Tryd.underlying92
  a164 := Tryd.isAgg92
  z164 := Tryd.sizeOf92
  v164 := Tryd.zeroValue92 }
theorem Tryd.Builder_Extra_105 : Builder.Extra Tryd.prog Tryd.lays105_ren := {
  sizeBuilder := by kernel_rfl
  liesBuilder := by kernel_rfl
  t5 := Tryd.underlying5
  a5 := Tryd.isAgg5
  z5 := Tryd.sizeOf5
  v5 := Tryd.zeroValue5
  infoByte := by kernel_rfl
  cellsByte := by kernel_rfl
  sizeByte := by kernel_rfl
  neB5 := by decide }
open Go.RowKit Go.Lib in
/-- THE MAIN CASE: at least two copies of a string that is not empty. (LAID: no walk: one application.) -/
theorem Tryd.strings_Repeat_main (s : ByteArray) (c : Nat) (w : World) (hc2 : 2 ≤ c) (hc : c ≤ 9223372036854775807) (hlen : s.size * c ≤ 140737488355328) (h0 : 0 < s.size) :
    Calls Tryd.prog 18 #[.string s, .int .i64 c] w fun e w' => e = .returned (.string ⟨(Lib.repeatL s.data.toList c).toArray⟩) ∧ Below w.heap.size w w' := Any.strings_Repeat_main Tryd.lays105 Tryd.Builder_Extra_105 s c w hc2 hc hlen h0
open Go.RowKit Go.Lib in
theorem Tryd.strings_Repeat_zero (s : ByteArray) (w : World) :
    Calls Tryd.prog 18 #[.string s, .int .i64 0] w fun e w' => e = .returned (.string ⟨#[]⟩) ∧ w' = w := Any.strings_Repeat_zero Tryd.lays105 s w
open Go.RowKit Go.Lib in
theorem Tryd.strings_Repeat_one (s : ByteArray) (w : World) :
    Calls Tryd.prog 18 #[.string s, .int .i64 1] w fun e w' => e = .returned (.string s) ∧ w' = w := Any.strings_Repeat_one Tryd.lays105 s w
open Go.RowKit Go.Lib in
/-- Copies of the empty string. (LAID: no walk: one application.) -/
theorem Tryd.strings_Repeat_empty (s : ByteArray) (c : Nat) (w : World) (hc2 : 2 ≤ c) (hc : c ≤ 9223372036854775807) (h0 : s.size = 0) :
    Calls Tryd.prog 18 #[.string s, .int .i64 c] w fun e w' => e = .returned (.string ⟨#[]⟩) ∧ w' = w := Any.strings_Repeat_empty Tryd.lays105 s c w hc2 hc h0
open Go.RowKit Go.Lib in
/-- count < 0: "It panics if count is negative". (LAID: no walk: one application.) -/
theorem Tryd.strings_Repeat_negative (s : ByteArray) (c : Int) (w : World) (hc : c < 0) :
    Calls Tryd.prog 18 #[.string s, .int .i64 c] w fun e w' => e = .panicked [{ v := repeatPanic Tryd.lays105_ren "strings: negative Repeat count", recovered := false }] ∧ w' = w := Any.strings_Repeat_negative Tryd.lays105 s c w hc
open Go.RowKit Go.Lib in
/-- len(s) * count is no int: ".. or if the result of (len(s) * count) overflows". (LAID: no walk: one application.) -/
theorem Tryd.strings_Repeat_overflow (s : ByteArray) (c : Nat) (w : World) (hc : c ≤ 9223372036854775807) (hs : s.size ≤ 9223372036854775807) (hbig : 9223372036854775807 < s.size * c) :
    Calls Tryd.prog 18 #[.string s, .int .i64 c] w fun e w' => e = .panicked [{ v := repeatPanic Tryd.lays105_ren "strings: Repeat output length overflow", recovered := false }] ∧ w' = w := Any.strings_Repeat_overflow Tryd.lays105 s c w hc hs hbig
open Go.RowKit Go.Lib in
/-- **strings.Repeat: count ≥ 0, the result within one allocation: count copies of s.** (LAID: no walk: one application.) -/
theorem Tryd.strings_Repeat (s : ByteArray) (c : Nat) (w : World) (hc : c ≤ 9223372036854775807) (hlen : s.size * c ≤ 140737488355328) :
    Calls Tryd.prog 18 #[.string s, .int .i64 c] w fun e w' => e = .returned (.string ⟨(Lib.repeatL s.data.toList c).toArray⟩) ∧ Below w.heap.size w w' := Any.strings_Repeat Tryd.lays105 Tryd.Builder_Extra_105 s c w hc hlen
def Tryd.lays260_ren : Go.Shelf.Ren := ⟨fun | 260 => 55 | n => n, fun | 9 => 9 | 21 => 21 | 3 => 3 | 4 => 4 | 5 => 5 | 119 => 104 | 0 => 0 | 46 => 33 | 139 => 107 | 138 => 106 | n => n, fun | 3 => 0 | 4 => 1 | n => n⟩
theorem Tryd.lays260 : Go.Proofs.Lays.n260 Tryd.prog Tryd.lays260_ren := {
  mixed := by kernel_rfl
  f260 := Tryd.func55.trans (congrArg some (by kernel_rfl))
  t0 := Tryd.underlying0
  a0 := Tryd.isAgg0
  z0 := Tryd.sizeOf0
  v0 := Tryd.zeroValue0
  t3 := Tryd.underlying3
  a3 := Tryd.isAgg3
  z3 := Tryd.sizeOf3
  v3 := Tryd.zeroValue3
  t4 := Tryd.underlying4
  a4 := Tryd.isAgg4
  z4 := Tryd.sizeOf4
  v4 := Tryd.zeroValue4
  t5 := Tryd.underlying5
  a5 := Tryd.isAgg5
  z5 := Tryd.sizeOf5
  v5 := Tryd.zeroValue5
  t9 := Tryd.underlying9
  a9 := Tryd.isAgg9
  z9 := Tryd.sizeOf9
  v9 := Tryd.zeroValue9
  t21 := Tryd.underlying21
  a21 := Tryd.isAgg21
  z21 := Tryd.sizeOf21
  v21 := Tryd.zeroValue21
  t46 := Tryd.underlying33
  a46 := Tryd.isAgg33
  z46 := Tryd.sizeOf33
  v46 := Tryd.zeroValue33
  t119 := Tryd.underlying104
  a119 := Tryd.isAgg104
  z119 := Tryd.sizeOf104
  t138 := Tryd.underlying106
  a138 := Tryd.isAgg106
  z138 := Tryd.sizeOf106
  v138 := Tryd.zeroValue106
  t139 := Tryd.underlying107
  a139 := Tryd.isAgg107
  z139 := Tryd.sizeOf107
  v139 := Tryd.zeroValue107
  g3 := by kernel_rfl
  g4 := by kernel_rfl }
open Go.RowKit Go.Lib in
theorem Tryd.utf8_decodeRuneInStringSlow (s : ByteArray) (w : World) (hT : Lib.Utf8Tabs 0 1 w) :
    Calls Tryd.prog 55 #[.string s] w fun e w' => e = .returned (.tuple #[.int .i32 (Lib.decodeGo s).1, .int .i64 (Lib.decodeGo s).2]) ∧ Below w.heap.size w w' := Any.utf8_decodeRuneInStringSlow Tryd.lays260 s w hT
end Go.Proofs

/- The shelf's contracts of strings.Builder's writers, laid at this translation by hand: the one command passes them over here. -/
namespace Go.Proofs
open Go.Shelf
def Tryd.bl_ren : Go.Shelf.Ren := ⟨fun | 240 => 40 | 276 => 54 | 166 => 37 | n => n, fun | 0 => 0 | 3 => 3 | 4 => 4 | 5 => 5 | 9 => 9 | 20 => 20 | 37 => 39 | 70 => 42 | 72 => 44 | 75 => 46 | 80 => 48 | 164 => 92 | n => n, fun | n => n⟩
theorem Tryd.bl240 : Lays.n240 Tryd.prog Tryd.bl_ren := {
  mixed := by kernel_rfl
  f240 := Tryd.func40.trans (congrArg some (by kernel_rfl))
  f276 := Tryd.func54.trans (congrArg some (by kernel_rfl))
  t0 := Tryd.underlying0
  a0 := Tryd.isAgg0
  z0 := Tryd.sizeOf0
  v0 := Tryd.zeroValue0
  t4 := Tryd.underlying4
  a4 := Tryd.isAgg4
  z4 := Tryd.sizeOf4
  v4 := Tryd.zeroValue4
  t9 := Tryd.underlying9
  a9 := Tryd.isAgg9
  z9 := Tryd.sizeOf9
  v9 := Tryd.zeroValue9
  t20 := Tryd.underlying20
  a20 := Tryd.isAgg20
  z20 := Tryd.sizeOf20
  v20 := Tryd.zeroValue20
  t70 := Tryd.underlying42
  a70 := Tryd.isAgg42
  z70 := Tryd.sizeOf42
  v70 := Tryd.zeroValue42
  t72 := Tryd.underlying44
  a72 := Tryd.isAgg44
  z72 := Tryd.sizeOf44
  v72 := Tryd.zeroValue44
  t164 := Tryd.underlying92
  a164 := Tryd.isAgg92
  z164 := Tryd.sizeOf92
  v164 := Tryd.zeroValue92 }
theorem Tryd.bl166 : Lays.n166 Tryd.prog Tryd.bl_ren := {
  mixed := by kernel_rfl
  f166 := Tryd.func37.trans (congrArg some (by kernel_rfl))
  f240 := Tryd.func40.trans (congrArg some (by kernel_rfl))
  f276 := Tryd.func54.trans (congrArg some (by kernel_rfl))
  t0 := Tryd.underlying0
  a0 := Tryd.isAgg0
  z0 := Tryd.sizeOf0
  v0 := Tryd.zeroValue0
  t3 := Tryd.underlying3
  a3 := Tryd.isAgg3
  z3 := Tryd.sizeOf3
  v3 := Tryd.zeroValue3
  t4 := Tryd.underlying4
  a4 := Tryd.isAgg4
  z4 := Tryd.sizeOf4
  v4 := Tryd.zeroValue4
  t9 := Tryd.underlying9
  a9 := Tryd.isAgg9
  z9 := Tryd.sizeOf9
  v9 := Tryd.zeroValue9
  t20 := Tryd.underlying20
  a20 := Tryd.isAgg20
  z20 := Tryd.sizeOf20
  v20 := Tryd.zeroValue20
  t37 := Tryd.underlying39
  a37 := Tryd.isAgg39
  z37 := Tryd.sizeOf39
  v37 := Tryd.zeroValue39
  t70 := Tryd.underlying42
  a70 := Tryd.isAgg42
  z70 := Tryd.sizeOf42
  v70 := Tryd.zeroValue42
  t72 := Tryd.underlying44
  a72 := Tryd.isAgg44
  z72 := Tryd.sizeOf44
  v72 := Tryd.zeroValue44
  t75 := Tryd.underlying46
  a75 := Tryd.isAgg46
  z75 := Tryd.sizeOf46
  v75 := Tryd.zeroValue46
  t164 := Tryd.underlying92
  a164 := Tryd.isAgg92
  z164 := Tryd.sizeOf92
  v164 := Tryd.zeroValue92 }
theorem Tryd.bl_X72 : Builder.X72 Tryd.prog Tryd.bl_ren := {
  sizeBuilder := by kernel_rfl
  liesBuilder := by kernel_rfl }
theorem Tryd.bl_Extra : Builder.Extra Tryd.prog Tryd.bl_ren := {
  sizeBuilder := by kernel_rfl
  liesBuilder := by kernel_rfl
  t5 := Tryd.underlying5
  a5 := Tryd.isAgg5
  z5 := Tryd.sizeOf5
  v5 := Tryd.zeroValue5
  infoByte := by kernel_rfl
  cellsByte := by kernel_rfl
  sizeByte := by kernel_rfl
  neB5 := by decide }
open Go.RowKit in
theorem Tryd.bl_WriteString (B b : Nat) (bs : List Value) (s : ByteArray) (w : World) (h : Lib.IsBuilderF 44 5 B b bs w) (hlen : bs.length + s.size ≤ 140737488355328) (hBw : B ≤ w.heap.size) :
    Calls Tryd.prog 37 #[.pointer (some ⟨b, 0, none⟩), .string s] w fun e w' => e = .returned (.tuple #[.int .i64 s.size, .nilIface]) ∧ (Lib.BuilderAtF 44 5 B b (.pointer (some ⟨b, 0, none⟩)) (bs ++ Lib.strCells s) w' ∧ Below B w w') := Any.Builder_WriteString_f Tryd.bl166 Tryd.bl_Extra B b bs s w h hlen hBw
def Tryd.bl25_ren : Go.Shelf.Ren := ⟨fun | 25 => 74 | n => n, fun | 22 => 22 | n => n, fun | n => n⟩
theorem Tryd.bl25 : Lays7.n25 Tryd.prog Tryd.bl25_ren := {
  mixed := by kernel_rfl
  f25 := Tryd.func74.trans (congrArg some (by kernel_rfl))
  t22 := Tryd.underlying22
  a22 := Tryd.isAgg22
  z22 := Tryd.sizeOf22
  v22 := Tryd.zeroValue22
  i22 := by kernel_rfl }
theorem Tryd.bl_Add64 (x y : Nat) (w : World) : (callFunc 74 #[.int .u64 x, .int .u64 y, .int .u64 0]).run Tryd.prog w =
    .ok (.value (.tuple #[.int .u64 (((x + y) % 18446744073709551616 : Nat) : Int), .int .u64 (((x + y) / 18446744073709551616 : Nat) : Int)])) w := Any7.bits_Add64 Tryd.bl25 x y 0 (by omega) w
end Go.Proofs

namespace Go.Proofs.YtinlciofhegciaaDoor
open Go.RowKit

theorem mul_named (x y : Nat) (hx : x < 18446744073709551616) (hy : y < 18446744073709551616) (w : World) :
    Calls Tryd.prog 49 #[.int .u64 (x : Int), .int .u64 (y : Int)] w fun e w' => ∃ h l : Nat, e = .returned (.tuple #[.int .u64 (h : Int), .int .u64 (l : Int)]) ∧
      Hid (h = x * y / 18446744073709551616 ∧ l = x * y % 18446744073709551616) ∧ w = w' :=
  (Tryd.bits_Mul64 x y hx hy w).mono fun _ _ ⟨he, hw⟩ => ⟨_, _, he, ⟨rfl, rfl⟩, hw.symm⟩

set_option maxRecDepth 100000 in
set_option maxHeartbeats 1000000 in
theorem behind_core (p : Nat) (R : Nat) (hR : Hid (behindL p 36 0 = R)) (w : World) (hp : p < 65536) :
    Calls Tryd.prog 69 #[.int .u64 (p : Int)] w fun e w' => e = .returned (v32 (BitVec.ofNat 32 R)) ∧ w = w' := by
  go_enter Tryd.func69, Tryd.ntmps69
  go_wp2
  go_loop [3, 4] (fun x y => ∃ j r : Nat, j ≤ 36 ∧ r < 68719476736 ∧ behindL p j r = R ∧ x = .int .u64 (r : Int) ∧ y = .int .u64 ((2 ^ j / 2 : Nat) : Int)) (fun _ y => (intOf y).toNat)
  case atStart => exact ⟨36, 0, by omega, by omega, hR.out, rfl, rfl⟩
  case round =>
    obtain ⟨j, r, hj, hr, heq, rfl, rfl⟩ := hrel
    cases j with
    | zero =>
      have hv : (Value.int .u32 ((r : Int) % 4294967296)) = v32 (BitVec.ofNat 32 R) := by
        rw [← heq]; simp [behindL, v32, iw]
      have Hv := Lib.hid hv
      clear hv heq
      go_wp2
      go_ret
      exact ⟨congrArg _ Hv.out, rfl⟩
    | succ j =>
      obtain ⟨b, hb⟩ : ∃ b : Nat, b = 2 ^ (j + 1) / 2 := ⟨_, rfl⟩
      have hb1 : b = 2 ^ j := by rw [hb, Nat.pow_succ]; omega
      have hb0 : 0 < b := by rw [hb1]; exact Nat.two_pow_pos j
      have hb2 : b ≤ 34359738368 := by rw [hb1]; exact Nat.pow_le_pow_right (by omega) (by omega : j ≤ 35)
      obtain ⟨t, ht⟩ : ∃ t : Nat, t = r ||| b := ⟨_, rfl⟩
      have ht1 : t < 68719476736 := by
        rw [ht]; exact Nat.or_lt_two_pow (n := 36) hr (by omega)
      have ho : bits .or .u64 (r : Int) (b : Int) = (t : Int) := by rw [ht]; exact u64_or_nat r b (by omega) (by omega)
      rw [← hb]
      have Hb1 := Lib.hid hb1
      have Ht := Lib.hid ht
      have Heq := Lib.hid heq
      clear hb hb1 ht heq
      go_wp2_with fail
      refine (mul_named t t (by omega) (by omega) _).mono ?_
      rintro e w' ⟨h, l, rfl, Hh, rfl⟩
      go_wp2_with fail
      refine (mul_named l t (by have := Hh.out; omega) (by omega) _).mono ?_
      rintro e w' ⟨h1, l1, rfl, Hh1, rfl⟩
      go_wp2_with fail
      refine (mul_named h t (by have := Hh.out; have := Nat.mul_lt_mul'' ht1 ht1; omega) (by omega) _).mono ?_
      rintro e w' ⟨h2, l2, rfl, Hh2, rfl⟩
      obtain ⟨mid, hmid⟩ : ∃ m : Nat, m = (h1 + l2) % 18446744073709551616 := ⟨_, rfl⟩
      obtain ⟨over, hover⟩ : ∃ m : Nat, m = (h1 + l2) / 18446744073709551616 := ⟨_, rfl⟩
      have ha := Tryd.bl_Add64 h1 l2
      rw [← hmid, ← hover] at ha
      have hC : cubeB p t = (over == 0 && (decide (mid < p * 4294967296) || (mid == p * 4294967296 && l1 == 0))) := by
        exact cubeB_def p t h l h1 l1 l2 mid over Hh.out.1 Hh.out.2 Hh1.out.1 Hh1.out.2 Hh2.out.2 hmid hover
      have HC := Lib.hid hC
      clear hmid hover hC
      have hstep : behindL p j (if cubeB p t then t else r) = R := by
        rw [← Heq.out, Ht.out, Hb1.out, behindL_succ]
      have Hstep := Lib.hid hstep
      have hbj : ((b : Int) / 2) = ((2 ^ j / 2 : Nat) : Int) := by rw [Hb1.out]; omega
      have Hbj := Lib.hid hbj
      clear hstep hbj
      by_cases c1 : over = 0
      · have d1 : ((over : Int) == 0) = true := by simp <;> omega
        by_cases c2 : mid < p * 4294967296
        · have d2 : decide ((mid : Int) < (p : Int) * 4294967296) = true := by simp <;> omega
          go_wp2
          refine ⟨?_, by simp [intOf]; omega⟩
          have hc := cubeB_yes HC.out (by omega)
          exact ⟨j, t, by omega, by omega, (by have := Hstep.out; rwa [if_pos hc] at this), rfl, by rw [Hbj.out]⟩
        · have d2 : decide ((mid : Int) < (p : Int) * 4294967296) = false := by simp <;> omega
          by_cases c3 : mid = p * 4294967296
          · have d3 : ((mid : Int) == (p : Int) * 4294967296) = true := by simp <;> omega
            by_cases c4 : l1 = 0
            · have d4 : ((l1 : Int) == 0) = true := by simp <;> omega
              go_wp2
              refine ⟨?_, by simp [intOf]; omega⟩
              have hc := cubeB_yes HC.out (by omega)
              exact ⟨j, t, by omega, by omega, (by have := Hstep.out; rwa [if_pos hc] at this), rfl, by rw [Hbj.out]⟩
            · have d4 : ((l1 : Int) == 0) = false := by simp <;> omega
              go_wp2
              refine ⟨?_, by simp [intOf]; omega⟩
              have hc := cubeB_no HC.out (by omega)
              exact ⟨j, r, by omega, by omega, (by have := Hstep.out; rwa [if_neg hc] at this), rfl, by rw [Hbj.out]⟩
          · have d3 : ((mid : Int) == (p : Int) * 4294967296) = false := by simp <;> omega
            go_wp2
            refine ⟨?_, by simp [intOf]; omega⟩
            have hc := cubeB_no HC.out (by omega)
            exact ⟨j, r, by omega, by omega, (by have := Hstep.out; rwa [if_neg hc] at this), rfl, by rw [Hbj.out]⟩
      · have d1 : ((over : Int) == 0) = false := by simp <;> omega
        go_wp2
        refine ⟨?_, by simp [intOf]; omega⟩
        have hc := cubeB_no HC.out (by omega)
        exact ⟨j, r, by omega, by omega, (by have := Hstep.out; rwa [if_neg hc] at this), rfl, by rw [Hbj.out]⟩
theorem behind_any (p : Nat) (w : World) (hp : p < 65536) :
    Calls Tryd.prog 69 #[.int .u64 (p : Int)] w fun e w' => e = .returned (v32 (BitVec.ofNat 32 (behindL p 36 0))) ∧ w = w' :=
  behind_core p _ (Lib.hid rfl) w hp
end Go.Proofs.YtinlciofhegciaaDoor

namespace Go.Proofs.YtinlciofhegciaaDoor
open Go.RowKit

theorem Tryd.mixed : Tryd.prog.follows .mixedOrders = true := by kernel_rfl

/-- A maker's cells: once, and K. -/
def mk (d s : Int) (ks : List W32) : List Value := [.int .u32 d, .int .i32 s, .int .u32 0] ++ ks.map v32
abbrev Maker (w : World) (b : Nat) (d s : Int) (ks : List W32) : Prop := Blk w b 80 (mk d s ks)
/-- K as far as the primes below p + 2 go. -/
def kTo (p : Nat) : List W32 := (prs p).map kOf ++ List.replicate (64 - (prs p).length) 0
theorem kTo_length (p : Nat) (h : (prs p).length ≤ 64) : (kTo p).length = 64 := by simp [kTo]; omega
theorem kTo_no (p : Nat) (h : isPr (p + 2) = false) : kTo (p + 1) = kTo p := by simp [kTo, prs, h]
theorem kTo_yes (p : Nat) (h : isPr (p + 2) = true) (hl : (prs p).length < 64) : kTo (p + 1) = (kTo p).set (prs p).length (kOf (p + 2)) := by
  obtain ⟨m, hm⟩ : ∃ m, 64 - (prs p).length = m + 1 := ⟨63 - (prs p).length, by omega⟩
  have e : 64 - ((prs p).length + 1) = m := by omega
  simp [kTo, prs, h, hm, e, List.replicate_succ]
theorem mk_set (d s : Int) (ks : List W32) (i : Nat) (x : W32) : (mk d s ks).set (3 + i) (v32 x) = mk d s (ks.set i x) := by
  rw [Nat.add_comm]
  simp [mk, List.map_set]
theorem mk_cell (d s : Int) (ks : List W32) (i : Nat) (h : i < ks.length) : (mk d s ks)[3 + i]? = some (v32 (ks.getD i 0)) := by
  rw [Nat.add_comm]
  simp [mk, List.getD_eq_getElem?_getD, h]
theorem kTo_end : kTo 310 = kList := by
  simp [kTo, prs_k, prs_all]

theorem behind_still (q : Nat) (z : Int) (hz : z = (q : Int)) (hq : q < 65536) (w : World) :
    Calls Tryd.prog 69 #[.int .u64 z] w fun e w' => e = .returned (v32 (kOf q)) ∧ w' = w := by
  subst hz
  exact (behind_any q w hq).mono fun _ _ ⟨he, hw⟩ => ⟨he, hw.symm⟩

set_option maxRecDepth 100000 in
set_option maxHeartbeats 1000000 in
theorem fill_any (pl : Addr) (b : Nat) (w : World) (hpb : ¬ b = pl.block) (hp : w.cell? pl = some (.pointer (some ⟨b, 0, none⟩))) (hM : Maker w b 0 1 (List.replicate 64 0)) :
    Calls Tryd.prog 68 #[.pointer (some pl)] w fun e w' => e = .returned (.tuple #[]) ∧ Maker w' b 0 1 kList ∧ w.grownBy w' (some b) ∧ w'.heap.size = w.heap.size := by
  go_enter Tryd.func68, Tryd.ntmps68
  go_wp2
  go_loopw [1, 2] (fun x y wr => ∃ p : Nat, p ≤ 310 ∧ x = .int .i64 ((prs p).length : Int) ∧ y = .int .u64 ((p : Int) + 2) ∧ Maker wr b 0 1 (kTo p) ∧ w.grownBy wr (some b) ∧ wr.heap.size = w.heap.size) (fun _ y _ => 400 - (intOf y).toNat)
  case atStart => exact ⟨0, by omega, rfl, rfl, hM, grown_refl _ _, rfl⟩
  case round =>
    obtain ⟨p, hp310, rfl, rfl, hMr, hg, hsz⟩ := hrel
    by_cases hlt : (prs p).length < 64
    · have hp309 : p < 310 := by
        rcases Nat.lt_or_ge p 310 with h | h
        · exact h
        · have := prs_mono 310 p h; have := prs_all; omega
      have HM := Lib.hid hMr
      have Hg := Lib.hid hg
      have Hsz := Lib.hid hsz
      have Hlt := Lib.hid hlt
      have hpl : wr.cell? pl = some (.pointer (some ⟨b, 0, none⟩)) := hg.cell hp (by simp; omega)
      clear hMr hg hsz hM hp
      obtain ⟨l, hl⟩ : ∃ l, l = (prs p).length := ⟨_, rfl⟩
      rw [← hl] at hlt ⊢
      have Hl := Lib.hid hl
      clear hl
      go_wp2
      go_loop [3, 4] (fun x y => ∃ (f d : Nat) (c : Bool), f + d = 22 ∧ 2 ≤ d ∧ d ≤ 19 ∧ trial (p + 2) f d c = isPr (p + 2) ∧ x = .bool c ∧ y = .int .u64 (d : Int)) (fun _ y => 30 - (intOf y).toNat)
      case atStart => exact ⟨20, 2, true, rfl, by omega, by omega, rfl, rfl, rfl⟩
      case round =>
        obtain ⟨f, d, c, hfd, hd2, hd19, htr, rfl, rfl⟩ := hrel
        obtain ⟨f, rfl⟩ : ∃ g, f = g + 1 := ⟨f - 1, by omega⟩
        have hd2' : (d : Int) * (d : Int) ≤ 361 := by exact_mod_cast Nat.mul_le_mul hd19 hd19
        have hd2'' : 0 ≤ (d : Int) * (d : Int) := by exact_mod_cast Nat.zero_le (d * d)
        by_cases hdd : d * d ≤ p + 2
        · have hd17 : d ≤ 17 := by
            rcases Nat.lt_or_ge 17 d with h | h
            · have := Nat.mul_le_mul h h; omega
            · exact h
          have hdd' : decide ((d : Int) * (d : Int) ≤ (p : Int) + 2) = true := by simp; exact_mod_cast hdd
          have htr' : trial (p + 2) f (d + 1) (c && (p + 2) % d != 0) = isPr (p + 2) := by rw [← htr]; simp [trial, hdd]
          have hm : ((p : Int) + 2) % (d : Int) = (((p + 2) % d : Nat) : Int) := by simp
          obtain ⟨m, hmm⟩ : ∃ m, m = (p + 2) % d := ⟨_, rfl⟩
          rw [← hmm] at hm htr'
          have Htr := Lib.hid htr'
          clear htr htr' hmm hdd
          cases c with
          | false =>
            go_wp2
            go_round
            case rel => exact ⟨f, d + 1, false, by omega, by omega, by omega, Htr.out, rfl, by go_num⟩
            case measure => simp [intOf]; omega
          | true =>
            by_cases hm0 : m = 0
            · have hm1 : ((m : Int) != 0) = false := by simp; omega
              go_wp2
              go_round
              case rel => exact ⟨f, d + 1, false, by omega, by omega, by omega, by have := Htr.out; rw [hm0] at this; exact this, rfl, by go_num⟩
              case measure => simp [intOf]; omega
            · have hm1 : ((m : Int) != 0) = true := by simp; omega
              go_wp2
              go_round
              case rel => exact ⟨f, d + 1, true, by omega, by omega, by omega, by have := Htr.out; rw [show (m != 0) = true by simp [hm0]] at this; exact this, rfl, by go_num⟩
              case measure => simp [intOf]; omega
        · have hdd' : decide ((d : Int) * (d : Int) ≤ (p : Int) + 2) = false := by simp; exact_mod_cast Nat.lt_of_not_le hdd
          have htr' : c = isPr (p + 2) := by rw [← htr]; simp [trial, hdd]
          have Htr := Lib.hid htr'
          clear htr htr' hdd
          cases c with
          | false =>
            have hno := kTo_no p Htr.out.symm
            have Hno := Lib.hid hno
            clear hno
            have hlen : (prs (p + 1)).length = (prs p).length := by simp [prs, Htr.out.symm]
            have Hlen := Lib.hid hlen
            clear hlen
            go_wp2
            go_roundw
            case rel => exact ⟨p + 1, by omega, by rw [Hlen.out, Hl.out], by go_num, by rw [Hno.out]; exact HM.out, Hg.out, Hsz.out⟩
            case measure => simp [intOf]; omega
          | true =>
            have hyes := kTo_yes p Htr.out.symm (by have := Hlt.out; omega)
            have hlen : (prs (p + 1)).length = (prs p).length + 1 := by simp [prs, Htr.out.symm]
            have Hlen := Lib.hid hlen
            have Hyes := Lib.hid hyes
            have hkl := kTo_length p (by have := Hlt.out; omega)
            have hcell : wr.cell? ⟨b, 3 + l, none⟩ = some (v32 ((kTo p).getD l 0)) := by
              rw [HM.out.cell, mk_cell _ _ _ _ (by rw [hkl]; exact hlt)]
            have hfr := HM.out.frozen (3 + l)
            have hset := HM.out.set (3 + l) (v32 (kOf (p + 2)))
            rw [mk_set, show (kTo p).set l (kOf (p + 2)) = kTo (p + 1) from by rw [Hl.out, ← hyes]] at hset
            have Hset := Lib.hid hset
            clear hlen hyes hkl hset
            go_wp2_with fail
            refine wp_region_still_tail 7 Tryd.mixed (by kernel_rfl) ?_
            simp only [List.take_succ_cons, List.take_zero, List.drop_succ_cons, List.drop_zero]
            still_step
            still_step
            still_step
            still_call (behind_still (p + 2) _ (by push_cast; rfl) (by omega) _)
            still_step
            still_step
            still_step
            refine wpStill_nil ?_
            go_wp2
            go_roundw
            case rel => exact ⟨p + 1, by omega, by rw [Hlen.out, ← Hl.out]; go_num, by go_num, Hset.out, grown_trans Hg.out (grown_set_drew wr b (3 + l) _), (by simpa [World.setCell] using Hsz.out)⟩
            case measure => simp [intOf]; omega
    · have hp : p = 310 := by
        rcases Nat.lt_or_ge p 310 with h | h
        · have := prs_mono p 309 (by omega); have := prs_309; omega
        · omega
      have hM' : Maker wr b 0 1 kList := by rw [← kTo_end, ← hp]; exact hMr
      have HM := Lib.hid hM'
      have Hg := Lib.hid hg
      have Hsz := Lib.hid hsz
      clear hM' hg hsz hMr hp
      go_wp2
      go_end0
      exact ⟨rfl, HM.out, Hg.out, Hsz.out⟩

/-! ### sync.Once, one goroutine -/
theorem o_disable (w : World) : (callFunc 85 #[]).run Tryd.prog w = .ok (.value (.tuple #[])) w := run_call_mark0 Tryd.func85 (by kernel_rfl) (by kernel_rfl) (by kernel_rfl) .disable (by kernel_rfl) w
theorem o_enable (w : World) : (callFunc 87 #[]).run Tryd.prog w = .ok (.value (.tuple #[])) w := run_call_mark0 Tryd.func87 (by kernel_rfl) (by kernel_rfl) (by kernel_rfl) .enable (by kernel_rfl) w
theorem o_acquire (a : Addr) (w : World) : (callFunc 88 #[.pointer (some a)]).run Tryd.prog w = .ok (.value (.tuple #[])) w := run_call_marked Tryd.func88 (by kernel_rfl) (by kernel_rfl) (by kernel_rfl) .acquire (by kernel_rfl) a w
theorem o_releaseMerge (a : Addr) (w : World) : (callFunc 90 #[.pointer (some a)]).run Tryd.prog w = .ok (.value (.tuple #[])) w := run_call_marked Tryd.func90 (by kernel_rfl) (by kernel_rfl) (by kernel_rfl) .releaseMerge (by kernel_rfl) a w

theorem o_store (a : Addr) (x : Value) (u : FrameMode) (w : World) (hc : w.cell? a = some x) (hz : w.frozen? a = false) :
    CallsD Tryd.prog 80 #[.pointer (some a), .bool true] u w fun e u' w' => u' = u ∧ (e = .returned (.tuple #[]) ∧ w' = w.drew.setCell a (.int .u32 1)) := by
  have hc' : w.drew.cell? a = some x := by go_simp
  have hz' : w.drew.frozen? a = false := by go_simp
  have hst := run_call_store (P := Tryd.prog) Tryd.func83 (by kernel_rfl) (by kernel_rfl) (by kernel_rfl) (by kernel_rfl) (k := .u32) (y := 1) hc' hz'
  go_enter_d Tryd.func80, Tryd.ntmps80
  go_wp2
  go_region_calls
  all_goals (go_end0; exact ⟨rfl, rfl⟩)

set_option maxRecDepth 100000 in
theorem o_unlock (a : Addr) (u : FrameMode) (w : World) (hc : w.cell? a = some (.int .i32 1)) (hz : w.frozen? a = false) :
    CallsD Tryd.prog 79 #[.pointer (some a)] u w fun e u' w' => u' = u ∧ (e = .returned (.tuple #[]) ∧ w' = w.setCell a (.int .i32 0)) := by
  have hd := o_disable
  have he := o_enable
  have hr := o_releaseMerge
  have hadd := run_call_add (P := Tryd.prog) Tryd.func91 (by kernel_rfl) (by kernel_rfl) (by kernel_rfl) .i32 (by kernel_rfl) (y := -1) (s := 0) hc hz (by simp [go_sem]; rfl)
  have hcv := run_convert_to_unsafe (P := Tryd.prog) (src := 124) (dst := 92) Tryd.underlying124 Tryd.underlying92 (by kernel_rfl) hc
  go_enter_d Tryd.func79, Tryd.ntmps79
  go_wp2
  go_end0
  go_wp2
  go_end0
  exact ⟨rfl, rfl⟩

set_option maxRecDepth 100000 in
theorem o_lock (a : Addr) (w : World) (hc : w.cell? a = some (.int .i32 0)) (hz : w.frozen? a = false) :
    Calls Tryd.prog 78 #[.pointer (some a)] w fun e w' => e = .returned (.tuple #[]) ∧ w' = w.setCell a (.int .i32 1) := by
  have hd := o_disable
  have he := o_enable
  have ha := o_acquire
  have hcas := run_call_cas_hit (P := Tryd.prog) Tryd.func86 (by kernel_rfl) (by kernel_rfl) (by kernel_rfl) .i32 (by kernel_rfl) (y := 1) hc hz
  have hc' : (w.setCell a (.int .i32 1)).cell? a = some (.int .i32 1) := World.cell?_setCell_same w a _ hc
  have hcv := run_convert_to_unsafe (P := Tryd.prog) (src := 124) (dst := 92) Tryd.underlying124 Tryd.underlying92 (by kernel_rfl) hc'
  go_enter Tryd.func78, Tryd.ntmps78
  go_wp2
  first | go_end0 | (simp only [Exit.inBlock, Exit.then]; refine bodyPost_ret (results_none rfl _ _ _) rfl ?_) | refine bodyPost_ret (results_none rfl _ _ _) rfl ?_
  go_wp2
  go_end0
  exact ⟨rfl, rfl⟩
end Go.Proofs.YtinlciofhegciaaDoor

namespace Go.Proofs.YtinlciofhegciaaDoor
open Go.RowKit

theorem mk_set0 (d s d' : Int) (ks : List W32) : (mk d s ks).set 0 (.int .u32 d') = mk d' s ks := rfl
theorem mk_set1 (d s s' : Int) (ks : List W32) : (mk d s ks).set 1 (.int .i32 s') = mk d s' ks := rfl
theorem Maker.done {w : World} {b : Nat} {d s : Int} {ks : List W32} (h : Maker w b d s ks) : w.cell? ⟨b, 0, none⟩ = some (.int .u32 d) := h.cell 0
theorem Maker.lock {w : World} {b : Nat} {d s : Int} {ks : List W32} (h : Maker w b d s ks) : w.cell? ⟨b, 1, none⟩ = some (.int .i32 s) := h.cell 1

set_option maxRecDepth 100000 in
set_option maxHeartbeats 1600000 in
theorem slow_any (b : Nat) (pl : Addr) (hpb : ¬ b = pl.block) (w : World) (hp : w.cell? pl = some (.pointer (some ⟨b, 0, none⟩))) (hM : Maker w b 0 0 (List.replicate 64 0)) :
    Calls Tryd.prog 73 #[.pointer (some ⟨b, 0, none⟩), .func (.func 68) #[] #[.pointer (some pl)]] w fun e w' => e = .returned (.tuple #[]) ∧ Maker w' b 1 0 kList ∧ w.grownBy w' (some b) ∧ w'.heap.size = w.heap.size := by
  have h0 := hM.lock
  have f0 := hM.frozen 1
  have hM1 : Maker (w.setCell ⟨b, 1, none⟩ (.int .i32 1)) b 0 1 (List.replicate 64 0) := by have := hM.set 1 (.int .i32 1); rwa [mk_set1] at this
  have hl := run_call_load (P := Tryd.prog) Tryd.func77 (by kernel_rfl) (by kernel_rfl) (by kernel_rfl) .u32 (by kernel_rfl) hM1.done
  have hp1 : (w.setCell ⟨b, 1, none⟩ (.int .i32 1)).cell? pl = some (.pointer (some ⟨b, 0, none⟩)) := (World.cell?_setCell_other _ ⟨b, 1, none⟩ pl _ (fun h => hpb (by rw [← h]))).trans hp
  have hnot : ∀ (x : Bool) (w : World), (Op.unary .not (.bool x)).run Tryd.prog w = .ok (.bool (!x)) w := fun _ _ => rfl
  have HM1 := Lib.hid hM1
  have hg1 := Lib.hid (grown_set w b 1 (.int .i32 1))
  clear hM1 hM
  go_enter_defers Tryd.func73, Tryd.ntmps73
  go_wp2_with (first | (go_at_call 78; refine (o_lock ⟨b, 1, none⟩ _ h0 f0).mono ?_; rintro e w' ⟨rfl, rfl⟩) | (go_at_call 72; go_in))
  refine (fill_any pl b _ hpb hp1 HM1.out).mono ?_
  rintro e w2 ⟨rfl, hM2, hg2, hs2⟩
  have hM3 : Maker (w2.drew.setCell ⟨b, 0, none⟩ (.int .u32 1)) b 1 1 kList := by have := hM2.drew.set 0 (.int .u32 1); rwa [mk_set0] at this
  have hM4 : Maker ((w2.drew.setCell ⟨b, 0, none⟩ (.int .u32 1)).setCell ⟨b, 1, none⟩ (.int .i32 0)) b 1 0 kList := by have := hM3.set 1 (.int .i32 0); rwa [mk_set1] at this
  have d2 := hM2.done
  have l2 := hM2.lock
  have z0 := hM2.frozen 0
  have z1 := hM2.frozen 1
  have c3 := hM3.lock
  have z3 := hM3.frozen 1
  have hgr : w.grownBy ((w2.drew.setCell ⟨b, 0, none⟩ (.int .u32 1)).setCell ⟨b, 1, none⟩ (.int .i32 0)) (some b) :=
    grown_trans (grown_trans (grown_trans hg1.out hg2) (grown_trans (grown_drewN w2 1 _) (grown_set w2.drew b 0 _))) (grown_set _ b 1 _)
  have HM4 := Lib.hid hM4
  have Hgr := Lib.hid hgr
  have Hs2 := Lib.hid hs2
  clear hM2 hM3 hM4 hgr hs2 hg2
  go_wp2
  refine leaves_cons (f := 80) (args := #[.pointer (some ⟨b, 0, none⟩), .bool true]) (by simp) (by simp [go_sem]) ?_
  refine (o_store ⟨b, 0, none⟩ (.int .u32 0) .returning _ d2 z0).mono ?_
  rintro e u' w'' ⟨rfl, rfl, rfl⟩
  refine leaves_cons (f := 79) (args := #[.pointer (some ⟨b, 1, none⟩)]) (by simp [settle]) (by simp [go_sem]) ?_
  refine (o_unlock ⟨b, 1, none⟩ _ _ c3 z3).mono ?_
  rintro e u' w'' ⟨rfl, rfl, rfl⟩
  simp [Leaves, settle, results, Tryd.results73]
  exact ⟨HM4.out, Hgr.out, by have := Hs2.out; simp [World.setCell] at this ⊢; exact this⟩

set_option maxRecDepth 100000 in
set_option maxHeartbeats 1600000 in
theorem do_first (b : Nat) (pl : Addr) (hpb : ¬ b = pl.block) (w : World) (hp : w.cell? pl = some (.pointer (some ⟨b, 0, none⟩))) (hM : Maker w b 0 0 (List.replicate 64 0)) :
    Calls Tryd.prog 67 #[.pointer (some ⟨b, 0, none⟩), .func (.func 68) #[] #[.pointer (some pl)]] w fun e w' => e = .returned (.tuple #[]) ∧ Maker w' b 1 0 kList ∧ w.grownBy w' (some b) ∧ w'.heap.size = w.heap.size := by
  have hl := run_call_load (P := Tryd.prog) Tryd.func77 (by kernel_rfl) (by kernel_rfl) (by kernel_rfl) .u32 (by kernel_rfl) hM.done
  have hnot : ∀ (x : Bool) (w : World), (Op.unary .not (.bool x)).run Tryd.prog w = .ok (.bool (!x)) w := fun _ _ => rfl
  have HM := Lib.hid hM
  clear hM
  go_enter Tryd.func67, Tryd.ntmps67
  go_wp2_with (first | (go_at_call 73; refine (slow_any b pl hpb _ hp HM.out).mono ?_; rintro e w' ⟨rfl, hM2, hg2, hs2⟩; have HM2 := Lib.hid hM2; have Hg2 := Lib.hid hg2; have Hs2 := Lib.hid hs2; clear hM2 hg2 hs2) | (go_at_call 72; go_in))
  go_end0
  exact ⟨rfl, HM2.out, Hg2.out, Hs2.out⟩

set_option maxRecDepth 100000 in
theorem do_done (b : Nat) (fv : Value) (s : Int) (ks : List W32) (w : World) (hM : Maker w b 1 s ks) :
    Calls Tryd.prog 67 #[.pointer (some ⟨b, 0, none⟩), fv] w fun e w' => e = .returned (.tuple #[]) ∧ w = w' := by
  have hl := run_call_load (P := Tryd.prog) Tryd.func77 (by kernel_rfl) (by kernel_rfl) (by kernel_rfl) .u32 (by kernel_rfl) hM.done
  have hnot : ∀ (x : Bool) (w : World), (Op.unary .not (.bool x)).run Tryd.prog w = .ok (.bool (!x)) w := fun _ _ => rfl
  clear hM
  go_enter Tryd.func67, Tryd.ntmps67
  go_wp2
  go_end0
  exact ⟨rfl, rfl⟩

/-- A maker that is new, or has made K. -/
def Ready (w : World) (b : Nat) : Prop := Maker w b 0 0 (List.replicate 64 0) ∨ Maker w b 1 0 kList
theorem Ready.lt {w : World} {b : Nat} (h : Ready w b) : b < w.heap.size := h.elim Blk.lt Blk.lt
theorem Ready.alloc {w : World} {b : Nat} (h : Ready w b) (o : Obj) : Ready (w.alloc o) b := h.imp (·.alloc o) (·.alloc o)

set_option maxRecDepth 100000 in
set_option maxHeartbeats 1600000 in
theorem numbers_any (b : Nat) (w : World) (hM : Ready w b) :
    Calls Tryd.prog 61 #[.pointer (some ⟨b, 0, none⟩)] w fun e w' => e = .returned (.pointer (some ⟨b, 3, none⟩)) ∧ Maker w' b 1 0 kList ∧ w.grownBy w' (some b) := by
  have hmf : ∀ (fn : Fn) (first cap : Array Value) (w : World), (Instr.makeFunc fn first cap).run Tryd.prog w = .ok (.func fn first cap) w := fun _ _ _ _ => rfl
  have hb := hM.lt
  rcases hM with hM | hM
  · have p0 : (w.alloc (.cells #[.pointer (some ⟨b, 0, none⟩)] 65)).cell? ⟨w.heap.size, 0, none⟩ = some (.pointer (some ⟨b, 0, none⟩)) := by simp
    have H := do_first b ⟨w.heap.size, 0, none⟩ (by simp; omega) _ p0 (hM.alloc _)
    have HH := Lib.hid H
    clear H hM
    go_enter Tryd.func61, Tryd.ntmps61
    go_wp2_with (go_at_call 67; refine HH.out.mono ?_; rintro e w' ⟨rfl, hM2, hg2, hs2⟩; have pE := hg2.cell p0 (by simp; omega); have HM2 := Lib.hid hM2; have Hg2 := Lib.hid hg2; clear hM2 hg2 hs2)
    go_ret
    exact ⟨rfl, HM2.out, grown_trans (grown_alloc _ _ _) Hg2.out⟩
  · have p0 : (w.alloc (.cells #[.pointer (some ⟨b, 0, none⟩)] 65)).cell? ⟨w.heap.size, 0, none⟩ = some (.pointer (some ⟨b, 0, none⟩)) := by simp
    have H := do_done b (.func (.func 68) #[] #[.pointer (some ⟨w.heap.size, 0, none⟩)]) 0 kList _ (hM.alloc (.cells #[.pointer (some ⟨b, 0, none⟩)] 65))
    have HH := Lib.hid H
    have HM := Lib.hid (hM.alloc (.cells #[.pointer (some ⟨b, 0, none⟩)] 65))
    clear H hM
    go_enter Tryd.func61, Tryd.ntmps61
    go_wp2_with (go_at_call 67; refine HH.out.mono ?_; rintro e w' ⟨rfl, rfl⟩)
    go_ret
    exact ⟨rfl, HM.out, grown_alloc _ _ _⟩
end Go.Proofs.YtinlciofhegciaaDoor
