/- The document's sums in plain Lean: words of 32 bits, the rounds, the padding. -/
import Derived.WalkKit
namespace Go.Proofs.Ytgbnkoeidejhfaa
abbrev W32 := BitVec 32

/-- A word as a number: not to be looked into by the walk. -/
def iw (x : W32) : Int := (x.toNat : Int)
/-- A word as a value. -/
abbrev v32 (x : W32) : Value := .int .u32 (iw x)

theorem iw_bound (x : W32) : 0 ≤ iw x ∧ iw x < 4294967296 := by
  have := x.isLt
  unfold iw; omega
theorem w32_wrap (n : Nat) : IntKind.u32.wrap (n : Int) = iw (BitVec.ofNat 32 n) := by
  rw [IntKind.wrap_u32']; simp [iw]
theorem w32_add (x y : W32) : IntKind.u32.wrap (iw x + iw y) = iw (x + y) := by
  rw [IntKind.wrap_u32']; simp [iw, BitVec.toNat_add]
theorem w32_of (x : W32) : BitVec.ofInt 32 (x.toNat : Int) = x := by
  rw [BitVec.ofInt_natCast, BitVec.ofNat_toNat]; simp
theorem w32_iw (x : W32) : IntKind.u32.wrap (iw x) = iw x := by
  unfold iw; rw [w32_wrap, BitVec.ofNat_toNat]; simp [iw]
theorem w32_toNat_wrap (x : W32) : IntKind.u32.wrap (x.toNat : Int) = iw x := w32_iw x
theorem w32_and (x y : W32) : bits .and .u32 (iw x) (iw y) = iw (x &&& y) := by
  simp only [bits, IntKind.bits, iw, w32_of, w32_toNat_wrap]; rfl
theorem w32_or (x y : W32) : bits .or .u32 (iw x) (iw y) = iw (x ||| y) := by
  simp only [bits, IntKind.bits, iw, w32_of, w32_toNat_wrap]; rfl
theorem w32_xor (x y : W32) : bits .xor .u32 (iw x) (iw y) = iw (x ^^^ y) := by
  simp only [bits, IntKind.bits, iw, w32_of, w32_toNat_wrap]; rfl
theorem w32_shl (x : W32) (n : Nat) : iw x * 2 ^ n % (4294967296 : Int) = iw (x <<< n) := by
  simp [iw, Nat.shiftLeft_eq]
theorem w32_shr (x : W32) (n : Nat) : iw x / 2 ^ n = iw (x >>> n) := by
  simp [iw, Nat.shiftRight_eq_div_pow]
theorem w32_shl8 (x : W32) : IntKind.u32.wrap (iw x * 256) = iw (x <<< 8) := by
  rw [IntKind.wrap_u32']; exact w32_shl x 8
theorem w32_shr3 (x : W32) : iw x / (8 : Int) = iw (x >>> 3) := w32_shr x 3
theorem w32_shr10 (x : W32) : iw x / (1024 : Int) = iw (x >>> 10) := w32_shr x 10
theorem iw_add (a b : W32) : iw (a + b) = (iw a + iw b) % (4294967296 : Int) := by rw [← w32_add, IntKind.wrap_u32']
theorem w32_add4 (a b c d : W32) : (iw a + iw b + iw c + iw d) % (4294967296 : Int) = iw (a + b + c + d) := by
  rw [iw_add, iw_add, iw_add]; omega
theorem w32_add5 (a b c d e : W32) : (iw a + iw b + iw c + iw d + iw e) % (4294967296 : Int) = iw (a + b + c + d + e) := by
  rw [iw_add, iw_add, iw_add, iw_add]; omega
theorem wval (x16 x15 x7 x2 : W32) : (iw x16 + bits .xor .u32 (iw (x15.rotateRight 7 ^^^ x15.rotateRight 18)) (iw x15 / (8 : Int)) + iw x7 + bits .xor .u32 (iw (x2.rotateRight 17 ^^^ x2.rotateRight 19)) (iw x2 / (1024 : Int))) % (4294967296 : Int) =
    iw (x16 + (x15.rotateRight 7 ^^^ x15.rotateRight 18 ^^^ x15 >>> 3) + x7 + (x2.rotateRight 17 ^^^ x2.rotateRight 19 ^^^ x2 >>> 10)) := by
  rw [w32_shr3, w32_shr10, w32_xor, w32_xor, w32_add4]
theorem w32_shl16 (x : W32) : IntKind.u32.wrap (iw x * 65536) = iw (x <<< 16) := by
  rw [IntKind.wrap_u32']; exact w32_shl x 16
theorem w32_shl24 (x : W32) : IntKind.u32.wrap (iw x * 16777216) = iw (x <<< 24) := by
  rw [IntKind.wrap_u32']; exact w32_shl x 24
theorem w32_not (x : W32) : bits .xor .u32 (if IntKind.u32.signed = true then -1 else IntKind.u32.max) (iw x) = iw (~~~x) := by
  have h : (if IntKind.u32.signed = true then -1 else IntKind.u32.max) = iw (BitVec.allOnes 32) := by decide +kernel
  rw [h, w32_xor, BitVec.allOnes_xor]
theorem rot_eq (x : W32) (n : Nat) (h1 : 1 ≤ n) (h2 : n ≤ 31) : x <<< (32 - n) ||| x >>> n = x.rotateRight n := by
  rw [BitVec.rotateRight_def, Nat.mod_eq_of_lt (by omega), BitVec.or_comm]

/-- A number's bytes, the highest first. -/
def be : Nat → Nat → List UInt8
  | 0, _ => []
  | k + 1, n => UInt8.ofNat (n / 256 ^ k) :: be k n

theorem be_length (k n : Nat) : (be k n).length = k := by
  induction k with
  | zero => rfl
  | succ k ih => simp [be, ih]
theorem be_get (size n k : Nat) (h : k < size) : (be size n)[k]? = some (UInt8.ofNat (n / 256 ^ (size - 1 - k))) := by
  induction size generalizing k with
  | zero => omega
  | succ m ih =>
    cases k with
    | zero => simp [be]
    | succ k =>
      rw [be, List.getElem?_cons_succ, ih k (by omega)]
      congr 4; omega
theorem be_val (n m : Nat) : ((n : Int) / 2 ^ (8 * m) % 256) = ((UInt8.ofNat (n / 256 ^ m)).toNat : Int) := by
  have h : (2 : Nat) ^ (8 * m) = 256 ^ m := by rw [Nat.pow_mul]
  have : ((n : Int) / 2 ^ (8 * m) % 256) = ((n / 2 ^ (8 * m) % 256 : Nat) : Int) := by simp
  rw [this, h, UInt8.toNat_ofNat']
theorem be_take_succ (size n k : Nat) (h : k < size) : (be size n).take (k + 1) = (be size n).take k ++ [UInt8.ofNat (n / 256 ^ (size - 1 - k))] := by
  rw [List.take_add_one, be_get size n k h]; rfl

/-- Of digest.behind: is t's cube at most p times 2^96, as the program asks it? -/
def cubeB (p t : Nat) : Bool :=
  let h := t * t / 18446744073709551616
  let l := t * t % 18446744073709551616
  let h1 := l * t / 18446744073709551616
  let l1 := l * t % 18446744073709551616
  let l2 := h * t % 18446744073709551616
  let mid := (h1 + l2) % 18446744073709551616
  let over := (h1 + l2) / 18446744073709551616
  over == 0 && (decide (mid < p * 4294967296) || (mid == p * 4294967296 && l1 == 0))
/-- Its loop: j bits are left. -/
def behindL (p : Nat) : Nat → Nat → Nat
  | 0, r => r
  | j + 1, r => behindL p j (if cubeB p (r ||| 2 ^ j) then r ||| 2 ^ j else r)

theorem behindL_succ (p j r : Nat) : behindL p (j + 1) r = behindL p j (if cubeB p (r ||| 2 ^ j) then r ||| 2 ^ j else r) := rfl
theorem cubeB_def (p t h l h1 l1 h2 mid over : Nat) (eh : h = t * t / 18446744073709551616) (el : l = t * t % 18446744073709551616) (eh1 : h1 = l * t / 18446744073709551616)
    (el1 : l1 = l * t % 18446744073709551616) (eh2 : h2 = h * t % 18446744073709551616) (em : mid = (h1 + h2) % 18446744073709551616) (eo : over = (h1 + h2) / 18446744073709551616) :
    cubeB p t = (over == 0 && (decide (mid < p * 4294967296) || (mid == p * 4294967296 && l1 == 0))) := by
  unfold cubeB
  simp only [eo, em, eh2, eh1, el1, el, eh]
theorem cubeB_yes {p t mid over l1 : Nat} (h : cubeB p t = (over == 0 && (decide (mid < p * 4294967296) || (mid == p * 4294967296 && l1 == 0)))) (g : over = 0 ∧ (mid < p * 4294967296 ∨ (mid = p * 4294967296 ∧ l1 = 0))) : cubeB p t = true := by
  rw [h]; simpa using g
theorem cubeB_no {p t mid over l1 : Nat} (h : cubeB p t = (over == 0 && (decide (mid < p * 4294967296) || (mid == p * 4294967296 && l1 == 0)))) (g : ¬ (over = 0 ∧ (mid < p * 4294967296 ∨ (mid = p * 4294967296 ∧ l1 = 0)))) : ¬ cubeB p t = true := by
  rw [h]; simpa using g

/-! ### The primes, and K -/
def trial (p : Nat) : Nat → Nat → Bool → Bool
  | 0, _, b => b
  | f + 1, d, b => if d * d ≤ p then trial p f (d + 1) (b && p % d != 0) else b
def isPr (p : Nat) : Bool := trial p 20 2 true
/-- The primes from 2 up to below p + 2. -/
def prs : Nat → List Nat
  | 0 => []
  | p + 1 => prs p ++ (if isPr (p + 2) then [p + 2] else [])
def kOf (p : Nat) : W32 := BitVec.ofNat 32 (behindL p 36 0)
def kList : List W32 := [1116352408, 1899447441, 3049323471, 3921009573, 961987163, 1508970993, 2453635748, 2870763221, 3624381080, 310598401, 607225278, 1426881987, 1925078388, 2162078206, 2614888103, 3248222580, 3835390401, 4022224774, 264347078, 604807628, 770255983, 1249150122, 1555081692, 1996064986, 2554220882, 2821834349, 2952996808, 3210313671, 3336571891, 3584528711, 113926993, 338241895, 666307205, 773529912, 1294757372, 1396182291, 1695183700, 1986661051, 2177026350, 2456956037, 2730485921, 2820302411, 3259730800, 3345764771, 3516065817, 3600352804, 4094571909, 275423344, 430227734, 506948616, 659060556, 883997877, 958139571, 1322822218, 1537002063, 1747873779, 1955562222, 2024104815, 2227730452, 2361852424, 2428436474, 2756734187, 3204031479, 3329325298]
theorem prs_all : (prs 310).length = 64 := by decide +kernel
theorem prs_k : (prs 310).map kOf = kList := by decide +kernel
theorem prs_mono (p q : Nat) (h : p ≤ q) : (prs p).length ≤ (prs q).length := by
  induction q with
  | zero => obtain rfl : p = 0 := by omega
            exact Nat.le_refl _
  | succ q ih =>
    rcases Nat.lt_or_ge q p with h1 | h1
    · obtain rfl : p = q + 1 := by omega
      exact Nat.le_refl _
    · have := ih h1
      simp only [prs, List.length_append]
      omega
theorem prs_309 : (prs 309).length = 63 := by decide +kernel

/-! ### A block -/
/-- The word so far: i bytes from 4 t on. -/
def pword (s : List UInt8) (t : Nat) : Nat → W32
  | 0 => 0
  | i + 1 => pword s t i <<< 8 ||| BitVec.ofNat 32 (s.getD (4 * t + i) 0).toNat
def sg0 (x : W32) : W32 := x.rotateRight 7 ^^^ x.rotateRight 18 ^^^ x >>> 3
def sg1 (x : W32) : W32 := x.rotateRight 17 ^^^ x.rotateRight 19 ^^^ x >>> 10
def wnext (s : List UInt8) (t : Nat) (ws : List W32) : W32 :=
  if t < 16 then pword s t 4 else ws.getD (t - 16) 0 + sg0 (ws.getD (t - 15) 0) + ws.getD (t - 7) 0 + sg1 (ws.getD (t - 2) 0)
/-- The first t words of the schedule. -/
def sch (s : List UInt8) : Nat → List W32
  | 0 => []
  | t + 1 => sch s t ++ [wnext s t (sch s t)]
theorem sch_length (s : List UInt8) (t : Nat) : (sch s t).length = t := by
  induction t with
  | zero => rfl
  | succ t ih => simp [sch, ih]
structure St where
  a : W32
  b : W32
  c : W32
  d : W32
  e : W32
  f : W32
  g : W32
  h : W32
def St.cells (s : St) : List Value := [v32 s.a, v32 s.b, v32 s.c, v32 s.d, v32 s.e, v32 s.f, v32 s.g, v32 s.h]
def one (v : St) (k w : W32) : W32 := v.h + (v.e.rotateRight 6 ^^^ v.e.rotateRight 11 ^^^ v.e.rotateRight 25) + (v.e &&& v.f ^^^ ~~~v.e &&& v.g) + k + w
def two (v : St) : W32 := (v.a.rotateRight 2 ^^^ v.a.rotateRight 13 ^^^ v.a.rotateRight 22) + (v.a &&& v.b ^^^ v.a &&& v.c ^^^ v.b &&& v.c)
def rnd (v : St) (k w : W32) : St := ⟨one v k w + two v, v.a, v.b, v.c, v.d + one v k w, v.e, v.f, v.g⟩
def rnds (ws : List W32) (v : St) : Nat → St
  | 0 => v
  | t + 1 => rnd (rnds ws v t) (kList.getD t 0) (ws.getD t 0)
def St.add (x y : St) : St := ⟨x.a + y.a, x.b + y.b, x.c + y.c, x.d + y.d, x.e + y.e, x.f + y.f, x.g + y.g, x.h + y.h⟩
def comp (h : St) (s : List UInt8) : St := h.add (rnds (sch s 64) h 64)
/-- The array of words, when t of them are laid. -/
def wArr (s : List UInt8) (t : Nat) : List Value := (sch s t).map v32 ++ List.replicate (64 - t) (v32 0)
theorem wArr_length (s : List UInt8) (t : Nat) (h : t ≤ 64) : (wArr s t).length = 64 := by simp [wArr, sch_length]; omega
theorem wArr_get (s : List UInt8) (t j : Nat) (h : j < t) : (wArr s t)[j]? = some (v32 ((sch s t).getD j 0)) := by
  have : j < (sch s t).length := by rw [sch_length]; exact h
  simp [wArr, List.getElem?_append_left, this, List.getD_eq_getElem?_getD]
theorem wArr_zero (s : List UInt8) (t : Nat) (h : t < 64) : (wArr s t)[t]? = some (v32 0) := by
  rw [wArr, List.getElem?_append_right (by simp [sch_length]), List.getElem?_replicate, if_pos (by simp [sch_length]; omega)]
theorem wArr_succ (s : List UInt8) (t : Nat) (h : t < 64) : (wArr s t).set t (v32 (wnext s t (sch s t))) = wArr s (t + 1) := by
  obtain ⟨m, hm⟩ : ∃ m, 64 - t = m + 1 := ⟨63 - t, by omega⟩
  have e : 64 - (t + 1) = m := by omega
  rw [wArr, wArr, List.set_append_right _ _ (by simp [sch_length])]
  simp [sch, sch_length, hm, e, List.replicate_succ]

def St.list (s : St) : List W32 := [s.a, s.b, s.c, s.d, s.e, s.f, s.g, s.h]
theorem St.cells_eq (s : St) : s.cells = s.list.map v32 := rfl
/-- The first i numbers have been added. -/
def addTo (xs ys : List W32) (i : Nat) : List W32 := (List.zipWith (· + ·) xs ys).take i ++ xs.drop i
theorem addTo_zero (xs ys : List W32) : addTo xs ys 0 = xs := rfl
theorem addTo_end (x y : St) : addTo x.list y.list 8 = (x.add y).list := rfl
theorem addTo_get (x y : St) (i : Nat) (h : i < 8) : (addTo x.list y.list i)[i]? = some (x.list.getD i 0) := by
  have : i = 0 ∨ i = 1 ∨ i = 2 ∨ i = 3 ∨ i = 4 ∨ i = 5 ∨ i = 6 ∨ i = 7 := by omega
  rcases this with rfl | rfl | rfl | rfl | rfl | rfl | rfl | rfl <;> rfl
theorem addTo_set (x y : St) (i : Nat) (h : i < 8) : (addTo x.list y.list i).set i (x.list.getD i 0 + y.list.getD i 0) = addTo x.list y.list (i + 1) := by
  have : i = 0 ∨ i = 1 ∨ i = 2 ∨ i = 3 ∨ i = 4 ∨ i = 5 ∨ i = 6 ∨ i = 7 := by omega
  rcases this with rfl | rfl | rfl | rfl | rfl | rfl | rfl | rfl <;> rfl
theorem St.get (x : St) (i : Nat) (h : i < 8) : x.cells[i]? = some (v32 (x.list.getD i 0)) := by
  have : i = 0 ∨ i = 1 ∨ i = 2 ∨ i = 3 ∨ i = 4 ∨ i = 5 ∨ i = 6 ∨ i = 7 := by omega
  rcases this with rfl | rfl | rfl | rfl | rfl | rfl | rfl | rfl <;> rfl

end Go.Proofs.Ytgbnkoeidejhfaa
