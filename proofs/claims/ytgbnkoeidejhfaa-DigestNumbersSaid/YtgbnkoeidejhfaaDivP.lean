/- Division of a number of two words by one of one word, a digit at a time: the law of it, without a program. -/
namespace Go.Proofs.Ytgbnkoeidejhfaa

section
variable {B un yn1 yn0 u1 q r : Nat}
theorem digit_lt (hu : un < yn1 * B + yn0) (h1 : u1 < B) : (un * B + u1) / (yn1 * B + yn0) < B := by
  rw [Nat.div_lt_iff_lt_mul (by omega)]
  have := Nat.mul_le_mul_right B (show un + 1 ≤ yn1 * B + yn0 by omega)
  rw [Nat.add_mul] at this
  rw [Nat.mul_comm B]
  omega
theorem digit_over (hu : un < yn1 * B + yn0) (h1 : u1 < B) (hqr : q * yn1 + r = un) (h : B ≤ q ∨ B * r + u1 < q * yn0) :
    (un * B + u1) / (yn1 * B + yn0) < q := by
  rcases h with h | h
  · exact Nat.lt_of_lt_of_le (digit_lt hu h1) h
  · rw [Nat.div_lt_iff_lt_mul (by omega), Nat.mul_add, ← Nat.mul_assoc, ← hqr, Nat.add_mul, Nat.mul_comm r B]
    omega
theorem digit_under (hu : un < yn1 * B + yn0) (hqr : q * yn1 + r = un) (h : q * yn0 ≤ B * r + u1) :
    q ≤ (un * B + u1) / (yn1 * B + yn0) := by
  rw [Nat.le_div_iff_mul_le (by omega), Nat.mul_add, ← Nat.mul_assoc, ← hqr, Nat.add_mul, Nat.mul_comm r B]
  omega
theorem digit_first (hu : un < yn1 * B + yn0) (h1 : u1 < B) (h0 : yn0 < B) (hy : B ≤ 2 * yn1) :
    (un * B + u1) / (yn1 * B + yn0) ≤ un / yn1 ∧ un / yn1 ≤ B + 1 := by
  have hp : 0 < yn1 := by omega
  constructor
  · rw [Nat.le_div_iff_mul_le hp]
    have h := Nat.div_mul_le_self (un * B + u1) (yn1 * B + yn0)
    obtain ⟨Q, hQ⟩ : ∃ Q, Q = (un * B + u1) / (yn1 * B + yn0) := ⟨_, rfl⟩
    rw [← hQ] at h ⊢
    rw [Nat.mul_add, ← Nat.mul_assoc] at h
    have h2 : Q * yn1 * B < (un + 1) * B := by rw [Nat.add_mul]; omega
    have := Nat.lt_of_mul_lt_mul_right h2
    omega
  · have h3 : un / yn1 < B + 2 := by
      rw [Nat.div_lt_iff_lt_mul hp, Nat.add_mul, Nat.mul_comm B]
      omega
    omega
/-- What holds at the head of a digit's loop. -/
structure Dig (B un yn1 yn0 u1 q r : Nat) : Prop where
  ge : (un * B + u1) / (yn1 * B + yn0) ≤ q
  eq : q * yn1 + r = un
  q : q ≤ B + 1
  r : r < B
theorem Dig.first (hu : un < yn1 * B + yn0) (h1 : u1 < B) (h0 : yn0 < B) (hy : B ≤ 2 * yn1) (hy2 : yn1 < B) : Dig B un yn1 yn0 u1 (un / yn1) (un % yn1) := by
  obtain ⟨ha, hb⟩ := digit_first hu h1 h0 hy
  have := Nat.mod_lt un (show 0 < yn1 by omega)
  exact ⟨ha, by rw [Nat.mul_comm]; exact Nat.div_add_mod un yn1, hb, by omega⟩
theorem Dig.dec (hu : un < yn1 * B + yn0) (h1 : u1 < B) (D : Dig B un yn1 yn0 u1 q r) (h : B ≤ q ∨ B * r + u1 < q * yn0) :
    1 ≤ q ∧ (un * B + u1) / (yn1 * B + yn0) ≤ q - 1 ∧ (q - 1) * yn1 + (r + yn1) = un ∧ q - 1 ≤ B := by
  have ho := digit_over hu h1 D.eq h
  have hq := D.q
  have he := D.eq
  have h1q : 1 ≤ q := Nat.lt_of_le_of_lt (Nat.zero_le _) ho
  refine ⟨h1q, Nat.le_sub_one_of_lt ho, ?_, by omega⟩
  obtain ⟨p, rfl⟩ : ∃ p, q = p + 1 := ⟨q - 1, by omega⟩
  rw [Nat.add_sub_cancel]
  rw [Nat.add_mul] at he
  omega
theorem Dig.next (hu : un < yn1 * B + yn0) (h1 : u1 < B) (D : Dig B un yn1 yn0 u1 q r) (h : B ≤ q ∨ B * r + u1 < q * yn0) (hr : r + yn1 < B) : Dig B un yn1 yn0 u1 (q - 1) (r + yn1) := by
  obtain ⟨_, ha, hb, hc⟩ := D.dec hu h1 h
  exact ⟨ha, hb, by omega, hr⟩
theorem Dig.broken (hu : un < yn1 * B + yn0) (h1 : u1 < B) (h0 : yn0 < B) (D : Dig B un yn1 yn0 u1 q r) (h : B ≤ q ∨ B * r + u1 < q * yn0) (hr : B ≤ r + yn1) :
    q - 1 = (un * B + u1) / (yn1 * B + yn0) := by
  obtain ⟨_, ha, hb, hc⟩ := D.dec hu h1 h
  refine Nat.le_antisymm (digit_under hu hb ?_) ha
  have h2 : (q - 1) * yn0 ≤ B * (r + yn1) := Nat.mul_le_mul hc (by omega)
  omega
theorem Dig.done (hu : un < yn1 * B + yn0) (D : Dig B un yn1 yn0 u1 q r) (h : q * yn0 ≤ B * r + u1) : q = (un * B + u1) / (yn1 * B + yn0) :=
  Nat.le_antisymm (digit_under hu D.eq h) D.ge
theorem Dig.prod (h0 : yn0 < B) (D : Dig B un yn1 yn0 u1 q r) : q * yn0 < B * B := by
  have := D.q
  have h2 : q * yn0 ≤ (B + 1) * (B - 1) := Nat.mul_le_mul this (by omega)
  obtain ⟨c, rfl⟩ : ∃ c, B = c + 1 := ⟨B - 1, by omega⟩
  have h3 : (c + 1 + 1) * (c + 1 - 1) < (c + 1) * (c + 1) := by
    rw [Nat.add_sub_cancel]
    simp only [Nat.add_mul, Nat.mul_add]
    omega
  exact Nat.lt_of_le_of_lt h2 h3
end
/-- The two digits, and what is left. -/
theorem digits {B N y s Y U u0 : Nat} (hY : Y = y * 2 ^ s) (hy : 0 < y) (hN : N * 2 ^ s = U * B + u0) :
    (U / Y) * B + ((U % Y) * B + u0) / Y = N / y ∧ (((U % Y) * B + u0) % Y) / 2 ^ s = N % y := by
  have hp : 0 < 2 ^ s := Nat.two_pow_pos s
  have hYp : 0 < Y := by rw [hY]; exact Nat.mul_pos hy hp
  have e1 := Nat.div_add_mod U Y
  have e2 := Nat.div_add_mod ((U % Y) * B + u0) Y
  have hl := Nat.mod_lt ((U % Y) * B + u0) hYp
  obtain ⟨q1, hq1⟩ : ∃ q, q = U / Y := ⟨_, rfl⟩
  obtain ⟨r1, hr1⟩ : ∃ q, q = U % Y := ⟨_, rfl⟩
  rw [← hq1, ← hr1] at e1
  rw [← hr1] at e2 hl
  rw [← hr1, ← hq1]
  obtain ⟨q0, hq0⟩ : ∃ q, q = (r1 * B + u0) / Y := ⟨_, rfl⟩
  obtain ⟨r0, hr0⟩ : ∃ q, q = (r1 * B + u0) % Y := ⟨_, rfl⟩
  rw [← hq0, ← hr0] at e2
  rw [← hr0] at hl
  rw [← hq0, ← hr0]
  have key : N * 2 ^ s = Y * (q1 * B + q0) + r0 := by
    rw [hN, ← e1, Nat.mul_add, Nat.add_mul, ← Nat.mul_assoc]
    omega
  have hd : N * 2 ^ s / Y = q1 * B + q0 := by
    rw [key, Nat.mul_add_div hYp, Nat.div_eq_of_lt hl, Nat.add_zero]
  have hm : N * 2 ^ s % Y = r0 := by
    rw [key, Nat.mul_add_mod, Nat.mod_eq_of_lt hl]
  constructor
  · rw [← hd, hY, Nat.mul_div_mul_right _ _ hp]
  · rw [← hm, hY, Nat.mul_mod_mul_right, Nat.mul_div_cancel _ hp]
end Go.Proofs.Ytgbnkoeidejhfaa
