/-
  One digit of a quotient by two digits, as bits.Div64 guesses it. Plain law.
-/
import Derived.PlainAid
import Derived.Lib.BitFns
import Derived.Lib.ItoaNum
namespace Go.Proofs.YtoblhbeeimboaaaDoor
set_option linter.unusedVariables false

/-- One digit of a quotient by two digits, as it is guessed: what holds round by round. -/
structure Guess (U u1 yn1 yn0 q r : Nat) : Prop where
  eq : U = q * yn1 + r
  ge : (U * 4294967296 + u1) / (yn1 * 4294967296 + yn0) ≤ q
  le : q ≤ 4294967297
  r : r < 4294967296

section
variable {U u1 yn1 yn0 q r : Nat}
theorem guess_begin (hU : U < yn1 * 4294967296 + yn0) (h1 : u1 < 4294967296) (h2 : 2147483648 ≤ yn1) (h3 : yn1 < 4294967296) (h0 : yn0 < 4294967296) : Guess U u1 yn1 yn0 (U / yn1) (U - U / yn1 * yn1) := by
  have hd := Nat.div_add_mod U yn1
  have hm := Nat.mod_lt U (show 0 < yn1 by omega)
  rw [Nat.mul_comm] at hd
  refine ⟨by omega, ?_, ?_, by omega⟩
  · rw [← Nat.lt_succ_iff, Nat.div_lt_iff_lt_mul (by omega)]
    have h4 : (U / yn1 + 1) * (yn1 * 4294967296 + yn0) ≥ (U / yn1 + 1) * (yn1 * 4294967296) := Nat.mul_le_mul_left _ (by omega)
    have h5 : (U / yn1 + 1) * (yn1 * 4294967296) = (U / yn1 * yn1 + yn1) * 4294967296 := by rw [← Nat.mul_assoc, Nat.add_mul, Nat.one_mul]
    rw [Nat.succ_eq_add_one]
    omega
  · have : U / yn1 < 4294967298 := by
      rw [Nat.div_lt_iff_lt_mul (by omega)]
      omega
    omega
theorem q_mul (h : U = q * yn1 + r) : q * (yn1 * 4294967296 + yn0) = (U - r) * 4294967296 + q * yn0 := by
  rw [Nat.mul_add, ← Nat.mul_assoc, h, Nat.add_sub_cancel]
theorem Q_lt (hU : U < yn1 * 4294967296 + yn0) (h1 : u1 < 4294967296) : (U * 4294967296 + u1) / (yn1 * 4294967296 + yn0) < 4294967296 := by
  rw [Nat.div_lt_iff_lt_mul (by omega)]
  omega
/-- The guess stands. -/
theorem Guess.done (g : Guess U u1 yn1 yn0 q r) (hY : 0 < yn1) (h : q * yn0 ≤ 4294967296 * r + u1) : q = (U * 4294967296 + u1) / (yn1 * 4294967296 + yn0) := by
  refine Nat.le_antisymm ?_ g.ge
  rw [Nat.le_div_iff_mul_le (by omega), q_mul g.eq]
  have := g.eq
  omega
/-- The guess is too great. -/
theorem Guess.great (g : Guess U u1 yn1 yn0 q r) (hU : U < yn1 * 4294967296 + yn0) (h1 : u1 < 4294967296) (h : 4294967296 ≤ q ∨ 4294967296 * r + u1 < q * yn0) : (U * 4294967296 + u1) / (yn1 * 4294967296 + yn0) < q := by
  rcases h with h | h
  · exact Nat.lt_of_lt_of_le (Q_lt hU h1) h
  · rw [Nat.div_lt_iff_lt_mul (by omega), q_mul g.eq]
    have := g.eq
    omega
theorem Guess.next (g : Guess U u1 yn1 yn0 q r) (hU : U < yn1 * 4294967296 + yn0) (h1 : u1 < 4294967296) (h : 4294967296 ≤ q ∨ 4294967296 * r + u1 < q * yn0) (hr : r + yn1 < 4294967296) : Guess U u1 yn1 yn0 (q - 1) (r + yn1) := by
  have hg := g.great hU h1 h
  have he := g.eq
  have h0 : 0 < q := Nat.lt_of_le_of_lt (Nat.zero_le _) hg
  refine ⟨?_, Nat.le_sub_one_of_lt hg, by have := g.le; omega, hr⟩
  obtain ⟨p, rfl⟩ : ∃ p, q = p + 1 := ⟨q - 1, by omega⟩
  rw [Nat.add_sub_cancel]
  rw [Nat.add_mul, Nat.one_mul] at he
  omega
theorem Guess.over (g : Guess U u1 yn1 yn0 q r) (hU : U < yn1 * 4294967296 + yn0) (h1 : u1 < 4294967296) (h0 : yn0 < 4294967296) (h : 4294967296 ≤ q ∨ 4294967296 * r + u1 < q * yn0) (hr : 4294967296 ≤ r + yn1) : q - 1 = (U * 4294967296 + u1) / (yn1 * 4294967296 + yn0) := by
  have hg := g.great hU h1 h
  have he := g.eq
  have hl := g.le
  have hq0 : 0 < q := Nat.lt_of_le_of_lt (Nat.zero_le _) hg
  refine Nat.le_antisymm ?_ (Nat.le_sub_one_of_lt hg)
  obtain ⟨p, rfl⟩ : ∃ p, q = p + 1 := ⟨q - 1, by omega⟩
  rw [Nat.add_sub_cancel]
  have he2 : U = p * yn1 + (r + yn1) := by rw [Nat.add_mul, Nat.one_mul] at he; omega
  rw [Nat.le_div_iff_mul_le (by omega), q_mul he2]
  have : p * yn0 ≤ 4294967296 * 4294967295 := Nat.mul_le_mul (by omega) (by omega)
  omega
end

theorem two64 {s : Nat} (hs : s ≤ 64) : 2 ^ (64 - s) * 2 ^ s = 18446744073709551616 := by
  rw [← Nat.pow_add, Nat.sub_add_cancel hs]
/-- The divisor is shifted so far that its top bit is set. -/
theorem norm_y {y : Nat} (h0 : 0 < y) (hy : y < 18446744073709551616) : Lib.bitLen y ≤ 64 ∧ 1 ≤ Lib.bitLen y ∧ 9223372036854775808 ≤ y * 2 ^ (64 - Lib.bitLen y) ∧ y * 2 ^ (64 - Lib.bitLen y) < 18446744073709551616 := by
  have hb : Lib.bitLen y ≤ 64 := Lib.bitLen_le y 64 (Nat.le_refl _) hy
  obtain ⟨h1, h2, h3⟩ := Lib.bitLenAux_bounds 64 y hy (by omega)
  have h1 : 1 ≤ Lib.bitLen y := h1
  have h2 : 2 ^ (Lib.bitLen y - 1) ≤ y := h2
  have h3 : y < 2 ^ Lib.bitLen y := h3
  refine ⟨hb, h1, ?_, ?_⟩
  · have := Nat.mul_le_mul_right (2 ^ (64 - Lib.bitLen y)) h2
    rw [← Nat.pow_add, show Lib.bitLen y - 1 + (64 - Lib.bitLen y) = 63 by omega] at this
    exact this
  · have := Nat.mul_lt_mul_of_pos_right h3 (Nat.pow_pos (n := 64 - Lib.bitLen y) (show 0 < 2 by decide))
    rw [← Nat.pow_add, show Lib.bitLen y + (64 - Lib.bitLen y) = 64 by omega] at this
    exact this
/-- The two digits, shifted. -/
theorem norm_u {hi lo s : Nat} (hs : s ≤ 64) (hl : lo < 18446744073709551616) (hh : hi * 2 ^ s < 18446744073709551616) :
    hi * 2 ^ s ||| lo / 2 ^ (64 - s) = hi * 2 ^ s + lo / 2 ^ (64 - s) ∧ (hi * 18446744073709551616 + lo) * 2 ^ s = (hi * 2 ^ s + lo / 2 ^ (64 - s)) * 18446744073709551616 + lo * 2 ^ s % 18446744073709551616 ∧ lo / 2 ^ (64 - s) < 2 ^ s := by
  have h64 := two64 hs
  have hp : 0 < 2 ^ s := Nat.pow_pos (by decide)
  have hlt : lo / 2 ^ (64 - s) < 2 ^ s := by
    rw [Nat.div_lt_iff_lt_mul (Nat.pow_pos (by decide)), Nat.mul_comm, h64]
    exact hl
  refine ⟨?_, ?_, hlt⟩
  · rw [Nat.mul_comm hi, Nat.two_pow_add_eq_or_of_lt hlt]
  · have hd : lo * 2 ^ s / 18446744073709551616 = lo / 2 ^ (64 - s) := by
      rw [← h64, Nat.mul_div_mul_right _ _ hp]
    have := Nat.div_add_mod (lo * 2 ^ s) 18446744073709551616
    rw [hd] at this
    rw [Nat.add_mul, Nat.add_mul, Nat.mul_right_comm]
    omega
theorem two_aux {A B Y N y s : Nat} (hY : 0 < Y) (e : N * 2 ^ s = A * Y + B) (hy : Y = y * 2 ^ s) : A + B / Y = N / y ∧ B % Y / 2 ^ s = N % y := by
  have hp : 0 < 2 ^ s := Nat.pow_pos (by decide)
  have h1 : N * 2 ^ s / Y = N / y := by rw [hy, Nat.mul_div_mul_right _ _ hp]
  have h2 : N * 2 ^ s % Y = N % y * 2 ^ s := by rw [hy, Nat.mul_mod_mul_right]
  constructor
  · rw [← h1, e, Nat.add_comm (A * Y) B, Nat.add_mul_div_right _ _ hY, Nat.add_comm]
  · have : B % Y = N % y * 2 ^ s := by
      rw [← h2, e, Nat.add_comm (A * Y) B, Nat.add_mul_mod_self_right]
    rw [this, Nat.mul_div_cancel _ hp]
/-- The quotient in two digits, and what is left. -/
theorem two_digits {U u1 u0 Y N y s : Nat} (hY : 0 < Y) (hN : N * 2 ^ s = U * 18446744073709551616 + (u1 * 4294967296 + u0)) (hy : Y = y * 2 ^ s) :
    (U * 4294967296 + u1) / Y * 4294967296 + ((U * 4294967296 + u1) % Y * 4294967296 + u0) / Y = N / y ∧ (((U * 4294967296 + u1) % Y * 4294967296 + u0) % Y) / 2 ^ s = N % y := by
  have e1 := Nat.div_add_mod (U * 4294967296 + u1) Y
  refine two_aux hY ?_ hy
  rw [hN]
  have : (U * 4294967296 + u1) / Y * 4294967296 * Y = Y * ((U * 4294967296 + u1) / Y) * 4294967296 := by rw [Nat.mul_comm Y, Nat.mul_right_comm]
  rw [this]
  omega

/-- What is left, reckoned by the machine's words. -/
theorem left_over {U u PY A B C R : Nat} (hR : U * 4294967296 + u = PY + R) (hA : A = U * 4294967296 % 18446744073709551616) (hB : B = (A + u) % 18446744073709551616) (hC : C = PY % 18446744073709551616) (hl : R < 18446744073709551616) :
    ((B : Int) - (C : Int)) % 18446744073709551616 = (R : Int) := by
  omega

end Go.Proofs.YtoblhbeeimboaaaDoor
