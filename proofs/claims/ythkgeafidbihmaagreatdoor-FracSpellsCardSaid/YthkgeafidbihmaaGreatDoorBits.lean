/-
  Bits of a number, digit by digit: plain.
-/
import Derived.Test.YthkgeafidbihmaaGreatDoorGreat
namespace Go.Proofs.YthkgeafidbihmaaGreatDoor
set_option linter.unusedVariables false
set_option linter.unusedSimpArgs false

theorem digit_at {l : List Nat} (hd : Dig l) (t : Nat) : l.getD t 0 = val l / 4294967296 ^ t % 4294967296 := by
  have hlt : val (l.take t) < 4294967296 ^ t := by
    have h1 := val_lt (hd.take t)
    have h2 : 4294967296 ^ (l.take t).length ≤ 4294967296 ^ t := Nat.pow_le_pow_right (by decide) (by rw [List.length_take]; omega)
    omega
  have e : val l / 4294967296 ^ t = val (l.drop t) := by
    rw [val_split l t, Nat.add_mul_div_left _ _ (pow_pos' t), Nat.div_eq_of_lt hlt, Nat.zero_add]
  rw [e]
  by_cases h : t < l.length
  · have h1 := hd.getD t
    rw [List.drop_eq_getElem_cons h, val]
    rw [List.getD_eq_getElem?_getD, List.getElem?_eq_getElem h] at h1 ⊢
    simp only [Option.getD_some] at h1 ⊢
    omega
  · rw [List.drop_eq_nil_of_le (by omega), getD_zero_of_ge (by omega), val]

theorem pow32 (t : Nat) : (4294967296 : Nat) ^ t = 2 ^ (32 * t) := by
  rw [Nat.pow_mul]

/-- The bit at place 32t + s. -/
theorem bit_at {l : List Nat} (hd : Dig l) (t s : Nat) (hs : s < 32) : l.getD t 0 / 2 ^ s % 2 = val l / 2 ^ (32 * t + s) % 2 := by
  rw [digit_at hd, pow32, Nat.pow_add, ← Nat.div_div_eq_div_mul]
  generalize val l / 2 ^ (32 * t) = V
  have e : (4294967296 : Nat) = 2 ^ s * (2 * 2 ^ (31 - s)) := by
    rw [← Nat.pow_succ', ← Nat.pow_add, show s + (31 - s).succ = 32 by omega]
  rw [e, Nat.mod_mul_right_div_self, Nat.mod_mul_right_mod]

/-- Where all bits below place 32t + s and that one are noughts, one is set by adding. -/
theorem set_bit {qs : List Nat} (hd : Dig qs) {t s Q : Nat} (hs : s < 32) (ht : t < qs.length) (hv : val qs = 2 ^ (32 * t + s + 1) * Q) :
    qs.getD t 0 ||| 2 ^ s = qs.getD t 0 + 2 ^ s ∧ val (qs.set t (qs.getD t 0 + 2 ^ s)) = val qs + 2 ^ (32 * t + s) ∧ qs.getD t 0 + 2 ^ s < 4294967296 := by
  have hp : 0 < 2 ^ s := Nat.two_pow_pos s
  have e : (4294967296 : Nat) = 2 ^ (s + 1) * 2 ^ (31 - s) := by
    rw [← Nat.pow_add, show s + 1 + (31 - s) = 32 by omega]
  have hdig : qs.getD t 0 = 2 ^ (s + 1) * (Q % 2 ^ (31 - s)) := by
    rw [digit_at hd, hv, pow32, show 32 * t + s + 1 = 32 * t + (s + 1) by omega, Nat.pow_add, Nat.mul_assoc, Nat.mul_div_cancel_left _ (Nat.two_pow_pos _), e, Nat.mul_mod_mul_left]
  have h0 : qs.getD t 0 % (2 * 2 ^ s) = 0 := by
    rw [hdig, Nat.pow_succ, Nat.mul_comm (2 ^ s) 2, Nat.mul_mod_right]
  refine ⟨or_add _ _ s rfl h0, ?_, ?_⟩
  · have h1 := val_set (qs.getD t 0 + 2 ^ s) ht
    have h2 : 4294967296 ^ t * 2 ^ s = 2 ^ (32 * t + s) := by rw [pow32, ← Nat.pow_add]
    rw [Nat.mul_add, h2] at h1
    omega
  · have h1 : Q % 2 ^ (31 - s) < 2 ^ (31 - s) := Nat.mod_lt _ (Nat.two_pow_pos _)
    have h2 : 2 ^ (s + 1) * (Q % 2 ^ (31 - s) + 1) ≤ 2 ^ (s + 1) * 2 ^ (31 - s) := Nat.mul_le_mul_left _ h1
    rw [← e, Nat.mul_add, ← hdig, Nat.mul_one, Nat.pow_succ] at h2
    omega

/-- One bit more from the top. -/
theorem bit_step (X i : Nat) : X / 2 ^ i = 2 * (X / 2 ^ (i + 1)) + X / 2 ^ i % 2 := by
  rw [Nat.pow_succ, ← Nat.div_div_eq_div_mul]
  omega

theorem div_bit {V Y b : Nat} (hY : 0 < Y) (hb : b < 2) :
    (2 * V + b) % Y = (if Y ≤ V % Y + V % Y + b then V % Y + V % Y + b - Y else V % Y + V % Y + b) ∧ (2 * V + b) / Y = 2 * (V / Y) + (if Y ≤ V % Y + V % Y + b then 1 else 0) := by
  have h1 := Nat.mod_add_div V Y
  have h2 := Nat.mod_lt V hY
  have e : 2 * V + b = (V % Y + V % Y + b) + Y * (2 * (V / Y)) := by
    have : Y * (2 * (V / Y)) = 2 * (Y * (V / Y)) := by rw [← Nat.mul_assoc, ← Nat.mul_assoc, Nat.mul_comm Y 2]
    omega
  rw [e, Nat.add_mul_mod_self_left, Nat.add_mul_div_left _ _ hY]
  split
  · rename_i h
    have e2 : V % Y + V % Y + b = (V % Y + V % Y + b - Y) + Y * 1 := by omega
    have hlt : V % Y + V % Y + b - Y < Y := by omega
    constructor
    · rw [e2, Nat.add_mul_mod_self_left, Nat.mod_eq_of_lt hlt]; omega
    · rw [e2, Nat.add_mul_div_left _ _ hY, Nat.div_eq_of_lt hlt]; omega
  · rename_i h
    have hlt : V % Y + V % Y + b < Y := by omega
    rw [Nat.mod_eq_of_lt hlt, Nat.div_eq_of_lt hlt]
    omega

end Go.Proofs.YthkgeafidbihmaaGreatDoor
