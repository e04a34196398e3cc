/-
  How many digits: bounds.
-/
import Derived.Test.YthkgeafidbihmaaGreatDoorSub
namespace Go.Proofs.YthkgeafidbihmaaGreatDoor
open Go.RowKit
set_option linter.unusedVariables false
set_option linter.unusedSimpArgs false

theorem rd_le {w : World} {B : Nat} {A : Option Addr} {n c x k : Nat} (h : Rd w B A n c (digs x)) (hx : x < 4294967296 ^ k) : n ≤ k := by
  have h1 := digs_len_le hx
  have h2 := h.len
  omega
theorem rd_lt {w : World} {B : Nat} {A : Option Addr} {n c x k : Nat} (h : Rd w B A n c (digs x)) (hn : n ≤ k) : x < 4294967296 ^ k := by
  have h1 := lt_of_digs_len x
  rw [h.len] at h1
  exact Nat.lt_of_lt_of_le h1 (Nat.pow_le_pow_right (by decide) hn)
theorem pow_mono {j k : Nat} (h : j ≤ k) : 4294967296 ^ j ≤ 4294967296 ^ k := Nat.pow_le_pow_right (by decide) h
theorem bd_add {x y j k m : Nat} (hx : x < 4294967296 ^ j) (hy : y < 4294967296 ^ k) (hj : j + 1 ≤ m) (hk : k + 1 ≤ m) : x + y < 4294967296 ^ m := by
  obtain ⟨m', rfl⟩ : ∃ m', m = m' + 1 := ⟨m - 1, by omega⟩
  have h1 : 4294967296 ^ j ≤ 4294967296 ^ m' := pow_mono (by omega)
  have h2 : 4294967296 ^ k ≤ 4294967296 ^ m' := pow_mono (by omega)
  rw [Nat.pow_succ]
  omega
theorem bd_mul {x y j k : Nat} (hx : x < 4294967296 ^ j) (hy : y < 4294967296 ^ k) : x * y < 4294967296 ^ (j + k) := by
  rw [Nat.pow_add]
  rcases Nat.eq_zero_or_pos y with h | h
  · subst h; rw [Nat.mul_zero]; exact Nat.mul_pos (Nat.pow_pos (by decide)) (Nat.pow_pos (by decide))
  · exact Nat.lt_of_lt_of_le ((Nat.mul_lt_mul_right h).2 hx) (Nat.mul_le_mul_left _ (Nat.le_of_lt hy))
theorem bd_gcd {x y j k m : Nat} (hx : x < 4294967296 ^ j) (hy : y < 4294967296 ^ k) (hj : j ≤ m) (hk : k ≤ m) (hm : 0 < m) : Nat.gcd x y < 4294967296 ^ m := by
  rcases Nat.eq_zero_or_pos x with h | h
  · subst h; rw [Nat.gcd_zero_left]; exact Nat.lt_of_lt_of_le hy (pow_mono hk)
  · exact Nat.lt_of_le_of_lt (Nat.gcd_le_left _ h) (Nat.lt_of_lt_of_le hx (pow_mono hj))
theorem dec_same {x y : Nat} (h : x = y) : decide (digs x = digs y) = true := by rw [h]; exact decide_eq_true rfl
theorem dec_diff {x y : Nat} (h : x ≠ y) : decide (digs x = digs y) = false := decide_eq_false (fun e => h (digs_inj e))
theorem as_digs {l : List Nat} (hd : Dig l) (hr : rightB l = true) : ∃ X, l = digs X := ⟨val l, (digs_val hd hr).symm⟩
theorem cmp_lt {x y : Nat} (h : x < y) : cmpI (x : Int) (y : Int) = -1 := by rw [cmpI_nat, if_pos h]
theorem cmp_gt {x y : Nat} (h : y < x) : cmpI (x : Int) (y : Int) = 1 := by rw [cmpI_nat, if_neg (by omega), if_pos h]
theorem cmp_eq {x y : Nat} (h : x = y) : cmpI (x : Int) (y : Int) = 0 := by rw [cmpI_nat, if_neg (by omega), if_neg (by omega)]

end Go.Proofs.YthkgeafidbihmaaGreatDoor
