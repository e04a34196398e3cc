/-
  One digit of a quotient by two digits, as bits.Div64 guesses it. Plain law.
-/
import Derived.PlainAid
import Derived.Lib.BitFns
import Derived.Lib.ItoaNum
import Derived.Shelf.Small.Bits
import Derived.Shelf.Small.Wraps
import Derived.Shelf.Strconv.Itoa0
import Derived.Shelf.Bits.Mul64
import Derived.Test.YthefgdehfgkhhaaGreatProg
import Derived.WalkKit
import Derived.Tactics
import Derived.Deep.DeepCutAuto
import Derived.Deep.CutBlock
import Derived.Laws.Bits64b
import Derived.Lib.Hide
import Derived.IntWalk
namespace Go.Proofs.YthefgdehfgkhhaaGreat
theorem pu : type_of% (And.intro @List.getElem_toArray.{0} (And.intro @List.getElem_cons_zero.{0} (And.intro @List.getElem_cons_succ.{0} (And.intro @List.setIfInBounds_toArray.{0} (And.intro @List.set_cons_zero.{0} @List.set_cons_succ.{0}))))) := And.intro @List.getElem_toArray.{0} (And.intro @List.getElem_cons_zero.{0} (And.intro @List.getElem_cons_succ.{0} (And.intro @List.setIfInBounds_toArray.{0} (And.intro @List.set_cons_zero.{0} @List.set_cons_succ.{0}))))
end Go.Proofs.YthefgdehfgkhhaaGreat
namespace Go.Proofs.YthefgdehfgkhhaaGreat
set_option linter.unusedVariables false
/-- One digit of a quotient by two digits, as it is guessed: what holds round by round. -/
structure Guess (U u1 yn1 yn0 q r : Nat) : Prop where
 eq : U = q * yn1 + r
 ge : (U * 4294967296 + u1) / (yn1 * 4294967296 + yn0) ≤ q
 le : q ≤ 4294967297
 r : r < 4294967296
section
variable {U u1 yn1 yn0 q r : Nat}
theorem guess_begin (hU : U < yn1 * 4294967296 + yn0) (h1 : u1 < 4294967296) (h2 : 2147483648 ≤ yn1) (h3 : yn1 < 4294967296) (h0 : yn0 < 4294967296) : Guess U u1 yn1 yn0 (U / yn1) (U - U / yn1 * yn1) := by
 have hd := Nat.div_add_mod U yn1
 have hm := Nat.mod_lt U (show 0 < yn1 by omega)
 rw [Nat.mul_comm] at hd
 refine ⟨by omega, ?_, ?_, by omega⟩
 ·rw [← Nat.lt_succ_iff, Nat.div_lt_iff_lt_mul (by omega)]
  have h4 : (U / yn1 + 1) * (yn1 * 4294967296 + yn0) ≥ (U / yn1 + 1) * (yn1 * 4294967296) := Nat.mul_le_mul_left _ (by omega)
  have h5 : (U / yn1 + 1) * (yn1 * 4294967296) = (U / yn1 * yn1 + yn1) * 4294967296 := by rw [← Nat.mul_assoc, Nat.add_mul, Nat.one_mul]
  rw [Nat.succ_eq_add_one]
  omega
 ·have : U / yn1 < 4294967298 := by
   rw [Nat.div_lt_iff_lt_mul (by omega)]
   omega
  omega
theorem q_mul (h : U = q * yn1 + r) : q * (yn1 * 4294967296 + yn0) = (U - r) * 4294967296 + q * yn0 := by
 rw [Nat.mul_add, ← Nat.mul_assoc, h, Nat.add_sub_cancel]
theorem Q_lt (hU : U < yn1 * 4294967296 + yn0) (h1 : u1 < 4294967296) : (U * 4294967296 + u1) / (yn1 * 4294967296 + yn0) < 4294967296 := by
 rw [Nat.div_lt_iff_lt_mul (by omega)]
 omega
/-- The guess stands. -/
theorem Guess.done (g : Guess U u1 yn1 yn0 q r) (hY : 0 < yn1) (h : q * yn0 ≤ 4294967296 * r + u1) : q = (U * 4294967296 + u1) / (yn1 * 4294967296 + yn0) := by
 refine Nat.le_antisymm ?_ g.ge
 rw [Nat.le_div_iff_mul_le (by omega), q_mul g.eq]
 have := g.eq
 omega
/-- The guess is too great. -/
theorem Guess.great (g : Guess U u1 yn1 yn0 q r) (hU : U < yn1 * 4294967296 + yn0) (h1 : u1 < 4294967296) (h : 4294967296 ≤ q ∨ 4294967296 * r + u1 < q * yn0) : (U * 4294967296 + u1) / (yn1 * 4294967296 + yn0) < q := by
 rcases h with h | h
 ·exact Nat.lt_of_lt_of_le (Q_lt hU h1) h
 ·rw [Nat.div_lt_iff_lt_mul (by omega), q_mul g.eq]
  have := g.eq
  omega
theorem Guess.next (g : Guess U u1 yn1 yn0 q r) (hU : U < yn1 * 4294967296 + yn0) (h1 : u1 < 4294967296) (h : 4294967296 ≤ q ∨ 4294967296 * r + u1 < q * yn0) (hr : r + yn1 < 4294967296) : Guess U u1 yn1 yn0 (q - 1) (r + yn1) := by
 have hg := g.great hU h1 h
 have he := g.eq
 have h0 : 0 < q := Nat.lt_of_le_of_lt (Nat.zero_le _) hg
 refine ⟨?_, Nat.le_sub_one_of_lt hg, by have := g.le; omega, hr⟩
 obtain ⟨p, rfl⟩ : ∃ p, q = p + 1 := ⟨q - 1, by omega⟩
 rw [Nat.add_sub_cancel]
 rw [Nat.add_mul, Nat.one_mul] at he
 omega
theorem Guess.over (g : Guess U u1 yn1 yn0 q r) (hU : U < yn1 * 4294967296 + yn0) (h1 : u1 < 4294967296) (h0 : yn0 < 4294967296) (h : 4294967296 ≤ q ∨ 4294967296 * r + u1 < q * yn0) (hr : 4294967296 ≤ r + yn1) : q - 1 = (U * 4294967296 + u1) / (yn1 * 4294967296 + yn0) := by
 have hg := g.great hU h1 h
 have he := g.eq
 have hl := g.le
 have hq0 : 0 < q := Nat.lt_of_le_of_lt (Nat.zero_le _) hg
 refine Nat.le_antisymm ?_ (Nat.le_sub_one_of_lt hg)
 obtain ⟨p, rfl⟩ : ∃ p, q = p + 1 := ⟨q - 1, by omega⟩
 rw [Nat.add_sub_cancel]
 have he2 : U = p * yn1 + (r + yn1) := by rw [Nat.add_mul, Nat.one_mul] at he; omega
 rw [Nat.le_div_iff_mul_le (by omega), q_mul he2]
 have : p * yn0 ≤ 4294967296 * 4294967295 := Nat.mul_le_mul (by omega) (by omega)
 omega
end
theorem two64 {s : Nat} (hs : s ≤ 64) : 2 ^ (64 - s) * 2 ^ s = 18446744073709551616 := by
 rw [← Nat.pow_add, Nat.sub_add_cancel hs]
/-- The divisor is shifted so far that its top bit is set. -/
theorem norm_y {y : Nat} (h0 : 0 < y) (hy : y < 18446744073709551616) : Lib.bitLen y ≤ 64 ∧ 1 ≤ Lib.bitLen y ∧ 9223372036854775808 ≤ y * 2 ^ (64 - Lib.bitLen y) ∧ y * 2 ^ (64 - Lib.bitLen y) < 18446744073709551616 := by
 have hb : Lib.bitLen y ≤ 64 := Lib.bitLen_le y 64 (Nat.le_refl _) hy
 obtain ⟨h1, h2, h3⟩ := Lib.bitLenAux_bounds 64 y hy (by omega)
 have h1 : 1 ≤ Lib.bitLen y := h1
 have h2 : 2 ^ (Lib.bitLen y - 1) ≤ y := h2
 have h3 : y < 2 ^ Lib.bitLen y := h3
 refine ⟨hb, h1, ?_, ?_⟩
 ·have := Nat.mul_le_mul_right (2 ^ (64 - Lib.bitLen y)) h2
  rw [← Nat.pow_add, show Lib.bitLen y - 1 + (64 - Lib.bitLen y) = 63 by omega] at this
  exact this
 ·have := Nat.mul_lt_mul_of_pos_right h3 (Nat.pow_pos (n := 64 - Lib.bitLen y) (show 0 < 2 by decide))
  rw [← Nat.pow_add, show Lib.bitLen y + (64 - Lib.bitLen y) = 64 by omega] at this
  exact this
/-- The two digits, shifted. -/
theorem norm_u {hi lo s : Nat} (hs : s ≤ 64) (hl : lo < 18446744073709551616) (hh : hi * 2 ^ s < 18446744073709551616) :
 hi * 2 ^ s ||| lo / 2 ^ (64 - s) = hi * 2 ^ s + lo / 2 ^ (64 - s) ∧ (hi * 18446744073709551616 + lo) * 2 ^ s = (hi * 2 ^ s + lo / 2 ^ (64 - s)) * 18446744073709551616 + lo * 2 ^ s % 18446744073709551616 ∧ lo / 2 ^ (64 - s) < 2 ^ s := by
 have h64 := two64 hs
 have hp : 0 < 2 ^ s := Nat.pow_pos (by decide)
 have hlt : lo / 2 ^ (64 - s) < 2 ^ s := by
  rw [Nat.div_lt_iff_lt_mul (Nat.pow_pos (by decide)), Nat.mul_comm, h64]
  exact hl
 refine ⟨?_, ?_, hlt⟩
 ·rw [Nat.mul_comm hi, Nat.two_pow_add_eq_or_of_lt hlt]
 ·have hd : lo * 2 ^ s / 18446744073709551616 = lo / 2 ^ (64 - s) := by
   rw [← h64, Nat.mul_div_mul_right _ _ hp]
  have := Nat.div_add_mod (lo * 2 ^ s) 18446744073709551616
  rw [hd] at this
  rw [Nat.add_mul, Nat.add_mul, Nat.mul_right_comm]
  omega
theorem two_aux {A B Y N y s : Nat} (hY : 0 < Y) (e : N * 2 ^ s = A * Y + B) (hy : Y = y * 2 ^ s) : A + B / Y = N / y ∧ B % Y / 2 ^ s = N % y := by
 have hp : 0 < 2 ^ s := Nat.pow_pos (by decide)
 have h1 : N * 2 ^ s / Y = N / y := by rw [hy, Nat.mul_div_mul_right _ _ hp]
 have h2 : N * 2 ^ s % Y = N % y * 2 ^ s := by rw [hy, Nat.mul_mod_mul_right]
 constructor
 ·rw [← h1, e, Nat.add_comm (A * Y) B, Nat.add_mul_div_right _ _ hY, Nat.add_comm]
 ·have : B % Y = N % y * 2 ^ s := by
   rw [← h2, e, Nat.add_comm (A * Y) B, Nat.add_mul_mod_self_right]
  rw [this, Nat.mul_div_cancel _ hp]
/-- The quotient in two digits, and what is left. -/
theorem two_digits {U u1 u0 Y N y s : Nat} (hY : 0 < Y) (hN : N * 2 ^ s = U * 18446744073709551616 + (u1 * 4294967296 + u0)) (hy : Y = y * 2 ^ s) :
 (U * 4294967296 + u1) / Y * 4294967296 + ((U * 4294967296 + u1) % Y * 4294967296 + u0) / Y = N / y ∧ (((U * 4294967296 + u1) % Y * 4294967296 + u0) % Y) / 2 ^ s = N % y := by
 have e1 := Nat.div_add_mod (U * 4294967296 + u1) Y
 refine two_aux hY ?_ hy
 rw [hN]
 have : (U * 4294967296 + u1) / Y * 4294967296 * Y = Y * ((U * 4294967296 + u1) / Y) * 4294967296 := by rw [Nat.mul_comm Y, Nat.mul_right_comm]
 rw [this]
 omega
/-- What is left, reckoned by the machine's words. -/
theorem left_over {U u PY A B C R : Nat} (hR : U * 4294967296 + u = PY + R) (hA : A = U * 4294967296 % 18446744073709551616) (hB : B = (A + u) % 18446744073709551616) (hC : C = PY % 18446744073709551616) (hl : R < 18446744073709551616) :
 ((B : Int) - (C : Int)) % 18446744073709551616 = (R : Int) := by
 omega
end Go.Proofs.YthefgdehfgkhhaaGreat
namespace Go.Proofs
open Go.Shelf
def Tryz.lays128_ren : Go.Shelf.Ren := ⟨fun | 128 => 132 | n => n, fun | 51 => 132 | 3 => 3 | 4 => 4 | 46 => 133 | 5 => 5 | 9 => 9 | n => n, fun | n => n⟩
theorem Tryz.lays128 : Go.Proofs.Lays.n128 Tryz.prog Tryz.lays128_ren := {
 mixed := by kernel_rfl
 f128 := Tryz.func132.trans (congrArg some (by kernel_rfl))
 t3 := Tryz.underlying3
 a3 := Tryz.isAgg3
 z3 := Tryz.sizeOf3
 v3 := Tryz.zeroValue3
 t4 := Tryz.underlying4
 a4 := Tryz.isAgg4
 z4 := Tryz.sizeOf4
 v4 := Tryz.zeroValue4
 t5 := Tryz.underlying5
 a5 := Tryz.isAgg5
 z5 := Tryz.sizeOf5
 v5 := Tryz.zeroValue5
 t9 := Tryz.underlying9
 a9 := Tryz.isAgg9
 z9 := Tryz.sizeOf9
 v9 := Tryz.zeroValue9
 t46 := Tryz.underlying133
 a46 := Tryz.isAgg133
 z46 := Tryz.sizeOf133
 v46 := Tryz.zeroValue133
 t51 := Tryz.underlying132
 a51 := Tryz.isAgg132
 z51 := Tryz.sizeOf132
 v51 := Tryz.zeroValue132 }
theorem Tryz.bits_Len32 (x : Int) (w : World) (h0 : 0 ≤ x) (h1 : x ≤ 4294967295) :
 Calls Tryz.prog 132 #[.int .u32 x] w fun e w' => e = .returned (.int .i64 (Lib.bitLen x.toNat)) ∧ w' = w := Any.bits_Len32 Tryz.lays128 x w h0 h1
def Tryz.lays125_ren : Go.Shelf.Ren := ⟨fun | 125 => 113 | 128 => 132 | 129 => 133 | n => n, fun | 46 => 133 | 3 => 3 | 51 => 132 | 53 => 37 | 4 => 4 | 5 => 5 | 9 => 9 | n => n, fun | n => n⟩
theorem Tryz.lays125 : Go.Proofs.Lays.n125 Tryz.prog Tryz.lays125_ren := {
 mixed := by kernel_rfl
 f125 := Tryz.func113.trans (congrArg some (by kernel_rfl))
 f128 := Tryz.func132.trans (congrArg some (by kernel_rfl))
 f129 := Tryz.func133.trans (congrArg some (by kernel_rfl))
 t3 := Tryz.underlying3
 a3 := Tryz.isAgg3
 z3 := Tryz.sizeOf3
 v3 := Tryz.zeroValue3
 t4 := Tryz.underlying4
 a4 := Tryz.isAgg4
 z4 := Tryz.sizeOf4
 v4 := Tryz.zeroValue4
 t5 := Tryz.underlying5
 a5 := Tryz.isAgg5
 z5 := Tryz.sizeOf5
 v5 := Tryz.zeroValue5
 t9 := Tryz.underlying9
 a9 := Tryz.isAgg9
 z9 := Tryz.sizeOf9
 v9 := Tryz.zeroValue9
 t46 := Tryz.underlying133
 a46 := Tryz.isAgg133
 z46 := Tryz.sizeOf133
 v46 := Tryz.zeroValue133
 t51 := Tryz.underlying132
 a51 := Tryz.isAgg132
 z51 := Tryz.sizeOf132
 v51 := Tryz.zeroValue132
 t53 := Tryz.underlying37
 a53 := Tryz.isAgg37
 z53 := Tryz.sizeOf37
 v53 := Tryz.zeroValue37 }
theorem Tryz.bits_Len (x : Int) (w : World) (h0 : 0 ≤ x) (h1 : x ≤ 18446744073709551615) :
 Calls Tryz.prog 113 #[.int .u64 x] w fun e w' => e = .returned (.int .i64 (Lib.bitLen x.toNat)) ∧ w' = w := Any.bits_Len Tryz.lays125 x w h0 h1
def Tryz.lays134_ren : Go.Shelf.Ren := ⟨fun | 134 => 135 | 129 => 133 | n => n, fun | 53 => 37 | 3 => 3 | 4 => 4 | 46 => 133 | 5 => 5 | 9 => 9 | n => n, fun | n => n⟩
theorem Tryz.lays134 : Go.Proofs.Lays.n134 Tryz.prog Tryz.lays134_ren := {
 mixed := by kernel_rfl
 f129 := Tryz.func133.trans (congrArg some (by kernel_rfl))
 f134 := Tryz.func135.trans (congrArg some (by kernel_rfl))
 t3 := Tryz.underlying3
 a3 := Tryz.isAgg3
 z3 := Tryz.sizeOf3
 v3 := Tryz.zeroValue3
 t4 := Tryz.underlying4
 a4 := Tryz.isAgg4
 z4 := Tryz.sizeOf4
 v4 := Tryz.zeroValue4
 t5 := Tryz.underlying5
 a5 := Tryz.isAgg5
 z5 := Tryz.sizeOf5
 v5 := Tryz.zeroValue5
 t9 := Tryz.underlying9
 a9 := Tryz.isAgg9
 z9 := Tryz.sizeOf9
 v9 := Tryz.zeroValue9
 t46 := Tryz.underlying133
 a46 := Tryz.isAgg133
 z46 := Tryz.sizeOf133
 v46 := Tryz.zeroValue133
 t53 := Tryz.underlying37
 a53 := Tryz.isAgg37
 z53 := Tryz.sizeOf37
 v53 := Tryz.zeroValue37 }
theorem Tryz.bits_LeadingZeros64 (x : Int) (w : World) (h0 : 0 ≤ x) (h1 : x ≤ 18446744073709551615) :
 Calls Tryz.prog 135 #[.int .u64 x] w fun e w' => e = .returned (.int .i64 (64 - (Lib.bitLen x.toNat : Int))) ∧ w' = w := Any.bits_LeadingZeros64 Tryz.lays134 x w h0 h1
def Tryz.lays215_ren : Go.Shelf.Ren := ⟨fun | 215 => 106 | n => n, fun | 3 => 3 | 4 => 4 | n => n, fun | n => n⟩
theorem Tryz.lays215 : Go.Proofs.Lays.n215 Tryz.prog Tryz.lays215_ren := {
 mixed := by kernel_rfl
 f215 := Tryz.func106.trans (congrArg some (by kernel_rfl))
 t3 := Tryz.underlying3
 a3 := Tryz.isAgg3
 z3 := Tryz.sizeOf3
 v3 := Tryz.zeroValue3
 t4 := Tryz.underlying4
 a4 := Tryz.isAgg4
 z4 := Tryz.sizeOf4
 v4 := Tryz.zeroValue4 }
open Go.RowKit in
theorem Tryz.cmp_isNaN_int (x : Int) (w : World) :
 Calls Tryz.prog 106 #[.int .i64 x] w fun e w' => e = .returned (.bool false) ∧ w' = w := Any.cmp_isNaN_int Tryz.lays215 x w
def Tryz.lays122_ren : Go.Shelf.Ren := ⟨fun | 122 => 76 | 215 => 106 | n => n, fun | 3 => 3 | 4 => 4 | n => n, fun | n => n⟩
theorem Tryz.lays122 : Go.Proofs.Lays.n122 Tryz.prog Tryz.lays122_ren := {
 mixed := by kernel_rfl
 f122 := Tryz.func76.trans (congrArg some (by kernel_rfl))
 f215 := Tryz.func106.trans (congrArg some (by kernel_rfl))
 t3 := Tryz.underlying3
 a3 := Tryz.isAgg3
 z3 := Tryz.sizeOf3
 v3 := Tryz.zeroValue3
 t4 := Tryz.underlying4
 a4 := Tryz.isAgg4
 z4 := Tryz.sizeOf4
 v4 := Tryz.zeroValue4 }
open Go.RowKit in
theorem Tryz.cmp_Compare_int (x y : Int) (w : World) :
 Calls Tryz.prog 76 #[.int .i64 x, .int .i64 y] w fun e w' => e = .returned (.int .i64 (Lib.compareInt x y)) ∧ w' = w := Any.cmp_Compare_int Tryz.lays122 x y w
def Tryz.lays129_ren : Go.Shelf.Ren := ⟨fun | 129 => 133 | n => n, fun | 53 => 37 | 3 => 3 | 4 => 4 | 46 => 133 | 5 => 5 | 9 => 9 | n => n, fun | n => n⟩
theorem Tryz.lays129 : Go.Proofs.Lays.n129 Tryz.prog Tryz.lays129_ren := {
 mixed := by kernel_rfl
 f129 := Tryz.func133.trans (congrArg some (by kernel_rfl))
 t3 := Tryz.underlying3
 a3 := Tryz.isAgg3
 z3 := Tryz.sizeOf3
 v3 := Tryz.zeroValue3
 t4 := Tryz.underlying4
 a4 := Tryz.isAgg4
 z4 := Tryz.sizeOf4
 v4 := Tryz.zeroValue4
 t5 := Tryz.underlying5
 a5 := Tryz.isAgg5
 z5 := Tryz.sizeOf5
 v5 := Tryz.zeroValue5
 t9 := Tryz.underlying9
 a9 := Tryz.isAgg9
 z9 := Tryz.sizeOf9
 v9 := Tryz.zeroValue9
 t46 := Tryz.underlying133
 a46 := Tryz.isAgg133
 z46 := Tryz.sizeOf133
 v46 := Tryz.zeroValue133
 t53 := Tryz.underlying37
 a53 := Tryz.isAgg37
 z53 := Tryz.sizeOf37
 v53 := Tryz.zeroValue37 }
theorem Tryz.bits_Len64 (x : Int) (w : World) (h0 : 0 ≤ x) (h1 : x ≤ 18446744073709551615) :
 Calls Tryz.prog 133 #[.int .u64 x] w fun e w' => e = .returned (.int .i64 (Lib.bitLen x.toNat)) ∧ w' = w := Any.bits_Len64 Tryz.lays129 x w h0 h1
def Tryz.lays264_ren : Go.Shelf.Ren := ⟨fun | 264 => 121 | n => n, fun | 53 => 37 | 46 => 133 | n => n, fun | n => n⟩
theorem Tryz.lays264 : Go.Proofs.Lays.n264 Tryz.prog Tryz.lays264_ren := {
 mixed := by kernel_rfl
 f264 := Tryz.func121.trans (congrArg some (by kernel_rfl))
 t46 := Tryz.underlying133
 a46 := Tryz.isAgg133
 z46 := Tryz.sizeOf133
 v46 := Tryz.zeroValue133
 t53 := Tryz.underlying37
 a53 := Tryz.isAgg37
 z53 := Tryz.sizeOf37
 v53 := Tryz.zeroValue37 }
open Go.RowKit Go.Lib in
theorem Tryz.bits_Mul64 (x y : Nat) (hx : x < 18446744073709551616) (hy : y < 18446744073709551616) (w : World) :
 Calls Tryz.prog 121 #[.int .u64 x, .int .u64 y] w fun e w' => e = .returned (.tuple #[.int .u64 ((x * y / 18446744073709551616 : Nat) : Int), .int .u64 ((x * y % 18446744073709551616 : Nat) : Int)]) ∧ w' = w := Any.bits_Mul64 Tryz.lays264 x y hx hy w
end Go.Proofs
namespace Go.Proofs.YthefgdehfgkhhaaGreat
open Go.RowKit Go.Shelf
set_option linter.unusedVariables false
set_option linter.unusedSimpArgs false
set_option maxRecDepth 100000 in
theorem div64_low (w : World) (lo y : Nat) (hl : lo < 18446744073709551616) (hy : y < 18446744073709551616) (h0 : 0 < y) :
 Calls Tryz.prog 122 #[.int .u64 (0 : Nat), .int .u64 lo, .int .u64 y] w fun e w' => e = .returned (.tuple #[.int .u64 (lo / y : Nat), .int .u64 (lo % y : Nat)]) ∧ Below w.heap.size w w' := by
 have g1 : ¬ ((y : Int) = 0) := by omega
 have g2 : ¬ ((y : Int) ≤ ((0 : Nat) : Int)) := by omega
 go_enter Tryz.func122, Tryz.ntmps122
 have g3 : IntKind.u64.wrap ((lo : Int) / (y : Int)) = ((lo / y : Nat) : Int) := by
  have h := Nat.div_le_self lo y
  rw [← Int.natCast_ediv]
  generalize lo / y = z at *
  exact IntWalk.u64_in _ (by omega)
 have g4 : (lo : Int) % (y : Int) = ((lo % y : Nat) : Int) := rfl
 go_wp2_with fail
 go_region
 go_wp2_with fail
 go_ret2
 exact ⟨rfl, (Below.refl _ _).drew⟩
theorem wrap_n {a : Nat} (ha : a < 18446744073709551616) : IntKind.u64.wrap (a : Int) = (a : Int) := by rw [IntKind.wrap_u64]; omega
theorem wrap_m (a : Nat) : IntKind.u64.wrap (a : Int) = ((a % 18446744073709551616 : Nat) : Int) := by rw [IntKind.wrap_u64]; omega
theorem mask_n {a : Nat} (ha : a < 18446744073709551616) : bits .and .u64 (a : Int) 4294967295 = ((a % 4294967296 : Nat) : Int) := by
 have h := bits_and_u64_nat a 4294967295 ha (by omega)
 have e : a &&& 4294967295 = a % 4294967296 := Nat.and_two_pow_sub_one_eq_mod a 32
 rw [e] at h
 exact h
set_option maxRecDepth 100000 in
set_option maxHeartbeats 4000000 in
theorem div64_high (w : World) (hi lo y : Nat) (hl : lo < 18446744073709551616) (hy : y < 18446744073709551616) (h0 : 0 < hi) (hh : hi < y) :
 Calls Tryz.prog 122 #[.int .u64 hi, .int .u64 lo, .int .u64 y] w fun e w' => e = .returned (.tuple #[.int .u64 ((hi * 18446744073709551616 + lo) / y : Nat), .int .u64 ((hi * 18446744073709551616 + lo) % y : Nat)]) ∧ Below w.heap.size w w' := by
 have g1 : ¬ ((y : Int) = 0) := by omega
 have g2 : ¬ ((y : Int) ≤ (hi : Int)) := by omega
 have g3 : ¬ ((hi : Int) = 0) := by omega
 go_enter Tryz.func122, Tryz.ntmps122
 go_wp2_with fail
 refine (Tryz.bits_LeadingZeros64 _ _ (by omega) (by omega)).mono ?_
 rintro e w' ⟨rfl, rfl⟩
 obtain ⟨hb1, hb2, hY1, hY2⟩ := norm_y (show 0 < y by omega) hy
 obtain ⟨s, hs⟩ : ∃ s : Nat, 64 - Lib.bitLen y = s := ⟨_, rfl⟩
 rw [show 64 - (Lib.bitLen (y : Int).toNat : Int) = (s : Int) by rw [Int.toNat_natCast]; omega]
 rw [hs] at hY1 hY2
 have hs64 : s ≤ 63 := by omega
 clear hs hb1 hb2
 have hhY : hi * 2 ^ s < y * 2 ^ s := Nat.mul_lt_mul_of_pos_right hh (Nat.pow_pos (by decide))
 obtain ⟨hor, hN, hlo2⟩ := norm_u (hi := hi) (lo := lo) (s := s) (by omega) hl (by omega)
 have hsum : hi * 2 ^ s + lo / 2 ^ (64 - s) < y * 2 ^ s := by
  have h1 : hi + 1 ≤ y := hh
  have h2 := Nat.mul_le_mul_right (2 ^ s) h1
  rw [Nat.add_mul, Nat.one_mul] at h2
  omega
 have e1 : IntKind.u64.wrap ((y : Int) * 2 ^ s) = ((y * 2 ^ s : Nat) : Int) := by rw [show (y : Int) * 2 ^ s = ((y * 2 ^ s : Nat) : Int) by push_cast; rfl]; exact wrap_n hY2
 have e2 : IntKind.u64.wrap ((hi : Int) * 2 ^ s) = ((hi * 2 ^ s : Nat) : Int) := by rw [show (hi : Int) * 2 ^ s = ((hi * 2 ^ s : Nat) : Int) by push_cast; rfl]; exact wrap_n (by omega)
 have e3 : IntKind.u64.wrap ((lo : Int) * 2 ^ s) = ((lo * 2 ^ s % 18446744073709551616 : Nat) : Int) := by rw [show (lo : Int) * 2 ^ s = ((lo * 2 ^ s : Nat) : Int) by push_cast; rfl]; exact wrap_m _
 have e4 : bits .or .u64 ((hi * 2 ^ s : Nat) : Int) ((lo : Int) / 2 ^ (64 - s)) = ((hi * 2 ^ s + lo / 2 ^ (64 - s) : Nat) : Int) := by
  rw [show (lo : Int) / 2 ^ (64 - s) = ((lo / 2 ^ (64 - s) : Nat) : Int) by push_cast; rfl, bits_or_u64_nat _ _ (by omega) (by omega), hor]
 have hYs : Hid (y * 2 ^ s = y * 2 ^ s) := Lib.hid rfl
 obtain ⟨Y, hY⟩ : ∃ Y, y * 2 ^ s = Y := ⟨_, rfl⟩
 obtain ⟨H, hH⟩ : ∃ H, hi * 2 ^ s = H := ⟨_, rfl⟩
 obtain ⟨U, hU⟩ : ∃ U, H + lo / 2 ^ (64 - s) = U := ⟨_, rfl⟩
 obtain ⟨L, hL⟩ : ∃ L, lo * 2 ^ s % 18446744073709551616 = L := ⟨_, rfl⟩
 have hL64 : L < 18446744073709551616 := by omega
 rw [hY] at hY1 hY2 hsum e1
 rw [hH] at hsum e2 e4 hN
 rw [hU] at hsum e4 hN
 rw [hL] at e3 hN
 have HK := Lib.hid (And.intro hN hY)
 clear hN hY hH hU hL hor hhY hYs hlo2
 obtain ⟨u1, hu1⟩ : ∃ u, L / 4294967296 = u := ⟨_, rfl⟩
 obtain ⟨u0, hu0⟩ : ∃ u, L % 4294967296 = u := ⟨_, rfl⟩
 obtain ⟨n1, hn1⟩ : ∃ u, Y / 4294967296 = u := ⟨_, rfl⟩
 obtain ⟨n0, hn0⟩ : ∃ u, Y % 4294967296 = u := ⟨_, rfl⟩
 have e5 : bits .and .u64 (Y : Int) 4294967295 = (n0 : Int) := by rw [mask_n hY2, hn0]
 have e6 : bits .and .u64 (L : Int) 4294967295 = (u0 : Int) := by rw [mask_n hL64, hu0]
 have e7 : (Y : Int) / 4294967296 = (n1 : Int) := by omega
 have e8 : (L : Int) / 4294967296 = (u1 : Int) := by omega
 have hYn : Y = n1 * 4294967296 + n0 := by omega
 have hLn : L = u1 * 4294967296 + u0 := by omega
 have b1 : u1 < 4294967296 := by omega
 have b2 : u0 < 4294967296 := by omega
 have b3 : n0 < 4294967296 := by omega
 have b4 : n1 < 4294967296 := by omega
 have b5 : 2147483648 ≤ n1 := by omega
 have HN := Lib.hid (And.intro hYn hLn)
 have hUY : U < n1 * 4294967296 + n0 := by omega
 clear hu1 hu0 hn1 hn0 hYn hLn
 have G0 := guess_begin hUY b1 b5 b4 b3
 have gz : ¬ ((n1 : Int) = 0) := by omega
 obtain ⟨q, hq⟩ : ∃ q, U / n1 = q := ⟨_, rfl⟩
 have e9 : (U : Int) / (n1 : Int) = (q : Int) := by rw [← hq]; rfl
 rw [hq] at G0
 clear hq
 obtain ⟨p0, hp0⟩ : ∃ z, q * n1 = z := ⟨_, rfl⟩
 obtain ⟨r0, hr0⟩ : ∃ z, U - p0 = z := ⟨_, rfl⟩
 rw [hp0, hr0] at G0
 have hG0 := G0.eq
 rw [hp0] at hG0
 have e10 : IntKind.u64.wrap ((q : Int) * (n1 : Int)) = (p0 : Int) := by
  rw [← Int.natCast_mul, hp0]
  exact wrap_n (by omega)
 have e11 : IntKind.u64.wrap ((U : Int) - (p0 : Int)) = (r0 : Int) := by
  rw [show (U : Int) - (p0 : Int) = (r0 : Int) by omega]
  exact wrap_n (by have := G0.r; omega)
 have ew : IntKind.u64.wrap (q : Int) = (q : Int) := wrap_n (by have := G0.le; omega)
 have G1 := Lib.hid G0
 clear G0 hp0 hr0 hG0
 have G0 := G1
 clear G1
 have HH := Lib.hid (And.intro hh (And.intro hl hy))
 have BB := Lib.hid (And.intro b1 (And.intro b2 (And.intro b3 (And.intro b4 (And.intro b5 (And.intro hUY hY2))))))
 clear hsum hY1 hh b1 b2 b3 b4 b5 hUY hl hY2 hL64 h0
 go_upto_block 0 with fail
 go_cut [15, 16] (fun qv rv wc => (∃ r : Nat, rv = .int .u64 r) ∧ qv = .int .u64 ((U * 4294967296 + u1) / (n1 * 4294967296 + n0) : Nat) ∧ wc = w')
 case first =>
  go_wp2_with fail
  go_loopw [15, 16] (fun qv rv wr => ∃ (q r : Nat), qv = .int .u64 q ∧ rv = .int .u64 r ∧ Hid (Guess U u1 n1 n0 q r) ∧ wr = w') (fun qv _ _ => (intOf qv).toNat)
  case atStart => exact ⟨q, r0, rfl, rfl, G0, rfl⟩
  case round =>
   obtain ⟨q, r, rfl, rfl, hG, rfl⟩ := hrel
   clear G0 e9 e10 e11 ew
   obtain ⟨b1, b2, b3, b4, b5, _, hY2⟩ := BB.out
   have hUY2 : U < n1 * 4294967296 + n0 := BB.out.2.2.2.2.2.1
   have hgle := hG.out.le
   have hgr := hG.out.r
   obtain ⟨z, hz⟩ : ∃ z, r + n1 = z := ⟨_, rfl⟩
   have wA : IntKind.u64.wrap ((r : Int) + (n1 : Int)) = (z : Int) := by rw [← Int.natCast_add, hz]; exact wrap_n (by omega)
   have hgo : (4294967296 ≤ q ∨ 4294967296 * r + u1 < q * n0) ∨ (q < 4294967296 ∧ q * n0 ≤ 4294967296 * r + u1) := by omega
   rcases hgo with hgo | hgo
   ·have HGO := Lib.hid hgo
    have HG2 := Lib.hid (hG.out.great hUY2 b1 hgo)
    by_cases hq : 4294967296 ≤ q
    ·have gq : decide ((4294967296 : Int) ≤ (q : Int)) = true := decide_eq_true (by omega)
     clear hgo hq
     have hq1 : 0 < q := Nat.lt_of_le_of_lt (Nat.zero_le _) HG2.out
     obtain ⟨p, hp⟩ : ∃ p, q - 1 = p := ⟨_, rfl⟩
     have wB : IntKind.u64.wrap ((q : Int) - 1) = (p : Int) := by rw [show (q : Int) - 1 = (p : Int) by omega]; exact wrap_n (by omega)
     have HP := Lib.hid (And.intro hp (And.intro hz hq1))
     by_cases hr : 4294967296 ≤ z
     ·have gr : decide ((4294967296 : Int) ≤ (z : Int)) = true := decide_eq_true (by omega)
      have HR := Lib.hid hr
      clear hr hp hz b1 b2 b3 b4 b5 hY2 hUY2 hgle hgr hq1
      go_wp2_with fail
      go_meet
      case rel => exact ⟨⟨_, rfl⟩, by rw [← HP.out.1, hG.out.over BB.out.2.2.2.2.2.1 BB.out.1 BB.out.2.2.1 HGO.out (by rw [HP.out.2.1]; exact HR.out)], rfl⟩
     ·have gr : decide ((4294967296 : Int) ≤ (z : Int)) = false := decide_eq_false (by omega)
      have HR := Lib.hid hr
      clear hr hp hz b1 b2 b3 b4 b5 hY2 hUY2 hgle hgr hq1
      go_wp2_with fail
      go_roundw
      case rel => exact ⟨p, z, rfl, rfl, Lib.hid (by rw [← HP.out.1, ← HP.out.2.1]; exact hG.out.next BB.out.2.2.2.2.2.1 BB.out.1 HGO.out (by have := HR.out; have := HP.out.2.1; omega)), by first | rfl | trivial⟩
      case measure => have h1 := HP.out; simp [intOf]; omega
    ·have gq : decide ((4294967296 : Int) ≤ (q : Int)) = false := decide_eq_false (by omega)
     obtain ⟨Pn, hPn⟩ : ∃ z, q * n0 = z := ⟨_, rfl⟩
     have hPb : Pn < 18446744073709551616 := by have h1 : q * n0 ≤ 4294967295 * 4294967295 := Nat.mul_le_mul (by omega) (by omega); omega
     have wP : IntKind.u64.wrap ((q : Int) * (n0 : Int)) = (Pn : Int) := by rw [← Int.natCast_mul, hPn]; exact wrap_n hPb
     obtain ⟨rR, hrR⟩ : ∃ z, 4294967296 * r = z := ⟨_, rfl⟩
     obtain ⟨rS, hrS⟩ : ∃ z, rR + u1 = z := ⟨_, rfl⟩
     have wR : IntKind.u64.wrap (4294967296 * (r : Int)) = (rR : Int) := by rw [show 4294967296 * (r : Int) = (rR : Int) by omega]; exact wrap_n (by omega)
     have wS : IntKind.u64.wrap ((rR : Int) + (u1 : Int)) = (rS : Int) := by rw [← Int.natCast_add, hrS]; exact wrap_n (by omega)
     have gs : decide (rS < Pn) = true := decide_eq_true (by omega)
     clear hgo hq hPn hPb hrR hrS
     have hq1 : 0 < q := Nat.lt_of_le_of_lt (Nat.zero_le _) HG2.out
     obtain ⟨p, hp⟩ : ∃ p, q - 1 = p := ⟨_, rfl⟩
     have wB : IntKind.u64.wrap ((q : Int) - 1) = (p : Int) := by rw [show (q : Int) - 1 = (p : Int) by omega]; exact wrap_n (by omega)
     have HP := Lib.hid (And.intro hp (And.intro hz hq1))
     by_cases hr : 4294967296 ≤ z
     ·have gr : decide ((4294967296 : Int) ≤ (z : Int)) = true := decide_eq_true (by omega)
      have HR := Lib.hid hr
      clear hr hp hz b1 b2 b3 b4 b5 hY2 hUY2 hgle hgr hq1
      go_wp2_with fail
      go_meet
      case rel => exact ⟨⟨_, rfl⟩, by rw [← HP.out.1, hG.out.over BB.out.2.2.2.2.2.1 BB.out.1 BB.out.2.2.1 HGO.out (by rw [HP.out.2.1]; exact HR.out)], rfl⟩
     ·have gr : decide ((4294967296 : Int) ≤ (z : Int)) = false := decide_eq_false (by omega)
      have HR := Lib.hid hr
      clear hr hp hz b1 b2 b3 b4 b5 hY2 hUY2 hgle hgr hq1
      go_wp2_with fail
      go_roundw
      case rel => exact ⟨p, z, rfl, rfl, Lib.hid (by rw [← HP.out.1, ← HP.out.2.1]; exact hG.out.next BB.out.2.2.2.2.2.1 BB.out.1 HGO.out (by have := HR.out; have := HP.out.2.1; omega)), by first | rfl | trivial⟩
      case measure => have h1 := HP.out; simp [intOf]; omega
   ·obtain ⟨hq, hle⟩ := hgo
    have HD := Lib.hid (hG.out.done (by omega) hle)
    have gq : decide ((4294967296 : Int) ≤ (q : Int)) = false := decide_eq_false (by omega)
    obtain ⟨Pn, hPn⟩ : ∃ z, q * n0 = z := ⟨_, rfl⟩
    have hPb : Pn < 18446744073709551616 := by have h1 : q * n0 ≤ 4294967295 * 4294967295 := Nat.mul_le_mul (by omega) (by omega); omega
    have wP : IntKind.u64.wrap ((q : Int) * (n0 : Int)) = (Pn : Int) := by rw [← Int.natCast_mul, hPn]; exact wrap_n hPb
    obtain ⟨rR, hrR⟩ : ∃ z, 4294967296 * r = z := ⟨_, rfl⟩
    obtain ⟨rS, hrS⟩ : ∃ z, rR + u1 = z := ⟨_, rfl⟩
    have wR : IntKind.u64.wrap (4294967296 * (r : Int)) = (rR : Int) := by rw [show 4294967296 * (r : Int) = (rR : Int) by omega]; exact wrap_n (by omega)
    have wS : IntKind.u64.wrap ((rR : Int) + (u1 : Int)) = (rS : Int) := by rw [← Int.natCast_add, hrS]; exact wrap_n (by omega)
    have gs : decide (rS < Pn) = false := decide_eq_false (by omega)
    clear hq hle hPn hPb hrR hrS hz b1 b2 b3 b4 b5 hY2 hUY2 hgle hgr
    go_wp2_with fail
    go_meet
    case rel => exact ⟨⟨_, rfl⟩, by rw [← HD.out], rfl⟩
 case rest =>
  obtain ⟨⟨rx, rfl⟩, rfl, rfl⟩ := hcut
  clear e9 e10 e11 ew G0
  obtain ⟨b1, b2, b3, b4, b5, hUY, hY2⟩ := BB.out
  have hQlt := Q_lt hUY b1
  obtain ⟨Q1, hQ1⟩ : ∃ z, (U * 4294967296 + u1) / (n1 * 4294967296 + n0) = z := ⟨_, rfl⟩
  rw [hQ1] at hQlt
  simp only [hQ1]
  obtain ⟨R1, hR1⟩ : ∃ z, (U * 4294967296 + u1) % Y = z := ⟨_, rfl⟩
  have hRY : R1 < Y := by rw [← hR1]; exact Nat.mod_lt _ (by have := HN.out.1; omega)
  have hdm : U * 4294967296 + u1 = Q1 * Y + R1 := by
   have h1 := Nat.div_add_mod (U * 4294967296 + u1) Y
   rw [← HN.out.1] at hQ1
   rw [hQ1, hR1, Nat.mul_comm] at h1
   exact h1.symm
  have HQ1 := Lib.hid (And.intro hQ1 hR1)
  clear hQ1 hR1
  obtain ⟨PYa, hPYa⟩ : ∃ z, Q1 * Y = z := ⟨_, rfl⟩
  obtain ⟨Aa, hAa⟩ : ∃ z, z = U * 4294967296 % 18446744073709551616 := ⟨_, rfl⟩
  obtain ⟨Ba, hBa⟩ : ∃ z, z = (Aa + u1) % 18446744073709551616 := ⟨_, rfl⟩
  obtain ⟨Ca, hCa⟩ : ∃ z, z = PYa % 18446744073709551616 := ⟨_, rfl⟩
  have f1a : IntKind.u64.wrap ((U : Int) * 4294967296) = (Aa : Int) := by rw [show (U : Int) * 4294967296 = ((U * 4294967296 : Nat) : Int) by omega, wrap_m, hAa]
  have f2a : IntKind.u64.wrap ((Aa : Int) + (u1 : Int)) = (Ba : Int) := by rw [← Int.natCast_add, wrap_m, hBa]
  have f3a : IntKind.u64.wrap ((Q1 : Int) * (Y : Int)) = (Ca : Int) := by rw [← Int.natCast_mul, hPYa, wrap_m, hCa]
  have f4a : IntKind.u64.wrap ((Ba : Int) - (Ca : Int)) = (R1 : Int) := by
   rw [IntKind.wrap_u64]
   exact left_over (by rw [hdm, hPYa]) hAa hBa hCa (by omega)
  clear hAa hBa hCa hdm hPYa
  have hUR : R1 < n1 * 4294967296 + n0 := by have := HN.out.1; omega
  have G0 := guess_begin hUR b2 b5 b4 b3
  obtain ⟨q', hq'⟩ : ∃ q, R1 / n1 = q := ⟨_, rfl⟩
  have e9 : (R1 : Int) / (n1 : Int) = (q' : Int) := by rw [← hq']; rfl
  rw [hq'] at G0
  clear hq'
  obtain ⟨p0', hp0⟩ : ∃ z, q' * n1 = z := ⟨_, rfl⟩
  obtain ⟨r0', hr0⟩ : ∃ z, R1 - p0' = z := ⟨_, rfl⟩
  rw [hp0, hr0] at G0
  have hG0 := G0.eq
  rw [hp0] at hG0
  have e10 : IntKind.u64.wrap ((q' : Int) * (n1 : Int)) = (p0' : Int) := by
   rw [← Int.natCast_mul, hp0]
   exact wrap_n (by omega)
  have e11 : IntKind.u64.wrap ((R1 : Int) - (p0' : Int)) = (r0' : Int) := by
   rw [show (R1 : Int) - (p0' : Int) = (r0' : Int) by omega]
   exact wrap_n (by have := G0.r; omega)
  have ew : IntKind.u64.wrap (q' : Int) = (q' : Int) := wrap_n (by have := G0.le; omega)
  have G1 := Lib.hid G0
  have HUR := Lib.hid hUR
  have HRY := Lib.hid (And.intro hRY hQlt)
  clear G0 hp0 hr0 hG0 hUR hRY hQlt b1 b2 b3 b4 b5 hUY hY2
  have G0 := G1
  clear G1
  go_upto_block 2 with fail
  go_cut [16, 18] (fun rv qv wc' => (∃ r : Nat, rv = .int .u64 r) ∧ qv = .int .u64 ((R1 * 4294967296 + u0) / (n1 * 4294967296 + n0) : Nat) ∧ wc' = wc)
  case first =>
   go_wp2_with fail
   go_loopw [16, 18] (fun rv qv wr => ∃ (q r : Nat), qv = .int .u64 q ∧ rv = .int .u64 r ∧ Hid (Guess R1 u0 n1 n0 q r) ∧ wr = wc) (fun _ qv _ => (intOf qv).toNat)
   case atStart => exact ⟨q', r0', rfl, rfl, G0, rfl⟩
   case round =>
    obtain ⟨q, r, rfl, rfl, hG, rfl⟩ := hrel
    clear G0 e9 e10 e11 ew
    obtain ⟨b1, b2, b3, b4, b5, _, hY2⟩ := BB.out
    have hUY2 : R1 < n1 * 4294967296 + n0 := HUR.out
    have hgle := hG.out.le
    have hgr := hG.out.r
    obtain ⟨z, hz⟩ : ∃ z, r + n1 = z := ⟨_, rfl⟩
    have wA : IntKind.u64.wrap ((r : Int) + (n1 : Int)) = (z : Int) := by rw [← Int.natCast_add, hz]; exact wrap_n (by omega)
    have hgo : (4294967296 ≤ q ∨ 4294967296 * r + u0 < q * n0) ∨ (q < 4294967296 ∧ q * n0 ≤ 4294967296 * r + u0) := by omega
    rcases hgo with hgo | hgo
    ·have HGO := Lib.hid hgo
     have HG2 := Lib.hid (hG.out.great hUY2 b2 hgo)
     by_cases hq : 4294967296 ≤ q
     ·have gq : decide ((4294967296 : Int) ≤ (q : Int)) = true := decide_eq_true (by omega)
      clear hgo hq
      have hq1 : 0 < q := Nat.lt_of_le_of_lt (Nat.zero_le _) HG2.out
      obtain ⟨p, hp⟩ : ∃ p, q - 1 = p := ⟨_, rfl⟩
      have wB : IntKind.u64.wrap ((q : Int) - 1) = (p : Int) := by rw [show (q : Int) - 1 = (p : Int) by omega]; exact wrap_n (by omega)
      have HP := Lib.hid (And.intro hp (And.intro hz hq1))
      by_cases hr : 4294967296 ≤ z
      ·have gr : decide ((4294967296 : Int) ≤ (z : Int)) = true := decide_eq_true (by omega)
       have HR := Lib.hid hr
       clear hr hp hz b1 b2 b3 b4 b5 hY2 hUY2 hgle hgr hq1
       go_wp2_with fail
       go_meet
       case rel => exact ⟨⟨_, rfl⟩, by rw [← HP.out.1, hG.out.over HUR.out BB.out.2.1 BB.out.2.2.1 HGO.out (by rw [HP.out.2.1]; exact HR.out)], rfl⟩
      ·have gr : decide ((4294967296 : Int) ≤ (z : Int)) = false := decide_eq_false (by omega)
       have HR := Lib.hid hr
       clear hr hp hz b1 b2 b3 b4 b5 hY2 hUY2 hgle hgr hq1
       go_wp2_with fail
       go_roundw
       case rel => exact ⟨p, z, rfl, rfl, Lib.hid (by rw [← HP.out.1, ← HP.out.2.1]; exact hG.out.next HUR.out BB.out.2.1 HGO.out (by have := HR.out; have := HP.out.2.1; omega)), by first | rfl | trivial⟩
       case measure => have h1 := HP.out; simp [intOf]; omega
     ·have gq : decide ((4294967296 : Int) ≤ (q : Int)) = false := decide_eq_false (by omega)
      obtain ⟨Pn, hPn⟩ : ∃ z, q * n0 = z := ⟨_, rfl⟩
      have hPb : Pn < 18446744073709551616 := by have h1 : q * n0 ≤ 4294967295 * 4294967295 := Nat.mul_le_mul (by omega) (by omega); omega
      have wP : IntKind.u64.wrap ((q : Int) * (n0 : Int)) = (Pn : Int) := by rw [← Int.natCast_mul, hPn]; exact wrap_n hPb
      obtain ⟨rR, hrR⟩ : ∃ z, 4294967296 * r = z := ⟨_, rfl⟩
      obtain ⟨rS, hrS⟩ : ∃ z, rR + u0 = z := ⟨_, rfl⟩
      have wR : IntKind.u64.wrap (4294967296 * (r : Int)) = (rR : Int) := by rw [show 4294967296 * (r : Int) = (rR : Int) by omega]; exact wrap_n (by omega)
      have wS : IntKind.u64.wrap ((rR : Int) + (u0 : Int)) = (rS : Int) := by rw [← Int.natCast_add, hrS]; exact wrap_n (by omega)
      have gs : decide (rS < Pn) = true := decide_eq_true (by omega)
      clear hgo hq hPn hPb hrR hrS
      have hq1 : 0 < q := Nat.lt_of_le_of_lt (Nat.zero_le _) HG2.out
      obtain ⟨p, hp⟩ : ∃ p, q - 1 = p := ⟨_, rfl⟩
      have wB : IntKind.u64.wrap ((q : Int) - 1) = (p : Int) := by rw [show (q : Int) - 1 = (p : Int) by omega]; exact wrap_n (by omega)
      have HP := Lib.hid (And.intro hp (And.intro hz hq1))
      by_cases hr : 4294967296 ≤ z
      ·have gr : decide ((4294967296 : Int) ≤ (z : Int)) = true := decide_eq_true (by omega)
       have HR := Lib.hid hr
       clear hr hp hz b1 b2 b3 b4 b5 hY2 hUY2 hgle hgr hq1
       go_wp2_with fail
       go_meet
       case rel => exact ⟨⟨_, rfl⟩, by rw [← HP.out.1, hG.out.over HUR.out BB.out.2.1 BB.out.2.2.1 HGO.out (by rw [HP.out.2.1]; exact HR.out)], rfl⟩
      ·have gr : decide ((4294967296 : Int) ≤ (z : Int)) = false := decide_eq_false (by omega)
       have HR := Lib.hid hr
       clear hr hp hz b1 b2 b3 b4 b5 hY2 hUY2 hgle hgr hq1
       go_wp2_with fail
       go_roundw
       case rel => exact ⟨p, z, rfl, rfl, Lib.hid (by rw [← HP.out.1, ← HP.out.2.1]; exact hG.out.next HUR.out BB.out.2.1 HGO.out (by have := HR.out; have := HP.out.2.1; omega)), by first | rfl | trivial⟩
       case measure => have h1 := HP.out; simp [intOf]; omega
    ·obtain ⟨hq, hle⟩ := hgo
     have HD := Lib.hid (hG.out.done (by omega) hle)
     have gq : decide ((4294967296 : Int) ≤ (q : Int)) = false := decide_eq_false (by omega)
     obtain ⟨Pn, hPn⟩ : ∃ z, q * n0 = z := ⟨_, rfl⟩
     have hPb : Pn < 18446744073709551616 := by have h1 : q * n0 ≤ 4294967295 * 4294967295 := Nat.mul_le_mul (by omega) (by omega); omega
     have wP : IntKind.u64.wrap ((q : Int) * (n0 : Int)) = (Pn : Int) := by rw [← Int.natCast_mul, hPn]; exact wrap_n hPb
     obtain ⟨rR, hrR⟩ : ∃ z, 4294967296 * r = z := ⟨_, rfl⟩
     obtain ⟨rS, hrS⟩ : ∃ z, rR + u0 = z := ⟨_, rfl⟩
     have wR : IntKind.u64.wrap (4294967296 * (r : Int)) = (rR : Int) := by rw [show 4294967296 * (r : Int) = (rR : Int) by omega]; exact wrap_n (by omega)
     have wS : IntKind.u64.wrap ((rR : Int) + (u0 : Int)) = (rS : Int) := by rw [← Int.natCast_add, hrS]; exact wrap_n (by omega)
     have gs : decide (rS < Pn) = false := decide_eq_false (by omega)
     clear hq hle hPn hPb hrR hrS hz b1 b2 b3 b4 b5 hY2 hUY2 hgle hgr
     go_wp2_with fail
     go_meet
     case rel => exact ⟨⟨_, rfl⟩, by rw [← HD.out], rfl⟩
  case rest =>
   obtain ⟨⟨ry, rfl⟩, rfl, rfl⟩ := hcut
   clear e9 e10 e11 ew G0
   obtain ⟨b1, b2, b3, b4, b5, hUY, hY2⟩ := BB.out
   have hQlt := Q_lt HUR.out b2
   have hQ1lt := HRY.out.2
   have hY0 : 0 < Y := by have := HN.out.1; omega
   have hT := two_digits (U := U) (u1 := u1) (u0 := u0) (Y := Y) (N := hi * 18446744073709551616 + lo) (y := y) (s := s) hY0 (by rw [HK.out.1, HN.out.2]) HK.out.2.symm
   rw [HN.out.1, HQ1.out.1, ← HN.out.1, HQ1.out.2] at hT
   rw [← HN.out.1] at hQlt
   rw [← HN.out.1]
   obtain ⟨Q0, hQ0⟩ : ∃ z, (R1 * 4294967296 + u0) / Y = z := ⟨_, rfl⟩
   rw [hQ0] at hQlt hT
   simp only [hQ0]
   obtain ⟨R0, hR0⟩ : ∃ z, (R1 * 4294967296 + u0) % Y = z := ⟨_, rfl⟩
   have hRY0 : R0 < Y := by rw [← hR0]; exact Nat.mod_lt _ hY0
   have hdm : R1 * 4294967296 + u0 = Q0 * Y + R0 := by
    have h1 := Nat.div_add_mod (R1 * 4294967296 + u0) Y
    rw [hQ0, hR0, Nat.mul_comm] at h1
    exact h1.symm
   rw [hR0] at hT
   clear hQ0 hR0
   obtain ⟨PYb, hPYb⟩ : ∃ z, Q0 * Y = z := ⟨_, rfl⟩
   obtain ⟨Ab, hAb⟩ : ∃ z, z = R1 * 4294967296 % 18446744073709551616 := ⟨_, rfl⟩
   obtain ⟨Bb, hBb⟩ : ∃ z, z = (Ab + u0) % 18446744073709551616 := ⟨_, rfl⟩
   obtain ⟨Cb, hCb⟩ : ∃ z, z = PYb % 18446744073709551616 := ⟨_, rfl⟩
   have f1b : IntKind.u64.wrap ((R1 : Int) * 4294967296) = (Ab : Int) := by rw [show (R1 : Int) * 4294967296 = ((R1 * 4294967296 : Nat) : Int) by omega, wrap_m, hAb]
   have f2b : IntKind.u64.wrap ((Ab : Int) + (u0 : Int)) = (Bb : Int) := by rw [← Int.natCast_add, wrap_m, hBb]
   have f3b : IntKind.u64.wrap ((Q0 : Int) * (Y : Int)) = (Cb : Int) := by rw [← Int.natCast_mul, hPYb, wrap_m, hCb]
   have f4b : IntKind.u64.wrap ((Bb : Int) - (Cb : Int)) = (R0 : Int) := by
    rw [IntKind.wrap_u64]
    exact left_over (by rw [hdm, hPYb]) hAb hBb hCb (by omega)
   obtain ⟨X, hX⟩ : ∃ z, Q1 * 4294967296 = z := ⟨_, rfl⟩
   have f5 : IntKind.u64.wrap ((Q1 : Int) * 4294967296) = (X : Int) := by rw [show (Q1 : Int) * 4294967296 = (X : Int) by omega]; exact wrap_n (by omega)
   obtain ⟨qq, hqq⟩ : ∃ z, (hi * 18446744073709551616 + lo) / y = z := ⟨_, rfl⟩
   obtain ⟨rr, hrr⟩ : ∃ z, (hi * 18446744073709551616 + lo) % y = z := ⟨_, rfl⟩
   have f6 : IntKind.u64.wrap ((X : Int) + (Q0 : Int)) = (qq : Int) := by
    rw [← hqq, ← hT.1, hX, ← Int.natCast_add]
    exact wrap_n (by omega)
   have f7 : (R0 : Int) / 2 ^ s = (rr : Int) := by
    rw [← hrr, ← hT.2]
    push_cast
    rfl
   have HE := Lib.hid (And.intro hqq hrr)
   clear hqq hrr
   clear hAb hBb hCb hdm hPYb hX hT hRY0 hQlt hQ1lt hY0 b1 b2 b3 b4 b5 hUY hY2
   go_wp2_with fail
   go_ret2
   exact ⟨by rw [HE.out.1, HE.out.2]; rfl, Below.refl _ _⟩
end Go.Proofs.YthefgdehfgkhhaaGreat
namespace Go.Proofs.YthefgdehfgkhhaaGreat
open Go.RowKit Go.Shelf
set_option linter.unusedVariables false
set_option linter.unusedSimpArgs false
/-- Are these coins? -/
def coinB (a : Int) : Bool := decide (0 ≤ a) && decide (a ≤ 1125899906842624)
theorem coinB_true {a : Int} : coinB a = true ↔ 0 ≤ a ∧ a ≤ 1125899906842624 := by
 unfold coinB
 simp
theorem coinB_false {a : Int} : coinB a = false ↔ a < 0 ∨ 1125899906842624 < a := by
 unfold coinB
 simp
 omega
theorem coins_any (w : World) (a : Int) : Calls Tryz.prog 88 #[.int .i64 a] w fun e w' => e = .returned (.bool (coinB a)) ∧ w = w' := by
 by_cases h0 : 0 ≤ a
 ·by_cases h1 : a ≤ 1125899906842624
  ·have HF : Hid (coinB a = true) := Lib.hid (coinB_true.2 ⟨h0, h1⟩)
   go_enter Tryz.func88, Tryz.ntmps88
   go_wp2_with fail
   go_ret
   exact ⟨by rw [HF.out]; rfl, rfl⟩
  ·have HF : Hid (coinB a = false) := Lib.hid (coinB_false.2 (by omega))
   go_enter Tryz.func88, Tryz.ntmps88
   go_wp2_with fail
   go_ret
   exact ⟨by rw [HF.out]; rfl, rfl⟩
 ·have HF : Hid (coinB a = false) := Lib.hid (coinB_false.2 (by omega))
  go_enter Tryz.func88, Tryz.ntmps88
  go_wp2_with fail
  go_ret
  exact ⟨by rw [HF.out]; rfl, rfl⟩
/-- Two results: a number, and whether it is told. -/
def RetI (w : World) (ok : Bool) (n : Int) (e : Ending) (w' : World) : Prop := e = .returned (.tuple #[.int .i64 (if ok then n else 0), .bool ok]) ∧ w = w'
def addB (a b : Int) : Bool := coinB a && (coinB b && decide (a ≤ 1125899906842624 - b))
def nsubB (a b : Int) : Bool := coinB a && (coinB b && decide (b ≤ a))
theorem nadd_any (w : World) (a b : Int) : Calls Tryz.prog 50 #[.int .i64 a, .int .i64 b] w (RetI w (addB a b) (a + b)) := by
 rcases h0 : coinB a with _ | _
 ·have HF : Hid (addB a b = false) := Lib.hid (by unfold addB; rw [h0]; rfl)
  go_enter Tryz.func50, Tryz.ntmps50
  go_wp2_with fail
  refine (coins_any _ _).mono ?_
  rintro e w' ⟨rfl, rfl⟩
  rw [h0]
  go_wp2_with fail
  go_ret2
  exact ⟨by rw [HF.out]; rfl, rfl⟩
 ·rcases h1 : coinB b with _ | _
  ·have HF : Hid (addB a b = false) := Lib.hid (by unfold addB; rw [h0, h1]; rfl)
   go_enter Tryz.func50, Tryz.ntmps50
   go_wp2_with fail
   refine (coins_any _ _).mono ?_
   rintro e w' ⟨rfl, rfl⟩
   rw [h0]
   go_wp2_with fail
   refine (coins_any _ _).mono ?_
   rintro e w' ⟨rfl, rfl⟩
   rw [h1]
   go_wp2_with fail
   go_ret2
   exact ⟨by rw [HF.out]; rfl, rfl⟩
  ·have g0 := coinB_true.1 h0
   have g1 := coinB_true.1 h1
   have gw : IntKind.i64.wrap (1125899906842624 - b) = 1125899906842624 - b := IntWalk.i64_in _ (by omega)
   have gs : IntKind.i64.wrap (a + b) = a + b := IntWalk.i64_in _ (by omega)
   have HO : Hid (addB a b = decide (a ≤ 1125899906842624 - b)) := Lib.hid (by unfold addB; rw [h0, h1]; rfl)
   by_cases h2 : a ≤ 1125899906842624 - b
   ·have HF : Hid (addB a b = true) := Lib.hid (by rw [HO.out, decide_eq_true h2])
    have h3 : ¬ 1125899906842624 - b < a := by omega
    go_enter Tryz.func50, Tryz.ntmps50
    go_wp2_with fail
    refine (coins_any _ _).mono ?_
    rintro e w' ⟨rfl, rfl⟩
    rw [h0]
    go_wp2_with fail
    refine (coins_any _ _).mono ?_
    rintro e w' ⟨rfl, rfl⟩
    rw [h1]
    go_wp2_with fail
    go_ret2
    exact ⟨by rw [HF.out]; rfl, rfl⟩
   ·have HF : Hid (addB a b = false) := Lib.hid (by rw [HO.out, decide_eq_false h2])
    have h3 : 1125899906842624 - b < a := by omega
    clear h2
    go_enter Tryz.func50, Tryz.ntmps50
    go_wp2_with fail
    refine (coins_any _ _).mono ?_
    rintro e w' ⟨rfl, rfl⟩
    rw [h0]
    go_wp2_with fail
    refine (coins_any _ _).mono ?_
    rintro e w' ⟨rfl, rfl⟩
    rw [h1]
    go_wp2_with fail
    go_ret2
    exact ⟨by rw [HF.out]; rfl, rfl⟩
end Go.Proofs.YthefgdehfgkhhaaGreat
namespace Go.Proofs.YthefgdehfgkhhaaGreat
open Go.RowKit Go.Shelf
set_option linter.unusedVariables false
set_option linter.unusedSimpArgs false
theorem div64_any (w : World) (hi lo y : Nat) (hl : lo < 18446744073709551616) (hy : y < 18446744073709551616) (hh : hi < y) :
 Calls Tryz.prog 122 #[.int .u64 hi, .int .u64 lo, .int .u64 y] w fun e w' => e = .returned (.tuple #[.int .u64 ((hi * 18446744073709551616 + lo) / y : Nat), .int .u64 ((hi * 18446744073709551616 + lo) % y : Nat)]) ∧ Below w.heap.size w w' := by
 rcases Nat.eq_zero_or_pos hi with h | h
 ·subst h
  rw [Nat.zero_mul, Nat.zero_add]
  exact div64_low w lo y hl hy (by omega)
 ·exact div64_high w hi lo y hl hy h hh
/-- Is a part told? -/
def partB (a n d : Int) : Bool := coinB a && (decide (0 ≤ n) && (decide (1 ≤ d) && decide (a * n / d ≤ 1125899906842624)))
/-- A part, whether something is left, and whether it is told. -/
def RetP3 (w : World) (a n d : Int) (e : Ending) (w' : World) : Prop :=
 e = .returned (.tuple #[.int .i64 (if partB a n d then a * n / d else 0), .bool (partB a n d && decide (0 < a * n % d)), .bool (partB a n d)]) ∧ Below w.heap.size w w'
theorem partB_no1 {a n d : Int} (h : coinB a = false) : partB a n d = false := by unfold partB; rw [h]; rfl
theorem partB_no2 {a n d : Int} (h : n < 0) : partB a n d = false := by unfold partB; rw [decide_eq_false (by omega : ¬ 0 ≤ n)]; cases coinB a <;> rfl
theorem partB_no3 {a n d : Int} (h : d < 1) : partB a n d = false := by unfold partB; rw [decide_eq_false (by omega : ¬ 1 ≤ d)]; cases coinB a <;> cases decide (0 ≤ n) <;> rfl
theorem RetP3.no {w w' : World} {a n d : Int} (h : partB a n d = false) (hb : Below w.heap.size w w') : RetP3 w a n d (.returned (.tuple #[.int .i64 0, .bool false, .bool false])) w' := ⟨by rw [h]; rfl, hb⟩
theorem too_great {H L k P : Nat} (hk : 1 ≤ k) (hc : k ≤ H) (hP : H * 18446744073709551616 + L = P) (h : P / k ≤ 1125899906842624) : False := by
 have h1 := Nat.div_add_mod P k
 have h2 := Nat.mod_lt P (show 0 < k by omega)
 have h3 := Nat.mul_le_mul_left k h
 omega
set_option maxRecDepth 100000 in
set_option maxHeartbeats 1000000 in
theorem part_any (w : World) (a n d : Int) (hn : n < 9223372036854775808) (hd : d < 9223372036854775808) :
 Calls Tryz.prog 109 #[.int .i64 a, .int .i64 n, .int .i64 d] w (RetP3 w a n d) := by
 rcases h0 : coinB a with _ | _
 ·have HF := Lib.hid (partB_no1 (n := n) (d := d) h0)
  go_enter Tryz.func109, Tryz.ntmps109
  go_wp2_with fail
  refine (coins_any _ _).mono ?_
  rintro e w' ⟨rfl, rfl⟩
  rw [h0]
  go_wp2_with fail
  go_ret3
  exact RetP3.no HF.out (Below.refl _ _)
 ·by_cases h1 : n < 0
  ·have HF := Lib.hid (partB_no2 (a := a) (d := d) h1)
   go_enter Tryz.func109, Tryz.ntmps109
   go_wp2_with fail
   refine (coins_any _ _).mono ?_
   rintro e w' ⟨rfl, rfl⟩
   rw [h0]
   go_wp2_with fail
   go_ret3
   exact RetP3.no HF.out (Below.refl _ _)
  ·by_cases h2 : d < 1
   ·have HF := Lib.hid (partB_no3 (a := a) (n := n) h2)
    go_enter Tryz.func109, Tryz.ntmps109
    go_wp2_with fail
    refine (coins_any _ _).mono ?_
    rintro e w' ⟨rfl, rfl⟩
    rw [h0]
    go_wp2_with fail
    go_ret3
    exact RetP3.no HF.out (Below.refl _ _)
   ·have g0 := coinB_true.1 h0
    obtain ⟨x, rfl⟩ := Int.eq_ofNat_of_zero_le g0.1
    obtain ⟨m, rfl⟩ := Int.eq_ofNat_of_zero_le (show 0 ≤ n by omega)
    obtain ⟨k, rfl⟩ := Int.eq_ofNat_of_zero_le (show 0 ≤ d by omega)
    have hk : 1 ≤ k := by omega
    have wx : IntKind.u64.wrap (x : Int) = (x : Int) := wrap_n (by omega)
    have wm : IntKind.u64.wrap (m : Int) = (m : Int) := wrap_n (by omega)
    have wk : IntKind.u64.wrap (k : Int) = (k : Int) := wrap_n (by omega)
    have HB : Hid (x < 18446744073709551616 ∧ m < 18446744073709551616 ∧ k < 18446744073709551616 ∧ 1 ≤ k) := Lib.hid ⟨by omega, by omega, by omega, hk⟩
    have hO : partB x m k = decide (x * m / k ≤ 1125899906842624) := by
     unfold partB
     rw [h0, decide_eq_true (show (0 : Int) ≤ (m : Int) by omega), decide_eq_true (show (1 : Int) ≤ (k : Int) by omega)]
     simp only [Bool.true_and]
     refine decide_eq_decide.2 ?_
     rw [← Int.natCast_mul, ← Int.natCast_ediv]
     omega
    have hT : ((x : Int) * m / k) = ((x * m / k : Nat) : Int) ∧ ((x : Int) * m % k) = ((x * m % k : Nat) : Int) := ⟨by rw [← Int.natCast_mul, ← Int.natCast_ediv], by rw [← Int.natCast_mul, ← Int.natCast_emod]⟩
    have HO := Lib.hid (And.intro hO hT)
    clear hO hT g0 hn hd hk
    go_enter Tryz.func109, Tryz.ntmps109
    go_wp2_with fail
    refine (coins_any _ _).mono ?_
    rintro e w' ⟨rfl, rfl⟩
    rw [h0]
    go_wp2_with fail
    refine (Tryz.bits_Mul64 x m HB.out.1 HB.out.2.1 _).mono ?_
    rintro e w' ⟨rfl, rfl⟩
    obtain ⟨H, hH⟩ : ∃ z, x * m / 18446744073709551616 = z := ⟨_, rfl⟩
    obtain ⟨L, hL⟩ : ∃ z, x * m % 18446744073709551616 = z := ⟨_, rfl⟩
    rw [hH, hL]
    have hP : H * 18446744073709551616 + L = x * m := by omega
    have hL64 : L < 18446744073709551616 := by omega
    have HP := Lib.hid (And.intro hP hL64)
    clear hH hL hP hL64
    by_cases hc : k ≤ H
    ·have HF : Hid (partB x m k = false) := Lib.hid (by
      rw [HO.out.1]
      exact decide_eq_false fun h => too_great HB.out.2.2.2 hc HP.out.1 h)
     go_wp2_with fail
     go_ret3
     exact RetP3.no HF.out (Below.refl _ _)
    ·go_wp2_with fail
     refine (div64_any _ H L k HP.out.2 HB.out.2.2.1 (by omega)).mono ?_
     rintro e w1 ⟨rfl, hb⟩
     rw [HP.out.1]
     have hT := HO.out.2
     obtain ⟨q, hq⟩ : ∃ z, x * m / k = z := ⟨_, rfl⟩
     obtain ⟨r, hr⟩ : ∃ z, x * m % k = z := ⟨_, rfl⟩
     rw [hq, hr]
     rw [hq, hr] at hT
     have hO := HO.out.1
     rw [hq] at hO
     have HQ := Lib.hid (And.intro hO hT)
     clear hO hT hq hr HO hc
     by_cases hm : q ≤ 1125899906842624
     ·have gm : ¬ (1125899906842624 : Int) < (q : Int) := by omega
      have wq : IntKind.i64.wrap (q : Int) = (q : Int) := IntWalk.i64_in _ (by omega)
      have HF : Hid (partB x m k = true) := Lib.hid (by rw [HQ.out.1, decide_eq_true hm])
      clear hm
      rcases hrr : decide (0 < r) with _ | _
      ·have HR := Lib.hid hrr
       have hr0 : r = 0 := by simpa using hrr
       subst hr0
       clear hrr
       go_wp2_with fail
       go_ret3
       exact ⟨by rw [HF.out, HQ.out.2.1, HQ.out.2.2]; rfl, hb⟩
      ·have hr0 : 0 < r := by simpa using hrr
       have HR : Hid (decide ((0 : Int) < (r : Int)) = true) := Lib.hid (decide_eq_true (by omega))
       go_wp2_with fail
       go_ret3
       exact ⟨by rw [HF.out, HQ.out.2.1, HQ.out.2.2, HR.out]; rfl, hb⟩
     ·have gm : (1125899906842624 : Int) < (q : Int) := by omega
      have HF : Hid (partB x m k = false) := Lib.hid (by rw [HQ.out.1, decide_eq_false hm])
      clear hm
      go_wp2_with fail
      go_ret3
      exact RetP3.no HF.out hb
end Go.Proofs.YthefgdehfgkhhaaGreat
namespace Go.Proofs.YthefgdehfgkhhaaGreat
open Go.RowKit Go.Shelf
set_option linter.unusedVariables false
set_option linter.unusedSimpArgs false
/-- A number, if it is told. -/
def RetB (w : World) (ok : Bool) (n : Int) (e : Ending) (w' : World) : Prop := e = .returned (.tuple #[.int .i64 (if ok then n else 0), .bool ok]) ∧ Below w.heap.size w w'
theorem RetI.b {w w' : World} {ok : Bool} {n : Int} {e : Ending} (h : RetI w ok n e w') : RetB w ok n e w' := ⟨h.1, h.2 ▸ Below.refl _ _⟩
def upB (a n d : Int) : Bool := partB a n d && (!decide (0 < a * n % d) || decide (a * n / d ≤ 1125899906842623))
def upV (a n d : Int) : Int := if 0 < a * n % d then a * n / d + 1 else a * n / d
theorem nPart_any (w : World) (a n d : Int) (hn : n < 9223372036854775808) (hd : d < 9223372036854775808) :
 Calls Tryz.prog 81 #[.int .i64 a, .int .i64 n, .int .i64 d] w (RetB w (partB a n d) (a * n / d)) := by
 go_enter Tryz.func81, Tryz.ntmps81
 go_wp2_with fail
 refine (part_any w a n d hn hd).mono ?_
 rintro e w' ⟨rfl, hb⟩
 obtain ⟨v, hv⟩ : ∃ v, (if partB a n d then a * n / d else 0) = v := ⟨_, rfl⟩
 obtain ⟨l, hl⟩ : ∃ l, (partB a n d && decide (0 < a * n % d)) = l := ⟨_, rfl⟩
 obtain ⟨o, ho⟩ : ∃ o, partB a n d = o := ⟨_, rfl⟩
 rw [hv, hl, ho]
 rw [ho] at hv
 have HV := Lib.hid (And.intro hv ho)
 clear hv hl ho
 go_wp2_with fail
 go_ret2
 exact ⟨by rw [HV.out.2, HV.out.1]; rfl, hb⟩
theorem div_pos' {a n d : Int} (h : partB a n d = true) : 0 ≤ a * n / d ∧ a * n / d ≤ 1125899906842624 := by
 unfold partB at h
 simp only [Bool.and_eq_true, decide_eq_true_eq] at h
 have g0 := coinB_true.1 h.1
 exact ⟨Int.ediv_nonneg (Int.mul_nonneg g0.1 h.2.1) (by omega), h.2.2.2⟩
end Go.Proofs.YthefgdehfgkhhaaGreat
