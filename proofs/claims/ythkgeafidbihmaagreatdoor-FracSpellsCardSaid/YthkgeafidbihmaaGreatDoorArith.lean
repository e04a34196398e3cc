/-
  Comparing of two numbers; Add32, Sub32: what they tell.
-/
import Derived.Test.YthkgeafidbihmaaGreatDoorSmall
import Derived.Laws.BitsAllLaws
import Derived.Laws.BitsLemmas
namespace Go.Proofs.YthkgeafidbihmaaGreatDoor
open Go.RowKit
set_option linter.unusedVariables false
set_option linter.unusedSimpArgs false

def cmpI (a b : Int) : Int := if a < b then -1 else if b < a then 1 else 0

theorem nan_int (a : Int) (w : World) : Calls Tryz.prog 69 #[.int .i64 a] w fun e w' => e = .returned (.bool false) ∧ w = w' := by
  go_enter Tryz.func69, Tryz.ntmps69
  go_wp2
  go_ret
  exact ⟨rfl, rfl⟩
theorem nan_u32 (a : Int) (w : World) : Calls Tryz.prog 71 #[.int .u32 a] w fun e w' => e = .returned (.bool false) ∧ w = w' := by
  go_enter Tryz.func71, Tryz.ntmps71
  go_wp2
  go_ret
  exact ⟨rfl, rfl⟩

theorem compare_int (a b : Int) (w : World) : Calls Tryz.prog 50 #[.int .i64 a, .int .i64 b] w fun e w' => e = .returned (.int .i64 (cmpI a b)) ∧ w = w' := by
  have HF : Hid (cmpI a b = if a < b then -1 else if b < a then 1 else 0) := Lib.hid rfl
  generalize cmpI a b = r at *
  by_cases h1 : a < b
  · have HR : Hid (r = -1) := Lib.hid (by rw [HF.out, if_pos h1])
    go_enter Tryz.func50, Tryz.ntmps50
    go_wp2_with (go_at_call 69; refine (nan_int _ _).mono ?_; rintro e w' ⟨rfl, rfl⟩)
    go_ret
    exact ⟨by rw [HR.out]; rfl, rfl⟩
  · by_cases h2 : b < a
    · have HR : Hid (r = 1) := Lib.hid (by rw [HF.out, if_neg h1, if_pos h2])
      go_enter Tryz.func50, Tryz.ntmps50
      go_wp2_with (go_at_call 69; refine (nan_int _ _).mono ?_; rintro e w' ⟨rfl, rfl⟩)
      go_ret
      exact ⟨by rw [HR.out]; rfl, rfl⟩
    · have HR : Hid (r = 0) := Lib.hid (by rw [HF.out, if_neg h1, if_neg h2])
      go_enter Tryz.func50, Tryz.ntmps50
      go_wp2_with (go_at_call 69; refine (nan_int _ _).mono ?_; rintro e w' ⟨rfl, rfl⟩)
      go_ret
      exact ⟨by rw [HR.out]; rfl, rfl⟩

theorem compare_u32 (a b : Int) (w : World) : Calls Tryz.prog 52 #[.int .u32 a, .int .u32 b] w fun e w' => e = .returned (.int .i64 (cmpI a b)) ∧ w = w' := by
  have HF : Hid (cmpI a b = if a < b then -1 else if b < a then 1 else 0) := Lib.hid rfl
  generalize cmpI a b = r at *
  by_cases h1 : a < b
  · have HR : Hid (r = -1) := Lib.hid (by rw [HF.out, if_pos h1])
    go_enter Tryz.func52, Tryz.ntmps52
    go_wp2_with (go_at_call 71; refine (nan_u32 _ _).mono ?_; rintro e w' ⟨rfl, rfl⟩)
    go_ret
    exact ⟨by rw [HR.out]; rfl, rfl⟩
  · by_cases h2 : b < a
    · have HR : Hid (r = 1) := Lib.hid (by rw [HF.out, if_neg h1, if_pos h2])
      go_enter Tryz.func52, Tryz.ntmps52
      go_wp2_with (go_at_call 71; refine (nan_u32 _ _).mono ?_; rintro e w' ⟨rfl, rfl⟩)
      go_ret
      exact ⟨by rw [HR.out]; rfl, rfl⟩
    · have HR : Hid (r = 0) := Lib.hid (by rw [HF.out, if_neg h1, if_neg h2])
      go_enter Tryz.func52, Tryz.ntmps52
      go_wp2_with (go_at_call 71; refine (nan_u32 _ _).mono ?_; rintro e w' ⟨rfl, rfl⟩)
      go_ret
      exact ⟨by rw [HR.out]; rfl, rfl⟩

theorem ret_ii {k k' : IntKind} {a b a' b' : Int} (h : a = a') (h' : b = b') : Ending.returned (.tuple #[.int k a, .int k' b]) = .returned (.tuple #[.int k a', .int k' b']) := by rw [h, h']

/-- What is left of x less y and k, in one digit; and what is borrowed. -/
def subD (x y k : Nat) : Nat := (x + 4294967296 - y - k) % 4294967296
def subB (x y k : Nat) : Nat := if x < y + k then 1 else 0

theorem subB_le (x y k : Nat) : subB x y k ≤ 1 := by unfold subB; split <;> omega
theorem subD_lt (x y k : Nat) : subD x y k < 4294967296 := Nat.mod_lt _ (by decide)
theorem sub_eq (x y k : Nat) (hx : x < 4294967296) (hy : y < 4294967296) (hk : k ≤ 1) : subD x y k + y + k = x + 4294967296 * subB x y k := by
  unfold subD subB; split <;> omega

/-- The borrow, by the top bits. -/
theorem borrow_bits (x y d : Nat) (hx : x < 4294967296) (hy : y < 4294967296) (hd : d < 4294967296) :
    (((4294967295 ^^^ x) &&& y) ||| ((4294967295 ^^^ (x ^^^ y)) &&& d)) / 2147483648 =
      ((1 ^^^ (x / 2147483648)) &&& (y / 2147483648)) ||| ((1 ^^^ ((x / 2147483648) ^^^ (y / 2147483648))) &&& (d / 2147483648)) := by
  have e : ∀ n : Nat, n / 2147483648 = n >>> 31 := fun n => by rw [Nat.shiftRight_eq_div_pow]
  simp only [e, Nat.shiftRight_or_distrib, Nat.shiftRight_and_distrib, Nat.shiftRight_xor_distrib]
  rfl

theorem borrow_eq (x y k : Nat) (hx : x < 4294967296) (hy : y < 4294967296) (hk : k ≤ 1) :
    bits .or .u32 (bits .and .u32 (bits .xor .u32 IntKind.u32.max (x : Int)) (y : Int)) (bits .and .u32 (bits .xor .u32 IntKind.u32.max (bits .xor .u32 (x : Int) (y : Int))) (((x : Int) - (y : Int) - (k : Int)) % 4294967296)) / 2147483648 = ((subB x y k : Nat) : Int) := by
  have hm : IntKind.u32.max = ((4294967295 : Nat) : Int) := by decide
  have hd : ((x : Int) - (y : Int) - (k : Int)) % 4294967296 = ((subD x y k : Nat) : Int) := by unfold subD; omega
  have hdl := subD_lt x y k
  have h1 : (4294967295 ^^^ x) < 4294967296 := Nat.xor_lt_two_pow (n := 32) (by decide) hx
  have h2 : (x ^^^ y) < 4294967296 := Nat.xor_lt_two_pow (n := 32) hx hy
  have h3 : (4294967295 ^^^ (x ^^^ y)) < 4294967296 := Nat.xor_lt_two_pow (n := 32) (by decide) h2
  have h4 : ((4294967295 ^^^ x) &&& y) < 4294967296 := Nat.and_lt_two_pow (n := 32) _ hy
  have h5 : ((4294967295 ^^^ (x ^^^ y)) &&& subD x y k) < 4294967296 := Nat.and_lt_two_pow (n := 32) _ hdl
  rw [hm, hd, u32_xor_nat _ _ (by decide) hx, u32_xor_nat _ _ hx hy, u32_xor_nat _ _ (by decide) h2, u32_and_nat _ _ h1 hy, u32_and_nat _ _ h3 hdl, u32_or_nat _ _ h4 h5]
  have hb := borrow_bits x y (subD x y k) hx hy hdl
  have hs := sub_eq x y k hx hy hk
  have hB := subB_le x y k
  have goal : (((4294967295 ^^^ x) &&& y) ||| ((4294967295 ^^^ (x ^^^ y)) &&& subD x y k)) / 2147483648 = subB x y k := by
    rw [hb]
    generalize subD x y k = d at *
    generalize subB x y k = q at *
    clear hb hd hm h1 h2 h3 h4 h5
    have ax : x / 2147483648 = 0 ∨ x / 2147483648 = 1 := by omega
    have ay : y / 2147483648 = 0 ∨ y / 2147483648 = 1 := by omega
    have ad : d / 2147483648 = 0 ∨ d / 2147483648 = 1 := by omega
    rcases ax with ax | ax <;> rcases ay with ay | ay <;> rcases ad with ad | ad <;> rw [ax, ay, ad] <;> simp <;> omega
  omega

theorem add32_any (x y k : Nat) (w : World) (hx : x < 4294967296) (hy : y < 4294967296) (hk : k ≤ 1) :
    Calls Tryz.prog 62 #[.int .u32 x, .int .u32 y, .int .u32 k] w fun e w' => e = .returned (.tuple #[.int .u32 (((x + y + k) % 4294967296 : Nat) : Int), .int .u32 (((x + y + k) / 4294967296 : Nat) : Int)]) ∧ w = w' := by
  go_enter Tryz.func62, Tryz.ntmps62
  go_wp2
  go_ret2
  exact ⟨ret_ii (by omega) (by omega), rfl⟩

theorem sub32_any (x y k : Nat) (w : World) (hx : x < 4294967296) (hy : y < 4294967296) (hk : k ≤ 1) :
    Calls Tryz.prog 61 #[.int .u32 x, .int .u32 y, .int .u32 k] w fun e w' => e = .returned (.tuple #[.int .u32 (subD x y k : Nat), .int .u32 (subB x y k : Nat)]) ∧ w = w' := by
  have HB := Lib.hid (borrow_eq x y k hx hy hk)
  have HD : Hid (((x : Int) - (y : Int) - (k : Int)) % 4294967296 = ((subD x y k : Nat) : Int)) := Lib.hid (by unfold subD; omega)
  have hs : IntKind.u32.signed = false := rfl
  go_enter Tryz.func61, Tryz.ntmps61
  go_wp2
  go_ret2
  exact ⟨ret_ii (by have := HD.out; omega) (by have := HB.out; simpa using this), rfl⟩

end Go.Proofs.YthkgeafidbihmaaGreatDoor
