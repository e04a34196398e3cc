/-
  The laws' small case and few.
-/
import Derived.Test.YtjjpbpgoenpkkaaDoorParse
import Derived.Test.YtjjpbpgoenpkkaaDoorGcd
import Derived.Test.YtjjpbpgoenpkkaaDoorSame
namespace Go.Proofs.YtjjpbpgoenpkkaaDoor
open Go.RowKit Go.Shelf
set_option linter.unusedVariables false

theorem few_any (w : World) (A1 A2 : Option Addr) (n1 c1 n2 c2 : Nat) (hn1 : n1 ≤ 9223372036854775807) (hn2 : n2 ≤ 9223372036854775807) :
    Calls Tryd.prog 10 #[.slice A1 n1 c1, .slice A2 n2 c2] w fun e w' => e = .returned (.bool (decide (n1 ≤ 12) && decide (n2 ≤ 12))) ∧ w = w' := by
  by_cases h1 : n1 ≤ 12
  · have g1 : (n1 : Int) ≤ 12 := by omega
    by_cases h2 : n2 ≤ 12
    · have g2 : (n2 : Int) ≤ 12 := by omega
      have HF : Hid ((decide (n1 ≤ 12) && decide (n2 ≤ 12)) = true) := Lib.hid (by simp [h1, h2])
      clear h1 h2
      go_enter Tryd.func10, Tryd.ntmps10
      go_wp2_with fail
      go_ret
      exact ⟨by rw [HF.out]; rfl, rfl⟩
    · have g2 : ¬ (n2 : Int) ≤ 12 := by omega
      have HF : Hid ((decide (n1 ≤ 12) && decide (n2 ≤ 12)) = false) := Lib.hid (by simp; omega)
      clear h1 h2
      go_enter Tryd.func10, Tryd.ntmps10
      go_wp2_with fail
      go_ret
      exact ⟨by rw [HF.out]; rfl, rfl⟩
  · have g1 : ¬ (n1 : Int) ≤ 12 := by omega
    have HF : Hid ((decide (n1 ≤ 12) && decide (n2 ≤ 12)) = false) := Lib.hid (by simp; omega)
    clear h1
    go_enter Tryd.func10, Tryd.ntmps10
    go_wp2_with fail
    go_ret
    exact ⟨by rw [HF.out]; rfl, rfl⟩

theorem digs_lt {n : Nat} (h0 : 0 < n) (h : n < 4294967296) : digs n = [n] := by
  rw [digs_pos (by omega), Nat.mod_eq_of_lt h, Nat.div_eq_of_lt h, digs_zero]
theorem digs_2_64 : digs 18446744073709551616 = [0, 0, 1] := by
  rw [digs_pos (by decide), show 18446744073709551616 % 4294967296 = 0 by decide, show 18446744073709551616 / 4294967296 = 4294967296 by decide, digs_pos (by decide), show 4294967296 % 4294967296 = 0 by decide, show 4294967296 / 4294967296 = 1 by decide, digs_lt (by decide) (by decide)]
theorem tv_2_64 : tv [0, 0, 1] = 18446744073709551616 := by decide
theorem tv_nil : tv [] = 0 := by decide
theorem dec_2_64 : Lib.decDigits 1844674407370955161 = [49, 56, 52, 52, 54, 55, 52, 52, 48, 55, 51, 55, 48, 57, 53, 53, 49, 54, 49] := by simp [Lib.decDigits]
theorem pok_007 : pok [48, 48, 55] = false := by decide
theorem pok_2_64 : pok [49, 56, 52, 52, 54, 55, 52, 52, 48, 55, 51, 55, 48, 57, 53, 53, 49, 54, 49, 54] = true := by decide
theorem pval_2_64 : pval [49, 56, 52, 52, 54, 55, 52, 52, 48, 55, 51, 55, 48, 57, 53, 53, 49, 54, 49, 54] = 18446744073709551616 := by decide

end Go.Proofs.YtjjpbpgoenpkkaaDoor
