/-
  The document's Int.
-/
import Derived.Test.YtjjpbpgoenpkkaaDoorRefA
import Derived.Test.YtjjpbpgoenpkkaaDoorInt
namespace Go.Proofs.YtjjpbpgoenpkkaaDoor
open Go.RowKit
set_option linter.unusedVariables false

theorem digs_two_at {X m : Nat} (h : (digs X).length = m) (hm : m ≤ 2) : X = (digs X).getD 1 0 * 4294967296 + (digs X).getD 0 0 := by
  have h1 := val_take_succ (l := digs X) 1
  have h2 := val_take_succ (l := digs X) 0
  rw [List.take_of_length_le (by omega), val_digs] at h1
  simp only [List.take_zero, val, Nat.pow_zero, Nat.pow_one, Nat.zero_add, Nat.one_mul, Nat.reduceAdd] at h1 h2
  omega

set_option maxRecDepth 100000 in
theorem rint_any (w : World) (A1 : Option Addr) (n1 c1 : Nat) (l1 : List Nat) (h1 : Rd w w.heap.size A1 n1 c1 l1) (hn1 : n1 ≤ 1048576) :
    Calls Tryd.prog 16 #[.slice A1 n1 c1] w (RetI w (tv l1)) := by
  go_enter Tryd.func16, Tryd.ntmps16
  go_wp2_with fail
  refine (rtaken_any _ _ A1 n1 c1 l1 h1 hn1).mono ?_
  rintro e w' ⟨⟨P1, m1, d1, rfl, hm1, q1⟩, rfl⟩
  obtain ⟨X, hX⟩ : ∃ X, tv l1 = X := ⟨_, rfl⟩
  rw [hX] at q1
  have HX := Lib.hid hX
  have HQ := Lib.hid q1
  have hm1 : m1 ≤ 1048576 := by omega
  clear hX h1 q1 hn1
  rcases Nat.lt_or_ge 2 m1 with h2 | h2
  · have hX := more_digs HQ.out.len h2
    have HG : Hid (RetI w (tv l1) (.returned (.tuple #[.int .i64 0, .bool false])) w) := Lib.hid ⟨by
      rw [HX.out, intV, intB, if_neg (by omega), decide_eq_false (by omega)]; rfl, Below.refl _ _⟩
    have hlt : (2 : Int) < (m1 : Int) := by omega
    clear hX
    go_wp2_with fail
    go_ret2
    exact HG.out
  · have hX := digs_two_at HQ.out.len h2
    have hd0 := (dig_digs X).getD 0
    have hd1 := (dig_digs X).getD 1
    have hlt : ¬ (2 : Int) < (m1 : Int) := by omega
    have hdig0 : ∀ w : World, Rd w w.heap.size P1 m1 d1 (digs X) → Calls Tryd.prog 38 #[.slice P1 m1 d1, .int .i64 0] w fun e w' => e = .returned (.int .u64 ((digs X).getD 0 0 : Nat)) ∧ w = w' := fun w h => rdigit_any w _ _ _ _ _ h hm1 0 0 rfl
    have hdig1 : ∀ w : World, Rd w w.heap.size P1 m1 d1 (digs X) → Calls Tryd.prog 38 #[.slice P1 m1 d1, .int .i64 1] w fun e w' => e = .returned (.int .u64 ((digs X).getD 1 0 : Nat)) ∧ w = w' := fun w h => rdigit_any w _ _ _ _ _ h hm1 1 1 rfl
    generalize (digs X).getD 0 0 = x0 at *
    generalize (digs X).getD 1 0 = x1 at *
    have HD0 := Lib.hid hdig0
    have HD1 := Lib.hid hdig1
    clear hdig0 hdig1
    rcases Nat.lt_or_ge 2147483647 x1 with h3 | h3
    · have HG : Hid (RetI w (tv l1) (.returned (.tuple #[.int .i64 0, .bool false])) w) := Lib.hid ⟨by
        rw [HX.out, intV, intB, if_neg (by omega), decide_eq_false (by omega)]; rfl, Below.refl _ _⟩
      have hgt : (2147483647 : Int) < (x1 : Int) := by omega
      clear hX
      go_wp2_with fail
      refine (HD1.out _ HQ.out).mono ?_
      rintro e w' ⟨rfl, rfl⟩
      go_wp2_with fail
      go_ret2
      exact HG.out
    · obtain ⟨p, hp⟩ : ∃ p, x1 * 4294967296 = p := ⟨_, rfl⟩
      have hm : (x1 : Int) * 4294967296 = (p : Int) := by omega
      have hpl : p ≤ 9223372036854775807 := by omega
      have hs : (p : Int) + (x0 : Int) = (X : Int) := by omega
      have HG : Hid (RetI w (tv l1) (.returned (.tuple #[.int .i64 (X : Int), .bool true])) w) := Lib.hid ⟨by
        rw [HX.out, intV, intB, if_pos (by omega), decide_eq_true (by omega)], Below.refl _ _⟩
      have hgt : ¬ (2147483647 : Int) < (x1 : Int) := by omega
      have hXl : (X : Int) < 9223372036854775808 := by omega
      have HS := Lib.hid (And.intro hs (And.intro hm (And.intro hXl hpl)))
      clear hX hp hs hm hXl hpl h3 hd0 hd1
      go_wp2_with fail
      refine (HD1.out _ HQ.out).mono ?_
      rintro e w' ⟨rfl, rfl⟩
      go_wp2_with fail
      refine (HD1.out _ HQ.out).mono ?_
      rintro e w' ⟨rfl, rfl⟩
      go_wp2_with fail
      refine (HD0.out _ HQ.out).mono ?_
      rintro e w' ⟨rfl, rfl⟩
      go_wp2_with fail
      go_ret2
      have e : wrap64 (IntKind.u64.wrap ((x1 : Int) * 4294967296 + (x0 : Int))) = (X : Int) := by
        obtain ⟨e1, e2, e3, e4⟩ := HS.out
        rw [e2, e1]
        have e5 : IntKind.u64.wrap (X : Int) = (X : Int) := by simp [IntKind.wrap, IntKind.signed, IntKind.bits]; omega
        rw [e5]
        unfold wrap64
        omega
      have h := HG.out
      rw [← e] at h
      exact h

end Go.Proofs.YtjjpbpgoenpkkaaDoor
