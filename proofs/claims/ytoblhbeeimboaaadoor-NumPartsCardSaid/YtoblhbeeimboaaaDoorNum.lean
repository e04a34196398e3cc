/-
  Coins: coins, Add, Sub; of the program and of the document.
-/
import Derived.Test.YtoblhbeeimboaaaDoorDiv64
namespace Go.Proofs.YtoblhbeeimboaaaDoor
open Go.RowKit Go.Shelf
set_option linter.unusedVariables false
set_option linter.unusedSimpArgs false

/-- Are these coins? -/
def coinB (a : Int) : Bool := decide (0 ≤ a) && decide (a ≤ 1125899906842624)
theorem coinB_true {a : Int} : coinB a = true ↔ 0 ≤ a ∧ a ≤ 1125899906842624 := by
  unfold coinB
  simp
theorem coinB_false {a : Int} : coinB a = false ↔ a < 0 ∨ 1125899906842624 < a := by
  unfold coinB
  simp
  omega

theorem coins_any (w : World) (a : Int) : Calls Tryd.prog 20 #[.int .i64 a] w fun e w' => e = .returned (.bool (coinB a)) ∧ w = w' := by
  by_cases h0 : 0 ≤ a
  · by_cases h1 : a ≤ 1125899906842624
    · have HF : Hid (coinB a = true) := Lib.hid (coinB_true.2 ⟨h0, h1⟩)
      go_enter Tryd.func20, Tryd.ntmps20
      go_wp2_with fail
      go_ret
      exact ⟨by rw [HF.out]; rfl, rfl⟩
    · have HF : Hid (coinB a = false) := Lib.hid (coinB_false.2 (by omega))
      go_enter Tryd.func20, Tryd.ntmps20
      go_wp2_with fail
      go_ret
      exact ⟨by rw [HF.out]; rfl, rfl⟩
  · have HF : Hid (coinB a = false) := Lib.hid (coinB_false.2 (by omega))
    go_enter Tryd.func20, Tryd.ntmps20
    go_wp2_with fail
    go_ret
    exact ⟨by rw [HF.out]; rfl, rfl⟩

/-- Two results: a number, and whether it is told. -/
def RetI (w : World) (ok : Bool) (n : Int) (e : Ending) (w' : World) : Prop := e = .returned (.tuple #[.int .i64 (if ok then n else 0), .bool ok]) ∧ w = w'

def addB (a b : Int) : Bool := coinB a && (coinB b && decide (a ≤ 1125899906842624 - b))
def subB (a b : Int) : Bool := coinB a && (coinB b && decide (b ≤ a))

theorem nadd_any (w : World) (a b : Int) : Calls Tryd.prog 8 #[.int .i64 a, .int .i64 b] w (RetI w (addB a b) (a + b)) := by
  rcases h0 : coinB a with _ | _
  · have HF : Hid (addB a b = false) := Lib.hid (by unfold addB; rw [h0]; rfl)
    go_enter Tryd.func8, Tryd.ntmps8
    go_wp2_with fail
    refine (coins_any _ _).mono ?_
    rintro e w' ⟨rfl, rfl⟩
    rw [h0]
    go_wp2_with fail
    go_ret2
    exact ⟨by rw [HF.out]; rfl, rfl⟩
  · rcases h1 : coinB b with _ | _
    · have HF : Hid (addB a b = false) := Lib.hid (by unfold addB; rw [h0, h1]; rfl)
      go_enter Tryd.func8, Tryd.ntmps8
      go_wp2_with fail
      refine (coins_any _ _).mono ?_
      rintro e w' ⟨rfl, rfl⟩
      rw [h0]
      go_wp2_with fail
      refine (coins_any _ _).mono ?_
      rintro e w' ⟨rfl, rfl⟩
      rw [h1]
      go_wp2_with fail
      go_ret2
      exact ⟨by rw [HF.out]; rfl, rfl⟩
    · have g0 := coinB_true.1 h0
      have g1 := coinB_true.1 h1
      have gw : IntKind.i64.wrap (1125899906842624 - b) = 1125899906842624 - b := IntWalk.i64_in _ (by omega)
      have gs : IntKind.i64.wrap (a + b) = a + b := IntWalk.i64_in _ (by omega)
      have HO : Hid (addB a b = decide (a ≤ 1125899906842624 - b)) := Lib.hid (by unfold addB; rw [h0, h1]; rfl)
      by_cases h2 : a ≤ 1125899906842624 - b
      · have HF : Hid (addB a b = true) := Lib.hid (by rw [HO.out, decide_eq_true h2])
        have h3 : ¬ 1125899906842624 - b < a := by omega
        go_enter Tryd.func8, Tryd.ntmps8
        go_wp2_with fail
        refine (coins_any _ _).mono ?_
        rintro e w' ⟨rfl, rfl⟩
        rw [h0]
        go_wp2_with fail
        refine (coins_any _ _).mono ?_
        rintro e w' ⟨rfl, rfl⟩
        rw [h1]
        go_wp2_with fail
        go_ret2
        exact ⟨by rw [HF.out]; rfl, rfl⟩
      · have HF : Hid (addB a b = false) := Lib.hid (by rw [HO.out, decide_eq_false h2])
        have h3 : 1125899906842624 - b < a := by omega
        clear h2
        go_enter Tryd.func8, Tryd.ntmps8
        go_wp2_with fail
        refine (coins_any _ _).mono ?_
        rintro e w' ⟨rfl, rfl⟩
        rw [h0]
        go_wp2_with fail
        refine (coins_any _ _).mono ?_
        rintro e w' ⟨rfl, rfl⟩
        rw [h1]
        go_wp2_with fail
        go_ret2
        exact ⟨by rw [HF.out]; rfl, rfl⟩

theorem nsub_any (w : World) (a b : Int) : Calls Tryd.prog 10 #[.int .i64 a, .int .i64 b] w (RetI w (subB a b) (a - b)) := by
  rcases h0 : coinB a with _ | _
  · have HF : Hid (subB a b = false) := Lib.hid (by unfold subB; rw [h0]; rfl)
    go_enter Tryd.func10, Tryd.ntmps10
    go_wp2_with fail
    refine (coins_any _ _).mono ?_
    rintro e w' ⟨rfl, rfl⟩
    rw [h0]
    go_wp2_with fail
    go_ret2
    exact ⟨by rw [HF.out]; rfl, rfl⟩
  · rcases h1 : coinB b with _ | _
    · have HF : Hid (subB a b = false) := Lib.hid (by unfold subB; rw [h0, h1]; rfl)
      go_enter Tryd.func10, Tryd.ntmps10
      go_wp2_with fail
      refine (coins_any _ _).mono ?_
      rintro e w' ⟨rfl, rfl⟩
      rw [h0]
      go_wp2_with fail
      refine (coins_any _ _).mono ?_
      rintro e w' ⟨rfl, rfl⟩
      rw [h1]
      go_wp2_with fail
      go_ret2
      exact ⟨by rw [HF.out]; rfl, rfl⟩
    · have g0 := coinB_true.1 h0
      have g1 := coinB_true.1 h1
      have gs : IntKind.i64.wrap (a - b) = a - b := IntWalk.i64_in _ (by omega)
      have HO : Hid (subB a b = decide (b ≤ a)) := Lib.hid (by unfold subB; rw [h0, h1]; rfl)
      by_cases h2 : b ≤ a
      · have HF : Hid (subB a b = true) := Lib.hid (by rw [HO.out, decide_eq_true h2])
        have h3 : ¬ a < b := by omega
        go_enter Tryd.func10, Tryd.ntmps10
        go_wp2_with fail
        refine (coins_any _ _).mono ?_
        rintro e w' ⟨rfl, rfl⟩
        rw [h0]
        go_wp2_with fail
        refine (coins_any _ _).mono ?_
        rintro e w' ⟨rfl, rfl⟩
        rw [h1]
        go_wp2_with fail
        go_ret2
        exact ⟨by rw [HF.out]; rfl, rfl⟩
      · have HF : Hid (subB a b = false) := Lib.hid (by rw [HO.out, decide_eq_false h2])
        have h3 : a < b := by omega
        clear h2
        go_enter Tryd.func10, Tryd.ntmps10
        go_wp2_with fail
        refine (coins_any _ _).mono ?_
        rintro e w' ⟨rfl, rfl⟩
        rw [h0]
        go_wp2_with fail
        refine (coins_any _ _).mono ?_
        rintro e w' ⟨rfl, rfl⟩
        rw [h1]
        go_wp2_with fail
        go_ret2
        exact ⟨by rw [HF.out]; rfl, rfl⟩

theorem rcoins_any (w : World) (a : Int) : Calls Tryd.prog 21 #[.int .i64 a] w fun e w' => e = .returned (.bool (coinB a)) ∧ w = w' := by
  by_cases h0 : 0 ≤ a
  · by_cases h1 : a ≤ 1125899906842624
    · have HF : Hid (coinB a = true) := Lib.hid (coinB_true.2 ⟨h0, h1⟩)
      go_enter Tryd.func21, Tryd.ntmps21
      go_wp2_with fail
      go_ret
      exact ⟨by rw [HF.out]; rfl, rfl⟩
    · have HF : Hid (coinB a = false) := Lib.hid (coinB_false.2 (by omega))
      go_enter Tryd.func21, Tryd.ntmps21
      go_wp2_with fail
      go_ret
      exact ⟨by rw [HF.out]; rfl, rfl⟩
  · have HF : Hid (coinB a = false) := Lib.hid (coinB_false.2 (by omega))
    go_enter Tryd.func21, Tryd.ntmps21
    go_wp2_with fail
    go_ret
    exact ⟨by rw [HF.out]; rfl, rfl⟩

theorem radd_any (w : World) (a b : Int) : Calls Tryd.prog 9 #[.int .i64 a, .int .i64 b] w (RetI w (addB a b) (a + b)) := by
  rcases h0 : coinB a with _ | _
  · have HF : Hid (addB a b = false) := Lib.hid (by unfold addB; rw [h0]; rfl)
    go_enter Tryd.func9, Tryd.ntmps9
    go_wp2_with fail
    refine (rcoins_any _ _).mono ?_
    rintro e w' ⟨rfl, rfl⟩
    rw [h0]
    go_wp2_with fail
    go_ret2
    exact ⟨by rw [HF.out]; rfl, rfl⟩
  · rcases h1 : coinB b with _ | _
    · have HF : Hid (addB a b = false) := Lib.hid (by unfold addB; rw [h0, h1]; rfl)
      go_enter Tryd.func9, Tryd.ntmps9
      go_wp2_with fail
      refine (rcoins_any _ _).mono ?_
      rintro e w' ⟨rfl, rfl⟩
      rw [h0]
      go_wp2_with fail
      refine (rcoins_any _ _).mono ?_
      rintro e w' ⟨rfl, rfl⟩
      rw [h1]
      go_wp2_with fail
      go_ret2
      exact ⟨by rw [HF.out]; rfl, rfl⟩
    · have g0 := coinB_true.1 h0
      have g1 := coinB_true.1 h1
      have gs : IntKind.i64.wrap (a + b) = a + b := IntWalk.i64_in _ (by omega)
      have h2 : addB a b = coinB (a + b) := by
        unfold addB coinB
        rw [show decide (0 ≤ a) = true from decide_eq_true g0.1, show decide (a ≤ 1125899906842624) = true from decide_eq_true g0.2, show decide (0 ≤ b) = true from decide_eq_true g1.1, show decide (b ≤ 1125899906842624) = true from decide_eq_true g1.2]
        rw [Bool.eq_iff_iff]
        simp
        omega
      have H2 := Lib.hid h2
      clear h2
      go_enter Tryd.func9, Tryd.ntmps9
      go_wp2_with fail
      refine (rcoins_any _ _).mono ?_
      rintro e w' ⟨rfl, rfl⟩
      rw [h0]
      go_wp2_with fail
      refine (rcoins_any _ _).mono ?_
      rintro e w' ⟨rfl, rfl⟩
      rw [h1]
      go_wp2_with fail
      refine (rcoins_any _ _).mono ?_
      rintro e w' ⟨rfl, rfl⟩
      obtain ⟨z, hz⟩ : ∃ z, coinB (a + b) = z := ⟨_, rfl⟩
      rw [hz]
      have HF := Lib.hid (H2.out.trans hz)
      clear hz
      rcases z with _ | _
      · go_wp2_with fail
        go_ret2
        exact ⟨by rw [HF.out]; rfl, rfl⟩
      · go_wp2_with fail
        go_ret2
        exact ⟨by rw [HF.out]; rfl, rfl⟩

theorem rsub_any (w : World) (a b : Int) : Calls Tryd.prog 11 #[.int .i64 a, .int .i64 b] w (RetI w (subB a b) (a - b)) := by
  rcases h0 : coinB a with _ | _
  · have HF : Hid (subB a b = false) := Lib.hid (by unfold subB; rw [h0]; rfl)
    go_enter Tryd.func11, Tryd.ntmps11
    go_wp2_with fail
    refine (rcoins_any _ _).mono ?_
    rintro e w' ⟨rfl, rfl⟩
    rw [h0]
    go_wp2_with fail
    go_ret2
    exact ⟨by rw [HF.out]; rfl, rfl⟩
  · rcases h1 : coinB b with _ | _
    · have HF : Hid (subB a b = false) := Lib.hid (by unfold subB; rw [h0, h1]; rfl)
      go_enter Tryd.func11, Tryd.ntmps11
      go_wp2_with fail
      refine (rcoins_any _ _).mono ?_
      rintro e w' ⟨rfl, rfl⟩
      rw [h0]
      go_wp2_with fail
      refine (rcoins_any _ _).mono ?_
      rintro e w' ⟨rfl, rfl⟩
      rw [h1]
      go_wp2_with fail
      go_ret2
      exact ⟨by rw [HF.out]; rfl, rfl⟩
    · have g0 := coinB_true.1 h0
      have g1 := coinB_true.1 h1
      have gs : IntKind.i64.wrap (a - b) = a - b := IntWalk.i64_in _ (by omega)
      have h2 : subB a b = coinB (a - b) := by
        unfold subB coinB
        rw [show decide (0 ≤ a) = true from decide_eq_true g0.1, show decide (a ≤ 1125899906842624) = true from decide_eq_true g0.2, show decide (0 ≤ b) = true from decide_eq_true g1.1, show decide (b ≤ 1125899906842624) = true from decide_eq_true g1.2]
        rw [Bool.eq_iff_iff]
        simp
        omega
      have H2 := Lib.hid h2
      clear h2
      go_enter Tryd.func11, Tryd.ntmps11
      go_wp2_with fail
      refine (rcoins_any _ _).mono ?_
      rintro e w' ⟨rfl, rfl⟩
      rw [h0]
      go_wp2_with fail
      refine (rcoins_any _ _).mono ?_
      rintro e w' ⟨rfl, rfl⟩
      rw [h1]
      go_wp2_with fail
      refine (rcoins_any _ _).mono ?_
      rintro e w' ⟨rfl, rfl⟩
      obtain ⟨z, hz⟩ : ∃ z, coinB (a - b) = z := ⟨_, rfl⟩
      rw [hz]
      have HF := Lib.hid (H2.out.trans hz)
      clear hz
      rcases z with _ | _
      · go_wp2_with fail
        go_ret2
        exact ⟨by rw [HF.out]; rfl, rfl⟩
      · go_wp2_with fail
        go_ret2
        exact ⟨by rw [HF.out]; rfl, rfl⟩

end Go.Proofs.YtoblhbeeimboaaaDoor
