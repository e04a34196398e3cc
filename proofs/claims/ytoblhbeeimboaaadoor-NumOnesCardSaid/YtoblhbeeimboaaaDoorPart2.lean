/-
  Parts of coins: Part, Up; the document's parts, bit by bit.
-/
import Derived.Test.YtoblhbeeimboaaaDoorPart
namespace Go.Proofs.YtoblhbeeimboaaaDoor
open Go.RowKit Go.Shelf
set_option linter.unusedVariables false
set_option linter.unusedSimpArgs false

/-- A number, if it is told. -/
def RetB (w : World) (ok : Bool) (n : Int) (e : Ending) (w' : World) : Prop := e = .returned (.tuple #[.int .i64 (if ok then n else 0), .bool ok]) ∧ Below w.heap.size w w'
theorem RetI.b {w w' : World} {ok : Bool} {n : Int} {e : Ending} (h : RetI w ok n e w') : RetB w ok n e w' := ⟨h.1, h.2 ▸ Below.refl _ _⟩

def upB (a n d : Int) : Bool := partB a n d && (!decide (0 < a * n % d) || decide (a * n / d ≤ 1125899906842623))
def upV (a n d : Int) : Int := if 0 < a * n % d then a * n / d + 1 else a * n / d

theorem nPart_any (w : World) (a n d : Int) (hn : n < 9223372036854775808) (hd : d < 9223372036854775808) :
    Calls Tryd.prog 12 #[.int .i64 a, .int .i64 n, .int .i64 d] w (RetB w (partB a n d) (a * n / d)) := by
  go_enter Tryd.func12, Tryd.ntmps12
  go_wp2_with fail
  refine (part_any w a n d hn hd).mono ?_
  rintro e w' ⟨rfl, hb⟩
  obtain ⟨v, hv⟩ : ∃ v, (if partB a n d then a * n / d else 0) = v := ⟨_, rfl⟩
  obtain ⟨l, hl⟩ : ∃ l, (partB a n d && decide (0 < a * n % d)) = l := ⟨_, rfl⟩
  obtain ⟨o, ho⟩ : ∃ o, partB a n d = o := ⟨_, rfl⟩
  rw [hv, hl, ho]
  rw [ho] at hv
  have HV := Lib.hid (And.intro hv ho)
  clear hv hl ho
  go_wp2_with fail
  go_ret2
  exact ⟨by rw [HV.out.2, HV.out.1]; rfl, hb⟩

theorem div_pos' {a n d : Int} (h : partB a n d = true) : 0 ≤ a * n / d ∧ a * n / d ≤ 1125899906842624 := by
  unfold partB at h
  simp only [Bool.and_eq_true, decide_eq_true_eq] at h
  have g0 := coinB_true.1 h.1
  exact ⟨Int.ediv_nonneg (Int.mul_nonneg g0.1 h.2.1) (by omega), h.2.2.2⟩

set_option maxRecDepth 100000 in
theorem nUp_any (w : World) (a n d : Int) (hn : n < 9223372036854775808) (hd : d < 9223372036854775808) :
    Calls Tryd.prog 14 #[.int .i64 a, .int .i64 n, .int .i64 d] w (RetB w (upB a n d) (upV a n d)) := by
  go_enter Tryd.func14, Tryd.ntmps14
  go_wp2_with fail
  refine (part_any w a n d hn hd).mono ?_
  rintro e w1 ⟨rfl, hb⟩
  rcases ho : partB a n d with _ | _
  · have HF : Hid (upB a n d = false) := Lib.hid (by unfold upB; rw [ho]; rfl)
    clear ho
    go_wp2_with fail
    go_ret2
    exact ⟨by rw [HF.out]; rfl, hb⟩
  · have hp := div_pos' ho
    rw [if_pos rfl, Bool.true_and]
    by_cases hl : 0 < a * n % d
    · rw [decide_eq_true hl]
      have hB : upB a n d = decide (a * n / d ≤ 1125899906842623) := by unfold upB; rw [ho, decide_eq_true hl]; rfl
      have hV : upV a n d = a * n / d + 1 := by unfold upV; rw [if_pos hl]
      have hA : addB (a * n / d) 1 = decide (a * n / d ≤ 1125899906842623) := by
        unfold addB
        rw [coinB_true.2 hp, show coinB 1 = true from rfl]
        rfl
      obtain ⟨q, hq⟩ : ∃ q, a * n / d = q := ⟨_, rfl⟩
      rw [hq] at hB hV hA ⊢
      have HB := Lib.hid (And.intro (hB.trans hA.symm) hV)
      clear hB hV hA hq hl ho hp
      go_wp2_with fail
      refine (nadd_any _ _ _).mono ?_
      rintro e w2 ⟨rfl, rfl⟩
      obtain ⟨v, hv⟩ : ∃ v, (if addB q 1 then q + 1 else 0) = v := ⟨_, rfl⟩
      obtain ⟨o, ho⟩ : ∃ o, addB q 1 = o := ⟨_, rfl⟩
      rw [hv, ho]
      rw [ho] at hv
      have HV := Lib.hid (And.intro hv (HB.out.1.trans ho))
      clear hv ho
      go_wp2_with fail
      go_ret2
      exact ⟨by rw [HV.out.2, HB.out.2, HV.out.1]; rfl, hb⟩
    · rw [decide_eq_false hl]
      have HB : Hid (upB a n d = true ∧ upV a n d = a * n / d) := Lib.hid ⟨by unfold upB; rw [ho, decide_eq_false hl]; rfl, by unfold upV; rw [if_neg hl]⟩
      obtain ⟨q, hq⟩ : ∃ q, a * n / d = q := ⟨_, rfl⟩
      rw [hq] at HB ⊢
      clear hq hl ho hp
      go_wp2_with fail
      go_ret2
      exact ⟨by rw [HB.out.1, HB.out.2]; rfl, hb⟩

end Go.Proofs.YtoblhbeeimboaaaDoor
