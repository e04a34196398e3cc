/-
  The small functions on digits: Right, taken, low; comparing of numbers; Add32, Sub32.
-/
import Derived.Test.YthkgeafidbihmaaGreatDoorMem
import Derived.Test.YthkgeafidbihmaaGreatDoorProg
import Derived.WalkKit
import Derived.Handy
namespace Go.Proofs.YthkgeafidbihmaaGreatDoor
open Go.RowKit
set_option linter.unusedVariables false
set_option linter.unusedSimpArgs false

/-- A number's digits are handed back, at most n of them, in a block below B. -/
def HasD (w : World) (B n x : Nat) (e : Ending) : Prop := ∃ A' n' c', e = .returned (.slice A' n' c') ∧ n' ≤ n ∧ Rd w B A' n' c' (digs x)

theorem right_any (w : World) (B : Nat) (A : Option Addr) (n c : Nat) (l : List Nat) (h : Rd w B A n c l) (hn : n ≤ 1048576) :
    Calls Tryz.prog 41 #[.slice A n c] w fun e w' => e = .returned (.bool (rightB l)) ∧ w = w' := by
  rcases Nat.eq_zero_or_pos n with h0 | h0
  · subst h0
    have hl := h.nil_of
    subst hl
    clear h
    go_enter Tryz.func41, Tryz.ntmps41
    go_wp2
    go_ret
    exact ⟨rfl, rfl⟩
  · obtain ⟨b, off, rfl, hb, hc⟩ := h.at_ h0
    obtain ⟨m, rfl⟩ : ∃ m, n = m + 1 := ⟨n - 1, by omega⟩
    have hcell := hc m (by omega)
    have e : rightB l = (l.getD m 0 != 0) := by
      unfold rightB
      rw [h.len]
      have : l.isEmpty = false := by
        cases l with
        | nil => have := h.len; simp at this
        | cons => rfl
      simp [this]
    obtain ⟨d, hd⟩ : ∃ d, l.getD m 0 = d := ⟨_, rfl⟩
    rw [hd] at hcell e
    clear hd hc h
    have hz : (((m + 1 : Nat) : Int) == 0) = false := by simp; omega
    rcases Nat.eq_zero_or_pos d with hd | hd
    · subst hd
      have HE := Lib.hid e
      clear e
      go_enter Tryz.func41, Tryz.ntmps41
      go_wp2
      go_ret
      exact ⟨by rw [HE.out]; rfl, rfl⟩
    · have hd1 : ((d : Int) != 0) = true := by simp; omega
      have HE := Lib.hid e
      clear e
      go_enter Tryz.func41, Tryz.ntmps41
      go_wp2
      go_ret
      exact ⟨by rw [HE.out]; simp; omega, rfl⟩

/-- What counts of digits lies where they lie. -/
theorem taken_any (w : World) (B : Nat) (A : Option Addr) (n c : Nat) (l : List Nat) (h : Rd w B A n c l) (hn : n ≤ 1048576) :
    Calls Tryz.prog 49 #[.slice A n c] w fun e w' => HasD w B n (tv l) e ∧ w = w' := by
  rcases hr : rightB l with _ | _
  · have hf : HasD w B n (tv l) (.returned (.slice none 0 0)) := by
      refine ⟨none, 0, 0, rfl, Nat.zero_le _, ?_⟩
      rw [← tk_eq h.dig]
      unfold tk
      rw [hr]
      exact Rd.nil w B
    have HF := Lib.hid hf
    have HR := Lib.hid hr
    have HH := Lib.hid h
    clear hf hr h
    go_enter Tryz.func49, Tryz.ntmps49
    go_wp2_with fail
    refine (right_any _ B A n c l HH.out hn).mono ?_
    rintro e w' ⟨rfl, rfl⟩
    rw [HR.out]
    go_wp2_with fail
    go_ret
    exact ⟨HF.out, rfl⟩
  · have hf : HasD w B n (tv l) (.returned (.slice A n c)) := by
      refine ⟨A, n, c, rfl, Nat.le_refl _, ?_⟩
      rw [← tk_eq h.dig]
      unfold tk
      rw [hr]
      exact h
    have HF := Lib.hid hf
    have HR := Lib.hid hr
    have HH := Lib.hid h
    clear hf hr h
    go_enter Tryz.func49, Tryz.ntmps49
    go_wp2_with fail
    refine (right_any _ B A n c l HH.out hn).mono ?_
    rintro e w' ⟨rfl, rfl⟩
    rw [HR.out]
    go_wp2_with fail
    go_ret
    exact ⟨HF.out, rfl⟩

/-- The same slice, cut on top. -/
def HasA (w : World) (B : Nat) (A : Option Addr) (n c x : Nat) (e : Ending) : Prop := ∃ n', e = .returned (.slice A n' c) ∧ n' ≤ n ∧ Rd w B A n' c (digs x)

/-- Noughts on top are cut off. -/
theorem low_at (w : World) (B : Nat) (A : Option Addr) (n c : Nat) (l : List Nat) (h : Rd w B A n c l) (hn : n ≤ 1048576) :
    Calls Tryz.prog 60 #[.slice A n c] w fun e w' => HasA w B A n c (val l) e ∧ w = w' := by
  have hfin : ∀ k : Nat, k ≤ n → (∀ i, k ≤ i → l.getD i 0 = 0) → (k = 0 ∨ l.getD (k - 1) 0 ≠ 0) → Rd w B A k c (digs (val l)) := fun k hk hz hr => by
    rw [← take_digs h.dig (by rw [h.len]; exact hk) hz hr]
    exact h.take hk
  have hcn := h.cap
  have hz0 : ∀ i, n ≤ i → l.getD i 0 = 0 := fun i hi => getD_zero_of_ge (by rw [h.len]; exact hi)
  rcases Nat.eq_zero_or_pos n with h0 | h0
  · subst h0
    have HF := Lib.hid (hfin 0 (Nat.le_refl _) hz0 (.inl rfl))
    clear hfin hz0 h
    go_enter Tryz.func60, Tryz.ntmps60
    go_wp2
    go_loop [3] (fun t => t = .int .i64 0) (fun _ => 0)
    case atStart => rfl
    case round =>
      subst hrel
      go_wp2
      go_ret
      exact ⟨⟨_, rfl, Nat.le_refl _, HF.out⟩, rfl⟩
  · obtain ⟨b, off, rfl, hb, hc⟩ := h.at_ h0
    have HF := Lib.hid hfin
    have HC := Lib.hid hc
    have HZ := Lib.hid hz0
    clear hfin hc hz0 h
    go_enter Tryz.func60, Tryz.ntmps60
    go_wp2
    go_loop [3] (fun t => ∃ k : Nat, k ≤ n ∧ t = .int .i64 k ∧ Hid (∀ i, k ≤ i → l.getD i 0 = 0)) (fun t => (intOf t).toNat)
    case atStart => exact ⟨n, Nat.le_refl _, rfl, HZ⟩
    case round =>
      obtain ⟨k, hk, rfl, HK⟩ := hrel
      rcases Nat.eq_zero_or_pos k with hk0 | hk0
      · subst hk0
        have HG := Lib.hid (HF.out 0 (Nat.zero_le _) HK.out (.inl rfl))
        go_wp2
        go_ret
        exact ⟨⟨_, rfl, Nat.zero_le _, HG.out⟩, rfl⟩
      · obtain ⟨m, rfl⟩ : ∃ m, k = m + 1 := ⟨k - 1, by omega⟩
        have hcell := HC.out m (by omega)
        obtain ⟨d, hd⟩ : ∃ d, l.getD m 0 = d := ⟨_, rfl⟩
        rw [hd] at hcell
        have hpos : (0 : Int) < ((m + 1 : Nat) : Int) := by omega
        rcases Nat.eq_zero_or_pos d with hd0 | hd0
        · subst hd0
          have HN : Hid (∀ i, m ≤ i → l.getD i 0 = 0) := Lib.hid (fun i hi => by
            rcases Nat.eq_or_lt_of_le hi with e | e
            · rw [← e]; exact hd
            · exact HK.out i e)
          clear hd
          go_wp2
          go_round
          case rel => exact ⟨m, by omega, by go_num, HN⟩
          case measure => first | (simp [intOf]; done) | (simp [intOf]; omega)
        · have hd1 : ((d : Int) == 0) = false := by simp; omega
          have HG := Lib.hid (HF.out (m + 1) hk HK.out (.inr (by simp only [Nat.add_sub_cancel]; rw [hd]; omega)))
          clear hd
          go_wp2
          go_ret
          exact ⟨⟨_, rfl, hk, HG.out⟩, rfl⟩

theorem low_any (w : World) (B : Nat) (A : Option Addr) (n c : Nat) (l : List Nat) (h : Rd w B A n c l) (hn : n ≤ 1048576) :
    Calls Tryz.prog 60 #[.slice A n c] w fun e w' => HasD w B n (val l) e ∧ w = w' :=
  (low_at w B A n c l h hn).mono fun _ _ ⟨⟨n', he, hn', hr⟩, hw⟩ => ⟨⟨A, n', c, he, hn', hr⟩, hw⟩

end Go.Proofs.YthkgeafidbihmaaGreatDoor
