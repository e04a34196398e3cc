/-
  The document's Nats: whether digits are the same.
-/
import Derived.Test.YthkgeafidbihmaaGreatDoorCmp
import Derived.BigQuiet
namespace Go.Proofs.YthkgeafidbihmaaGreatDoor
open Go.RowKit
set_option linter.unusedVariables false
set_option linter.unusedSimpArgs false

theorem nats_ext {l1 l2 : List Nat} {n : Nat} (h1 : l1.length = n) (h2 : l2.length = n) (h : ∀ i, i < n → l1.getD i 0 = l2.getD i 0) : l1 = l2 := by
  apply List.ext_getElem (by omega)
  intro i hi1 hi2
  have := h i (by omega)
  simpa [List.getD_eq_getElem?_getD, List.getElem?_eq_getElem hi1, List.getElem?_eq_getElem hi2] using this

theorem belN2 {B : Nat} {a w : World} (h : Below B a w) (n : Nat) : Below B a (w.drewN n) := ⟨h.1, h.2, h.3, h.4, h.5⟩

set_option maxRecDepth 100000 in
theorem nats_any (w : World) (A1 A2 : Option Addr) (n1 c1 n2 c2 : Nat) (l1 l2 : List Nat) (h1 : Rd w w.heap.size A1 n1 c1 l1) (h2 : Rd w w.heap.size A2 n2 c2 l2) (hn1 : n1 ≤ 9223372036854775807) :
    Calls Tryz.prog 16 #[.slice A1 n1 c1, .slice A2 n2 c2] w fun e w' => e = .returned (.bool (decide (l1 = l2))) ∧ Below w.heap.size w w' := by
  by_cases hne : n1 = n2
  · subst hne
    have hl1 := h1.len
    have hl2 := h2.len
    have hb : ((n1 : Int) != (n1 : Int)) = false := by simp
    rcases Nat.eq_zero_or_pos n1 with h0 | h0
    · subst h0
      have e1 := h1.nil_of
      have e2 := h2.nil_of
      subst e1 e2
      clear h1 h2
      go_enter Tryz.func16, Tryz.ntmps16
      go_wp2_with fail
      go_loop [5] (fun iv => iv = .int .i64 0) (fun _ => 0)
      case atStart => rfl
      case round =>
        subst hrel
        go_wp2_with fail
        go_ret
        exact ⟨by simp, Below.refl _ _⟩
    · obtain ⟨b1, o1, rfl, hb1, hc1⟩ := h1.at_ h0
      obtain ⟨b2, o2, rfl, hb2, hc2⟩ := h2.at_ h0
      have H1 := Lib.hid hc1
      have H2 := Lib.hid hc2
      have HL := Lib.hid (And.intro hl1 hl2)
      clear hc1 hc2 h1 h2 hl1 hl2
      go_enter Tryz.func16, Tryz.ntmps16
      go_wp2_with fail
      go_loopw [5] (fun iv wr => ∃ i : Nat, i ≤ n1 ∧ iv = .int .i64 i ∧ Hid (∀ j, j < i → l1.getD j 0 = l2.getD j 0) ∧ Hid (Below w.heap.size w wr)) (fun iv _ => n1 - (intOf iv).toNat)
      case atStart => exact ⟨0, Nat.zero_le _, rfl, Lib.hid (fun j hj => by omega), Lib.hid (Below.refl _ _)⟩
      case round =>
        obtain ⟨i, hi, rfl, HE, HB⟩ := hrel
        by_cases hlt : i < n1
        · have c1 := (HB.out.cell (p := ⟨b1, o1 + i, none⟩) hb1).trans (H1.out i hlt)
          have c2 := (HB.out.cell (p := ⟨b2, o2 + i, none⟩) hb2).trans (H2.out i hlt)
          obtain ⟨x, hx⟩ : ∃ x, l1.getD i 0 = x := ⟨_, rfl⟩
          obtain ⟨y, hy⟩ : ∃ y, l2.getD i 0 = y := ⟨_, rfl⟩
          rw [hx] at c1
          rw [hy] at c2
          by_cases hxy : x = y
          · subst hxy
            have ht : ((x : Int) != (x : Int)) = false := by simp
            have HE2 : Hid (∀ j, j < i + 1 → l1.getD j 0 = l2.getD j 0) := Lib.hid (fun j hj => by
              rcases Nat.lt_or_eq_of_le (Nat.le_of_lt_succ hj) with h | h
              · exact HE.out j h
              · rw [h, hx, hy])
            clear hx hy
            go_wp2_with fail
            go_quiet (fail)
            go_wp2_with fail
            go_roundw
            case rel => exact ⟨i + 1, by omega, by go_num, HE2, Lib.hid (belN2 HB.out _)⟩
            case measure => simp [intOf]; omega
          · have ht : ((x : Int) != (y : Int)) = true := by simp; omega
            have HF : Hid (decide (l1 = l2) = false) := Lib.hid (by
              rw [decide_eq_false_iff_not]
              intro e
              rw [e, hy] at hx
              exact hxy hx.symm)
            clear hx hy
            go_wp2_with fail
            go_quiet (fail)
            go_wp2_with fail
            go_ret
            exact ⟨by rw [HF.out]; rfl, belN2 HB.out _⟩
        · obtain rfl : i = n1 := by omega
          have HF : Hid (decide (l1 = l2) = true) := Lib.hid (by
            rw [decide_eq_true_iff]
            exact nats_ext HL.out.1 HL.out.2 HE.out)
          go_wp2_with fail
          go_ret
          exact ⟨by rw [HF.out]; rfl, HB.out⟩
  · have ht : ((n1 : Int) != (n2 : Int)) = true := by simp; omega
    have HF : Hid (decide (l1 = l2) = false) := Lib.hid (by
      rw [decide_eq_false_iff_not]
      intro e
      have := h1.len
      rw [e, h2.len] at this
      exact hne this.symm)
    clear h1 h2
    go_enter Tryz.func16, Tryz.ntmps16
    go_wp2_with fail
    go_ret
    exact ⟨by rw [HF.out]; rfl, Below.refl _ _⟩

end Go.Proofs.YthkgeafidbihmaaGreatDoor
