/-
  What can be passed on: what the laws' walks say of Bounds.
-/
import Derived.Test.YtdobpicamibgpaaActs
namespace Go.Proofs.Ytdobpicamibgpaa
open Go.RowKit Go.Maps Go.Shelf
set_option linter.unusedVariables false
set_option linter.unusedSimpArgs false

theorem bnd_old {L : Notes} (h : Good L) (p : Int) (e : E4) : (bnd (oldL L p) e).1 ≤ (bnd L e).1 ∧ (bnd L e).2 ≤ (bnd (oldL L p) e).2 := by
  unfold bnd
  split
  · rename_i hok
    exact cnt_old h p _ (mayB_iff.1 hok).2.2.2.2.1
  · exact ⟨Int.le_refl _, Int.le_refl _⟩

theorem bnd_nil_ok {e : E4} (h : e.ok = true) : bnd [] e = (0, e.r + 1) := by unfold bnd; rw [if_pos h]; rfl
theorem bnd_no {L : Notes} {e : E4} (h : e.ok = false) : bnd L e = (0, 0) := by unfold bnd; rw [if_neg (by rw [h]; decide)]

theorem bnd_put {L : Notes} {e : E4} {k : Int × Int} {v : Int × Int × Int} (h : (e.f, e.c) ≠ k) : bnd (putL L k v) e = bnd L e := by
  unfold bnd
  split
  · rw [cnt_put, if_neg h]
  · rfl

theorem bnd_fail {L : Notes} {e o : E4} {x : Int} (h : ¬ (o.f = e.f ∧ o.c = e.c)) : bnd (failL L e x) o = bnd L o := by
  unfold failL
  split
  · exact bnd_put (fun he => h (by injection he with h1 h2; exact ⟨h1, h2⟩))
  · rfl
theorem bnd_pass {L : Notes} {e o : E4} {x : Int} (h : ¬ (o.f = e.f ∧ o.c = e.c)) : bnd (passL L e x) o = bnd L o := by
  unfold passL
  split
  · exact bnd_put (fun he => h (by injection he with h1 h2; exact ⟨h1, h2⟩))
  · rfl

/-- Behind what failed, and what passed. -/
theorem fail_nat {L : Notes} (h : Good L) {e : E4} {x : Int} (hok : oddOk e x = true) (hx : 1 ≤ x) : oN (failL L e x) e x = 0 := by
  have hs := oddOk_spec.1 hok
  unfold oN
  rw [fail_odds h (may_spec.2 ⟨hs.1, by omega, hs.2.2⟩)]; rfl
theorem pass_nat {L : Notes} (h : Good L) {e : E4} {x : Int} (hok : oddOk e x = true) (hx : 1 ≤ x) : oN (passL L e x) e x = oD (passL L e x) e := by
  have hs := oddOk_spec.1 hok
  unfold oN oD
  rw [pass_odds h (may_spec.2 ⟨hs.1, by omega, hs.2.2⟩)]
theorem nought_nat {L : Notes} (h : Good L) {e : E4} {x : Int} (hok : oddOk e x = true) (hx : x < 1) : oN L e x = oD L e := by
  have hs := oddOk_spec.1 hok
  obtain rfl : x = 0 := by omega
  unfold oN oD
  rw [nought_odds h hs.1.2.2.2.2.1]

end Go.Proofs.Ytdobpicamibgpaa
