/-
  What the walk of LearnTrue leans on.
-/
import Derived.Test.YtdobpicamibgpaaActs2
namespace Go.Proofs.Ytdobpicamibgpaa
open Go.RowKit Go.Maps Go.Shelf
set_option linter.unusedVariables false
set_option linter.unusedSimpArgs false

/-- What is noted, and how much lies on the first side, behind acts. -/
def Ft (room has : Int) (l : List Av) : Notes × Int := (l.map fun a => (a.d, a.x)).foldl (trueS room) ([], has)
theorem Ft_step (room has : Int) (l : List Av) (k : Nat) (a : Av) (h : l[k]? = some a) : Ft room has (l.take (k + 1)) = trueS room (Ft room has (l.take k)) (a.d, a.x) := by
  unfold Ft
  rw [List.take_add_one, h]
  simp
theorem fold_true {room : Int} (hr : 0 < room) (hr2 : room ≤ 1125899906842624) (l : List (Int × Int)) : ∀ s : Notes × Int, TrueI room s → TrueI room (l.foldl (trueS room) s) := by
  induction l with
  | nil => exact fun _ h => h
  | cons a l ih => exact fun s h => ih _ (h.step hr hr2 a)
theorem Ft_ok {room has : Int} (hr : 0 < room) (hr2 : room ≤ 1125899906842624) (h0 : 0 ≤ has) (h1 : has ≤ room) (l : List Av) : TrueI room (Ft room has l) := fold_true hr hr2 _ _ (TrueI.start h0 h1)

section
variable {room : Int} {L : Notes} {h : Int}
theorem trueS_12 {d x : Int} (hd : d = 1 ∨ d = 2) : trueS room (L, h) (d, x) = (if x ≤ h then passL L (eT room) x else failL L (eT room) x, h) := by
  unfold trueS; exact if_pos hd
theorem trueS_3 {x : Int} : trueS room (L, h) (3, x) = if 1 ≤ x ∧ x ≤ h then (moveL L (eT room) x, h - x) else (L, h) := by
  unfold trueS; exact (if_neg (show ¬ ((3 : Int) = 1 ∨ (3 : Int) = 2) by decide)).trans (if_pos rfl)
theorem trueS_4 {x : Int} : trueS room (L, h) (4, x) = if 1 ≤ x ∧ x ≤ room - h then (moveL L (bT room) x, h + x) else (L, h) := by
  unfold trueS; exact (if_neg (show ¬ ((4 : Int) = 1 ∨ (4 : Int) = 2) by decide)).trans ((if_neg (show ¬ ((4 : Int) = 3) by decide)).trans (if_pos rfl))
theorem trueS_o {d x : Int} (h1 : ¬ d = 1) (h2 : ¬ d = 2) (h3 : ¬ d = 3) (h4 : ¬ d = 4) : trueS room (L, h) (d, x) = (oldL L x, h) := by
  unfold trueS; exact (if_neg (fun e => e.elim h1 h2)).trans ((if_neg h3).trans (if_neg h4))
theorem eT_ok (hr : 0 < room) (hr2 : room ≤ 1125899906842624) : (eT room).ok = true := mayB_iff.2 (by simp only [eT]; omega)
theorem bT_ok (hr : 0 < room) (hr2 : room ≤ 1125899906842624) : (bT room).ok = true := mayB_iff.2 (by simp only [bT]; omega)
theorem bndT (hr : 0 < room) (hr2 : room ≤ 1125899906842624) (L : Notes) : bnd L (eT room) = cnt L (1, 3) room := by unfold bnd; rw [if_pos (eT_ok hr hr2)]; rfl
theorem bndB (hr : 0 < room) (hr2 : room ≤ 1125899906842624) (L : Notes) : bnd L (bT room) = cnt L (2, 3) room := by unfold bnd; rw [if_pos (bT_ok hr hr2)]; rfl

/-- What is asked of each round holds. -/
theorem true_facts (hr : 0 < room) (hr2 : room ≤ 1125899906842624) (I : TrueI room (L, h)) : ∃ lo hi lob hib, bnd L (eT room) = (lo, hi) ∧ bnd L (bT room) = (lob, hib) ∧ (lo ≤ h ∧ h < hi) ∧ (lob ≤ room - h ∧ room - h < hib) ∧ (0 ≤ h ∧ h ≤ room) ∧ oddOk (eT room) h = true ∧ oN L (eT room) h ≠ 0 := by
  have hc := cnt_ok I.good (1, 3) hr
  have hf := I.fwd
  have hb := I.bck
  have ho := I.odds
  have h0 := I.has0
  have h1 := I.has1
  simp only at hf hb ho h0 h1 hc
  refine ⟨_, _, _, _, bndT hr hr2 L, bndB hr hr2 L, hf, hb, ⟨h0, h1⟩, ?_, ?_⟩
  · rw [oddOk_spec]; simp only [eT]; omega
  · have hn := odd_bd I.good (e := eT room) (x := h) hr
    simp only at hn
    unfold oN
    omega
end

end Go.Proofs.Ytdobpicamibgpaa
