/-
  The document's Same, of two fractions.
-/
import Derived.Test.YthkgeafidbihmaaGreatDoorFracV
import Derived.Test.YthkgeafidbihmaaGreatDoorNats
namespace Go.Proofs.YthkgeafidbihmaaGreatDoor
open Go.RowKit Go.Shelf
set_option linter.unusedVariables false
set_option linter.unusedSimpArgs false

theorem fsame_any (w : World) (A1 B1 A2 B2' : Option Addr) (n1 c1 m1 d1 n2 c2 m2 d2 : Nat) (l1 k1 l2 k2 : List Nat) (h1 : Rd w w.heap.size A1 n1 c1 l1) (g1 : Rd w w.heap.size B1 m1 d1 k1) (h2 : Rd w w.heap.size A2 n2 c2 l2) (g2 : Rd w w.heap.size B2' m2 d2 k2)
    (hn1 : n1 ≤ 9223372036854775807) (hm1 : m1 ≤ 9223372036854775807) :
    Calls Tryz.prog 8 #[.agg #[.slice A1 n1 c1, .slice B1 m1 d1], .agg #[.slice A2 n2 c2, .slice B2' m2 d2]] w fun e w' => e = .returned (.bool (decide (l1 = l2) && decide (k1 = k2))) ∧ Below w.heap.size w w' := by
  obtain ⟨w0, hw0⟩ : ∃ w0, w0 = (w.alloc (.cells #[.slice A1 n1 c1, .slice B1 m1 d1] 24)).alloc (.cells #[.slice A2 n2 c2, .slice B2' m2 d2] 24) := ⟨_, rfl⟩
  have hb0 : Below w.heap.size w w0 := by rw [hw0]; exact ((Below.refl _ _).alloc (Nat.le_refl _) _).alloc (by simp) _
  have J0 : B2 w0 w.heap.size A1 n1 c1 B1 m1 d1 A2 n2 c2 B2' m2 d2 := by
    rw [hw0]
    refine ⟨(Blk.new w _ _).alloc _, ?_⟩
    have := Blk.new (w.alloc (.cells #[.slice A1 n1 c1, .slice B1 m1 d1] 24)) 24 #[.slice A2 n2 c2, .slice B2' m2 d2]
    rw [World.size_alloc] at this
    exact this
  have h1 := h1.on hb0
  have g1 := g1.on hb0
  have h2 := h2.on hb0
  have g2 := g2.on hb0
  have hc0 := J0.a.cell 0
  have hc1 := J0.a.cell 1
  have hc2 := J0.b.cell 0
  have hc3 := J0.b.cell 1
  go_enter Tryz.func8, Tryz.ntmps8
  go_wp2_with fail
  rw [← hw0]
  clear hw0
  go_wp2_with fail
  refine (nats_any _ _ _ _ _ _ _ _ _ h1 h2 hn1).mono ?_
  rintro e w1 ⟨rfl, hb⟩
  have hb1 := bltB hb0 hb0.size hb
  have J1 := J0.on hb
  have g1 := g1.on hb
  have g2 := g2.on hb
  have hc0 := J1.a.cell 0
  have hc1 := J1.a.cell 1
  have hc2 := J1.b.cell 0
  have hc3 := J1.b.cell 1
  clear hb J0 hb0 h1 h2
  rcases hd : decide (l1 = l2) with _ | _
  · have HD := Lib.hid hd
    clear hd
    go_wp2_with fail
    go_ret
    exact ⟨by rw [HD.out]; rfl, hb1⟩
  · have HD := Lib.hid hd
    clear hd
    go_wp2_with fail
    refine (nats_any _ _ _ _ _ _ _ _ _ g1 g2 hm1).mono ?_
    rintro e w2 ⟨rfl, hb⟩
    have hb2 := bltB hb1 hb1.size hb
    clear hb J1 hb1 g1 g2 hc0 hc1 hc2 hc3
    obtain ⟨b, hbb⟩ : ∃ b, decide (k1 = k2) = b := ⟨_, rfl⟩
    rw [hbb]
    have HB := Lib.hid hbb
    clear hbb
    go_wp2_with fail
    go_ret
    exact ⟨by rw [HD.out, HB.out]; simp, hb2⟩

theorem fsame_q {w : World} {A1 B1 A2 B2' : Option Addr} {n1 c1 m1 d1 n2 c2 m2 d2 b1 b2 : Nat} {q1 q2 : Rat} (h1 : Rd w w.heap.size A1 n1 c1 (digs (rn q1))) (g1 : Rd w w.heap.size B1 m1 d1 (digs (rd q1))) (f1 : FQ (digs (rn q1)) (digs (rd q1)) q1 b1) (h2 : Rd w w.heap.size A2 n2 c2 (digs (rn q2))) (g2 : Rd w w.heap.size B2' m2 d2 (digs (rd q2))) (f2 : FQ (digs (rn q2)) (digs (rd q2)) q2 b2) (hb1 : b1 ≤ 9000) :
    Calls Tryz.prog 8 #[.agg #[.slice A1 n1 c1, .slice B1 m1 d1], .agg #[.slice A2 n2 c2, .slice B2' m2 d2]] w fun e w' => e = .returned (.bool (decide (q1 = q2))) ∧ Below w.heap.size w w' := by
  refine (fsame_any w _ _ _ _ _ _ _ _ _ _ _ _ _ _ _ _ h1 g1 h2 g2 (by have := h1.len; have := f1.ll; omega) (by have := g1.len; have := f1.lk; omega)).mono fun e w' h => ?_
  rw [show (decide (digs (rn q1) = digs (rn q2)) && decide (digs (rd q1) = digs (rd q2))) = decide (q1 = q2) from ?_] at h
  · exact h
  · rw [← Bool.decide_and]
    refine decide_eq_decide.2 ⟨fun h => q_ext f1.ge0 f2.ge0 (digs_inj h.1) (digs_inj h.2), fun h => by subst h; exact ⟨rfl, rfl⟩⟩

end Go.Proofs.YthkgeafidbihmaaGreatDoor
