/-
  Fractions: Whole, Floor.
-/
import Derived.Test.YthkgeafidbihmaaGreatDoorFracC
namespace Go.Proofs.YthkgeafidbihmaaGreatDoor
open Go.RowKit Go.Shelf
set_option linter.unusedVariables false
set_option linter.unusedSimpArgs false
attribute [local go_sem] Oper.semAt_some

theorem ffloor_any (w : World) (A B : Option Addr) (n c m d : Nat) (l k : List Nat) (h1 : Rd w w.heap.size A n c l) (h2 : Rd w w.heap.size B m d k) (hn : n ≤ 50000) (hm : m ≤ 50000) :
    Calls Tryz.prog 17 #[.agg #[.slice A n c, .slice B m d]] w (RetN w (frN l k / frD l k)) := by
  have HL := Lib.hid (And.intro (frN_len (k := k) h1.dig) (And.intro (frD_len (l := l) h2.dig) (And.intro h1.len h2.len)))
  obtain ⟨w0, hw0⟩ : ∃ w0, w0 = w.alloc (.cells #[.slice A n c, .slice B m d] 24) := ⟨_, rfl⟩
  have hB0 : Blk w0 w.heap.size 24 #[.slice A n c, .slice B m d] := by rw [hw0]; exact Blk.new w _ _
  have hb0 : Below w.heap.size w w0 := by rw [hw0]; exact (Below.refl _ _).alloc (Nat.le_refl _) _
  have h1 := h1.on hb0
  have h2 := h2.on hb0
  have hc0 := hB0.cell 0
  have hc1 := hB0.cell 1
  go_enter Tryz.func17, Tryz.ntmps17
  go_wp2_with fail
  rw [← hw0]
  clear hw0
  go_wp2_with fail
  refine (ftaken_any _ _ _ _ _ _ _ _ _ h1 h2 (by omega) (by omega)).mono ?_
  rintro e w1 ⟨A2, n2, c2, B2, m2, d2, rfl, r1, r2, hb⟩
  have hB1 := hB0.below hb hB0.lt
  have hb1 := bltB hb0 hb0.size hb
  have hn2 : n2 ≤ 60000 := by have h1 := r1.len; have h2 := HL.out; omega
  have hm2 : m2 ≤ 60000 := by have h1 := r2.len; have h2 := HL.out; omega
  have hf0 := hB1.frozen 0
  have hf1 := hB1.frozen 1
  have hc0 := hB1.cell 0
  have hc1 := hB1.cell 1
  obtain ⟨h4, r1, r2, hb4⟩ := fr_store hB1 r1 r2 hb1 (by omega)
  clear hb hB0 hb0 h1 h2
  go_wp2_with fail
  generalize (w1.setCell ⟨w.heap.size, 0, none⟩ (.slice A2 n2 c2)).setCell ⟨w.heap.size, 1, none⟩ (.slice B2 m2 d2) = W3 at *
  have hc0 := h4.cell 0
  have hc1 := h4.cell 1
  clear hf0 hf1 hB1 hb1
  go_wp2_with fail
  refine (divmod_any _ _ _ _ _ _ _ _ _ r1 r2 hn2 hm2).mono ?_
  rintro e w2 ⟨A3, n3, c3, A4, n4, c4, rfl, s1, s2, hb⟩
  rw [tv_digs, tv_digs] at s1
  have HF : Hid (RetN w (frN l k / frD l k) (.returned (.slice A3 n3 c3)) w2) := Lib.hid ⟨A3, n3, c3, rfl, s1, bltB hb4 hb4.size hb⟩
  clear s1 s2 hb hb4 r1 r2 h4 hc0 hc1
  go_wp2_with fail
  go_ret
  exact HF.out

end Go.Proofs.YthkgeafidbihmaaGreatDoor
