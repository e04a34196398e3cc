/-
  Routes: Best.
-/
import Derived.Test.YthefgdehfgkhhaaGreatK01
import Derived.Test.YthefgdehfgkhhaaGreatK14
import Derived.Laws.EntriesVeiled
namespace Go.Proofs.YthefgdehfgkhhaaGreat
open Go.RowKit Go.Shelf
set_option linter.unusedVariables false
set_option linter.unusedSimpArgs false
attribute [local go_sem] Oper.semAt_some
/-- The way that is best is handed back, with its odds; or why there is none. -/
def RetB2 (w : World) (ok : Bool) (o : Option Fnd) (e : Ending) (w' : World) : Prop :=
 Below w.heap.size w w' ∧ match o with
 | none => e = .returned (.tuple #[.slice none 0 0, .agg #[.slice none 0 0, .slice none 0 0], .int .i64 (if ok then 19 else 1)])
 | some x => x.way ≠ [] ∧ ∃ A n c A' n' c' B m d, e = .returned (.tuple #[.slice A n c, .agg #[.slice A' n' c', .slice B m d], .int .i64 0]) ∧ RE w' A n c x.way ∧ n ≤ 8 ∧ IsQ w' (.agg #[.slice A' n' c', .slice B m d]) x.q 40
set_option maxRecDepth 100000 in
set_option maxHeartbeats 2000000 in
theorem best_any (w : World) (p b m0 : Nat) (L : Notes) (hM : MindAt w p b m0 L) (hgd : Good L) (Ag : Option Addr) (ng cg : Nat) (g : List Ed) (h : RE w Ag ng cg g) (hng : ng ≤ 1048576) (fr td a x : Int) :
 Calls Tryz.prog 63 #[.slice Ag ng cg, .pointer (some ⟨p, 0, none⟩), .int .i64 fr, .int .i64 td, .int .i64 a, .int .i64 x] w (RetB2 w (argsB g fr td a x) (bestF L g fr td a x)) := by
 have HL := Lib.hid h
 have HM := Lib.hid hM
 clear h hM
 have HA : Hid (argsB g fr td a x = (rightG g && (inB fr 0 11 && (inB td 0 11 && (decide (fr ≠ td) && (inB a 1 1125899906842624 && inB x 1 1048576)))))) := Lib.hid rfl
 have HF0 : Hid (bestF L g fr td a x = if argsB g fr td a x then lookF L g fr td a x 8 none [] td else none) := Lib.hid rfl
 obtain ⟨W0, hW0⟩ : ∃ W, W = (((((((w.alloc (.cells #[.slice Ag ng cg] 26)).alloc (.cells #[.pointer (some ⟨p, 0, none⟩)] 29)).alloc (.cells #[.int .i64 fr] 3)).alloc (.cells #[.int .i64 td] 3)).alloc (.cells #[.int .i64 a] 3)).alloc (.cells #[.int .i64 x] 3)).alloc (.cells #[.slice none 0 0, .slice none 0 0] 34)) := ⟨_, rfl⟩
 have hB0 : Below w.heap.size w W0 := by rw [hW0]; exact ((((((((Below.refl _ _).alloc (Nat.le_refl _) _).alloc (by simp; try omega) _).alloc (by simp; try omega) _).alloc (by simp; try omega) _).alloc (by simp; try omega) _).alloc (by simp; try omega) _).alloc (by simp; try omega) _)
 have k_bg : Blk W0 w.heap.size 26 #[.slice Ag ng cg] := by
  rw [hW0]
  have := Blk.new w 26 #[.slice Ag ng cg]
  exact ((((((this.alloc _).alloc _).alloc _).alloc _).alloc _).alloc _)
 have k_bm : Blk W0 (w.heap.size + 1) 29 #[.pointer (some ⟨p, 0, none⟩)] := by
  rw [hW0]
  have := Blk.new (w.alloc (.cells #[.slice Ag ng cg] 26)) 29 #[.pointer (some ⟨p, 0, none⟩)]
  rw [World.size_alloc] at this
  exact (((((this.alloc _).alloc _).alloc _).alloc _).alloc _)
 have k_bf : Blk W0 (w.heap.size + 1 + 1) 3 #[.int .i64 fr] := by
  rw [hW0]
  have := Blk.new ((w.alloc (.cells #[.slice Ag ng cg] 26)).alloc (.cells #[.pointer (some ⟨p, 0, none⟩)] 29)) 3 #[.int .i64 fr]
  rw [World.size_alloc, World.size_alloc] at this
  exact ((((this.alloc _).alloc _).alloc _).alloc _)
 have k_bt : Blk W0 (w.heap.size + 1 + 1 + 1) 3 #[.int .i64 td] := by
  rw [hW0]
  have := Blk.new (((w.alloc (.cells #[.slice Ag ng cg] 26)).alloc (.cells #[.pointer (some ⟨p, 0, none⟩)] 29)).alloc (.cells #[.int .i64 fr] 3)) 3 #[.int .i64 td]
  rw [World.size_alloc, World.size_alloc, World.size_alloc] at this
  exact (((this.alloc _).alloc _).alloc _)
 have k_ba : Blk W0 (w.heap.size + 1 + 1 + 1 + 1) 3 #[.int .i64 a] := by
  rw [hW0]
  have := Blk.new ((((w.alloc (.cells #[.slice Ag ng cg] 26)).alloc (.cells #[.pointer (some ⟨p, 0, none⟩)] 29)).alloc (.cells #[.int .i64 fr] 3)).alloc (.cells #[.int .i64 td] 3)) 3 #[.int .i64 a]
  rw [World.size_alloc, World.size_alloc, World.size_alloc, World.size_alloc] at this
  exact ((this.alloc _).alloc _)
 have k_bx : Blk W0 (w.heap.size + 1 + 1 + 1 + 1 + 1) 3 #[.int .i64 x] := by
  rw [hW0]
  have := Blk.new (((((w.alloc (.cells #[.slice Ag ng cg] 26)).alloc (.cells #[.pointer (some ⟨p, 0, none⟩)] 29)).alloc (.cells #[.int .i64 fr] 3)).alloc (.cells #[.int .i64 td] 3)).alloc (.cells #[.int .i64 a] 3)) 3 #[.int .i64 x]
  rw [World.size_alloc, World.size_alloc, World.size_alloc, World.size_alloc, World.size_alloc] at this
  exact (this.alloc _)
 have k_b13 : Blk W0 (w.heap.size + 1 + 1 + 1 + 1 + 1 + 1) 34 #[.slice none 0 0, .slice none 0 0] := by
  rw [hW0]
  have := Blk.new ((((((w.alloc (.cells #[.slice Ag ng cg] 26)).alloc (.cells #[.pointer (some ⟨p, 0, none⟩)] 29)).alloc (.cells #[.int .i64 fr] 3)).alloc (.cells #[.int .i64 td] 3)).alloc (.cells #[.int .i64 a] 3)).alloc (.cells #[.int .i64 x] 3)) 34 #[.slice none 0 0, .slice none 0 0]
  rw [World.size_alloc, World.size_alloc, World.size_alloc, World.size_alloc, World.size_alloc, World.size_alloc] at this
  exact this
 go_enter Tryz.func63, Tryz.ntmps63
 go_upto_region 1 with (fail)
 rw [← hW0]
 clear hW0
 obtain ⟨b13, h_b13⟩ : ∃ z, w.heap.size + 1 + 1 + 1 + 1 + 1 + 1 = z := ⟨_, rfl⟩
 rw [h_b13] at k_b13
 obtain ⟨bx, h_bx⟩ : ∃ z, w.heap.size + 1 + 1 + 1 + 1 + 1 = z := ⟨_, rfl⟩
 rw [h_bx] at k_bx
 obtain ⟨ba, h_ba⟩ : ∃ z, w.heap.size + 1 + 1 + 1 + 1 = z := ⟨_, rfl⟩
 rw [h_ba] at k_ba
 obtain ⟨bt, h_bt⟩ : ∃ z, w.heap.size + 1 + 1 + 1 = z := ⟨_, rfl⟩
 rw [h_bt] at k_bt
 obtain ⟨bf, h_bf⟩ : ∃ z, w.heap.size + 1 + 1 = z := ⟨_, rfl⟩
 rw [h_bf] at k_bf
 obtain ⟨bm, h_bm⟩ : ∃ z, w.heap.size + 1 = z := ⟨_, rfl⟩
 rw [h_bm] at k_bm
 obtain ⟨bg, h_bg⟩ : ∃ z, w.heap.size = z := ⟨_, rfl⟩
 rw [h_bg] at k_bg
 have HPL := Lib.hid (And.intro h_bg (And.intro h_bm (And.intro h_bf (And.intro h_bt (And.intro h_ba (And.intro h_bx h_b13))))))
 rw [h_b13, h_bx, h_ba, h_bt, h_bf, h_bm, h_bg]
 clear h_b13 h_bx h_ba h_bt h_bf h_bm h_bg
 have c_bg := k_bg.cell 0
 have c_bm := k_bm.cell 0
 have c_bf := k_bf.cell 0
 have c_bt := k_bt.cell 0
 have c_ba := k_ba.cell 0
 have c_bx := k_bx.cell 0
 have HL0 := Lib.hid (HL.out.on hB0)
 have HM0 := Lib.hid (HM.out.on hB0)
 go_wp2_with fail
 refine (gright_any W0 Ag ng cg g HL0.out hng).mono ?_
 rintro y W1 ⟨rfl, hb⟩
 replace k_bg := k_bg.below hb k_bg.lt
 replace k_bm := k_bm.below hb k_bm.lt
 replace k_bf := k_bf.below hb k_bf.lt
 replace k_bt := k_bt.below hb k_bt.lt
 replace k_ba := k_ba.below hb k_ba.lt
 replace k_bx := k_bx.below hb k_bx.lt
 replace k_b13 := k_b13.below hb k_b13.lt
 replace c_bg := k_bg.cell 0
 replace c_bm := k_bm.cell 0
 replace c_bf := k_bf.cell 0
 replace c_bt := k_bt.cell 0
 replace c_ba := k_ba.cell 0
 replace c_bx := k_bx.cell 0
 have HB1 := Lib.hid (bltB hB0 hB0.size hb)
 have HL1 := Lib.hid (HL0.out.on hb)
 have HM1 := Lib.hid (HM0.out.on hb)
 clear hb hB0 HL0 HM0
 obtain ⟨r, hr⟩ : ∃ r, rightG g = r := ⟨_, rfl⟩
 rw [hr]
 rcases r with _ | _
 ·have HAF : Hid (argsB g fr td a x = false) := Lib.hid (by rw [HA.out]; simp [hr])
  have z0 := k_b13.cell 0
  have z1 := k_b13.cell 1
  have f0 := k_b13.frozen 0
  have f1 := k_b13.frozen 1
  go_wp2_with fail
  have k9 := (k_b13.set_ 0 (.slice none 0 0)).set_ 1 (.slice none 0 0)
  have h13 : w.heap.size ≤ b13 := by have := HPL.out; omega
  have hB2 := (HB1.out.setCell (p := ⟨b13, 0, none⟩) h13 (.slice none 0 0)).setCell (p := ⟨b13, 1, none⟩) h13 (.slice none 0 0)
  refine bodyPost_ret (v := .tuple #[.slice none 0 0, .agg #[.slice none 0 0, .slice none 0 0], .int .i64 1]) ?_ rfl ?_
  ·have e0 := k9.cell 0
   have e1 := k9.cell 1
   simp at e0 e1
   simp [results, Tryz.f63, go_sem, e0, e1]
  ·refine ⟨hB2, ?_⟩
   rw [HF0.out, HAF.out]
   rfl
 ·go_wp2_with fail
  refine (within_any fr 0 11 W1).mono ?_
  rintro y _ ⟨rfl, rfl⟩
  obtain ⟨r, hr1⟩ : ∃ r, inB fr 0 11 = r := ⟨_, rfl⟩
  rw [hr1]
  rcases r with _ | _
  ·have HAF : Hid (argsB g fr td a x = false) := Lib.hid (by rw [HA.out]; simp [hr1])
   have z0 := k_b13.cell 0
   have z1 := k_b13.cell 1
   have f0 := k_b13.frozen 0
   have f1 := k_b13.frozen 1
   go_wp2_with fail
   have k9 := (k_b13.set_ 0 (.slice none 0 0)).set_ 1 (.slice none 0 0)
   have h13 : w.heap.size ≤ b13 := by have := HPL.out; omega
   have hB2 := (HB1.out.setCell (p := ⟨b13, 0, none⟩) h13 (.slice none 0 0)).setCell (p := ⟨b13, 1, none⟩) h13 (.slice none 0 0)
   refine bodyPost_ret (v := .tuple #[.slice none 0 0, .agg #[.slice none 0 0, .slice none 0 0], .int .i64 1]) ?_ rfl ?_
   ·have e0 := k9.cell 0
    have e1 := k9.cell 1
    simp at e0 e1
    simp [results, Tryz.f63, go_sem, e0, e1]
   ·refine ⟨hB2, ?_⟩
    rw [HF0.out, HAF.out]
    rfl
  ·go_wp2_with fail
   refine (within_any td 0 11 W1).mono ?_
   rintro y _ ⟨rfl, rfl⟩
   obtain ⟨r, hr2⟩ : ∃ r, inB td 0 11 = r := ⟨_, rfl⟩
   rw [hr2]
   rcases r with _ | _
   ·have HAF : Hid (argsB g fr td a x = false) := Lib.hid (by rw [HA.out]; simp [hr2])
    have z0 := k_b13.cell 0
    have z1 := k_b13.cell 1
    have f0 := k_b13.frozen 0
    have f1 := k_b13.frozen 1
    go_wp2_with fail
    have k9 := (k_b13.set_ 0 (.slice none 0 0)).set_ 1 (.slice none 0 0)
    have h13 : w.heap.size ≤ b13 := by have := HPL.out; omega
    have hB2 := (HB1.out.setCell (p := ⟨b13, 0, none⟩) h13 (.slice none 0 0)).setCell (p := ⟨b13, 1, none⟩) h13 (.slice none 0 0)
    refine bodyPost_ret (v := .tuple #[.slice none 0 0, .agg #[.slice none 0 0, .slice none 0 0], .int .i64 1]) ?_ rfl ?_
    ·have e0 := k9.cell 0
     have e1 := k9.cell 1
     simp at e0 e1
     simp [results, Tryz.f63, go_sem, e0, e1]
    ·refine ⟨hB2, ?_⟩
     rw [HF0.out, HAF.out]
     rfl
   ·by_cases hft : fr = td
    ·have g0 : (fr == td) = true := by simpa using hft
     have HAF : Hid (argsB g fr td a x = false) := Lib.hid (by rw [HA.out]; simp [hft])
     have z0 := k_b13.cell 0
     have z1 := k_b13.cell 1
     have f0 := k_b13.frozen 0
     have f1 := k_b13.frozen 1
     go_wp2_with fail
     have k9 := (k_b13.set_ 0 (.slice none 0 0)).set_ 1 (.slice none 0 0)
     have h13 : w.heap.size ≤ b13 := by have := HPL.out; omega
     have hB2 := (HB1.out.setCell (p := ⟨b13, 0, none⟩) h13 (.slice none 0 0)).setCell (p := ⟨b13, 1, none⟩) h13 (.slice none 0 0)
     refine bodyPost_ret (v := .tuple #[.slice none 0 0, .agg #[.slice none 0 0, .slice none 0 0], .int .i64 1]) ?_ rfl ?_
     ·have e0 := k9.cell 0
      have e1 := k9.cell 1
      simp at e0 e1
      simp [results, Tryz.f63, go_sem, e0, e1]
     ·refine ⟨hB2, ?_⟩
      rw [HF0.out, HAF.out]
      rfl
    ·have g0 : (fr == td) = false := by simpa using hft
     have HFT := Lib.hid hft
     clear hft
     go_wp2_with fail
     refine (within_any a 1 1125899906842624 W1).mono ?_
     rintro y _ ⟨rfl, rfl⟩
     obtain ⟨r, hr3⟩ : ∃ r, inB a 1 1125899906842624 = r := ⟨_, rfl⟩
     rw [hr3]
     rcases r with _ | _
     ·have HAF : Hid (argsB g fr td a x = false) := Lib.hid (by rw [HA.out]; simp [hr3])
      have z0 := k_b13.cell 0
      have z1 := k_b13.cell 1
      have f0 := k_b13.frozen 0
      have f1 := k_b13.frozen 1
      go_wp2_with fail
      have k9 := (k_b13.set_ 0 (.slice none 0 0)).set_ 1 (.slice none 0 0)
      have h13 : w.heap.size ≤ b13 := by have := HPL.out; omega
      have hB2 := (HB1.out.setCell (p := ⟨b13, 0, none⟩) h13 (.slice none 0 0)).setCell (p := ⟨b13, 1, none⟩) h13 (.slice none 0 0)
      refine bodyPost_ret (v := .tuple #[.slice none 0 0, .agg #[.slice none 0 0, .slice none 0 0], .int .i64 1]) ?_ rfl ?_
      ·have e0 := k9.cell 0
       have e1 := k9.cell 1
       simp at e0 e1
       simp [results, Tryz.f63, go_sem, e0, e1]
      ·refine ⟨hB2, ?_⟩
       rw [HF0.out, HAF.out]
       rfl
     ·go_wp2_with fail
      refine (within_any x 1 1048576 W1).mono ?_
      rintro y _ ⟨rfl, rfl⟩
      obtain ⟨r, hr4⟩ : ∃ r, inB x 1 1048576 = r := ⟨_, rfl⟩
      rw [hr4]
      rcases r with _ | _
      ·have HAF : Hid (argsB g fr td a x = false) := Lib.hid (by rw [HA.out]; simp [hr4])
       have z0 := k_b13.cell 0
       have z1 := k_b13.cell 1
       have f0 := k_b13.frozen 0
       have f1 := k_b13.frozen 1
       go_wp2_with fail
       have k9 := (k_b13.set_ 0 (.slice none 0 0)).set_ 1 (.slice none 0 0)
       have h13 : w.heap.size ≤ b13 := by have := HPL.out; omega
       have hB2 := (HB1.out.setCell (p := ⟨b13, 0, none⟩) h13 (.slice none 0 0)).setCell (p := ⟨b13, 1, none⟩) h13 (.slice none 0 0)
       refine bodyPost_ret (v := .tuple #[.slice none 0 0, .agg #[.slice none 0 0, .slice none 0 0], .int .i64 1]) ?_ rfl ?_
       ·have e0 := k9.cell 0
        have e1 := k9.cell 1
        simp at e0 e1
        simp [results, Tryz.f63, go_sem, e0, e1]
       ·refine ⟨hB2, ?_⟩
        rw [HF0.out, HAF.out]
        rfl
      ·have HAT : Hid (argsB g fr td a x = true) := Lib.hid (by rw [HA.out, hr, hr1, hr2, hr3, hr4, decide_eq_true HFT.out]; rfl)
       clear hr hr1 hr2 hr3 hr4
       go_upto_region 5 with (fail)
       obtain ⟨W2, hW2⟩ : ∃ W, W = ((W1.alloc (.cells #[.slice none 0 0, .slice none 0 0, .slice none 0 0, .int .i64 0] 167)).alloc (.cells #[.nilFunc] 168)) := ⟨_, rfl⟩
       have hB2 : Below W1.heap.size W1 W2 := by rw [hW2]; exact ((Below.refl _ _).alloc (Nat.le_refl _) _).alloc (by simp) _
       have k_bb : Blk W2 W1.heap.size 167 #[.slice none 0 0, .slice none 0 0, .slice none 0 0, .int .i64 0] := by rw [hW2]; exact (Blk.new W1 _ _).alloc _
       have k_bl : Blk W2 (W1.heap.size + 1) 168 #[.nilFunc] := by rw [hW2]; have := Blk.new (W1.alloc (.cells #[.slice none 0 0, .slice none 0 0, .slice none 0 0, .int .i64 0] 167)) 168 #[.nilFunc]; rw [World.size_alloc] at this; exact this
       rw [← hW2]
       clear hW2
       obtain ⟨bl, h_bl⟩ : ∃ z, W1.heap.size + 1 = z := ⟨_, rfl⟩
       rw [h_bl] at k_bl
       obtain ⟨bb, h_bb⟩ : ∃ z, W1.heap.size = z := ⟨_, rfl⟩
       rw [h_bb] at k_bb
       rw [h_bl, h_bb]
       have HPB := Lib.hid (And.intro h_bb h_bl)
       clear h_bl h_bb
       have c_bl := k_bl.cell 0
       have f_bl := k_bl.frozen 0
       simp at c_bl
       go_upto_region 6 with (fail)
       have hB3 : Below W1.heap.size W1 (W2.setCell ⟨bl, 0, none⟩ (.func (.func 96) #[] #[.pointer (some ⟨bm, 0, none⟩), .pointer (some ⟨ba, 0, none⟩), .pointer (some ⟨bx, 0, none⟩), .pointer (some ⟨bb, 0, none⟩), .pointer (some ⟨bf, 0, none⟩), .pointer (some ⟨bg, 0, none⟩), .pointer (some ⟨bt, 0, none⟩), .pointer (some ⟨bl, 0, none⟩)])) := hB2.setCell (p := ⟨bl, 0, none⟩) (by have := HPB.out; show W1.heap.size ≤ bl; omega) _
       have k_bl3 := k_bl.set_ 0 (.func (.func 96) #[] #[.pointer (some ⟨bm, 0, none⟩), .pointer (some ⟨ba, 0, none⟩), .pointer (some ⟨bx, 0, none⟩), .pointer (some ⟨bb, 0, none⟩), .pointer (some ⟨bf, 0, none⟩), .pointer (some ⟨bg, 0, none⟩), .pointer (some ⟨bt, 0, none⟩), .pointer (some ⟨bl, 0, none⟩)])
       have k_bb3 := k_bb.far (p := ⟨bl, 0, none⟩) (by have := HPB.out; show bb ≠ bl; omega) (.func (.func 96) #[] #[.pointer (some ⟨bm, 0, none⟩), .pointer (some ⟨ba, 0, none⟩), .pointer (some ⟨bx, 0, none⟩), .pointer (some ⟨bb, 0, none⟩), .pointer (some ⟨bf, 0, none⟩), .pointer (some ⟨bg, 0, none⟩), .pointer (some ⟨bt, 0, none⟩), .pointer (some ⟨bl, 0, none⟩)])
       clear k_bl k_bb c_bl f_bl hB2
       generalize W2.setCell ⟨bl, 0, none⟩ (.func (.func 96) #[] #[.pointer (some ⟨bm, 0, none⟩), .pointer (some ⟨ba, 0, none⟩), .pointer (some ⟨bx, 0, none⟩), .pointer (some ⟨bb, 0, none⟩), .pointer (some ⟨bf, 0, none⟩), .pointer (some ⟨bg, 0, none⟩), .pointer (some ⟨bt, 0, none⟩), .pointer (some ⟨bl, 0, none⟩)]) = W3 at hB3 k_bl3 k_bb3 ⊢
       have l_bg : bg < W1.heap.size := k_bg.lt
       have l_bm : bm < W1.heap.size := k_bm.lt
       have l_bf : bf < W1.heap.size := k_bf.lt
       have l_bt : bt < W1.heap.size := k_bt.lt
       have l_ba : ba < W1.heap.size := k_ba.lt
       have l_bx : bx < W1.heap.size := k_bx.lt
       have l_b13 : b13 < W1.heap.size := k_b13.lt
       clear c_bg c_bm c_bf c_bt c_ba c_bx
       replace k_bg := k_bg.below hB3 k_bg.lt
       replace k_bm := k_bm.below hB3 k_bm.lt
       replace k_bf := k_bf.below hB3 k_bf.lt
       replace k_bt := k_bt.below hB3 k_bt.lt
       replace k_ba := k_ba.below hB3 k_ba.lt
       replace k_bx := k_bx.below hB3 k_bx.lt
       replace k_b13 := k_b13.below hB3 k_b13.lt
       have hPB := HPB.out
       have l3 := k_bl3.lt
       have HE : Hid (EnvAt W3 ⟨p, bm, ba, bx, bb, bf, bg, bt, bl, a, x, fr, td, Ag, ng, cg⟩ g) := Lib.hid ⟨k_bm.cell 0, k_ba.cell 0, k_bx.cell 0, k_bf.cell 0, k_bg.cell 0, k_bt.cell 0, k_bl3.cell 0, HL1.out.on hB3, ⟨⟨k_bm.lt, k_ba.lt, k_bx.lt, k_bf.lt⟩, k_bg.lt, k_bt.lt, k_bl3.lt⟩, by dsimp only; omega⟩
       have HLT := Lib.hid (And.intro (show b13 ≠ bb by omega) (show w.heap.size ≤ bb by have := HB1.out.size; omega))
       have HM3 := Lib.hid (HM1.out.on hB3)
       have HB3 := Lib.hid (bltB HB1.out HB1.out.size hB3)
       have c_bl := k_bl3.cell 0
       have c_bt := k_bt.cell 0
       simp at c_bl c_bt
       clear l_bg l_bm l_bf l_bt l_ba l_bx l_b13 l3 hPB hB3 HL1 HM1 k_bl3
       have HK := Lib.hid k_bb3
       clear k_bb3
       go_wp2_with fail
       refine (look_any L hgd b m0 ⟨p, bm, ba, bx, bb, bf, bg, bt, bl, a, x, fr, td, Ag, ng, cg⟩ g hng 8 W3 none none 0 0 [] td rfl (Rg.nil _) HM3.out HE.out HK.out (fun _ h => HFT.out h.symm)).mono ?_
       rintro y W4 ⟨rfl, hBA, hG⟩
       dsimp only at hBA hG
       replace k_b13 := Blk.gr k_b13 hG (fun e => HLT.out.1 e)
       have hB4 : Below w.heap.size w W4 := HB3.out.trans (hG.below (B := w.heap.size) HB3.out.size (fun k hk e => by have := HLT.out.2; omega))
       have HOB : Hid (bestF L g fr td a x = lookF L g fr td a x 8 none [] td) := Lib.hid (by rw [HF0.out, HAT.out]; rfl)
       obtain ⟨o, ho⟩ : ∃ o, lookF L g fr td a x 8 none [] td = o := ⟨_, rfl⟩
       rw [ho] at hBA HOB
       clear ho HE HK HM3
       have eq_ := fun (w : World) (a : Option Addr) (l c : Nat) => Go.run_eql_slice_nil (P := Tryz.prog) w 26 56 a l c Tryz.underlying26
       rcases o with _ | y
       ·have k_bb4 : Blk W4 bb 167 #[.slice none 0 0, .slice none 0 0, .slice none 0 0, .int .i64 0] := hBA
        have y0 := k_bb4.cell 0
        simp at y0
        have z0 := k_b13.cell 0
        have z1 := k_b13.cell 1
        have f0 := k_b13.frozen 0
        have f1 := k_b13.frozen 1
        have HB4 := Lib.hid hB4
        clear hBA hG hB4 k_bb4
        go_wp2_with fail
        have k9 := (k_b13.set_ 0 (.slice none 0 0)).set_ 1 (.slice none 0 0)
        have h13 : w.heap.size ≤ b13 := by have := HPL.out; omega
        have hB5 := (HB4.out.setCell (p := ⟨b13, 0, none⟩) h13 (.slice none 0 0)).setCell (p := ⟨b13, 1, none⟩) h13 (.slice none 0 0)
        refine bodyPost_ret (v := .tuple #[.slice none 0 0, .agg #[.slice none 0 0, .slice none 0 0], .int .i64 19]) ?_ rfl ?_
        ·have e0 := k9.cell 0
         have e1 := k9.cell 1
         simp at e0 e1
         simp [results, Tryz.f63, go_sem, e0, e1]
        ·refine ⟨hB5, ?_⟩
         rw [HOB.out, HAT.out]
         rfl
       ·obtain ⟨hne, A, n, c, A1, n1, c1, B1, m1, d1, k_bb4, rW, hn8, I⟩ := hBA
        have y0 := k_bb4.cell 0
        have y1 := k_bb4.cell 1
        have y2 := k_bb4.cell 2
        simp at y0 y1 y2
        have hn0 : 0 < n := by have h1 := rW.elen; rcases Nat.eq_zero_or_pos n with h0 | h0; exact absurd (List.eq_nil_of_length_eq_zero (h1.trans h0)) hne; exact h0
        obtain ⟨gA, oA, csA, frA, rfl, hhA, hcA⟩ := rW.at_ hn0
        clear hhA hcA frA csA
        have z0 := k_b13.cell 0
        have z1 := k_b13.cell 1
        have f0 := k_b13.frozen 0
        have f1 := k_b13.frozen 1
        have HB4 := Lib.hid hB4
        have HW := Lib.hid rW
        have HN8 := Lib.hid hn8
        have HI := Lib.hid I
        have HNE := Lib.hid hne
        clear hG hB4 rW hn8 I hne hn0
        go_wp2_with fail
        clear c_bl c_bt k_bg k_bm k_bf k_bt k_ba k_bx
        go_region
        have h13 : w.heap.size ≤ b13 := by have := HPL.out; omega
        have k9 := ((k_b13.set_ 0 (.slice A1 n1 c1)).set_ 1 (.slice B1 m1 d1)).drew
        have hB5 := ((HB4.out.setCell (p := ⟨b13, 0, none⟩) h13 (.slice A1 n1 c1)).setCell (p := ⟨b13, 1, none⟩) h13 (.slice B1 m1 d1)).drew
        have hg : Gr (· = b13) W4 ((W4.setCell ⟨b13, 0, none⟩ (.slice A1 n1 c1)).setCell ⟨b13, 1, none⟩ (.slice B1 m1 d1)).drew := (((Gr.refl (· = b13) W4).setCell (g := b13) (i := 0) (fun _ => show b13 = b13 from rfl) _).setCell (g := b13) (i := 1) (fun _ => show b13 = b13 from rfl) _).drew
        have HR : Hid (RetB2 w (argsB g fr td a x) (bestF L g fr td a x) (.returned (.tuple #[.slice (some ⟨gA, oA, none⟩) n c, .agg #[.slice A1 n1 c1, .slice B1 m1 d1], .int .i64 0])) ((W4.setCell ⟨b13, 0, none⟩ (.slice A1 n1 c1)).setCell ⟨b13, 1, none⟩ (.slice B1 m1 d1)).drew) := Lib.hid (by
         rw [HOB.out]
         refine ⟨hB5, HNE.out, _, _, _, _, _, _, _, _, _, rfl, Rg.gr HW.out hg ?_, HN8.out, HI.out.gr1 hg ?_⟩
         ·intro b cs fr hh e
          subst e
          unfold Blk at k_b13
          rw [k_b13] at hh
          simp at hh
         ·intro o d
          rw [k_b13.cell o]
          match o with
          | 0 => simp
          | 1 => simp
          | n + 2 => simp)
        clear hg hB5
        go_wp2_with fail
        refine bodyPost_ret (v := .tuple #[.slice (some ⟨gA, oA, none⟩) n c, .agg #[.slice A1 n1 c1, .slice B1 m1 d1], .int .i64 0]) ?_ rfl HR.out
        have e0 := k9.cell 0
        have e1 := k9.cell 1
        simp at e0 e1
        simp [results, Tryz.f63, go_sem, e0, e1]
end Go.Proofs.YthefgdehfgkhhaaGreat
namespace Go.Proofs.YthefgdehfgkhhaaGreat
open Go.RowKit Go.Shelf
set_option linter.unusedVariables false
set_option linter.unusedSimpArgs false
attribute [local go_sem] Oper.semAt_some
def noteO (L : Notes) (l : List Ed) (a x k : Int) : Option Notes := (cost l a x).bind fun r => if k < -1 ∨ (l.length : Int) ≤ k then none else some (noteF L l r.1 k)
def RetNo (w : World) (p b m0 : Nat) (o : Option Notes) (e : Ending) (w' : World) : Prop := match o with
 | none => (∃ z : Int, z ≠ 0 ∧ e = .returned (.int .i64 z)) ∧ Below w.heap.size w w'
 | some L' => e = .returned (.int .i64 0) ∧ Gr (· = b) w w' ∧ Good L' ∧ ∃ m, m ≤ m0 + 8 ∧ MindAt w' p b m L'
theorem MindAt.isMap {w : World} {p b n : Nat} {L : Notes} (h : MindAt w p b n L) : ∃ es clock, w.heap[b]? = some (.map es clock) := by
 obtain ⟨D, ⟨es, clock, hb, _⟩, _⟩ := h.own
 exact ⟨es, clock, hb⟩
theorem Rg.gr_map {T : TypeId} {k : Nat} {w w' : World} {A : Option Addr} {n c p b m : Nat} {L : Notes} {l : List (Array Value)} (h : Rg T k w A n c l) (hM : MindAt w p b m L) (hg : Gr (· = b) w w') : Rg T k w' A n c l := by
 refine Rg.gr h hg ?_
 intro g cs fr hh e
 obtain ⟨es, cl, hm⟩ := hM.isMap
 subst e
 rw [hm] at hh
 simp at hh
theorem drop_at {α : Type} {l : List α} {i : Nat} {x : α} (h : l[i]? = some x) : l.drop i = x :: l.drop (i + 1) := by
 obtain ⟨hi, rfl⟩ := List.getElem?_eq_some_iff.mp h
 exact List.drop_eq_getElem_cons hi
set_option maxRecDepth 100000 in
set_option maxHeartbeats 1000000 in
theorem note_any (w : World) (p b m0 : Nat) (L : Notes) (hM : MindAt w p b m0 L) (hgd : Good L) (hm : m0 < 800000) (A : Option Addr) (n c : Nat) (l : List Ed) (h : RE w A n c l) (hn : n ≤ 1048576) (a x k : Int) :
 Calls Tryz.prog 37 #[.pointer (some ⟨p, 0, none⟩), .slice A n c, .int .i64 a, .int .i64 x, .int .i64 k] w (RetNo w p b m0 (noteO L l a x k)) := by
 have HL := Lib.hid h
 have Hlen := Lib.hid h.elen
 have HM := Lib.hid hM
 have HGD := Lib.hid hgd
 clear h hM hgd
 obtain ⟨oc, hoc⟩ : ∃ o, cost l a x = o := ⟨_, rfl⟩
 have HC := cost_any w A n c l HL.out hn a x
 have HO : Hid (noteO L l a x k = oc.bind fun r => if k < -1 ∨ (l.length : Int) ≤ k then none else some (noteF L l r.1 k)) := Lib.hid (by unfold noteO; rw [hoc])
 rw [hoc] at HC
 have HOC := Lib.hid hoc
 have HC := Lib.hid HC
 clear hoc
 go_enter Tryz.func37, Tryz.ntmps37
 go_wp2_with fail
 refine HC.out.mono ?_
 rcases oc with _ | ⟨s, t⟩
 ·rintro y w1 ⟨hb, z, hz, rfl⟩
  have hz1 : (z != 0) = true := by simpa using hz
  have HF : Hid (RetNo w p b m0 (noteO L l a x k) (.returned (.int .i64 z)) w1) := Lib.hid (by rw [HO.out]; exact ⟨⟨z, hz, rfl⟩, hb⟩)
  clear hz hb
  go_wp2_with fail
  go_ret
  exact HF.out
 ·rintro y w1 ⟨hb, As, ns, cs, At, nt, ct, rfl, rS, rT⟩
  have HB1 := Lib.hid hb
  have HW1 := Lib.hid (HL.out.on hb)
  have HS1 := Lib.hid rS
  have HM1 := Lib.hid (HM.out.on hb)
  clear hb rS rT
  by_cases h1 : k < -1
  ·have HF : Hid (RetNo w p b m0 (noteO L l a x k) (.returned (.int .i64 1)) w1) := Lib.hid (by rw [HO.out]; simp [h1, RetNo]; exact HB1.out)
   go_wp2_with fail
   go_ret
   exact HF.out
  ·by_cases h2 : (n : Int) ≤ k
   ·have HF : Hid (RetNo w p b m0 (noteO L l a x k) (.returned (.int .i64 1)) w1) := Lib.hid (by rw [HO.out, Hlen.out]; simp [h2, RetNo]; exact HB1.out)
    go_wp2_with fail
    go_ret
    exact HF.out
   ·have HK1 := Lib.hid h1
    have HK2 := Lib.hid h2
    have HOS : Hid (noteO L l a x k = some (noteF L l s k)) := Lib.hid (by rw [HO.out, Hlen.out]; simp only [Option.bind_some]; rw [if_neg (by omega)])
    clear HO HC
    have HCA := cost_at HOC.out
    have hlw := (way_lens HCA.1).2
    rw [Hlen.out] at hlw
    have hns : ns = n := by have h1 := HS1.out.ilen; have h2 := HCA.2.1; have h3 := Hlen.out; omega
    subst hns
    have HN8 := Lib.hid hlw
    have hlen := Hlen.out
    have HSL : Hid (s.length = l.length) := Lib.hid HCA.2.1
    have g5 : decide (k < -1) = false := decide_eq_false h1
    have g6 : ¬ (ns : Int) ≤ k := h2
    clear HCA hlw hlen
    go_wp2_with fail
    clear h1 h2 g5 g6
    go_loopw [39] (fun iv wr => ∃ i : Nat, i ≤ ns ∧ iv = .int .i64 i ∧ Hid (k < 0 ∨ (i : Int) ≤ k) ∧ ∃ L', Hid (noteF L' (l.drop i) (s.drop i) (k - i) = noteF L l s k) ∧ Hid (Good L') ∧ Hid (MindAt wr p b (m0 + i) L') ∧ Hid (Gr (· = b) w1 wr)) (fun iv _ => ns - (intOf iv).toNat)
    case atStart => exact ⟨0, Nat.zero_le _, rfl, Lib.hid (by have := HK1.out; omega), L, Lib.hid (by simp), HGD, HM1, Lib.hid (Gr.refl _ _)⟩
    case round =>
     obtain ⟨i, hi, rfl, HKI, L', HQ, HG', HM', HGR⟩ := hrel
     by_cases hlt : i < ns
     ·obtain ⟨ba, oa, e, hA, hba, hx, hat, a0, a1, a2, a3, a4, a5, a6, a7, a8⟩ := (HW1.out.gr_map HM1.out HGR.out).edge hlt
      obtain ⟨bs, os_, hAs, hbs, hxs, s0⟩ := (HS1.out.gr_map HM1.out HGR.out).num hlt
      subst hA
      subst hAs
      have HE := Lib.hid hx
      have HX := Lib.hid hxs
      clear hx hat hxs
      have hlt' : (i : Int) < (ns : Int) := by omega
      obtain ⟨f, t1, ch, r, p0, p1, p2, p3, p4⟩ := e
      dsimp only at a0 a1 a2 a3 a4 a5 a6 a7 a8
      obtain ⟨xs, hxs⟩ : ∃ z, s.getD i 0 = z := ⟨_, rfl⟩
      rw [hxs] at s0 HX
      clear hxs
      go_upto_region 9 with (fail)
      obtain ⟨W1, hW1⟩ : ∃ W, W = wr.alloc (.cells #[.int .i64 f, .int .i64 t1, .int .i64 ch, .int .i64 r, .int .i64 p0, .int .i64 p1, .int .i64 p2, .int .i64 p3, .int .i64 p4] 56) := ⟨_, rfl⟩
      have hb1 : Below wr.heap.size wr W1 := by rw [hW1]; exact (Below.refl _ _).alloc (Nat.le_refl _) _
      have k4 : Blk W1 wr.heap.size 56 #[.int .i64 f, .int .i64 t1, .int .i64 ch, .int .i64 r, .int .i64 p0, .int .i64 p1, .int .i64 p2, .int .i64 p3, .int .i64 p4] := by rw [hW1]; exact Blk.new wr _ _
      obtain ⟨G, hG⟩ : ∃ G, wr.heap.size = G := ⟨_, rfl⟩
      rw [← hW1, hG]
      rw [hG] at k4
      have s1 := (hb1.cell (p := ⟨bs, os_ + i, none⟩) hbs).trans s0
      have HM1' := Lib.hid (HM'.out.on hb1)
      have HGR1 := Lib.hid (HGR.out.trans (Gr.of_below hb1))
      have hbs1 : bs < W1.heap.size := Nat.lt_of_lt_of_le hbs hb1.size
      have hmi : m0 + i < 1000000 := by have := HN8.out; omega
      clear hW1 hG hb1 a0 a1 a2 a3 a4 a5 a6 a7 a8 s0 HL HC
      by_cases hik : (i : Int) = k
      ·have g0 : ((i : Int) == k) = true := by simpa using hik
       have HIK := Lib.hid hik
       clear hik
       go_wp2_with fail
       refine wp_region_noPanic ?_
       refine ord_begin 6 (fun wx => Below W1.heap.size W1 wx) (by kernel_rfl) ?_
       have hx0 : Below W1.heap.size W1 W1.drew := (Below.refl _ _).drew
       refine ord_take (i := 0) (v := ?_) (by kernel_rfl) rfl (by decide) (by kernel_rfl) (by kernel_rfl) (fun _ _ _ h => h) (Or.inl ⟨by rfl, ?_⟩) hx0 ?_
       rotate_left
       ·intro wz hz; go_simp; (try with_reducible rfl)
       try simp only [Act.put, pu]
       refine ord_take (i := 1) (v := ?_) (by kernel_rfl) rfl (by decide) (by kernel_rfl) (by kernel_rfl) (fun _ _ _ h => h) (Or.inl ⟨by rfl, ?_⟩) hx0 ?_
       rotate_left
       ·intro wz hz; have j4 := k4.below hz k4.lt; have y0 : wz.cell? ⟨G, 0, none⟩ = some (.int .i64 f) := j4.cell 0; have y1 : wz.cell? ⟨G, 1, none⟩ = some (.int .i64 t1) := j4.cell 1; have y2 : wz.cell? ⟨G, 2, none⟩ = some (.int .i64 ch) := j4.cell 2; have y3 : wz.cell? ⟨G, 3, none⟩ = some (.int .i64 r) := j4.cell 3; have y4 : wz.cell? ⟨G, 4, none⟩ = some (.int .i64 p0) := j4.cell 4; have y5 : wz.cell? ⟨G, 5, none⟩ = some (.int .i64 p1) := j4.cell 5; have y6 : wz.cell? ⟨G, 6, none⟩ = some (.int .i64 p2) := j4.cell 6; have y7 : wz.cell? ⟨G, 7, none⟩ = some (.int .i64 p3) := j4.cell 7; have y8 : wz.cell? ⟨G, 8, none⟩ = some (.int .i64 p4) := j4.cell 8; go_simp; (try with_reducible rfl)
       try simp only [Act.put, pu]
       refine ord_take (i := 2) (v := ?_) (by kernel_rfl) rfl (by decide) (by kernel_rfl) (by kernel_rfl) (fun _ _ _ h => h) (Or.inl ⟨by rfl, ?_⟩) hx0 ?_
       rotate_left
       ·intro wz hz; go_simp; (try with_reducible rfl)
       try simp only [Act.put, pu]
       refine ord_take (i := 3) (v := ?_) (by kernel_rfl) rfl (by decide) (by kernel_rfl) (by kernel_rfl) (fun _ _ _ h => h) (Or.inl ⟨by rfl, ?_⟩) hx0 ?_
       rotate_left
       ·intro wz hz; go_simp; (try with_reducible rfl)
       try simp only [Act.put, pu]
       refine ord_take (i := 4) (v := ?_) (by kernel_rfl) rfl (by decide) (by kernel_rfl) (by kernel_rfl) (fun _ _ _ h => h) (Or.inl ⟨by rfl, ?_⟩) hx0 ?_
       rotate_left
       ·intro wz hz; go_simp; (try with_reducible rfl)
       try simp only [Act.put, pu]
       refine ord_take (i := 5) (v := ?_) (by kernel_rfl) rfl (by decide) (by kernel_rfl) (by kernel_rfl) (fun _ _ _ h => h) (Or.inl ⟨by rfl, ?_⟩) hx0 ?_
       rotate_left
       ·intro wz hz; have y9 := (hz.cell (p := ⟨bs, os_ + i, none⟩) hbs1).trans s1; go_simp; (try with_reducible rfl)
       try simp only [Act.put, pu]
       refine ord_rest (by kernel_rfl) ?_
       refine any_step (i := 6) rfl (by kernel_rfl) (by rfl) (fun K hK => ?_)
       go_simp
       refine (failed_any W1.drew p b (m0 + i) L' (HM1'.out.on hx0) HG'.out hmi ⟨f, t1, ch, r, p0, p1, p2, p3, p4⟩ xs).mono ?_
       rintro y W2 ⟨rfl, hM2, hg2⟩
       refine hK _ _ ?_
       clear hK K
       try simp only [Act.put, pu]
       refine wpAny_done (by kernel_rfl) ?_ _
       refine NoPanic.normal ?_
       have hgw : Gr (· = b) w W2 := (Gr.of_below HB1.out).trans (HGR1.out.trans ((Gr.of_below (Below.refl _ _).drew).trans (Gr.of_grown hg2 rfl)))
       have HF : Hid (RetNo w p b m0 (noteO L l a x k) (.returned (.int .i64 0)) W2) := Lib.hid (by
        rw [HOS.out, ← HQ.out, drop_at HE.out, drop_at HX.out, show k - (i : Int) = 0 by have := HIK.out; omega]
        exact ⟨rfl, hgw, HG'.out.fail _ _, m0 + i + 1, by have := HN8.out; omega, hM2⟩)
       clear hgw hM2 hg2
       go_wp2_with fail
       go_ret
       exact HF.out
      ·have g0 : ((i : Int) == k) = false := by simpa using hik
       have HIK := Lib.hid hik
       clear hik
       go_wp2_with fail
       refine wp_region_noPanic ?_
       refine ord_begin 6 (fun wx => Below W1.heap.size W1 wx) (by kernel_rfl) ?_
       have hx0 : Below W1.heap.size W1 W1.drew := (Below.refl _ _).drew
       refine ord_take (i := 0) (v := ?_) (by kernel_rfl) rfl (by decide) (by kernel_rfl) (by kernel_rfl) (fun _ _ _ h => h) (Or.inl ⟨by rfl, ?_⟩) hx0 ?_
       rotate_left
       ·intro wz hz; go_simp; (try with_reducible rfl)
       try simp only [Act.put, pu]
       refine ord_take (i := 1) (v := ?_) (by kernel_rfl) rfl (by decide) (by kernel_rfl) (by kernel_rfl) (fun _ _ _ h => h) (Or.inl ⟨by rfl, ?_⟩) hx0 ?_
       rotate_left
       ·intro wz hz; have j4 := k4.below hz k4.lt; have y0 : wz.cell? ⟨G, 0, none⟩ = some (.int .i64 f) := j4.cell 0; have y1 : wz.cell? ⟨G, 1, none⟩ = some (.int .i64 t1) := j4.cell 1; have y2 : wz.cell? ⟨G, 2, none⟩ = some (.int .i64 ch) := j4.cell 2; have y3 : wz.cell? ⟨G, 3, none⟩ = some (.int .i64 r) := j4.cell 3; have y4 : wz.cell? ⟨G, 4, none⟩ = some (.int .i64 p0) := j4.cell 4; have y5 : wz.cell? ⟨G, 5, none⟩ = some (.int .i64 p1) := j4.cell 5; have y6 : wz.cell? ⟨G, 6, none⟩ = some (.int .i64 p2) := j4.cell 6; have y7 : wz.cell? ⟨G, 7, none⟩ = some (.int .i64 p3) := j4.cell 7; have y8 : wz.cell? ⟨G, 8, none⟩ = some (.int .i64 p4) := j4.cell 8; go_simp; (try with_reducible rfl)
       try simp only [Act.put, pu]
       refine ord_take (i := 2) (v := ?_) (by kernel_rfl) rfl (by decide) (by kernel_rfl) (by kernel_rfl) (fun _ _ _ h => h) (Or.inl ⟨by rfl, ?_⟩) hx0 ?_
       rotate_left
       ·intro wz hz; go_simp; (try with_reducible rfl)
       try simp only [Act.put, pu]
       refine ord_take (i := 3) (v := ?_) (by kernel_rfl) rfl (by decide) (by kernel_rfl) (by kernel_rfl) (fun _ _ _ h => h) (Or.inl ⟨by rfl, ?_⟩) hx0 ?_
       rotate_left
       ·intro wz hz; go_simp; (try with_reducible rfl)
       try simp only [Act.put, pu]
       refine ord_take (i := 4) (v := ?_) (by kernel_rfl) rfl (by decide) (by kernel_rfl) (by kernel_rfl) (fun _ _ _ h => h) (Or.inl ⟨by rfl, ?_⟩) hx0 ?_
       rotate_left
       ·intro wz hz; go_simp; (try with_reducible rfl)
       try simp only [Act.put, pu]
       refine ord_take (i := 5) (v := ?_) (by kernel_rfl) rfl (by decide) (by kernel_rfl) (by kernel_rfl) (fun _ _ _ h => h) (Or.inl ⟨by rfl, ?_⟩) hx0 ?_
       rotate_left
       ·intro wz hz; have y9 := (hz.cell (p := ⟨bs, os_ + i, none⟩) hbs1).trans s1; go_simp; (try with_reducible rfl)
       try simp only [Act.put, pu]
       refine ord_rest (by kernel_rfl) ?_
       refine any_step (i := 6) rfl (by kernel_rfl) (by rfl) (fun K hK => ?_)
       go_simp
       refine (passed_any W1.drew p b (m0 + i) L' (HM1'.out.on hx0) HG'.out hmi ⟨f, t1, ch, r, p0, p1, p2, p3, p4⟩ xs).mono ?_
       rintro y W2 ⟨rfl, hM2, hg2⟩
       refine hK _ _ ?_
       clear hK K
       try simp only [Act.put, pu]
       refine wpAny_done (by kernel_rfl) ?_ _
       refine NoPanic.normal ?_
       have HQ2 : Hid (noteF (passL L' (Ed.e4 ⟨f, t1, ch, r, p0, p1, p2, p3, p4⟩) xs) (l.drop (i + 1)) (s.drop (i + 1)) (k - ((i + 1 : Nat) : Int)) = noteF L l s k) := Lib.hid (by
        rw [← HQ.out, drop_at HE.out, drop_at HX.out]
        show _ = (if k - (i : Int) = 0 then _ else _)
        rw [if_neg (by have := HIK.out; omega)]
        congr 1
        omega)
       have HM2 : Hid (MindAt W2 p b (m0 + (i + 1)) (passL L' (Ed.e4 ⟨f, t1, ch, r, p0, p1, p2, p3, p4⟩) xs)) := Lib.hid hM2
       have HG2 := Lib.hid (HG'.out.pass (Ed.e4 ⟨f, t1, ch, r, p0, p1, p2, p3, p4⟩) xs)
       have HGR2 := Lib.hid (HGR1.out.trans ((Gr.of_below (Below.refl _ _).drew).trans (Gr.of_grown hg2 rfl)))
       have HKI2 : Hid (k < 0 ∨ ((i + 1 : Nat) : Int) ≤ k) := Lib.hid (by have h1 := HKI.out; have h2 := HIK.out; omega)
       clear hM2 hg2
       go_wp2_with fail
       go_roundw
       case rel => exact ⟨i + 1, by omega, by go_num, HKI2, _, HQ2, HG2, HM2, HGR2⟩
       case measure => simp [intOf]; omega
     ·have hin : i = ns := by omega
      subst hin
      have HF : Hid (RetNo w p b m0 (noteO L l a x k) (.returned (.int .i64 0)) wr) := Lib.hid (by
       have hq := HQ.out
       rw [List.drop_of_length_le (by rw [Hlen.out]; exact Nat.le_refl _)] at hq
       rw [HOS.out, ← hq]
       exact ⟨rfl, (Gr.of_below HB1.out).trans HGR.out, HG'.out, m0 + i, by have := HN8.out; omega, HM'.out⟩)
      go_wp2_with fail
      go_ret
      exact HF.out
end Go.Proofs.YthefgdehfgkhhaaGreat
namespace Go.Proofs.YthefgdehfgkhhaaGreat
open Go.RowKit Go.Shelf
set_option linter.unusedVariables false
set_option linter.unusedSimpArgs false
attribute [local go_sem] Oper.semAt_some
def shareV (a n : Int) (i : Nat) : Int := a / n + if (i : Int) < a % n then 1 else 0
def frontL (f : Nat → Int) (i n : Nat) : List Int := (List.range i).map f ++ List.replicate (n - i) 0
theorem front_len (f : Nat → Int) (i n : Nat) (h : i ≤ n) : (frontL f i n).length = n := by simp [frontL]; omega
theorem front_set (f : Nat → Int) (i n : Nat) (h : i < n) : (frontL f i n).set i (f i) = frontL f (i + 1) n := by
 unfold frontL
 rw [List.set_append_right _ _ (by simp), show n - i = (n - (i + 1)) + 1 by omega, List.replicate_succ, List.range_succ]
 simp
theorem wrap64_of_isI {z : Int} (h : isI z) : wrap64 z = z := by unfold wrap64; unfold isI at h; omega
theorem isI_ediv {a : Int} {N : Nat} (h : isI a) (hN : 1 ≤ N ∧ N ≤ 8 ∧ (N : Int) ≤ a) : isI (a / N) := by
 obtain ⟨h1, h2, h3⟩ := hN
 have h4 : 0 ≤ a / (N : Int) := Int.ediv_nonneg (by omega) (by omega)
 have h5 : a / (N : Int) ≤ a := Int.ediv_le_self _ (by omega)
 exact ⟨by omega, by have := h.2; omega⟩
def RetSh (w : World) (o : Option (List Int)) (e : Ending) (w' : World) : Prop :=
 Below w.heap.size w w' ∧ match o with
 | none => e = .returned (.slice none 0 0)
 | some l => l ≠ [] ∧ l.length ≤ 8 ∧ ∃ A, e = .returned (.slice A l.length l.length) ∧ RI w' A l.length l.length l
set_option maxRecDepth 100000 in
set_option maxHeartbeats 1000000 in
theorem shares_any (w : World) (a : Int) (n : Int) (ha : isI a) : Calls Tryz.prog 64 #[.int .i64 a, .int .i64 n] w (RetSh w (shares a n)) := by
 by_cases hno : n < 1 ∨ 8 < n ∨ a < n
 ·have HF : Hid (RetSh w (shares a n) (.returned (.slice none 0 0)) w) := Lib.hid ⟨Below.refl _ _, by unfold shares; rw [if_pos hno]⟩
  by_cases h1 : n < 1
  ·go_enter Tryz.func64, Tryz.ntmps64
   go_wp2_with fail
   go_ret
   exact HF.out
  ·by_cases h2 : 8 < n
   ·go_enter Tryz.func64, Tryz.ntmps64
    go_wp2_with fail
    go_ret
    exact HF.out
   ·have h3 : a < n := by omega
    clear hno
    go_enter Tryz.func64, Tryz.ntmps64
    go_wp2_with fail
    go_ret
    exact HF.out
 ·obtain ⟨N, rfl⟩ : ∃ N : Nat, n = N := ⟨n.toNat, by omega⟩
  have HN : Hid (1 ≤ N ∧ N ≤ 8 ∧ (N : Int) ≤ a) := Lib.hid ⟨by omega, by omega, by omega⟩
  have h1 : ¬ (N : Int) < 1 := by omega
  have h2 : ¬ 8 < (N : Int) := by omega
  have h3 : ¬ a < (N : Int) := by omega
  have HS : Hid (shares a N = some ((List.range N).map (shareV a N))) := Lib.hid (by unfold shares; rw [if_neg hno]; rfl)
  have mk := make_int (N : Int) N rfl (by omega)
  clear hno
  go_enter Tryz.func64, Tryz.ntmps64
  go_upto_region 4 with (fail)
  obtain ⟨W1, hW1⟩ : ∃ W, W = w.alloc (.cells (icells (List.replicate N 0)) 3) := ⟨_, rfl⟩
  have hb1 : Below w.heap.size w W1 := by rw [hW1]; exact (Below.refl _ _).alloc (Nat.le_refl _) _
  have k1 : Blk W1 w.heap.size 3 (icells (frontL (shareV a N) 0 N)) := by
   rw [hW1, show frontL (shareV a N) 0 N = List.replicate N 0 by simp [frontL]]; exact Blk.new w _ _
  obtain ⟨G, hG⟩ : ∃ G, w.heap.size = G := ⟨_, rfl⟩
  rw [← hW1, hG]
  rw [hG] at k1
  have HB1 := Lib.hid hb1
  have HG := Lib.hid hG
  have HK1 := Lib.hid k1
  clear hW1 hG hb1 k1 mk
  go_wp2_with fail
  go_loopw [21] (fun iv wr => ∃ i : Nat, i ≤ N ∧ iv = .int .i64 i ∧ Hid (Blk wr G 3 (icells (frontL (shareV a N) i N))) ∧ Hid (Below w.heap.size w wr)) (fun iv _ => N - (intOf iv).toNat)
  case atStart => exact ⟨0, Nat.zero_le _, rfl, HK1, HB1⟩
  case round =>
   obtain ⟨i, hi, rfl, HK, HB⟩ := hrel
   by_cases hlt : i < N
   ·have hlt' : (i : Int) < (N : Int) := by omega
    have c0 := (HK.out.cell i).trans (icells_at _ (by rw [front_len _ _ _ hi]; exact hlt))
    have f0 := HK.out.frozen i
    obtain ⟨q, hq⟩ : ∃ q, wrap64 (a.tdiv N) = q := ⟨_, rfl⟩
    obtain ⟨r, hr⟩ : ∃ r, a.tmod N = r := ⟨_, rfl⟩
    have HQ : Hid (q = a / N ∧ r = a % N) := Lib.hid (by
     rw [← hq, ← hr, Int.tdiv_eq_ediv_of_nonneg (by have := HN.out; omega), Int.tmod_eq_emod_of_nonneg (by have := HN.out; omega)]
     exact ⟨wrap64_of_isI (isI_ediv ha HN.out), rfl⟩)
    go_upto_region 8 with (fail)
    rw [hq]
    obtain ⟨W2, hW2⟩ : ∃ W, W = wr.setCell ⟨G, i, none⟩ (.int .i64 q) := ⟨_, rfl⟩
    have k2 := HK.out.set_ i (.int .i64 q)
    have hb2 := HB.out.setCell (p := ⟨G, i, none⟩) (show w.heap.size ≤ G from Nat.le_of_eq HG.out) (.int .i64 q)
    rw [← hW2] at k2 hb2 ⊢
    rw [icells_set] at k2
    have K2 := Lib.hid k2
    have HB2 := Lib.hid hb2
    clear k2 hb2 hW2 hq HK HB c0 f0
    by_cases hir : (i : Int) < r
    ·have c2 := (K2.out.cell i).trans (icells_at _ (by rw [List.length_set, front_len _ _ _ hi]; exact hlt))
     have f2 := K2.out.frozen i
     rw [show ((frontL (shareV a N) i N).set i q).getD i 0 = q by rw [List.getD_eq_getElem?_getD, List.getElem?_set_self (by rw [front_len _ _ _ hi]; exact hlt)]; rfl] at c2
     have hq1 : wrap64 (q + 1) = q + 1 := wrap64_of_isI (by
      have h1 := isI_ediv ha HN.out
      have h2 := HQ.out
      have h3 : 0 ≤ a / (N : Int) := Int.ediv_nonneg (by have := HN.out; omega) (by omega)
      have h4 : (N : Int) * (a / N) + a % N = a := Int.mul_ediv_add_emod a N
      have h5 : (a / (N : Int)) ≤ N * (a / N) := by
       have := Int.mul_le_mul_of_nonneg_right (show (1 : Int) ≤ N by have := HN.out; omega) h3
       rwa [Int.one_mul] at this
      have := ha.2
      refine ⟨?_, ?_⟩ <;> omega)
     go_upto_region 10 with (fail)
     obtain ⟨W3, hW3⟩ : ∃ W, W = W2.setCell ⟨G, i, none⟩ (.int .i64 (q + 1)) := ⟨_, rfl⟩
     have k3 := K2.out.set_ i (.int .i64 (q + 1))
     have hb3 := HB2.out.setCell (p := ⟨G, i, none⟩) (show w.heap.size ≤ G from Nat.le_of_eq HG.out) (.int .i64 (q + 1))
     rw [hq1]
     rw [← hW3] at k3 hb3 ⊢
     rw [icells_set, List.set_set] at k3
     have K3 : Hid (Blk W3 G 3 (icells (frontL (shareV a N) (i + 1) N))) := Lib.hid (by
      rw [← front_set _ _ _ hlt, show shareV a N i = q + 1 by unfold shareV; rw [← HQ.out.2, if_pos hir, HQ.out.1]]; exact k3)
     have HB3 := Lib.hid hb3
     clear hW3 k3 hb3 c2 f2 hq1
     go_wp2_with fail
     go_roundw
     case rel => exact ⟨i + 1, by omega, by go_num, K3, HB3⟩
     case measure => simp [intOf]; omega
    ·have K3 : Hid (Blk W2 G 3 (icells (frontL (shareV a N) (i + 1) N))) := Lib.hid (by
      rw [← front_set _ _ _ hlt, show shareV a N i = q by unfold shareV; rw [← HQ.out.2, if_neg hir, Int.add_zero, HQ.out.1]]; exact K2.out)
     go_wp2_with fail
     go_roundw
     case rel => exact ⟨i + 1, by omega, by go_num, K3, HB2⟩
     case measure => simp [intOf]; omega
   ·have hin : i = N := by omega
    subst hin
    have HF : Hid (RetSh w (shares a i) (.returned (.slice (some ⟨G, 0, none⟩) i i)) wr) := Lib.hid (by
     rw [HS.out]
     have hl : ((List.range i).map (shareV a i)).length = i := by simp
     have hk := HK.out
     rw [show frontL (shareV a i) i i = (List.range i).map (shareV a i) by simp [frontL]] at hk
     refine ⟨HB.out, fun h => by have := congrArg List.length h; rw [hl] at this; have := HN.out; simp at *; omega, by rw [hl]; exact HN.out.2.1, some ⟨G, 0, none⟩, by rw [hl], ?_⟩
     rw [hl]
     exact RI.of_blk hk hl)
    go_wp2_with fail
    go_ret
    exact HF.out
end Go.Proofs.YthefgdehfgkhhaaGreat
