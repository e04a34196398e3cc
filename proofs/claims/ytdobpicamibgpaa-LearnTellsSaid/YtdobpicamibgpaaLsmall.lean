/-
  The laws' small case comes out right.
-/
import Derived.Test.YtdobpicamibgpaaLaw
namespace Go.Proofs.Ytdobpicamibgpaa
open Go.RowKit Go.Maps Go.Shelf
set_option linter.unusedVariables false
set_option linter.unusedSimpArgs false
attribute [local go_sem] Oper.semAt_some

set_option maxRecDepth 100000 in
set_option maxHeartbeats 8000000 in
theorem lsmall_any (w : World) : Calls Try.prog 9 #[] w fun e w' => e = .returned (.bool true) ∧ Below w.heap.size w w' := by
  go_enter Try.func9, Try.ntmps9
  go_wp2_with fail
  refine (lnew_any w).mono ?_
  rintro y w1 ⟨p, b, rfl, M, hp_M, hb_M, hb⟩
  have hB1 := hb
  clear hb
  go_wp2_with fail
  refine (ledge_any 9 w1).mono ?_
  rintro y w2 ⟨rfl, hb⟩
  have M := M.on hb
  have hB2 := bltB hB1 hB1.size hb
  clear hb hB1
  simp only [Ed.v, Ed.cs]
  go_wp2_with fail
  obtain ⟨w3, hw3⟩ : ∃ W, W = w2.alloc (.cells #[.int .i64 1, .int .i64 2, .int .i64 3, .int .i64 9, .int .i64 0, .int .i64 0, .int .i64 0, .int .i64 0, .int .i64 0] 26) := ⟨_, rfl⟩
  obtain ⟨Ge, hGe⟩ : ∃ G, w2.heap.size = G := ⟨_, rfl⟩
  have ha : Below w2.heap.size w2 w3 := by rw [hw3]; exact (Below.refl _ _).alloc (Nat.le_refl _) _
  have je : Blk w3 Ge 26 #[.int .i64 1, .int .i64 2, .int .i64 3, .int .i64 9, .int .i64 0, .int .i64 0, .int .i64 0, .int .i64 0, .int .i64 0] := by rw [hw3, ← hGe]; exact Blk.new w2 _ _
  rw [← hw3]
  simp only [hGe]
  clear hw3 hGe
  have M := M.on ha
  have hB3 := bltB hB2 hB2.size ha
  clear ha hB2
  refine (odds_ok w3 p b 0 [] M Good.nil ⟨1, 2, 3, 9, 0, 0, 0, 0, 0⟩ 5 (by decide)).mono ?_
  rintro y w4 ⟨A_a, n_a, c_a, B_a, m_a, d_a, rfl, r_a, t_a, l_a, hb⟩
  have M := M.on hb
  have je := je.below hb je.lt
  have hB4 := bltB hB3 hB3.size hb
  clear hb hB3
  have q_je_0 := je.cell 0
  have q_je_1 := je.cell 1
  have q_je_2 := je.cell 2
  have q_je_3 := je.cell 3
  have q_je_4 := je.cell 4
  have q_je_5 := je.cell 5
  have q_je_6 := je.cell 6
  have q_je_7 := je.cell 7
  have q_je_8 := je.cell 8
  have q_je_l := je.lt
  go_wp2_with fail
  clear q_je_0 q_je_1 q_je_2 q_je_3 q_je_4 q_je_5 q_je_6 q_je_7 q_je_8 q_je_l
  obtain ⟨w5, hw5⟩ : ∃ W, W = w4.alloc (.cells #[.slice A_a n_a c_a, .slice B_a m_a d_a] 42) := ⟨_, rfl⟩
  obtain ⟨G_a, hG_a⟩ : ∃ G, w4.heap.size = G := ⟨_, rfl⟩
  have ha : Below w4.heap.size w4 w5 := by rw [hw5]; exact (Below.refl _ _).alloc (Nat.le_refl _) _
  have k_a : Blk w5 G_a 42 #[.slice A_a n_a c_a, .slice B_a m_a d_a] := by rw [hw5, ← hG_a]; exact Blk.new w4 _ _
  rw [← hw5]
  simp only [hG_a]
  clear hw5 hG_a
  have M := M.on ha
  have je := je.below ha je.lt
  have r_a := r_a.on ha
  have t_a := t_a.on ha
  have hB5 := bltB hB4 hB4.size ha
  clear ha hB4
  refine (failed_any w5 p b 0 [] M Good.nil (by omega) ⟨1, 2, 3, 9, 0, 0, 0, 0, 0⟩ 8).mono ?_
  rintro y w6 ⟨rfl, hM1, hg⟩
  have je := je.grownM M hg
  have r_a := r_a.grownM M hg
  have t_a := t_a.grownM M hg
  have k_a := k_a.grownM M hg
  have hB6 := Below.grownM hB5 hg hB5.size hb_M
  have M := hM1
  clear hg hM1 hB5
  have q_je_0 := je.cell 0
  have q_je_1 := je.cell 1
  have q_je_2 := je.cell 2
  have q_je_3 := je.cell 3
  have q_je_4 := je.cell 4
  have q_je_5 := je.cell 5
  have q_je_6 := je.cell 6
  have q_je_7 := je.cell 7
  have q_je_8 := je.cell 8
  have q_je_l := je.lt
  go_wp2_with fail
  clear q_je_0 q_je_1 q_je_2 q_je_3 q_je_4 q_je_5 q_je_6 q_je_7 q_je_8 q_je_l
  refine (odds_ok w6 p b (0 + 1) (failL [] (Ed.e4 ⟨1, 2, 3, 9, 0, 0, 0, 0, 0⟩) 8) M ((Good.nil : Good []).fail (Ed.e4 ⟨1, 2, 3, 9, 0, 0, 0, 0, 0⟩) 8) ⟨1, 2, 3, 9, 0, 0, 0, 0, 0⟩ 5 (by decide)).mono ?_
  rintro y w7 ⟨A_b, n_b, c_b, B_b, m_b, d_b, rfl, r_b, t_b, l_b, hb⟩
  have M := M.on hb
  have je := je.below hb je.lt
  have r_a := r_a.on hb
  have t_a := t_a.on hb
  have k_a := k_a.below hb k_a.lt
  have hB7 := bltB hB6 hB6.size hb
  clear hb hB6
  have q_je_0 := je.cell 0
  have q_je_1 := je.cell 1
  have q_je_2 := je.cell 2
  have q_je_3 := je.cell 3
  have q_je_4 := je.cell 4
  have q_je_5 := je.cell 5
  have q_je_6 := je.cell 6
  have q_je_7 := je.cell 7
  have q_je_8 := je.cell 8
  have q_je_l := je.lt
  go_wp2_with fail
  clear q_je_0 q_je_1 q_je_2 q_je_3 q_je_4 q_je_5 q_je_6 q_je_7 q_je_8 q_je_l
  obtain ⟨w8, hw8⟩ : ∃ W, W = w7.alloc (.cells #[.slice A_b n_b c_b, .slice B_b m_b d_b] 42) := ⟨_, rfl⟩
  obtain ⟨G_b, hG_b⟩ : ∃ G, w7.heap.size = G := ⟨_, rfl⟩
  have ha : Below w7.heap.size w7 w8 := by rw [hw8]; exact (Below.refl _ _).alloc (Nat.le_refl _) _
  have k_b : Blk w8 G_b 42 #[.slice A_b n_b c_b, .slice B_b m_b d_b] := by rw [hw8, ← hG_b]; exact Blk.new w7 _ _
  rw [← hw8]
  simp only [hG_b]
  clear hw8 hG_b
  have M := M.on ha
  have je := je.below ha je.lt
  have r_a := r_a.on ha
  have t_a := t_a.on ha
  have k_a := k_a.below ha k_a.lt
  have r_b := r_b.on ha
  have t_b := t_b.on ha
  have hB8 := bltB hB7 hB7.size ha
  clear ha hB7
  refine (passed_any w8 p b (0 + 1) (failL [] (Ed.e4 ⟨1, 2, 3, 9, 0, 0, 0, 0, 0⟩) 8) M ((Good.nil : Good []).fail (Ed.e4 ⟨1, 2, 3, 9, 0, 0, 0, 0, 0⟩) 8) (by omega) ⟨1, 2, 3, 9, 0, 0, 0, 0, 0⟩ 4).mono ?_
  rintro y w9 ⟨rfl, hM1, hg⟩
  have je := je.grownM M hg
  have r_a := r_a.grownM M hg
  have t_a := t_a.grownM M hg
  have k_a := k_a.grownM M hg
  have r_b := r_b.grownM M hg
  have t_b := t_b.grownM M hg
  have k_b := k_b.grownM M hg
  have hB9 := Below.grownM hB8 hg hB8.size hb_M
  have M := hM1
  clear hg hM1 hB8
  have q_je_0 := je.cell 0
  have q_je_1 := je.cell 1
  have q_je_2 := je.cell 2
  have q_je_3 := je.cell 3
  have q_je_4 := je.cell 4
  have q_je_5 := je.cell 5
  have q_je_6 := je.cell 6
  have q_je_7 := je.cell 7
  have q_je_8 := je.cell 8
  have q_je_l := je.lt
  go_wp2_with fail
  clear q_je_0 q_je_1 q_je_2 q_je_3 q_je_4 q_je_5 q_je_6 q_je_7 q_je_8 q_je_l
  refine (odds_ok w9 p b ((0 + 1) + 1) (passL (failL [] (Ed.e4 ⟨1, 2, 3, 9, 0, 0, 0, 0, 0⟩) 8) (Ed.e4 ⟨1, 2, 3, 9, 0, 0, 0, 0, 0⟩) 4) M ((((Good.nil : Good []).fail (Ed.e4 ⟨1, 2, 3, 9, 0, 0, 0, 0, 0⟩) 8) : Good (failL [] (Ed.e4 ⟨1, 2, 3, 9, 0, 0, 0, 0, 0⟩) 8)).pass (Ed.e4 ⟨1, 2, 3, 9, 0, 0, 0, 0, 0⟩) 4) ⟨1, 2, 3, 9, 0, 0, 0, 0, 0⟩ 5 (by decide)).mono ?_
  rintro y w10 ⟨A_c, n_c, c_c, B_c, m_c, d_c, rfl, r_c, t_c, l_c, hb⟩
  have M := M.on hb
  have je := je.below hb je.lt
  have r_a := r_a.on hb
  have t_a := t_a.on hb
  have k_a := k_a.below hb k_a.lt
  have r_b := r_b.on hb
  have t_b := t_b.on hb
  have k_b := k_b.below hb k_b.lt
  have hB10 := bltB hB9 hB9.size hb
  clear hb hB9
  have q_je_0 := je.cell 0
  have q_je_1 := je.cell 1
  have q_je_2 := je.cell 2
  have q_je_3 := je.cell 3
  have q_je_4 := je.cell 4
  have q_je_5 := je.cell 5
  have q_je_6 := je.cell 6
  have q_je_7 := je.cell 7
  have q_je_8 := je.cell 8
  have q_je_l := je.lt
  go_wp2_with fail
  clear q_je_0 q_je_1 q_je_2 q_je_3 q_je_4 q_je_5 q_je_6 q_je_7 q_je_8 q_je_l
  obtain ⟨w11, hw11⟩ : ∃ W, W = w10.alloc (.cells #[.slice A_c n_c c_c, .slice B_c m_c d_c] 42) := ⟨_, rfl⟩
  obtain ⟨G_c, hG_c⟩ : ∃ G, w10.heap.size = G := ⟨_, rfl⟩
  have ha : Below w10.heap.size w10 w11 := by rw [hw11]; exact (Below.refl _ _).alloc (Nat.le_refl _) _
  have k_c : Blk w11 G_c 42 #[.slice A_c n_c c_c, .slice B_c m_c d_c] := by rw [hw11, ← hG_c]; exact Blk.new w10 _ _
  rw [← hw11]
  simp only [hG_c]
  clear hw11 hG_c
  have M := M.on ha
  have je := je.below ha je.lt
  have r_a := r_a.on ha
  have t_a := t_a.on ha
  have k_a := k_a.below ha k_a.lt
  have r_b := r_b.on ha
  have t_b := t_b.on ha
  have k_b := k_b.below ha k_b.lt
  have r_c := r_c.on ha
  have t_c := t_c.on ha
  have hB11 := bltB hB10 hB10.size ha
  clear ha hB10
  refine (odds_ok w11 p b ((0 + 1) + 1) (passL (failL [] (Ed.e4 ⟨1, 2, 3, 9, 0, 0, 0, 0, 0⟩) 8) (Ed.e4 ⟨1, 2, 3, 9, 0, 0, 0, 0, 0⟩) 4) M ((((Good.nil : Good []).fail (Ed.e4 ⟨1, 2, 3, 9, 0, 0, 0, 0, 0⟩) 8) : Good (failL [] (Ed.e4 ⟨1, 2, 3, 9, 0, 0, 0, 0, 0⟩) 8)).pass (Ed.e4 ⟨1, 2, 3, 9, 0, 0, 0, 0, 0⟩) 4) ⟨1, 2, 3, 9, 0, 0, 0, 0, 0⟩ 8 (by decide)).mono ?_
  rintro y w12 ⟨A_d, n_d, c_d, B_d, m_d, d_d, rfl, r_d, t_d, l_d, hb⟩
  have M := M.on hb
  have je := je.below hb je.lt
  have r_a := r_a.on hb
  have t_a := t_a.on hb
  have k_a := k_a.below hb k_a.lt
  have r_b := r_b.on hb
  have t_b := t_b.on hb
  have k_b := k_b.below hb k_b.lt
  have r_c := r_c.on hb
  have t_c := t_c.on hb
  have k_c := k_c.below hb k_c.lt
  have hB12 := bltB hB11 hB11.size hb
  clear hb hB11
  have q_je_0 := je.cell 0
  have q_je_1 := je.cell 1
  have q_je_2 := je.cell 2
  have q_je_3 := je.cell 3
  have q_je_4 := je.cell 4
  have q_je_5 := je.cell 5
  have q_je_6 := je.cell 6
  have q_je_7 := je.cell 7
  have q_je_8 := je.cell 8
  have q_je_l := je.lt
  go_wp2_with fail
  clear q_je_0 q_je_1 q_je_2 q_je_3 q_je_4 q_je_5 q_je_6 q_je_7 q_je_8 q_je_l
  obtain ⟨w13, hw13⟩ : ∃ W, W = w12.alloc (.cells #[.slice A_d n_d c_d, .slice B_d m_d d_d] 42) := ⟨_, rfl⟩
  obtain ⟨G_d, hG_d⟩ : ∃ G, w12.heap.size = G := ⟨_, rfl⟩
  have ha : Below w12.heap.size w12 w13 := by rw [hw13]; exact (Below.refl _ _).alloc (Nat.le_refl _) _
  have k_d : Blk w13 G_d 42 #[.slice A_d n_d c_d, .slice B_d m_d d_d] := by rw [hw13, ← hG_d]; exact Blk.new w12 _ _
  rw [← hw13]
  simp only [hG_d]
  clear hw13 hG_d
  have M := M.on ha
  have je := je.below ha je.lt
  have r_a := r_a.on ha
  have t_a := t_a.on ha
  have k_a := k_a.below ha k_a.lt
  have r_b := r_b.on ha
  have t_b := t_b.on ha
  have k_b := k_b.below ha k_b.lt
  have r_c := r_c.on ha
  have t_c := t_c.on ha
  have k_c := k_c.below ha k_c.lt
  have r_d := r_d.on ha
  have t_d := t_d.on ha
  have hB13 := bltB hB12 hB12.size ha
  clear ha hB12
  refine (odds_ok w13 p b ((0 + 1) + 1) (passL (failL [] (Ed.e4 ⟨1, 2, 3, 9, 0, 0, 0, 0, 0⟩) 8) (Ed.e4 ⟨1, 2, 3, 9, 0, 0, 0, 0, 0⟩) 4) M ((((Good.nil : Good []).fail (Ed.e4 ⟨1, 2, 3, 9, 0, 0, 0, 0, 0⟩) 8) : Good (failL [] (Ed.e4 ⟨1, 2, 3, 9, 0, 0, 0, 0, 0⟩) 8)).pass (Ed.e4 ⟨1, 2, 3, 9, 0, 0, 0, 0, 0⟩) 4) ⟨1, 2, 3, 9, 0, 0, 0, 0, 0⟩ 4 (by decide)).mono ?_
  rintro y w14 ⟨A_f, n_f, c_f, B_f, m_f, d_f, rfl, r_f, t_f, l_f, hb⟩
  have M := M.on hb
  have je := je.below hb je.lt
  have r_a := r_a.on hb
  have t_a := t_a.on hb
  have k_a := k_a.below hb k_a.lt
  have r_b := r_b.on hb
  have t_b := t_b.on hb
  have k_b := k_b.below hb k_b.lt
  have r_c := r_c.on hb
  have t_c := t_c.on hb
  have k_c := k_c.below hb k_c.lt
  have r_d := r_d.on hb
  have t_d := t_d.on hb
  have k_d := k_d.below hb k_d.lt
  have hB14 := bltB hB13 hB13.size hb
  clear hb hB13
  have q_je_0 := je.cell 0
  have q_je_1 := je.cell 1
  have q_je_2 := je.cell 2
  have q_je_3 := je.cell 3
  have q_je_4 := je.cell 4
  have q_je_5 := je.cell 5
  have q_je_6 := je.cell 6
  have q_je_7 := je.cell 7
  have q_je_8 := je.cell 8
  have q_je_l := je.lt
  go_wp2_with fail
  clear q_je_0 q_je_1 q_je_2 q_je_3 q_je_4 q_je_5 q_je_6 q_je_7 q_je_8 q_je_l
  obtain ⟨w15, hw15⟩ : ∃ W, W = w14.alloc (.cells #[.slice A_f n_f c_f, .slice B_f m_f d_f] 42) := ⟨_, rfl⟩
  obtain ⟨G_f, hG_f⟩ : ∃ G, w14.heap.size = G := ⟨_, rfl⟩
  have ha : Below w14.heap.size w14 w15 := by rw [hw15]; exact (Below.refl _ _).alloc (Nat.le_refl _) _
  have k_f : Blk w15 G_f 42 #[.slice A_f n_f c_f, .slice B_f m_f d_f] := by rw [hw15, ← hG_f]; exact Blk.new w14 _ _
  rw [← hw15]
  simp only [hG_f]
  clear hw15 hG_f
  have M := M.on ha
  have je := je.below ha je.lt
  have r_a := r_a.on ha
  have t_a := t_a.on ha
  have k_a := k_a.below ha k_a.lt
  have r_b := r_b.on ha
  have t_b := t_b.on ha
  have k_b := k_b.below ha k_b.lt
  have r_c := r_c.on ha
  have t_c := t_c.on ha
  have k_c := k_c.below ha k_c.lt
  have r_d := r_d.on ha
  have t_d := t_d.on ha
  have k_d := k_d.below ha k_d.lt
  have r_f := r_f.on ha
  have t_f := t_f.on ha
  have hB15 := bltB hB14 hB14.size ha
  clear ha hB14
  refine (bounds_any w15 p b ((0 + 1) + 1) (passL (failL [] (Ed.e4 ⟨1, 2, 3, 9, 0, 0, 0, 0, 0⟩) 8) (Ed.e4 ⟨1, 2, 3, 9, 0, 0, 0, 0, 0⟩) 4) M ((((Good.nil : Good []).fail (Ed.e4 ⟨1, 2, 3, 9, 0, 0, 0, 0, 0⟩) 8) : Good (failL [] (Ed.e4 ⟨1, 2, 3, 9, 0, 0, 0, 0, 0⟩) 8)).pass (Ed.e4 ⟨1, 2, 3, 9, 0, 0, 0, 0, 0⟩) 4) ⟨1, 2, 3, 9, 0, 0, 0, 0, 0⟩).mono ?_
  rintro y w16 ⟨rfl, hb⟩
  have M := M.on hb
  have je := je.below hb je.lt
  have r_a := r_a.on hb
  have t_a := t_a.on hb
  have k_a := k_a.below hb k_a.lt
  have r_b := r_b.on hb
  have t_b := t_b.on hb
  have k_b := k_b.below hb k_b.lt
  have r_c := r_c.on hb
  have t_c := t_c.on hb
  have k_c := k_c.below hb k_c.lt
  have r_d := r_d.on hb
  have t_d := t_d.on hb
  have k_d := k_d.below hb k_d.lt
  have r_f := r_f.on hb
  have t_f := t_f.on hb
  have k_f := k_f.below hb k_f.lt
  have hB16 := bltB hB15 hB15.size hb
  clear hb hB15
  rw [show bnd (passL (failL [] (Ed.e4 ⟨1, 2, 3, 9, 0, 0, 0, 0, 0⟩) 8) (Ed.e4 ⟨1, 2, 3, 9, 0, 0, 0, 0, 0⟩) 4) (Ed.e4 ⟨1, 2, 3, 9, 0, 0, 0, 0, 0⟩) = (4, 8) from by decide]
  have q_je_0 := je.cell 0
  have q_je_1 := je.cell 1
  have q_je_2 := je.cell 2
  have q_je_3 := je.cell 3
  have q_je_4 := je.cell 4
  have q_je_5 := je.cell 5
  have q_je_6 := je.cell 6
  have q_je_7 := je.cell 7
  have q_je_8 := je.cell 8
  have q_je_l := je.lt
  go_wp2_with fail
  clear q_je_0 q_je_1 q_je_2 q_je_3 q_je_4 q_je_5 q_je_6 q_je_7 q_je_8 q_je_l
  refine (odds_no w16 p b ((0 + 1) + 1) (passL (failL [] (Ed.e4 ⟨1, 2, 3, 9, 0, 0, 0, 0, 0⟩) 8) (Ed.e4 ⟨1, 2, 3, 9, 0, 0, 0, 0, 0⟩) 4) M ((((Good.nil : Good []).fail (Ed.e4 ⟨1, 2, 3, 9, 0, 0, 0, 0, 0⟩) 8) : Good (failL [] (Ed.e4 ⟨1, 2, 3, 9, 0, 0, 0, 0, 0⟩) 8)).pass (Ed.e4 ⟨1, 2, 3, 9, 0, 0, 0, 0, 0⟩) 4) ⟨1, 2, 3, 9, 0, 0, 0, 0, 0⟩ 10 (by decide)).mono ?_
  rintro y w17 ⟨A_z, n_z, c_z, B_z, m_z, d_z, rfl, r_z, t_z, l_z, hb⟩
  have M := M.on hb
  have je := je.below hb je.lt
  have r_a := r_a.on hb
  have t_a := t_a.on hb
  have k_a := k_a.below hb k_a.lt
  have r_b := r_b.on hb
  have t_b := t_b.on hb
  have k_b := k_b.below hb k_b.lt
  have r_c := r_c.on hb
  have t_c := t_c.on hb
  have k_c := k_c.below hb k_c.lt
  have r_d := r_d.on hb
  have t_d := t_d.on hb
  have k_d := k_d.below hb k_d.lt
  have r_f := r_f.on hb
  have t_f := t_f.on hb
  have k_f := k_f.below hb k_f.lt
  have hB17 := bltB hB16 hB16.size hb
  clear hb hB16
  have q_je_0 := je.cell 0
  have q_je_1 := je.cell 1
  have q_je_2 := je.cell 2
  have q_je_3 := je.cell 3
  have q_je_4 := je.cell 4
  have q_je_5 := je.cell 5
  have q_je_6 := je.cell 6
  have q_je_7 := je.cell 7
  have q_je_8 := je.cell 8
  have q_je_l := je.lt
  go_wp2_with fail
  clear q_je_0 q_je_1 q_je_2 q_je_3 q_je_4 q_je_5 q_je_6 q_je_7 q_je_8 q_je_l
  obtain ⟨w18, hw18⟩ : ∃ W, W = w17.alloc (.cells #[.slice A_z n_z c_z, .slice B_z m_z d_z] 42) := ⟨_, rfl⟩
  obtain ⟨G_z, hG_z⟩ : ∃ G, w17.heap.size = G := ⟨_, rfl⟩
  have ha : Below w17.heap.size w17 w18 := by rw [hw18]; exact (Below.refl _ _).alloc (Nat.le_refl _) _
  have k_z : Blk w18 G_z 42 #[.slice A_z n_z c_z, .slice B_z m_z d_z] := by rw [hw18, ← hG_z]; exact Blk.new w17 _ _
  rw [← hw18]
  simp only [hG_z]
  clear hw18 hG_z
  have M := M.on ha
  have je := je.below ha je.lt
  have r_a := r_a.on ha
  have t_a := t_a.on ha
  have k_a := k_a.below ha k_a.lt
  have r_b := r_b.on ha
  have t_b := t_b.on ha
  have k_b := k_b.below ha k_b.lt
  have r_c := r_c.on ha
  have t_c := t_c.on ha
  have k_c := k_c.below ha k_c.lt
  have r_d := r_d.on ha
  have t_d := t_d.on ha
  have k_d := k_d.below ha k_d.lt
  have r_f := r_f.on ha
  have t_f := t_f.on ha
  have k_f := k_f.below ha k_f.lt
  have r_z := r_z.on ha
  have t_z := t_z.on ha
  have hB18 := bltB hB17 hB17.size ha
  clear ha hB17
  refine (copy_any w18 p b ((0 + 1) + 1) (passL (failL [] (Ed.e4 ⟨1, 2, 3, 9, 0, 0, 0, 0, 0⟩) 8) (Ed.e4 ⟨1, 2, 3, 9, 0, 0, 0, 0, 0⟩) 4) M).mono ?_
  rintro y w19 ⟨p2, b2, rfl, N, hp_N, hb_N, hb⟩
  have hne_N_M : b2 ≠ b := by have := M.lt; omega
  have hne_M_N : b ≠ b2 := fun e => hne_N_M e.symm
  have hb_N := Nat.le_trans hB18.size hb_N
  have M := M.on hb
  have je := je.below hb je.lt
  have r_a := r_a.on hb
  have t_a := t_a.on hb
  have k_a := k_a.below hb k_a.lt
  have r_b := r_b.on hb
  have t_b := t_b.on hb
  have k_b := k_b.below hb k_b.lt
  have r_c := r_c.on hb
  have t_c := t_c.on hb
  have k_c := k_c.below hb k_c.lt
  have r_d := r_d.on hb
  have t_d := t_d.on hb
  have k_d := k_d.below hb k_d.lt
  have r_f := r_f.on hb
  have t_f := t_f.on hb
  have k_f := k_f.below hb k_f.lt
  have hB19 := bltB hB18 hB18.size hb
  clear hb hB18
  have q_je_0 := je.cell 0
  have q_je_1 := je.cell 1
  have q_je_2 := je.cell 2
  have q_je_3 := je.cell 3
  have q_je_4 := je.cell 4
  have q_je_5 := je.cell 5
  have q_je_6 := je.cell 6
  have q_je_7 := je.cell 7
  have q_je_8 := je.cell 8
  have q_je_l := je.lt
  go_wp2_with fail
  clear q_je_0 q_je_1 q_je_2 q_je_3 q_je_4 q_je_5 q_je_6 q_je_7 q_je_8 q_je_l
  refine (moved_any w19 p2 b2 ((0 + 1) + 1) (passL (failL [] (Ed.e4 ⟨1, 2, 3, 9, 0, 0, 0, 0, 0⟩) 8) (Ed.e4 ⟨1, 2, 3, 9, 0, 0, 0, 0, 0⟩) 4) N ((((Good.nil : Good []).fail (Ed.e4 ⟨1, 2, 3, 9, 0, 0, 0, 0, 0⟩) 8) : Good (failL [] (Ed.e4 ⟨1, 2, 3, 9, 0, 0, 0, 0, 0⟩) 8)).pass (Ed.e4 ⟨1, 2, 3, 9, 0, 0, 0, 0, 0⟩) 4) (by omega) ⟨1, 2, 3, 9, 0, 0, 0, 0, 0⟩ 3).mono ?_
  rintro y w20 ⟨rfl, hM1, hg⟩
  have M := M.grownM N hg hne_M_N
  have je := je.grownM N hg
  have r_a := r_a.grownM N hg
  have t_a := t_a.grownM N hg
  have k_a := k_a.grownM N hg
  have r_b := r_b.grownM N hg
  have t_b := t_b.grownM N hg
  have k_b := k_b.grownM N hg
  have r_c := r_c.grownM N hg
  have t_c := t_c.grownM N hg
  have k_c := k_c.grownM N hg
  have r_d := r_d.grownM N hg
  have t_d := t_d.grownM N hg
  have k_d := k_d.grownM N hg
  have r_f := r_f.grownM N hg
  have t_f := t_f.grownM N hg
  have k_f := k_f.grownM N hg
  have hB20 := Below.grownM hB19 hg hB19.size hb_N
  have N := hM1
  clear hg hM1 hB19
  have q_je_0 := je.cell 0
  have q_je_1 := je.cell 1
  have q_je_2 := je.cell 2
  have q_je_3 := je.cell 3
  have q_je_4 := je.cell 4
  have q_je_5 := je.cell 5
  have q_je_6 := je.cell 6
  have q_je_7 := je.cell 7
  have q_je_8 := je.cell 8
  have q_je_l := je.lt
  go_wp2_with fail
  clear q_je_0 q_je_1 q_je_2 q_je_3 q_je_4 q_je_5 q_je_6 q_je_7 q_je_8 q_je_l
  refine (bounds_any w20 p2 b2 (((0 + 1) + 1) + 2) (moveL (passL (failL [] (Ed.e4 ⟨1, 2, 3, 9, 0, 0, 0, 0, 0⟩) 8) (Ed.e4 ⟨1, 2, 3, 9, 0, 0, 0, 0, 0⟩) 4) (Ed.e4 ⟨1, 2, 3, 9, 0, 0, 0, 0, 0⟩) 3) N ((((((Good.nil : Good []).fail (Ed.e4 ⟨1, 2, 3, 9, 0, 0, 0, 0, 0⟩) 8) : Good (failL [] (Ed.e4 ⟨1, 2, 3, 9, 0, 0, 0, 0, 0⟩) 8)).pass (Ed.e4 ⟨1, 2, 3, 9, 0, 0, 0, 0, 0⟩) 4) : Good (passL (failL [] (Ed.e4 ⟨1, 2, 3, 9, 0, 0, 0, 0, 0⟩) 8) (Ed.e4 ⟨1, 2, 3, 9, 0, 0, 0, 0, 0⟩) 4)).move (Ed.e4 ⟨1, 2, 3, 9, 0, 0, 0, 0, 0⟩) 3) ⟨1, 2, 3, 9, 0, 0, 0, 0, 0⟩).mono ?_
  rintro y w21 ⟨rfl, hb⟩
  have M := M.on hb
  have je := je.below hb je.lt
  have r_a := r_a.on hb
  have t_a := t_a.on hb
  have k_a := k_a.below hb k_a.lt
  have r_b := r_b.on hb
  have t_b := t_b.on hb
  have k_b := k_b.below hb k_b.lt
  have r_c := r_c.on hb
  have t_c := t_c.on hb
  have k_c := k_c.below hb k_c.lt
  have r_d := r_d.on hb
  have t_d := t_d.on hb
  have k_d := k_d.below hb k_d.lt
  have r_f := r_f.on hb
  have t_f := t_f.on hb
  have k_f := k_f.below hb k_f.lt
  have N := N.on hb
  have hB21 := bltB hB20 hB20.size hb
  clear hb hB20
  rw [show bnd (moveL (passL (failL [] (Ed.e4 ⟨1, 2, 3, 9, 0, 0, 0, 0, 0⟩) 8) (Ed.e4 ⟨1, 2, 3, 9, 0, 0, 0, 0, 0⟩) 4) (Ed.e4 ⟨1, 2, 3, 9, 0, 0, 0, 0, 0⟩) 3) (Ed.e4 ⟨1, 2, 3, 9, 0, 0, 0, 0, 0⟩) = (1, 5) from by decide]
  have q_je_0 := je.cell 0
  have q_je_1 := je.cell 1
  have q_je_2 := je.cell 2
  have q_je_3 := je.cell 3
  have q_je_4 := je.cell 4
  have q_je_5 := je.cell 5
  have q_je_6 := je.cell 6
  have q_je_7 := je.cell 7
  have q_je_8 := je.cell 8
  have q_je_l := je.lt
  go_wp2_with fail
  clear q_je_0 q_je_1 q_je_2 q_je_3 q_je_4 q_je_5 q_je_6 q_je_7 q_je_8 q_je_l
  refine (bounds_any w21 p2 b2 (((0 + 1) + 1) + 2) (moveL (passL (failL [] (Ed.e4 ⟨1, 2, 3, 9, 0, 0, 0, 0, 0⟩) 8) (Ed.e4 ⟨1, 2, 3, 9, 0, 0, 0, 0, 0⟩) 4) (Ed.e4 ⟨1, 2, 3, 9, 0, 0, 0, 0, 0⟩) 3) N ((((((Good.nil : Good []).fail (Ed.e4 ⟨1, 2, 3, 9, 0, 0, 0, 0, 0⟩) 8) : Good (failL [] (Ed.e4 ⟨1, 2, 3, 9, 0, 0, 0, 0, 0⟩) 8)).pass (Ed.e4 ⟨1, 2, 3, 9, 0, 0, 0, 0, 0⟩) 4) : Good (passL (failL [] (Ed.e4 ⟨1, 2, 3, 9, 0, 0, 0, 0, 0⟩) 8) (Ed.e4 ⟨1, 2, 3, 9, 0, 0, 0, 0, 0⟩) 4)).move (Ed.e4 ⟨1, 2, 3, 9, 0, 0, 0, 0, 0⟩) 3) ⟨2, 1, 3, 9, 0, 0, 0, 0, 0⟩).mono ?_
  rintro y w22 ⟨rfl, hb⟩
  have M := M.on hb
  have je := je.below hb je.lt
  have r_a := r_a.on hb
  have t_a := t_a.on hb
  have k_a := k_a.below hb k_a.lt
  have r_b := r_b.on hb
  have t_b := t_b.on hb
  have k_b := k_b.below hb k_b.lt
  have r_c := r_c.on hb
  have t_c := t_c.on hb
  have k_c := k_c.below hb k_c.lt
  have r_d := r_d.on hb
  have t_d := t_d.on hb
  have k_d := k_d.below hb k_d.lt
  have r_f := r_f.on hb
  have t_f := t_f.on hb
  have k_f := k_f.below hb k_f.lt
  have N := N.on hb
  have hB22 := bltB hB21 hB21.size hb
  clear hb hB21
  rw [show bnd (moveL (passL (failL [] (Ed.e4 ⟨1, 2, 3, 9, 0, 0, 0, 0, 0⟩) 8) (Ed.e4 ⟨1, 2, 3, 9, 0, 0, 0, 0, 0⟩) 4) (Ed.e4 ⟨1, 2, 3, 9, 0, 0, 0, 0, 0⟩) 3) (Ed.e4 ⟨2, 1, 3, 9, 0, 0, 0, 0, 0⟩) = (3, 10) from by decide]
  have q_je_0 := je.cell 0
  have q_je_1 := je.cell 1
  have q_je_2 := je.cell 2
  have q_je_3 := je.cell 3
  have q_je_4 := je.cell 4
  have q_je_5 := je.cell 5
  have q_je_6 := je.cell 6
  have q_je_7 := je.cell 7
  have q_je_8 := je.cell 8
  have q_je_l := je.lt
  go_wp2_with fail
  clear q_je_0 q_je_1 q_je_2 q_je_3 q_je_4 q_je_5 q_je_6 q_je_7 q_je_8 q_je_l
  refine (older_any w22 p b ((0 + 1) + 1) (passL (failL [] (Ed.e4 ⟨1, 2, 3, 9, 0, 0, 0, 0, 0⟩) 8) (Ed.e4 ⟨1, 2, 3, 9, 0, 0, 0, 0, 0⟩) 4) M ((((Good.nil : Good []).fail (Ed.e4 ⟨1, 2, 3, 9, 0, 0, 0, 0, 0⟩) 8) : Good (failL [] (Ed.e4 ⟨1, 2, 3, 9, 0, 0, 0, 0, 0⟩) 8)).pass (Ed.e4 ⟨1, 2, 3, 9, 0, 0, 0, 0, 0⟩) 4) (by omega) 2).mono ?_
  rintro y w23 ⟨rfl, hM1, hg⟩
  have je := je.grownM M hg
  have r_a := r_a.grownM M hg
  have t_a := t_a.grownM M hg
  have k_a := k_a.grownM M hg
  have r_b := r_b.grownM M hg
  have t_b := t_b.grownM M hg
  have k_b := k_b.grownM M hg
  have r_c := r_c.grownM M hg
  have t_c := t_c.grownM M hg
  have k_c := k_c.grownM M hg
  have r_d := r_d.grownM M hg
  have t_d := t_d.grownM M hg
  have k_d := k_d.grownM M hg
  have r_f := r_f.grownM M hg
  have t_f := t_f.grownM M hg
  have k_f := k_f.grownM M hg
  have N := N.grownM M hg hne_N_M
  have hB23 := Below.grownM hB22 hg hB22.size hb_M
  have M := hM1
  clear hg hM1 hB22
  have q_je_0 := je.cell 0
  have q_je_1 := je.cell 1
  have q_je_2 := je.cell 2
  have q_je_3 := je.cell 3
  have q_je_4 := je.cell 4
  have q_je_5 := je.cell 5
  have q_je_6 := je.cell 6
  have q_je_7 := je.cell 7
  have q_je_8 := je.cell 8
  have q_je_l := je.lt
  go_wp2_with fail
  clear q_je_0 q_je_1 q_je_2 q_je_3 q_je_4 q_je_5 q_je_6 q_je_7 q_je_8 q_je_l
  refine (bounds_any w23 p b ((0 + 1) + 1) (oldL (passL (failL [] (Ed.e4 ⟨1, 2, 3, 9, 0, 0, 0, 0, 0⟩) 8) (Ed.e4 ⟨1, 2, 3, 9, 0, 0, 0, 0, 0⟩) 4) 2) M ((((((Good.nil : Good []).fail (Ed.e4 ⟨1, 2, 3, 9, 0, 0, 0, 0, 0⟩) 8) : Good (failL [] (Ed.e4 ⟨1, 2, 3, 9, 0, 0, 0, 0, 0⟩) 8)).pass (Ed.e4 ⟨1, 2, 3, 9, 0, 0, 0, 0, 0⟩) 4) : Good (passL (failL [] (Ed.e4 ⟨1, 2, 3, 9, 0, 0, 0, 0, 0⟩) 8) (Ed.e4 ⟨1, 2, 3, 9, 0, 0, 0, 0, 0⟩) 4)).old 2) ⟨1, 2, 3, 9, 0, 0, 0, 0, 0⟩).mono ?_
  rintro y w24 ⟨rfl, hb⟩
  have M := M.on hb
  have je := je.below hb je.lt
  have r_a := r_a.on hb
  have t_a := t_a.on hb
  have k_a := k_a.below hb k_a.lt
  have r_b := r_b.on hb
  have t_b := t_b.on hb
  have k_b := k_b.below hb k_b.lt
  have r_c := r_c.on hb
  have t_c := t_c.on hb
  have k_c := k_c.below hb k_c.lt
  have r_d := r_d.on hb
  have t_d := t_d.on hb
  have k_d := k_d.below hb k_d.lt
  have r_f := r_f.on hb
  have t_f := t_f.on hb
  have k_f := k_f.below hb k_f.lt
  have N := N.on hb
  have hB24 := bltB hB23 hB23.size hb
  clear hb hB23
  rw [show bnd (oldL (passL (failL [] (Ed.e4 ⟨1, 2, 3, 9, 0, 0, 0, 0, 0⟩) 8) (Ed.e4 ⟨1, 2, 3, 9, 0, 0, 0, 0, 0⟩) 4) 2) (Ed.e4 ⟨1, 2, 3, 9, 0, 0, 0, 0, 0⟩) = (2, 9) from by decide]
  have q_k_a_0 := k_a.cell 0
  have q_k_a_1 := k_a.cell 1
  have q_k_a_l := k_a.lt
  have q_k_b_0 := k_b.cell 0
  have q_k_b_1 := k_b.cell 1
  have q_k_b_l := k_b.lt
  have q_k_c_0 := k_c.cell 0
  have q_k_c_1 := k_c.cell 1
  have q_k_c_l := k_c.lt
  have q_k_d_0 := k_d.cell 0
  have q_k_d_1 := k_d.cell 1
  have q_k_d_l := k_d.lt
  have q_k_f_0 := k_f.cell 0
  have q_k_f_1 := k_f.cell 1
  have q_k_f_l := k_f.lt
  go_wp2_with fail
  clear q_k_a_0 q_k_a_1 q_k_a_l q_k_b_0 q_k_b_1 q_k_b_l q_k_c_0 q_k_c_1 q_k_c_l q_k_d_0 q_k_d_1 q_k_d_l q_k_f_0 q_k_f_1 q_k_f_l
  refine (is_any w24 _ _ _ _ _ _ (oN [] (Ed.e4 ⟨1, 2, 3, 9, 0, 0, 0, 0, 0⟩) 5) (oD [] (Ed.e4 ⟨1, 2, 3, 9, 0, 0, 0, 0, 0⟩)) r_a t_a (by decide) (by omega) (by omega) 1 2 (by decide) (by decide) (by decide)).mono ?_
  rintro y w25 ⟨rfl, hb⟩
  have M := M.on hb
  have je := je.below hb je.lt
  have r_a := r_a.on hb
  have t_a := t_a.on hb
  have k_a := k_a.below hb k_a.lt
  have r_b := r_b.on hb
  have t_b := t_b.on hb
  have k_b := k_b.below hb k_b.lt
  have r_c := r_c.on hb
  have t_c := t_c.on hb
  have k_c := k_c.below hb k_c.lt
  have r_d := r_d.on hb
  have t_d := t_d.on hb
  have k_d := k_d.below hb k_d.lt
  have r_f := r_f.on hb
  have t_f := t_f.on hb
  have k_f := k_f.below hb k_f.lt
  have N := N.on hb
  have hB25 := bltB hB24 hB24.size hb
  clear hb hB24
  rw [show decide ((oN [] (Ed.e4 ⟨1, 2, 3, 9, 0, 0, 0, 0, 0⟩) 5) * 2 = 1 * (oD [] (Ed.e4 ⟨1, 2, 3, 9, 0, 0, 0, 0, 0⟩))) = true from by decide]
  have q_k_b_0 := k_b.cell 0
  have q_k_b_1 := k_b.cell 1
  have q_k_b_l := k_b.lt
  have q_k_c_0 := k_c.cell 0
  have q_k_c_1 := k_c.cell 1
  have q_k_c_l := k_c.lt
  have q_k_d_0 := k_d.cell 0
  have q_k_d_1 := k_d.cell 1
  have q_k_d_l := k_d.lt
  have q_k_f_0 := k_f.cell 0
  have q_k_f_1 := k_f.cell 1
  have q_k_f_l := k_f.lt
  go_wp2_with fail
  clear q_k_b_0 q_k_b_1 q_k_b_l q_k_c_0 q_k_c_1 q_k_c_l q_k_d_0 q_k_d_1 q_k_d_l q_k_f_0 q_k_f_1 q_k_f_l
  refine (is_any w25 _ _ _ _ _ _ (oN (failL [] (Ed.e4 ⟨1, 2, 3, 9, 0, 0, 0, 0, 0⟩) 8) (Ed.e4 ⟨1, 2, 3, 9, 0, 0, 0, 0, 0⟩) 5) (oD (failL [] (Ed.e4 ⟨1, 2, 3, 9, 0, 0, 0, 0, 0⟩) 8) (Ed.e4 ⟨1, 2, 3, 9, 0, 0, 0, 0, 0⟩)) r_b t_b (by decide) (by omega) (by omega) 3 8 (by decide) (by decide) (by decide)).mono ?_
  rintro y w26 ⟨rfl, hb⟩
  have M := M.on hb
  have je := je.below hb je.lt
  have r_b := r_b.on hb
  have t_b := t_b.on hb
  have k_b := k_b.below hb k_b.lt
  have r_c := r_c.on hb
  have t_c := t_c.on hb
  have k_c := k_c.below hb k_c.lt
  have r_d := r_d.on hb
  have t_d := t_d.on hb
  have k_d := k_d.below hb k_d.lt
  have r_f := r_f.on hb
  have t_f := t_f.on hb
  have k_f := k_f.below hb k_f.lt
  have N := N.on hb
  have hB26 := bltB hB25 hB25.size hb
  clear hb hB25
  rw [show decide ((oN (failL [] (Ed.e4 ⟨1, 2, 3, 9, 0, 0, 0, 0, 0⟩) 8) (Ed.e4 ⟨1, 2, 3, 9, 0, 0, 0, 0, 0⟩) 5) * 8 = 3 * (oD (failL [] (Ed.e4 ⟨1, 2, 3, 9, 0, 0, 0, 0, 0⟩) 8) (Ed.e4 ⟨1, 2, 3, 9, 0, 0, 0, 0, 0⟩))) = true from by decide]
  have q_k_c_0 := k_c.cell 0
  have q_k_c_1 := k_c.cell 1
  have q_k_c_l := k_c.lt
  have q_k_d_0 := k_d.cell 0
  have q_k_d_1 := k_d.cell 1
  have q_k_d_l := k_d.lt
  have q_k_f_0 := k_f.cell 0
  have q_k_f_1 := k_f.cell 1
  have q_k_f_l := k_f.lt
  go_wp2_with fail
  clear q_k_c_0 q_k_c_1 q_k_c_l q_k_d_0 q_k_d_1 q_k_d_l q_k_f_0 q_k_f_1 q_k_f_l
  refine (is_any w26 _ _ _ _ _ _ (oN (passL (failL [] (Ed.e4 ⟨1, 2, 3, 9, 0, 0, 0, 0, 0⟩) 8) (Ed.e4 ⟨1, 2, 3, 9, 0, 0, 0, 0, 0⟩) 4) (Ed.e4 ⟨1, 2, 3, 9, 0, 0, 0, 0, 0⟩) 5) (oD (passL (failL [] (Ed.e4 ⟨1, 2, 3, 9, 0, 0, 0, 0, 0⟩) 8) (Ed.e4 ⟨1, 2, 3, 9, 0, 0, 0, 0, 0⟩) 4) (Ed.e4 ⟨1, 2, 3, 9, 0, 0, 0, 0, 0⟩)) r_c t_c (by decide) (by omega) (by omega) 3 4 (by decide) (by decide) (by decide)).mono ?_
  rintro y w27 ⟨rfl, hb⟩
  have M := M.on hb
  have je := je.below hb je.lt
  have r_c := r_c.on hb
  have t_c := t_c.on hb
  have k_c := k_c.below hb k_c.lt
  have r_d := r_d.on hb
  have t_d := t_d.on hb
  have k_d := k_d.below hb k_d.lt
  have r_f := r_f.on hb
  have t_f := t_f.on hb
  have k_f := k_f.below hb k_f.lt
  have N := N.on hb
  have hB27 := bltB hB26 hB26.size hb
  clear hb hB26
  rw [show decide ((oN (passL (failL [] (Ed.e4 ⟨1, 2, 3, 9, 0, 0, 0, 0, 0⟩) 8) (Ed.e4 ⟨1, 2, 3, 9, 0, 0, 0, 0, 0⟩) 4) (Ed.e4 ⟨1, 2, 3, 9, 0, 0, 0, 0, 0⟩) 5) * 4 = 3 * (oD (passL (failL [] (Ed.e4 ⟨1, 2, 3, 9, 0, 0, 0, 0, 0⟩) 8) (Ed.e4 ⟨1, 2, 3, 9, 0, 0, 0, 0, 0⟩) 4) (Ed.e4 ⟨1, 2, 3, 9, 0, 0, 0, 0, 0⟩))) = true from by decide]
  have q_k_d_0 := k_d.cell 0
  have q_k_d_1 := k_d.cell 1
  have q_k_d_l := k_d.lt
  have q_k_f_0 := k_f.cell 0
  have q_k_f_1 := k_f.cell 1
  have q_k_f_l := k_f.lt
  go_wp2_with fail
  clear q_k_d_0 q_k_d_1 q_k_d_l q_k_f_0 q_k_f_1 q_k_f_l
  refine (is_any w27 _ _ _ _ _ _ (oN (passL (failL [] (Ed.e4 ⟨1, 2, 3, 9, 0, 0, 0, 0, 0⟩) 8) (Ed.e4 ⟨1, 2, 3, 9, 0, 0, 0, 0, 0⟩) 4) (Ed.e4 ⟨1, 2, 3, 9, 0, 0, 0, 0, 0⟩) 8) (oD (passL (failL [] (Ed.e4 ⟨1, 2, 3, 9, 0, 0, 0, 0, 0⟩) 8) (Ed.e4 ⟨1, 2, 3, 9, 0, 0, 0, 0, 0⟩) 4) (Ed.e4 ⟨1, 2, 3, 9, 0, 0, 0, 0, 0⟩)) r_d t_d (by decide) (by omega) (by omega) 0 1 (by decide) (by decide) (by decide)).mono ?_
  rintro y w28 ⟨rfl, hb⟩
  have M := M.on hb
  have je := je.below hb je.lt
  have r_d := r_d.on hb
  have t_d := t_d.on hb
  have k_d := k_d.below hb k_d.lt
  have r_f := r_f.on hb
  have t_f := t_f.on hb
  have k_f := k_f.below hb k_f.lt
  have N := N.on hb
  have hB28 := bltB hB27 hB27.size hb
  clear hb hB27
  rw [show decide ((oN (passL (failL [] (Ed.e4 ⟨1, 2, 3, 9, 0, 0, 0, 0, 0⟩) 8) (Ed.e4 ⟨1, 2, 3, 9, 0, 0, 0, 0, 0⟩) 4) (Ed.e4 ⟨1, 2, 3, 9, 0, 0, 0, 0, 0⟩) 8) * 1 = 0 * (oD (passL (failL [] (Ed.e4 ⟨1, 2, 3, 9, 0, 0, 0, 0, 0⟩) 8) (Ed.e4 ⟨1, 2, 3, 9, 0, 0, 0, 0, 0⟩) 4) (Ed.e4 ⟨1, 2, 3, 9, 0, 0, 0, 0, 0⟩))) = true from by decide]
  have q_k_f_0 := k_f.cell 0
  have q_k_f_1 := k_f.cell 1
  have q_k_f_l := k_f.lt
  go_wp2_with fail
  clear q_k_f_0 q_k_f_1 q_k_f_l
  refine (is_any w28 _ _ _ _ _ _ (oN (passL (failL [] (Ed.e4 ⟨1, 2, 3, 9, 0, 0, 0, 0, 0⟩) 8) (Ed.e4 ⟨1, 2, 3, 9, 0, 0, 0, 0, 0⟩) 4) (Ed.e4 ⟨1, 2, 3, 9, 0, 0, 0, 0, 0⟩) 4) (oD (passL (failL [] (Ed.e4 ⟨1, 2, 3, 9, 0, 0, 0, 0, 0⟩) 8) (Ed.e4 ⟨1, 2, 3, 9, 0, 0, 0, 0, 0⟩) 4) (Ed.e4 ⟨1, 2, 3, 9, 0, 0, 0, 0, 0⟩)) r_f t_f (by decide) (by omega) (by omega) 1 1 (by decide) (by decide) (by decide)).mono ?_
  rintro y w29 ⟨rfl, hb⟩
  have M := M.on hb
  have je := je.below hb je.lt
  have r_f := r_f.on hb
  have t_f := t_f.on hb
  have k_f := k_f.below hb k_f.lt
  have N := N.on hb
  have hB29 := bltB hB28 hB28.size hb
  clear hb hB28
  rw [show decide ((oN (passL (failL [] (Ed.e4 ⟨1, 2, 3, 9, 0, 0, 0, 0, 0⟩) 8) (Ed.e4 ⟨1, 2, 3, 9, 0, 0, 0, 0, 0⟩) 4) (Ed.e4 ⟨1, 2, 3, 9, 0, 0, 0, 0, 0⟩) 4) * 1 = 1 * (oD (passL (failL [] (Ed.e4 ⟨1, 2, 3, 9, 0, 0, 0, 0, 0⟩) 8) (Ed.e4 ⟨1, 2, 3, 9, 0, 0, 0, 0, 0⟩) 4) (Ed.e4 ⟨1, 2, 3, 9, 0, 0, 0, 0, 0⟩))) = true from by decide]
  go_wp2_with fail
  refine (known_any w29 p b ((0 + 1) + 1) (oldL (passL (failL [] (Ed.e4 ⟨1, 2, 3, 9, 0, 0, 0, 0, 0⟩) 8) (Ed.e4 ⟨1, 2, 3, 9, 0, 0, 0, 0, 0⟩) 4) 2) M).mono ?_
  rintro y w' ⟨rfl, rfl⟩
  rw [show ((oldL (passL (failL [] (Ed.e4 ⟨1, 2, 3, 9, 0, 0, 0, 0, 0⟩) 8) (Ed.e4 ⟨1, 2, 3, 9, 0, 0, 0, 0, 0⟩) 4) 2) : Notes).length = 1 from by decide]
  go_wp2_with fail
  refine (known_any w29 p2 b2 (((0 + 1) + 1) + 2) (moveL (passL (failL [] (Ed.e4 ⟨1, 2, 3, 9, 0, 0, 0, 0, 0⟩) 8) (Ed.e4 ⟨1, 2, 3, 9, 0, 0, 0, 0, 0⟩) 4) (Ed.e4 ⟨1, 2, 3, 9, 0, 0, 0, 0, 0⟩) 3) N).mono ?_
  rintro y w' ⟨rfl, rfl⟩
  rw [show ((moveL (passL (failL [] (Ed.e4 ⟨1, 2, 3, 9, 0, 0, 0, 0, 0⟩) 8) (Ed.e4 ⟨1, 2, 3, 9, 0, 0, 0, 0, 0⟩) 4) (Ed.e4 ⟨1, 2, 3, 9, 0, 0, 0, 0, 0⟩) 3) : Notes).length = 2 from by decide]
  go_wp2_with fail
  go_ret
  exact ⟨rfl, hB29⟩

end Go.Proofs.Ytdobpicamibgpaa
