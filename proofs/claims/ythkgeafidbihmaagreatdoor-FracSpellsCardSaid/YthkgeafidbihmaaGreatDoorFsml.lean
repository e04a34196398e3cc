/-
  The laws' small case.
-/
import Derived.Test.YthkgeafidbihmaaGreatDoorFracW
namespace Go.Proofs.YthkgeafidbihmaaGreatDoor
open Go.RowKit Go.Shelf
set_option linter.unusedVariables false
set_option linter.unusedSimpArgs false
attribute [local go_sem] Oper.semAt_some

theorem fq_zero : FQ [] [] 0 1 := ⟨rfl, by simp, by simp⟩
theorem dig1 {n : Nat} (h : n < 10) : Lib.decDigits n = [UInt8.ofNat (48 + n)] := Lib.decDigits_one h
theorem fpl_3 : fpl [51] = [3] := by
  show (if pok [51] then digs 3 else []) = [3]
  rw [if_pos (by decide), digs_pos (by decide), show 3 % 4294967296 = 3 by decide, show 3 / 4294967296 = 0 by decide, digs_zero]
theorem fpl_2 : fpl [50] = [2] := by
  show (if pok [50] then digs 2 else []) = [2]
  rw [if_pos (by decide), digs_pos (by decide), show 2 % 4294967296 = 2 by decide, show 2 / 4294967296 = 0 by decide, digs_zero]
theorem fpl_4 : fpl [52] = [4] := by
  show (if pok [52] then digs 4 else []) = [4]
  rw [if_pos (by decide), digs_pos (by decide), show 4 % 4294967296 = 4 by decide, show 4 / 4294967296 = 0 by decide, digs_zero]
theorem fpok_32 : fpok [51, 47, 50] = true := by
  unfold fpok
  rw [show fcN [51, 47, 50] = [51] by decide, show fcD [51, 47, 50] = [50] by decide, fpl_3, fpl_2, show frN [3] [2] = 3 by decide, show frD [3] [2] = 2 by decide]
  unfold fTxt
  rw [if_neg (by decide), dig1 (by decide), dig1 (by decide)]
  decide
theorem fpq_32 : fpq [51, 47, 50] = mkRat 3 2 := by
  unfold fpq
  rw [if_pos fpok_32, show fcN [51, 47, 50] = [51] by decide, show fcD [51, 47, 50] = [50] by decide, fpl_3, fpl_2]
  decide
theorem fpok_24 : fpok [50, 47, 52] = false := by
  unfold fpok
  rw [show fcN [50, 47, 52] = [50] by decide, show fcD [50, 47, 52] = [52] by decide, fpl_2, fpl_4, show frR [2] [4] = false by decide]
  decide
theorem qt {q : Rat} {N D : Nat} (h1 : rn q = N) (h2 : rd q = D) (hN : N < 10) (hD : D < 10) (h0 : D ≠ 1) : qTxt q = [UInt8.ofNat (48 + N), 47, UInt8.ofNat (48 + D)] := by
  unfold qTxt fTxt
  rw [h1, h2, if_neg h0, dig1 hN, dig1 hD]
  rfl
theorem qt_27 : qTxt (mkRat 27 8) = [50, 55, 47, 56] := by
  unfold qTxt fTxt
  rw [show rn (mkRat 27 8) = 27 by decide, show rd (mkRat 27 8) = 8 by decide, if_neg (by decide), dig1 (n := 8) (by decide), Lib.decDigits, dif_neg (by decide), show 27 / 10 = 2 by decide, dig1 (by decide)]
  rfl

set_option maxRecDepth 100000 in
set_option maxHeartbeats 4000000 in
theorem small_any (w : World) (hT : Tab w) : Calls Tryz.prog 4 #[] w fun e w' => e = .returned (.bool true) ∧ Below w.heap.size w w' := by
  have HT := Lib.hid hT
  clear hT
  go_enter Tryz.func4, Tryz.ntmps4
  go_wp2_with fail
  refine (fof_q w 6 4 (by decide) (by decide)).mono ?_
  rintro y w1 ⟨A_a, n_a, c_a, B_a, m_a, d_a, rfl, r_a, t_a, F_a, hb⟩
  rw [show decide (0 < 4) = true from rfl]
  have hB1 := hb
  clear hb
  rw [show mkRat ((6 : Nat) : Int) 4 = mkRat 6 4 from rfl] at r_a t_a F_a
  go_wp2_with fail
  obtain ⟨w2, hw2⟩ : ∃ W, W = w1.alloc (.cells #[.slice A_a n_a c_a, .slice B_a m_a d_a] 24) := ⟨_, rfl⟩
  obtain ⟨G_a, hG_a⟩ : ∃ G, w1.heap.size = G := ⟨_, rfl⟩
  have ha : Below w1.heap.size w1 w2 := by rw [hw2]; exact (Below.refl _ _).alloc (Nat.le_refl _) _
  have k_a : Blk w2 G_a 24 #[.slice A_a n_a c_a, .slice B_a m_a d_a] := by rw [hw2, ← hG_a]; exact Blk.new w1 _ _
  rw [← hw2]
  simp only [hG_a]
  clear hw2 hG_a
  replace r_a := r_a.on ha
  replace t_a := t_a.on ha
  have hB2 := bltB hB1 hB1.size ha
  clear ha hB1
  refine (fof_q w2 1 0 (by decide) (by decide)).mono ?_
  rintro y w3 ⟨A_z1, n_z1, c_z1, B_z1, m_z1, d_z1, rfl, r_z1, t_z1, F_z1, hb⟩
  rw [show decide (0 < 0) = false from rfl]
  replace r_a := r_a.on hb
  replace t_a := t_a.on hb
  replace k_a := k_a.below hb k_a.lt
  have hB3 := bltB hB2 hB2.size hb
  clear hb hB2
  go_wp2_with fail
  obtain ⟨w4, hw4⟩ : ∃ W, W = w3.alloc (.cells #[.slice A_z1 n_z1 c_z1, .slice B_z1 m_z1 d_z1] 24) := ⟨_, rfl⟩
  obtain ⟨G_z1, hG_z1⟩ : ∃ G, w3.heap.size = G := ⟨_, rfl⟩
  have ha : Below w3.heap.size w3 w4 := by rw [hw4]; exact (Below.refl _ _).alloc (Nat.le_refl _) _
  have k_z1 : Blk w4 G_z1 24 #[.slice A_z1 n_z1 c_z1, .slice B_z1 m_z1 d_z1] := by rw [hw4, ← hG_z1]; exact Blk.new w3 _ _
  rw [← hw4]
  simp only [hG_z1]
  clear hw4 hG_z1
  replace r_a := r_a.on ha
  replace t_a := t_a.on ha
  replace k_a := k_a.below ha k_a.lt
  replace r_z1 := r_z1.on ha
  replace t_z1 := t_z1.on ha
  have hB4 := bltB hB3 hB3.size ha
  clear ha hB3
  refine (fof_q w4 1 2 (by decide) (by decide)).mono ?_
  rintro y w5 ⟨A_b, n_b, c_b, B_b, m_b, d_b, rfl, r_b, t_b, F_b, hb⟩
  rw [show decide (0 < 2) = true from rfl]
  replace r_a := r_a.on hb
  replace t_a := t_a.on hb
  replace k_a := k_a.below hb k_a.lt
  have hB5 := bltB hB4 hB4.size hb
  clear hb hB4
  rw [show mkRat ((1 : Nat) : Int) 2 = mkRat 1 2 from rfl] at r_b t_b F_b
  go_wp2_with fail
  obtain ⟨w6, hw6⟩ : ∃ W, W = w5.alloc (.cells #[.slice A_b n_b c_b, .slice B_b m_b d_b] 24) := ⟨_, rfl⟩
  obtain ⟨G_b, hG_b⟩ : ∃ G, w5.heap.size = G := ⟨_, rfl⟩
  have ha : Below w5.heap.size w5 w6 := by rw [hw6]; exact (Below.refl _ _).alloc (Nat.le_refl _) _
  have k_b : Blk w6 G_b 24 #[.slice A_b n_b c_b, .slice B_b m_b d_b] := by rw [hw6, ← hG_b]; exact Blk.new w5 _ _
  rw [← hw6]
  simp only [hG_b]
  clear hw6 hG_b
  replace r_a := r_a.on ha
  replace t_a := t_a.on ha
  replace k_a := k_a.below ha k_a.lt
  replace r_b := r_b.on ha
  replace t_b := t_b.on ha
  have hB6 := bltB hB5 hB5.size ha
  clear ha hB5
  refine (fof_q w6 1 3 (by decide) (by decide)).mono ?_
  rintro y w7 ⟨A_c, n_c, c_c, B_c, m_c, d_c, rfl, r_c, t_c, F_c, hb⟩
  rw [show decide (0 < 3) = true from rfl]
  replace r_a := r_a.on hb
  replace t_a := t_a.on hb
  replace k_a := k_a.below hb k_a.lt
  replace r_b := r_b.on hb
  replace t_b := t_b.on hb
  replace k_b := k_b.below hb k_b.lt
  have hB7 := bltB hB6 hB6.size hb
  clear hb hB6
  rw [show mkRat ((1 : Nat) : Int) 3 = mkRat 1 3 from rfl] at r_c t_c F_c
  have q_k_b_0 := k_b.cell 0
  have q_k_b_1 := k_b.cell 1
  have q_k_b_l := k_b.lt
  go_wp2_with fail
  clear q_k_b_0 q_k_b_1 q_k_b_l
  obtain ⟨w8, hw8⟩ : ∃ W, W = w7.alloc (.cells #[.slice A_c n_c c_c, .slice B_c m_c d_c] 24) := ⟨_, rfl⟩
  obtain ⟨G_c, hG_c⟩ : ∃ G, w7.heap.size = G := ⟨_, rfl⟩
  have ha : Below w7.heap.size w7 w8 := by rw [hw8]; exact (Below.refl _ _).alloc (Nat.le_refl _) _
  have k_c : Blk w8 G_c 24 #[.slice A_c n_c c_c, .slice B_c m_c d_c] := by rw [hw8, ← hG_c]; exact Blk.new w7 _ _
  rw [← hw8]
  simp only [hG_c]
  clear hw8 hG_c
  replace r_a := r_a.on ha
  replace t_a := t_a.on ha
  replace k_a := k_a.below ha k_a.lt
  replace r_b := r_b.on ha
  replace t_b := t_b.on ha
  replace k_b := k_b.below ha k_b.lt
  replace r_c := r_c.on ha
  replace t_c := t_c.on ha
  have hB8 := bltB hB7 hB7.size ha
  clear ha hB7
  refine (fsub_q r_c t_c F_c r_b t_b F_b (by decide) (by decide)).mono ?_
  rintro y w9 ⟨A_z2, n_z2, c_z2, B_z2, m_z2, d_z2, rfl, r_z2, t_z2, F_z2, hb⟩
  rw [show decide (mkRat 1 2 ≤ mkRat 1 3) = false from by decide +kernel]
  replace r_a := r_a.on hb
  replace t_a := t_a.on hb
  replace k_a := k_a.below hb k_a.lt
  replace r_b := r_b.on hb
  replace t_b := t_b.on hb
  replace k_b := k_b.below hb k_b.lt
  replace r_c := r_c.on hb
  replace t_c := t_c.on hb
  replace k_c := k_c.below hb k_c.lt
  have hB9 := bltB hB8 hB8.size hb
  clear hb hB8
  have q_k_b_0 := k_b.cell 0
  have q_k_b_1 := k_b.cell 1
  have q_k_b_l := k_b.lt
  have q_k_c_0 := k_c.cell 0
  have q_k_c_1 := k_c.cell 1
  have q_k_c_l := k_c.lt
  go_wp2_with fail
  clear q_k_b_0 q_k_b_1 q_k_b_l q_k_c_0 q_k_c_1 q_k_c_l
  obtain ⟨w10, hw10⟩ : ∃ W, W = w9.alloc (.cells #[.slice A_z2 n_z2 c_z2, .slice B_z2 m_z2 d_z2] 24) := ⟨_, rfl⟩
  obtain ⟨G_z2, hG_z2⟩ : ∃ G, w9.heap.size = G := ⟨_, rfl⟩
  have ha : Below w9.heap.size w9 w10 := by rw [hw10]; exact (Below.refl _ _).alloc (Nat.le_refl _) _
  have k_z2 : Blk w10 G_z2 24 #[.slice A_z2 n_z2 c_z2, .slice B_z2 m_z2 d_z2] := by rw [hw10, ← hG_z2]; exact Blk.new w9 _ _
  rw [← hw10]
  simp only [hG_z2]
  clear hw10 hG_z2
  replace r_a := r_a.on ha
  replace t_a := t_a.on ha
  replace k_a := k_a.below ha k_a.lt
  replace r_b := r_b.on ha
  replace t_b := t_b.on ha
  replace k_b := k_b.below ha k_b.lt
  replace r_c := r_c.on ha
  replace t_c := t_c.on ha
  replace k_c := k_c.below ha k_c.lt
  replace r_z2 := r_z2.on ha
  replace t_z2 := t_z2.on ha
  have hB10 := bltB hB9 hB9.size ha
  clear ha hB9
  refine (fsub_q r_b t_b F_b r_c t_c F_c (by decide) (by decide)).mono ?_
  rintro y w11 ⟨A_d, n_d, c_d, B_d, m_d, d_d, rfl, r_d, t_d, F_d, hb⟩
  rw [show decide (mkRat 1 3 ≤ mkRat 1 2) = true from by decide +kernel]
  replace r_a := r_a.on hb
  replace t_a := t_a.on hb
  replace k_a := k_a.below hb k_a.lt
  replace r_b := r_b.on hb
  replace t_b := t_b.on hb
  replace k_b := k_b.below hb k_b.lt
  replace r_c := r_c.on hb
  replace t_c := t_c.on hb
  replace k_c := k_c.below hb k_c.lt
  have hB11 := bltB hB10 hB10.size hb
  clear hb hB10
  rw [show (if mkRat 1 3 ≤ mkRat 1 2 then mkRat 1 2 - mkRat 1 3 else 0) = mkRat 1 6 from by decide +kernel] at r_d t_d F_d
  have q_k_b_0 := k_b.cell 0
  have q_k_b_1 := k_b.cell 1
  have q_k_b_l := k_b.lt
  have q_k_c_0 := k_c.cell 0
  have q_k_c_1 := k_c.cell 1
  have q_k_c_l := k_c.lt
  go_wp2_with fail
  clear q_k_b_0 q_k_b_1 q_k_b_l q_k_c_0 q_k_c_1 q_k_c_l
  obtain ⟨w12, hw12⟩ : ∃ W, W = w11.alloc (.cells #[.slice A_d n_d c_d, .slice B_d m_d d_d] 24) := ⟨_, rfl⟩
  obtain ⟨G_d, hG_d⟩ : ∃ G, w11.heap.size = G := ⟨_, rfl⟩
  have ha : Below w11.heap.size w11 w12 := by rw [hw12]; exact (Below.refl _ _).alloc (Nat.le_refl _) _
  have k_d : Blk w12 G_d 24 #[.slice A_d n_d c_d, .slice B_d m_d d_d] := by rw [hw12, ← hG_d]; exact Blk.new w11 _ _
  rw [← hw12]
  simp only [hG_d]
  clear hw12 hG_d
  replace r_a := r_a.on ha
  replace t_a := t_a.on ha
  replace k_a := k_a.below ha k_a.lt
  replace r_b := r_b.on ha
  replace t_b := t_b.on ha
  replace k_b := k_b.below ha k_b.lt
  replace r_c := r_c.on ha
  replace t_c := t_c.on ha
  replace k_c := k_c.below ha k_c.lt
  replace r_d := r_d.on ha
  replace t_d := t_d.on ha
  have hB12 := bltB hB11 hB11.size ha
  clear ha hB11
  refine (fquo_q r_b t_b F_b r_c t_c F_c (by decide) (by decide)).mono ?_
  rintro y w13 ⟨A_q, n_q, c_q, B_q, m_q, d_q, rfl, r_q, t_q, F_q, hb⟩
  rw [show decide (mkRat 1 3 ≠ 0) = true from by decide +kernel]
  replace r_a := r_a.on hb
  replace t_a := t_a.on hb
  replace k_a := k_a.below hb k_a.lt
  replace r_b := r_b.on hb
  replace t_b := t_b.on hb
  replace k_b := k_b.below hb k_b.lt
  replace r_c := r_c.on hb
  replace t_c := t_c.on hb
  replace k_c := k_c.below hb k_c.lt
  replace r_d := r_d.on hb
  replace t_d := t_d.on hb
  replace k_d := k_d.below hb k_d.lt
  have hB13 := bltB hB12 hB12.size hb
  clear hb hB12
  rw [show mkRat 1 2 / mkRat 1 3 = mkRat 3 2 from by decide +kernel] at r_q t_q F_q
  have q_k_b_0 := k_b.cell 0
  have q_k_b_1 := k_b.cell 1
  have q_k_b_l := k_b.lt
  go_wp2_with fail
  clear q_k_b_0 q_k_b_1 q_k_b_l
  obtain ⟨w14, hw14⟩ : ∃ W, W = w13.alloc (.cells #[.slice A_q n_q c_q, .slice B_q m_q d_q] 24) := ⟨_, rfl⟩
  obtain ⟨G_q, hG_q⟩ : ∃ G, w13.heap.size = G := ⟨_, rfl⟩
  have ha : Below w13.heap.size w13 w14 := by rw [hw14]; exact (Below.refl _ _).alloc (Nat.le_refl _) _
  have k_q : Blk w14 G_q 24 #[.slice A_q n_q c_q, .slice B_q m_q d_q] := by rw [hw14, ← hG_q]; exact Blk.new w13 _ _
  rw [← hw14]
  simp only [hG_q]
  clear hw14 hG_q
  replace r_a := r_a.on ha
  replace t_a := t_a.on ha
  replace k_a := k_a.below ha k_a.lt
  replace r_b := r_b.on ha
  replace t_b := t_b.on ha
  replace k_b := k_b.below ha k_b.lt
  replace r_c := r_c.on ha
  replace t_c := t_c.on ha
  replace k_c := k_c.below ha k_c.lt
  replace r_d := r_d.on ha
  replace t_d := t_d.on ha
  replace k_d := k_d.below ha k_d.lt
  replace r_q := r_q.on ha
  replace t_q := t_q.on ha
  have hB14 := bltB hB13 hB13.size ha
  clear ha hB13
  refine (fquo_q r_b t_b F_b (Rd.nil w14 _) (Rd.nil w14 _) fq_zero (by decide) (by decide)).mono ?_
  rintro y w15 ⟨A_z3, n_z3, c_z3, B_z3, m_z3, d_z3, rfl, r_z3, t_z3, F_z3, hb⟩
  rw [show decide ((0 : Rat) ≠ 0) = false from by decide]
  replace r_a := r_a.on hb
  replace t_a := t_a.on hb
  replace k_a := k_a.below hb k_a.lt
  replace r_b := r_b.on hb
  replace t_b := t_b.on hb
  replace k_b := k_b.below hb k_b.lt
  replace r_c := r_c.on hb
  replace t_c := t_c.on hb
  replace k_c := k_c.below hb k_c.lt
  replace r_d := r_d.on hb
  replace t_d := t_d.on hb
  replace k_d := k_d.below hb k_d.lt
  replace r_q := r_q.on hb
  replace t_q := t_q.on hb
  replace k_q := k_q.below hb k_q.lt
  have hB15 := bltB hB14 hB14.size hb
  clear hb hB14
  have q_k_q_0 := k_q.cell 0
  have q_k_q_1 := k_q.cell 1
  have q_k_q_l := k_q.lt
  go_wp2_with fail
  clear q_k_q_0 q_k_q_1 q_k_q_l
  obtain ⟨w16, hw16⟩ : ∃ W, W = w15.alloc (.cells #[.slice A_z3 n_z3 c_z3, .slice B_z3 m_z3 d_z3] 24) := ⟨_, rfl⟩
  obtain ⟨G_z3, hG_z3⟩ : ∃ G, w15.heap.size = G := ⟨_, rfl⟩
  have ha : Below w15.heap.size w15 w16 := by rw [hw16]; exact (Below.refl _ _).alloc (Nat.le_refl _) _
  have k_z3 : Blk w16 G_z3 24 #[.slice A_z3 n_z3 c_z3, .slice B_z3 m_z3 d_z3] := by rw [hw16, ← hG_z3]; exact Blk.new w15 _ _
  rw [← hw16]
  simp only [hG_z3]
  clear hw16 hG_z3
  replace r_a := r_a.on ha
  replace t_a := t_a.on ha
  replace k_a := k_a.below ha k_a.lt
  replace r_b := r_b.on ha
  replace t_b := t_b.on ha
  replace k_b := k_b.below ha k_b.lt
  replace r_c := r_c.on ha
  replace t_c := t_c.on ha
  replace k_c := k_c.below ha k_c.lt
  replace r_d := r_d.on ha
  replace t_d := t_d.on ha
  replace k_d := k_d.below ha k_d.lt
  replace r_q := r_q.on ha
  replace t_q := t_q.on ha
  replace k_q := k_q.below ha k_q.lt
  replace r_z3 := r_z3.on ha
  replace t_z3 := t_z3.on ha
  have hB16 := bltB hB15 hB15.size ha
  clear ha hB15
  refine (fpow_q r_q t_q F_q (by decide) 3 (by decide)).mono ?_
  rintro y w17 ⟨A_p, n_p, c_p, B_p, m_p, d_p, rfl, r_p, t_p, F_p, hb⟩
  replace r_a := r_a.on hb
  replace t_a := t_a.on hb
  replace k_a := k_a.below hb k_a.lt
  replace r_b := r_b.on hb
  replace t_b := t_b.on hb
  replace k_b := k_b.below hb k_b.lt
  replace r_c := r_c.on hb
  replace t_c := t_c.on hb
  replace k_c := k_c.below hb k_c.lt
  replace r_d := r_d.on hb
  replace t_d := t_d.on hb
  replace k_d := k_d.below hb k_d.lt
  replace r_q := r_q.on hb
  replace t_q := t_q.on hb
  replace k_q := k_q.below hb k_q.lt
  have hB17 := bltB hB16 hB16.size hb
  clear hb hB16
  rw [show mkRat 3 2 ^ 3 = mkRat 27 8 from by decide +kernel] at r_p t_p F_p
  have q_k_q_0 := k_q.cell 0
  have q_k_q_1 := k_q.cell 1
  have q_k_q_l := k_q.lt
  go_wp2_with fail
  clear q_k_q_0 q_k_q_1 q_k_q_l
  obtain ⟨w18, hw18⟩ : ∃ W, W = w17.alloc (.cells #[.slice A_p n_p c_p, .slice B_p m_p d_p] 24) := ⟨_, rfl⟩
  obtain ⟨G_p, hG_p⟩ : ∃ G, w17.heap.size = G := ⟨_, rfl⟩
  have ha : Below w17.heap.size w17 w18 := by rw [hw18]; exact (Below.refl _ _).alloc (Nat.le_refl _) _
  have k_p : Blk w18 G_p 24 #[.slice A_p n_p c_p, .slice B_p m_p d_p] := by rw [hw18, ← hG_p]; exact Blk.new w17 _ _
  rw [← hw18]
  simp only [hG_p]
  clear hw18 hG_p
  replace r_a := r_a.on ha
  replace t_a := t_a.on ha
  replace k_a := k_a.below ha k_a.lt
  replace r_b := r_b.on ha
  replace t_b := t_b.on ha
  replace k_b := k_b.below ha k_b.lt
  replace r_c := r_c.on ha
  replace t_c := t_c.on ha
  replace k_c := k_c.below ha k_c.lt
  replace r_d := r_d.on ha
  replace t_d := t_d.on ha
  replace k_d := k_d.below ha k_d.lt
  replace r_q := r_q.on ha
  replace t_q := t_q.on ha
  replace k_q := k_q.below ha k_q.lt
  replace r_p := r_p.on ha
  replace t_p := t_p.on ha
  have hB18 := bltB hB17 hB17.size ha
  clear ha hB17
  refine (fpow_no w18 _ _ _ _ _ _ 65 (by decide)).mono ?_
  rintro y w19 ⟨A_z4, n_z4, c_z4, B_z4, m_z4, d_z4, rfl, _, _, hb⟩
  replace r_a := r_a.on hb
  replace t_a := t_a.on hb
  replace k_a := k_a.below hb k_a.lt
  replace r_b := r_b.on hb
  replace t_b := t_b.on hb
  replace k_b := k_b.below hb k_b.lt
  replace r_c := r_c.on hb
  replace t_c := t_c.on hb
  replace k_c := k_c.below hb k_c.lt
  replace r_d := r_d.on hb
  replace t_d := t_d.on hb
  replace k_d := k_d.below hb k_d.lt
  replace r_q := r_q.on hb
  replace t_q := t_q.on hb
  replace k_q := k_q.below hb k_q.lt
  replace r_p := r_p.on hb
  replace t_p := t_p.on hb
  replace k_p := k_p.below hb k_p.lt
  have hB19 := bltB hB18 hB18.size hb
  clear hb hB18
  go_wp2_with fail
  obtain ⟨w20, hw20⟩ : ∃ W, W = w19.alloc (.cells #[.slice A_z4 n_z4 c_z4, .slice B_z4 m_z4 d_z4] 24) := ⟨_, rfl⟩
  obtain ⟨G_z4, hG_z4⟩ : ∃ G, w19.heap.size = G := ⟨_, rfl⟩
  have ha : Below w19.heap.size w19 w20 := by rw [hw20]; exact (Below.refl _ _).alloc (Nat.le_refl _) _
  have k_z4 : Blk w20 G_z4 24 #[.slice A_z4 n_z4 c_z4, .slice B_z4 m_z4 d_z4] := by rw [hw20, ← hG_z4]; exact Blk.new w19 _ _
  rw [← hw20]
  simp only [hG_z4]
  clear hw20 hG_z4
  replace r_a := r_a.on ha
  replace t_a := t_a.on ha
  replace k_a := k_a.below ha k_a.lt
  replace r_b := r_b.on ha
  replace t_b := t_b.on ha
  replace k_b := k_b.below ha k_b.lt
  replace r_c := r_c.on ha
  replace t_c := t_c.on ha
  replace k_c := k_c.below ha k_c.lt
  replace r_d := r_d.on ha
  replace t_d := t_d.on ha
  replace k_d := k_d.below ha k_d.lt
  replace r_q := r_q.on ha
  replace t_q := t_q.on ha
  replace k_q := k_q.below ha k_q.lt
  replace r_p := r_p.on ha
  replace t_p := t_p.on ha
  replace k_p := k_p.below ha k_p.lt
  have hB20 := bltB hB19 hB19.size ha
  clear ha hB19
  refine (fparse_any w20 (HT.out.on hB20) ⟨#[51, 47, 50]⟩ (by decide)).mono ?_
  rintro y w21 ⟨A_e, n_e, c_e, B_e, m_e, d_e, rfl, r_e, t_e, F_e, hb⟩
  rw [show fpok [51, 47, 50] = true from fpok_32]
  replace r_a := r_a.on hb
  replace t_a := t_a.on hb
  replace k_a := k_a.below hb k_a.lt
  replace r_b := r_b.on hb
  replace t_b := t_b.on hb
  replace k_b := k_b.below hb k_b.lt
  replace r_c := r_c.on hb
  replace t_c := t_c.on hb
  replace k_c := k_c.below hb k_c.lt
  replace r_d := r_d.on hb
  replace t_d := t_d.on hb
  replace k_d := k_d.below hb k_d.lt
  replace r_q := r_q.on hb
  replace t_q := t_q.on hb
  replace k_q := k_q.below hb k_q.lt
  replace r_p := r_p.on hb
  replace t_p := t_p.on hb
  replace k_p := k_p.below hb k_p.lt
  have hB21 := bltB hB20 hB20.size hb
  clear hb hB20
  rw [show fpq (⟨#[51, 47, 50]⟩ : ByteArray).data.toList = mkRat 3 2 from fpq_32] at r_e t_e F_e
  go_wp2_with fail
  obtain ⟨w22, hw22⟩ : ∃ W, W = w21.alloc (.cells #[.slice A_e n_e c_e, .slice B_e m_e d_e] 24) := ⟨_, rfl⟩
  obtain ⟨G_e, hG_e⟩ : ∃ G, w21.heap.size = G := ⟨_, rfl⟩
  have ha : Below w21.heap.size w21 w22 := by rw [hw22]; exact (Below.refl _ _).alloc (Nat.le_refl _) _
  have k_e : Blk w22 G_e 24 #[.slice A_e n_e c_e, .slice B_e m_e d_e] := by rw [hw22, ← hG_e]; exact Blk.new w21 _ _
  rw [← hw22]
  simp only [hG_e]
  clear hw22 hG_e
  replace r_a := r_a.on ha
  replace t_a := t_a.on ha
  replace k_a := k_a.below ha k_a.lt
  replace r_b := r_b.on ha
  replace t_b := t_b.on ha
  replace k_b := k_b.below ha k_b.lt
  replace r_c := r_c.on ha
  replace t_c := t_c.on ha
  replace k_c := k_c.below ha k_c.lt
  replace r_d := r_d.on ha
  replace t_d := t_d.on ha
  replace k_d := k_d.below ha k_d.lt
  replace r_q := r_q.on ha
  replace t_q := t_q.on ha
  replace k_q := k_q.below ha k_q.lt
  replace r_p := r_p.on ha
  replace t_p := t_p.on ha
  replace k_p := k_p.below ha k_p.lt
  replace r_e := r_e.on ha
  replace t_e := t_e.on ha
  have hB22 := bltB hB21 hB21.size ha
  clear ha hB21
  refine (fparse_any w22 (HT.out.on hB22) ⟨#[50, 47, 52]⟩ (by decide)).mono ?_
  rintro y w23 ⟨A_z5, n_z5, c_z5, B_z5, m_z5, d_z5, rfl, r_z5, t_z5, F_z5, hb⟩
  rw [show fpok [50, 47, 52] = false from fpok_24]
  replace r_a := r_a.on hb
  replace t_a := t_a.on hb
  replace k_a := k_a.below hb k_a.lt
  replace r_b := r_b.on hb
  replace t_b := t_b.on hb
  replace k_b := k_b.below hb k_b.lt
  replace r_c := r_c.on hb
  replace t_c := t_c.on hb
  replace k_c := k_c.below hb k_c.lt
  replace r_d := r_d.on hb
  replace t_d := t_d.on hb
  replace k_d := k_d.below hb k_d.lt
  replace r_q := r_q.on hb
  replace t_q := t_q.on hb
  replace k_q := k_q.below hb k_q.lt
  replace r_p := r_p.on hb
  replace t_p := t_p.on hb
  replace k_p := k_p.below hb k_p.lt
  replace r_e := r_e.on hb
  replace t_e := t_e.on hb
  replace k_e := k_e.below hb k_e.lt
  have hB23 := bltB hB22 hB22.size hb
  clear hb hB22
  have q_k_a_0 := k_a.cell 0
  have q_k_a_1 := k_a.cell 1
  have q_k_a_l := k_a.lt
  go_wp2_with fail
  clear q_k_a_0 q_k_a_1 q_k_a_l
  obtain ⟨w24, hw24⟩ : ∃ W, W = w23.alloc (.cells #[.slice A_z5 n_z5 c_z5, .slice B_z5 m_z5 d_z5] 24) := ⟨_, rfl⟩
  obtain ⟨G_z5, hG_z5⟩ : ∃ G, w23.heap.size = G := ⟨_, rfl⟩
  have ha : Below w23.heap.size w23 w24 := by rw [hw24]; exact (Below.refl _ _).alloc (Nat.le_refl _) _
  have k_z5 : Blk w24 G_z5 24 #[.slice A_z5 n_z5 c_z5, .slice B_z5 m_z5 d_z5] := by rw [hw24, ← hG_z5]; exact Blk.new w23 _ _
  rw [← hw24]
  simp only [hG_z5]
  clear hw24 hG_z5
  replace r_a := r_a.on ha
  replace t_a := t_a.on ha
  replace k_a := k_a.below ha k_a.lt
  replace r_b := r_b.on ha
  replace t_b := t_b.on ha
  replace k_b := k_b.below ha k_b.lt
  replace r_c := r_c.on ha
  replace t_c := t_c.on ha
  replace k_c := k_c.below ha k_c.lt
  replace r_d := r_d.on ha
  replace t_d := t_d.on ha
  replace k_d := k_d.below ha k_d.lt
  replace r_q := r_q.on ha
  replace t_q := t_q.on ha
  replace k_q := k_q.below ha k_q.lt
  replace r_p := r_p.on ha
  replace t_p := t_p.on ha
  replace k_p := k_p.below ha k_p.lt
  replace r_e := r_e.on ha
  replace t_e := t_e.on ha
  replace k_e := k_e.below ha k_e.lt
  replace r_z5 := r_z5.on ha
  replace t_z5 := t_z5.on ha
  have hB24 := bltB hB23 hB23.size ha
  clear ha hB23
  refine (ftext_q r_a t_a F_a (HT.out.on hB24) (by decide) F_a.right).mono ?_
  rintro y w25 ⟨rfl, hb⟩
  replace r_a := r_a.on hb
  replace t_a := t_a.on hb
  replace k_a := k_a.below hb k_a.lt
  replace r_b := r_b.on hb
  replace t_b := t_b.on hb
  replace k_b := k_b.below hb k_b.lt
  replace r_c := r_c.on hb
  replace t_c := t_c.on hb
  replace k_c := k_c.below hb k_c.lt
  replace r_d := r_d.on hb
  replace t_d := t_d.on hb
  replace k_d := k_d.below hb k_d.lt
  replace r_q := r_q.on hb
  replace t_q := t_q.on hb
  replace k_q := k_q.below hb k_q.lt
  replace r_p := r_p.on hb
  replace t_p := t_p.on hb
  replace k_p := k_p.below hb k_p.lt
  replace r_e := r_e.on hb
  replace t_e := t_e.on hb
  replace k_e := k_e.below hb k_e.lt
  have hB25 := bltB hB24 hB24.size hb
  clear hb hB24
  rw [txt, qt (N := 3) (D := 2) (by decide) (by decide) (by decide) (by decide) (by decide)]
  have q_k_b_0 := k_b.cell 0
  have q_k_b_1 := k_b.cell 1
  have q_k_b_l := k_b.lt
  have q_k_c_0 := k_c.cell 0
  have q_k_c_1 := k_c.cell 1
  have q_k_c_l := k_c.lt
  go_wp2_with fail
  clear q_k_b_0 q_k_b_1 q_k_b_l q_k_c_0 q_k_c_1 q_k_c_l
  refine (fadd_q r_b t_b F_b r_c t_c F_c (by decide) (by decide)).mono ?_
  rintro y w26 ⟨A_s, n_s, c_s, B_s, m_s, d_s, rfl, r_s, t_s, F_s, hb⟩
  replace r_a := r_a.on hb
  replace t_a := t_a.on hb
  replace k_a := k_a.below hb k_a.lt
  replace r_b := r_b.on hb
  replace t_b := t_b.on hb
  replace k_b := k_b.below hb k_b.lt
  replace r_c := r_c.on hb
  replace t_c := t_c.on hb
  replace k_c := k_c.below hb k_c.lt
  replace r_d := r_d.on hb
  replace t_d := t_d.on hb
  replace k_d := k_d.below hb k_d.lt
  replace r_q := r_q.on hb
  replace t_q := t_q.on hb
  replace k_q := k_q.below hb k_q.lt
  replace r_p := r_p.on hb
  replace t_p := t_p.on hb
  replace k_p := k_p.below hb k_p.lt
  replace r_e := r_e.on hb
  replace t_e := t_e.on hb
  replace k_e := k_e.below hb k_e.lt
  have hB26 := bltB hB25 hB25.size hb
  clear hb hB25
  rw [show mkRat 1 2 + mkRat 1 3 = mkRat 5 6 from by decide +kernel] at r_s t_s F_s
  go_wp2_with fail
  refine (ftext_q r_s t_s F_s (HT.out.on hB26) (by decide) F_s.right).mono ?_
  rintro y w27 ⟨rfl, hb⟩
  replace r_a := r_a.on hb
  replace t_a := t_a.on hb
  replace k_a := k_a.below hb k_a.lt
  replace r_b := r_b.on hb
  replace t_b := t_b.on hb
  replace k_b := k_b.below hb k_b.lt
  replace r_c := r_c.on hb
  replace t_c := t_c.on hb
  replace k_c := k_c.below hb k_c.lt
  replace r_d := r_d.on hb
  replace t_d := t_d.on hb
  replace k_d := k_d.below hb k_d.lt
  replace r_q := r_q.on hb
  replace t_q := t_q.on hb
  replace k_q := k_q.below hb k_q.lt
  replace r_p := r_p.on hb
  replace t_p := t_p.on hb
  replace k_p := k_p.below hb k_p.lt
  replace r_e := r_e.on hb
  replace t_e := t_e.on hb
  replace k_e := k_e.below hb k_e.lt
  replace r_s := r_s.on hb
  replace t_s := t_s.on hb
  have hB27 := bltB hB26 hB26.size hb
  clear hb hB26
  rw [txt, qt (N := 5) (D := 6) (by decide) (by decide) (by decide) (by decide) (by decide)]
  have q_k_d_0 := k_d.cell 0
  have q_k_d_1 := k_d.cell 1
  have q_k_d_l := k_d.lt
  go_wp2_with fail
  clear q_k_d_0 q_k_d_1 q_k_d_l
  refine (ftext_q r_d t_d F_d (HT.out.on hB27) (by decide) F_d.right).mono ?_
  rintro y w28 ⟨rfl, hb⟩
  replace r_a := r_a.on hb
  replace t_a := t_a.on hb
  replace k_a := k_a.below hb k_a.lt
  replace r_b := r_b.on hb
  replace t_b := t_b.on hb
  replace k_b := k_b.below hb k_b.lt
  replace r_c := r_c.on hb
  replace t_c := t_c.on hb
  replace k_c := k_c.below hb k_c.lt
  replace r_d := r_d.on hb
  replace t_d := t_d.on hb
  replace k_d := k_d.below hb k_d.lt
  replace r_q := r_q.on hb
  replace t_q := t_q.on hb
  replace k_q := k_q.below hb k_q.lt
  replace r_p := r_p.on hb
  replace t_p := t_p.on hb
  replace k_p := k_p.below hb k_p.lt
  replace r_e := r_e.on hb
  replace t_e := t_e.on hb
  replace k_e := k_e.below hb k_e.lt
  have hB28 := bltB hB27 hB27.size hb
  clear hb hB27
  rw [txt, qt (N := 1) (D := 6) (by decide) (by decide) (by decide) (by decide) (by decide)]
  have q_k_q_0 := k_q.cell 0
  have q_k_q_1 := k_q.cell 1
  have q_k_q_l := k_q.lt
  go_wp2_with fail
  clear q_k_q_0 q_k_q_1 q_k_q_l
  refine (ftext_q r_q t_q F_q (HT.out.on hB28) (by decide) F_q.right).mono ?_
  rintro y w29 ⟨rfl, hb⟩
  replace r_a := r_a.on hb
  replace t_a := t_a.on hb
  replace k_a := k_a.below hb k_a.lt
  replace r_b := r_b.on hb
  replace t_b := t_b.on hb
  replace k_b := k_b.below hb k_b.lt
  replace r_c := r_c.on hb
  replace t_c := t_c.on hb
  replace k_c := k_c.below hb k_c.lt
  replace r_q := r_q.on hb
  replace t_q := t_q.on hb
  replace k_q := k_q.below hb k_q.lt
  replace r_p := r_p.on hb
  replace t_p := t_p.on hb
  replace k_p := k_p.below hb k_p.lt
  replace r_e := r_e.on hb
  replace t_e := t_e.on hb
  replace k_e := k_e.below hb k_e.lt
  have hB29 := bltB hB28 hB28.size hb
  clear hb hB28
  rw [txt, qt (N := 3) (D := 2) (by decide) (by decide) (by decide) (by decide) (by decide)]
  have q_k_p_0 := k_p.cell 0
  have q_k_p_1 := k_p.cell 1
  have q_k_p_l := k_p.lt
  go_wp2_with fail
  clear q_k_p_0 q_k_p_1 q_k_p_l
  refine (ftext_q r_p t_p F_p (HT.out.on hB29) (by decide) F_p.right).mono ?_
  rintro y w30 ⟨rfl, hb⟩
  replace r_a := r_a.on hb
  replace t_a := t_a.on hb
  replace k_a := k_a.below hb k_a.lt
  replace r_b := r_b.on hb
  replace t_b := t_b.on hb
  replace k_b := k_b.below hb k_b.lt
  replace r_c := r_c.on hb
  replace t_c := t_c.on hb
  replace k_c := k_c.below hb k_c.lt
  replace r_q := r_q.on hb
  replace t_q := t_q.on hb
  replace k_q := k_q.below hb k_q.lt
  replace r_p := r_p.on hb
  replace t_p := t_p.on hb
  replace k_p := k_p.below hb k_p.lt
  replace r_e := r_e.on hb
  replace t_e := t_e.on hb
  replace k_e := k_e.below hb k_e.lt
  have hB30 := bltB hB29 hB29.size hb
  clear hb hB29
  rw [txt, qt_27]
  have q_k_e_0 := k_e.cell 0
  have q_k_e_1 := k_e.cell 1
  have q_k_e_l := k_e.lt
  have q_k_a_0 := k_a.cell 0
  have q_k_a_1 := k_a.cell 1
  have q_k_a_l := k_a.lt
  go_wp2_with fail
  clear q_k_e_0 q_k_e_1 q_k_e_l q_k_a_0 q_k_a_1 q_k_a_l
  refine (fsame_q r_e t_e F_e r_a t_a F_a (by decide)).mono ?_
  rintro y w31 ⟨rfl, hb⟩
  replace r_a := r_a.on hb
  replace t_a := t_a.on hb
  replace k_a := k_a.below hb k_a.lt
  replace r_b := r_b.on hb
  replace t_b := t_b.on hb
  replace k_b := k_b.below hb k_b.lt
  replace r_c := r_c.on hb
  replace t_c := t_c.on hb
  replace k_c := k_c.below hb k_c.lt
  replace r_q := r_q.on hb
  replace t_q := t_q.on hb
  replace k_q := k_q.below hb k_q.lt
  replace r_p := r_p.on hb
  replace t_p := t_p.on hb
  replace k_p := k_p.below hb k_p.lt
  replace r_e := r_e.on hb
  replace t_e := t_e.on hb
  replace k_e := k_e.below hb k_e.lt
  have hB31 := bltB hB30 hB30.size hb
  clear hb hB30
  rw [show decide (mkRat 3 2 = mkRat 6 4) = true from by decide]
  have q_k_p_0 := k_p.cell 0
  have q_k_p_1 := k_p.cell 1
  have q_k_p_l := k_p.lt
  go_wp2_with fail
  clear q_k_p_0 q_k_p_1 q_k_p_l
  refine (ffloor_w r_p t_p F_p (by decide)).mono ?_
  rintro y w32 ⟨A_f, n_f, c_f, rfl, r_f, hb⟩
  replace r_a := r_a.on hb
  replace t_a := t_a.on hb
  replace k_a := k_a.below hb k_a.lt
  replace r_b := r_b.on hb
  replace t_b := t_b.on hb
  replace k_b := k_b.below hb k_b.lt
  replace r_c := r_c.on hb
  replace t_c := t_c.on hb
  replace k_c := k_c.below hb k_c.lt
  replace r_q := r_q.on hb
  replace t_q := t_q.on hb
  replace k_q := k_q.below hb k_q.lt
  replace r_p := r_p.on hb
  replace t_p := t_p.on hb
  replace k_p := k_p.below hb k_p.lt
  have hB32 := bltB hB31 hB31.size hb
  clear hb hB31
  rw [show rn (mkRat 27 8) / rd (mkRat 27 8) = 3 from by decide] at r_f
  have b_f : 3 < 4294967296 ^ 1 := by decide
  have n_f_le : n_f ≤ 1 := rd_le r_f b_f
  go_wp2_with fail
  have r_l := rd_litW w32 (d := 3) (by decide) (by decide)
  have ba := bel_alloc w32 (.cells #[.int .u32 (3 : Nat)] 38)
  refine (nats_any _ _ _ _ _ _ _ _ _ (r_f.on ba) r_l (by omega)).mono ?_
  rintro y w33 ⟨rfl, hb⟩
  have hb := bltB ba ba.size hb
  clear ba r_l
  clear r_f
  replace r_a := r_a.on hb
  replace t_a := t_a.on hb
  replace k_a := k_a.below hb k_a.lt
  replace r_b := r_b.on hb
  replace t_b := t_b.on hb
  replace k_b := k_b.below hb k_b.lt
  replace r_c := r_c.on hb
  replace t_c := t_c.on hb
  replace k_c := k_c.below hb k_c.lt
  replace r_q := r_q.on hb
  replace t_q := t_q.on hb
  replace k_q := k_q.below hb k_q.lt
  have hB33 := bltB hB32 hB32.size hb
  clear hb hB32
  rw [show decide (digs 3 = digs 3) = true from decide_eq_true rfl]
  have q_k_c_0 := k_c.cell 0
  have q_k_c_1 := k_c.cell 1
  have q_k_c_l := k_c.lt
  have q_k_b_0 := k_b.cell 0
  have q_k_b_1 := k_b.cell 1
  have q_k_b_l := k_b.lt
  go_wp2_with fail
  clear q_k_c_0 q_k_c_1 q_k_c_l q_k_b_0 q_k_b_1 q_k_b_l
  refine (fcmp_q r_c t_c F_c r_b t_b F_b (by decide) (by decide)).mono ?_
  rintro y w34 ⟨rfl, hb⟩
  replace r_a := r_a.on hb
  replace t_a := t_a.on hb
  replace k_a := k_a.below hb k_a.lt
  replace r_b := r_b.on hb
  replace t_b := t_b.on hb
  replace k_b := k_b.below hb k_b.lt
  replace r_c := r_c.on hb
  replace t_c := t_c.on hb
  replace k_c := k_c.below hb k_c.lt
  replace r_q := r_q.on hb
  replace t_q := t_q.on hb
  replace k_q := k_q.below hb k_q.lt
  have hB34 := bltB hB33 hB33.size hb
  clear hb hB33
  rw [show cmpQ (mkRat 1 3) (mkRat 1 2) = -1 from by decide +kernel]
  have q_k_a_0 := k_a.cell 0
  have q_k_a_1 := k_a.cell 1
  have q_k_a_l := k_a.lt
  have q_k_q_0 := k_q.cell 0
  have q_k_q_1 := k_q.cell 1
  have q_k_q_l := k_q.lt
  go_wp2_with fail
  clear q_k_a_0 q_k_a_1 q_k_a_l q_k_q_0 q_k_q_1 q_k_q_l
  refine (fcmp_q r_a t_a F_a r_q t_q F_q (by decide) (by decide)).mono ?_
  rintro y w35 ⟨rfl, hb⟩
  replace r_a := r_a.on hb
  replace t_a := t_a.on hb
  replace k_a := k_a.below hb k_a.lt
  replace r_q := r_q.on hb
  replace t_q := t_q.on hb
  replace k_q := k_q.below hb k_q.lt
  have hB35 := bltB hB34 hB34.size hb
  clear hb hB34
  rw [show cmpQ (mkRat 6 4) (mkRat 3 2) = 0 from by decide +kernel]
  go_wp2_with fail
  refine (ftext_any w35 (HT.out.on hB35) _ _ _ _ _ _ _ _ (Rd.nil _ _) (Rd.nil _ _) (by decide) (by decide)).mono ?_
  rintro y w36 ⟨rfl, hb⟩
  replace r_a := r_a.on hb
  replace t_a := t_a.on hb
  replace k_a := k_a.below hb k_a.lt
  have hB36 := bltB hB35 hB35.size hb
  clear hb hB35
  rw [txt, show fTxt (frN [] []) (frD [] []) = [48] from by unfold fTxt; rw [if_pos (by decide), show frN [] [] = 0 by decide, dig1 (by decide)]; rfl]
  have q_k_a_0 := k_a.cell 0
  have q_k_a_1 := k_a.cell 1
  have q_k_a_l := k_a.lt
  go_wp2_with fail
  clear q_k_a_0 q_k_a_1 q_k_a_l
  refine (fright_q r_a t_a F_a (by decide)).mono ?_
  rintro y w37 ⟨rfl, hb⟩
  replace r_a := r_a.on hb
  replace t_a := t_a.on hb
  replace k_a := k_a.below hb k_a.lt
  have hB37 := bltB hB36 hB36.size hb
  clear hb hB36
  rw [F_a.right]
  go_wp2_with fail
  refine (fright_any w37 _ _ _ _ _ _ _ _ (Rd.nil _ _) (Rd.nil _ _) (by decide) (by decide)).mono ?_
  rintro y w38 ⟨rfl, hb⟩
  have hB38 := bltB hB37 hB37.size hb
  clear hb hB37
  rw [show frR [] [] = false from by decide]
  go_wp2_with fail
  go_ret
  exact ⟨rfl, hB38⟩

end Go.Proofs.YthkgeafidbihmaaGreatDoor
