/-
  The law FracFloors: what its walk answers, whatever the digits.
-/
import Derived.Test.YthkgeafidbihmaaDoorFsml
import Derived.Test.YthkgeafidbihmaaDoorFtxt
namespace Go.Proofs.YthkgeafidbihmaaDoor
open Go.RowKit Go.Shelf
set_option linter.unusedVariables false
set_option linter.unusedSimpArgs false
attribute [local go_sem] Oper.semAt_some

theorem floor_rn {q : Rat} (h : 0 ≤ q) : ((rn q / rd q : Nat) : Rat) ≤ q ∧ q < ((rn q / rd q : Nat) : Rat) + 1 := by
  have := floor_q (rn q) (rd q) (rd_pos q)
  rwa [mk_q h] at this
theorem cmpQ_le {p q : Rat} (h : p ≤ q) : cmpQ p q ≤ 0 := by
  rcases Rat.le_iff_lt_or_eq.1 h with h | h
  · rw [cmpQ_lt h]; decide
  · rw [cmpQ_eq h]; decide
theorem rest_lt {q p : Rat} (h : q < p + 1) : q - p < mkRat ((1 : Nat) : Int) 1 := by
  rw [show mkRat ((1 : Nat) : Int) 1 = 1 by decide]
  grind
theorem isq_n {w : World} {A B' : Option Addr} {n c m d : Nat} {q : Rat} {b : Nat} (h : IsQ w (.agg #[.slice A n c, .slice B' m d]) q b) : n ≤ b := by
  obtain ⟨A2, n2, c2, B2, m2, d2, e, r, t, f⟩ := h
  injection e with e
  have e := congrArg Array.toList e
  simp only [List.cons.injEq, and_true, Value.slice.injEq] at e
  obtain ⟨⟨rfl, rfl, rfl⟩, rfl, rfl, rfl⟩ := e
  exact fq_n r f
theorem rn_lt {w : World} {B : Nat} {A : Option Addr} {n c : Nat} {q : Rat} (h : Rd w B A n c (digs (rn q))) (hn : n ≤ 12) : rn q < 4294967296 ^ 12 := rd_lt h hn

set_option maxRecDepth 100000 in
set_option maxHeartbeats 4000000 in
theorem fflr_any (w : World) (hT : Tab w) (A_a B_a : Option Addr) (n_a c_a m_a d_a : Nat) (l_a j_a : List Nat) (r_a : Rd w w.heap.size A_a n_a c_a l_a) (t_a : Rd w w.heap.size B_a m_a d_a j_a) (g_a : n_a ≤ 9223372036854775807) (h_a : m_a ≤ 9223372036854775807) :
    Calls Tryd.prog 8 #[.agg #[.slice A_a n_a c_a, .slice B_a m_a d_a]] w fun e w' => e = .returned (.bool true) ∧ Below w.heap.size w w' := by
  have HT := Lib.hid hT
  clear hT
  obtain ⟨w0, hw0⟩ : ∃ W, W = (w.alloc (.cells #[.slice A_a n_a c_a, .slice B_a m_a d_a] 24)) := ⟨_, rfl⟩
  have hB0 : Below w.heap.size w w0 := by rw [hw0]; exact ((Below.refl _ _).alloc (Nat.le_refl _) _)
  have k_a : Blk w0 w.heap.size 24 #[.slice A_a n_a c_a, .slice B_a m_a d_a] := by
    rw [hw0]
    have := Blk.new w 24 #[.slice A_a n_a c_a, .slice B_a m_a d_a]
    exact this
  replace r_a := r_a.on hB0
  replace t_a := t_a.on hB0
  go_enter Tryd.func8, Tryd.ntmps8
  go_wp2_with fail
  rw [← hw0]
  clear hw0
  refine (small_any w0 (HT.out.on hB0)).mono ?_
  rintro y w1 ⟨rfl, hb⟩
  replace k_a := k_a.below hb k_a.lt
  replace r_a := r_a.on hb
  replace t_a := t_a.on hb
  have hB1 := bltB hB0 hB0.size hb
  clear hb hB0
  have q_k_a_0 := k_a.cell 0
  have q_k_a_1 := k_a.cell 1
  have q_k_a_l := k_a.lt
  go_wp2_with fail
  clear q_k_a_0 q_k_a_1 q_k_a_l
  refine (few_any w1 _ _ _ _ _ _ _ _ _ _ _ _ g_a h_a g_a h_a).mono ?_
  rintro y w2 ⟨rfl, hb⟩
  replace k_a := k_a.below hb k_a.lt
  replace r_a := r_a.on hb
  replace t_a := t_a.on hb
  have hB2 := bltB hB1 hB1.size hb
  clear hb hB1
  rcases hf : (fewB n_a m_a && fewB n_a m_a) with _ | _
  · clear hf
    go_wp2_with fail
    go_ret
    exact ⟨rfl, hB2⟩
  have hle := few_le2 hf
  clear hf
  have le_a : n_a ≤ 12 ∧ m_a ≤ 12 := hle.1
  clear hle
  have q_k_a_0 := k_a.cell 0
  have q_k_a_1 := k_a.cell 1
  have q_k_a_l := k_a.lt
  go_wp2_with fail
  clear q_k_a_0 q_k_a_1 q_k_a_l
  refine (fright_any w2 _ _ _ _ _ _ _ _ r_a t_a (by omega) (by omega)).mono ?_
  rintro y w3 ⟨rfl, hb⟩
  replace k_a := k_a.below hb k_a.lt
  replace r_a := r_a.on hb
  replace t_a := t_a.on hb
  have hB3 := bltB hB2 hB2.size hb
  clear hb hB2
  rcases hr : frR l_a j_a with _ | _
  · clear hr
    go_wp2_with fail
    go_ret
    exact ⟨rfl, hB3⟩
  obtain ⟨q_a, rfl, rfl, F_a⟩ := as_q r_a t_a le_a.1 le_a.2 hr
  clear hr
  have hlt := rn_lt r_a le_a.1
  have I_a := IsQ.mk r_a t_a F_a
  have hfl := floor_rn I_a.ge0
  have q_k_a_0 := k_a.cell 0
  have q_k_a_1 := k_a.cell 1
  have q_k_a_l := k_a.lt
  go_wp2_with fail
  clear q_k_a_0 q_k_a_1 q_k_a_l
  refine (ffloor_v I_a (by decide)).mono ?_
  rintro y w4 ⟨A_n, n_n, c_n, rfl, r_n, hb⟩
  replace k_a := k_a.below hb k_a.lt
  replace I_a := I_a.on hb
  have hB4 := bltB hB3 hB3.size hb
  clear hb hB3
  have b_n : (rn q_a / rd q_a) < 4294967296 ^ 12 := Nat.lt_of_le_of_lt (Nat.div_le_self _ _) hlt
  have n_n_le : n_n ≤ 12 := rd_le r_n b_n
  obtain ⟨X, hX⟩ : ∃ X, (rn q_a / rd q_a) = X := ⟨_, rfl⟩
  rw [hX] at r_n b_n hfl
  clear hX hlt
  go_wp2_with fail
  refine (fwhole_v (b := 11) r_n b_n (by decide)).mono ?_
  rintro y w5 ⟨v_l, rfl, I_l, hb⟩
  replace k_a := k_a.below hb k_a.lt
  replace I_a := I_a.on hb
  replace r_n := r_n.on hb
  have hB5 := bltB hB4 hB4.size hb
  clear hb hB4
  obtain ⟨A_l, n_l, c_l, B_l, m_l, d_l, rfl, hI⟩ := I_l
  have I_l : IsQ w5 (.agg #[.slice A_l n_l c_l, .slice B_l m_l d_l]) _ _ := ⟨_, _, _, _, _, _, rfl, hI⟩
  have R_l := hI.1
  have T_l := hI.2.1
  clear hI
  go_wp2_with fail
  obtain ⟨w6, hw6⟩ : ∃ W, W = w5.alloc (.cells #[.slice A_l n_l c_l, .slice B_l m_l d_l] 24) := ⟨_, rfl⟩
  obtain ⟨G_l, hG_l⟩ : ∃ G, w5.heap.size = G := ⟨_, rfl⟩
  have ha : Below w5.heap.size w5 w6 := by rw [hw6]; exact (Below.refl _ _).alloc (Nat.le_refl _) _
  have k_l : Blk w6 G_l 24 #[.slice A_l n_l c_l, .slice B_l m_l d_l] := by rw [hw6, ← hG_l]; exact Blk.new w5 _ _
  rw [← hw6]
  simp only [hG_l]
  clear hw6 hG_l
  replace k_a := k_a.below ha k_a.lt
  replace I_a := I_a.on ha
  replace r_n := r_n.on ha
  replace I_l := I_l.on ha
  replace R_l := R_l.on ha
  replace T_l := T_l.on ha
  have hB6 := bltB hB5 hB5.size ha
  clear ha hB5
  refine (of_any w6 1 (by decide)).mono ?_
  rintro y w7 ⟨A_o1, n_o1, c_o1, rfl, r_o1, hb⟩
  replace k_a := k_a.below hb k_a.lt
  replace I_a := I_a.on hb
  replace r_n := r_n.on hb
  replace I_l := I_l.on hb
  replace R_l := R_l.on hb
  replace T_l := T_l.on hb
  replace k_l := k_l.below hb k_l.lt
  have hB7 := bltB hB6 hB6.size hb
  clear hb hB6
  have b_o1 : 1 < 4294967296 ^ 1 := by decide
  have n_o1_le : n_o1 ≤ 1 := rd_le r_o1 b_o1
  go_wp2_with fail
  refine (add_any _ _ _ _ _ _ _ _ _ r_n r_o1 (by omega) (by omega)).mono ?_
  rintro y w8 ⟨A_s, n_s, c_s, rfl, r_s, hb⟩
  replace k_a := k_a.below hb k_a.lt
  replace I_a := I_a.on hb
  replace r_n := r_n.on hb
  replace I_l := I_l.on hb
  replace R_l := R_l.on hb
  replace T_l := T_l.on hb
  replace k_l := k_l.below hb k_l.lt
  replace r_o1 := r_o1.on hb
  have hB8 := bltB hB7 hB7.size hb
  clear hb hB7
  rw [tv_digs, tv_digs] at r_s
  have b_s : (X + 1) < 4294967296 ^ 13 := bd_add b_n b_o1 (by decide) (by decide)
  have n_s_le : n_s ≤ 13 := rd_le r_s b_s
  go_wp2_with fail
  refine (fwhole_v (b := 12) r_s b_s (by decide)).mono ?_
  rintro y w9 ⟨v_h, rfl, I_h, hb⟩
  replace k_a := k_a.below hb k_a.lt
  replace I_a := I_a.on hb
  replace r_n := r_n.on hb
  replace I_l := I_l.on hb
  replace R_l := R_l.on hb
  replace T_l := T_l.on hb
  replace k_l := k_l.below hb k_l.lt
  replace r_o1 := r_o1.on hb
  replace r_s := r_s.on hb
  have hB9 := bltB hB8 hB8.size hb
  clear hb hB8
  clear r_o1 r_s
  obtain ⟨A_h, n_h, c_h, B_h, m_h, d_h, rfl, hI⟩ := I_h
  have I_h : IsQ w9 (.agg #[.slice A_h n_h c_h, .slice B_h m_h d_h]) _ _ := ⟨_, _, _, _, _, _, rfl, hI⟩
  clear hI
  have q_k_a_0 := k_a.cell 0
  have q_k_a_1 := k_a.cell 1
  have q_k_a_l := k_a.lt
  have q_k_l_0 := k_l.cell 0
  have q_k_l_1 := k_l.cell 1
  have q_k_l_l := k_l.lt
  go_wp2_with fail
  clear q_k_a_0 q_k_a_1 q_k_a_l q_k_l_0 q_k_l_1 q_k_l_l
  obtain ⟨w10, hw10⟩ : ∃ W, W = w9.alloc (.cells #[.slice A_h n_h c_h, .slice B_h m_h d_h] 24) := ⟨_, rfl⟩
  obtain ⟨G_h, hG_h⟩ : ∃ G, w9.heap.size = G := ⟨_, rfl⟩
  have ha : Below w9.heap.size w9 w10 := by rw [hw10]; exact (Below.refl _ _).alloc (Nat.le_refl _) _
  have k_h : Blk w10 G_h 24 #[.slice A_h n_h c_h, .slice B_h m_h d_h] := by rw [hw10, ← hG_h]; exact Blk.new w9 _ _
  rw [← hw10]
  simp only [hG_h]
  clear hw10 hG_h
  replace k_a := k_a.below ha k_a.lt
  replace I_a := I_a.on ha
  replace r_n := r_n.on ha
  replace I_l := I_l.on ha
  replace R_l := R_l.on ha
  replace T_l := T_l.on ha
  replace k_l := k_l.below ha k_l.lt
  replace I_h := I_h.on ha
  have hB10 := bltB hB9 hB9.size ha
  clear ha hB9
  refine (fsub_v I_a I_l (by decide) (by decide)).mono ?_
  rintro y w11 ⟨v_r, rfl, I_r, hb⟩
  rw [decide_eq_true hfl.1]
  replace k_a := k_a.below hb k_a.lt
  replace I_a := I_a.on hb
  replace r_n := r_n.on hb
  replace I_l := I_l.on hb
  replace R_l := R_l.on hb
  replace T_l := T_l.on hb
  replace k_l := k_l.below hb k_l.lt
  replace I_h := I_h.on hb
  replace k_h := k_h.below hb k_h.lt
  have hB11 := bltB hB10 hB10.size hb
  clear hb hB10
  replace I_r := I_r.as (if_pos hfl.1)
  obtain ⟨A_r, n_r, c_r, B_r, m_r, d_r, rfl, hI⟩ := I_r
  have I_r : IsQ w11 (.agg #[.slice A_r n_r c_r, .slice B_r m_r d_r]) _ _ := ⟨_, _, _, _, _, _, rfl, hI⟩
  clear hI
  go_wp2_with fail
  obtain ⟨w12, hw12⟩ : ∃ W, W = w11.alloc (.cells #[.slice A_r n_r c_r, .slice B_r m_r d_r] 24) := ⟨_, rfl⟩
  obtain ⟨G_r, hG_r⟩ : ∃ G, w11.heap.size = G := ⟨_, rfl⟩
  have ha : Below w11.heap.size w11 w12 := by rw [hw12]; exact (Below.refl _ _).alloc (Nat.le_refl _) _
  have k_r : Blk w12 G_r 24 #[.slice A_r n_r c_r, .slice B_r m_r d_r] := by rw [hw12, ← hG_r]; exact Blk.new w11 _ _
  rw [← hw12]
  simp only [hG_r]
  clear hw12 hG_r
  replace k_a := k_a.below ha k_a.lt
  replace I_a := I_a.on ha
  replace r_n := r_n.on ha
  replace I_l := I_l.on ha
  replace R_l := R_l.on ha
  replace T_l := T_l.on ha
  replace k_l := k_l.below ha k_l.lt
  replace I_h := I_h.on ha
  replace k_h := k_h.below ha k_h.lt
  replace I_r := I_r.on ha
  have hB12 := bltB hB11 hB11.size ha
  clear ha hB11
  refine (fof_v w12 1 1 (by decide) (by decide)).mono ?_
  rintro y w13 ⟨v_o, rfl, I_o, hb⟩
  rw [show decide (0 < 1) = true from rfl]
  replace k_a := k_a.below hb k_a.lt
  replace I_a := I_a.on hb
  replace r_n := r_n.on hb
  replace I_l := I_l.on hb
  replace R_l := R_l.on hb
  replace T_l := T_l.on hb
  replace k_l := k_l.below hb k_l.lt
  replace I_h := I_h.on hb
  replace k_h := k_h.below hb k_h.lt
  replace I_r := I_r.on hb
  replace k_r := k_r.below hb k_r.lt
  have hB13 := bltB hB12 hB12.size hb
  clear hb hB12
  obtain ⟨A_o, n_o, c_o, B_o, m_o, d_o, rfl, hI⟩ := I_o
  have I_o : IsQ w13 (.agg #[.slice A_o n_o c_o, .slice B_o m_o d_o]) _ _ := ⟨_, _, _, _, _, _, rfl, hI⟩
  clear hI
  go_wp2_with fail
  obtain ⟨w14, hw14⟩ : ∃ W, W = w13.alloc (.cells #[.slice A_o n_o c_o, .slice B_o m_o d_o] 24) := ⟨_, rfl⟩
  obtain ⟨G_o, hG_o⟩ : ∃ G, w13.heap.size = G := ⟨_, rfl⟩
  have ha : Below w13.heap.size w13 w14 := by rw [hw14]; exact (Below.refl _ _).alloc (Nat.le_refl _) _
  have k_o : Blk w14 G_o 24 #[.slice A_o n_o c_o, .slice B_o m_o d_o] := by rw [hw14, ← hG_o]; exact Blk.new w13 _ _
  rw [← hw14]
  simp only [hG_o]
  clear hw14 hG_o
  replace k_a := k_a.below ha k_a.lt
  replace I_a := I_a.on ha
  replace r_n := r_n.on ha
  replace I_l := I_l.on ha
  replace R_l := R_l.on ha
  replace T_l := T_l.on ha
  replace k_l := k_l.below ha k_l.lt
  replace I_h := I_h.on ha
  replace k_h := k_h.below ha k_h.lt
  replace I_r := I_r.on ha
  replace k_r := k_r.below ha k_r.lt
  replace I_o := I_o.on ha
  have hB14 := bltB hB13 hB13.size ha
  clear ha hB13
  refine wp_region_noPanic ?_
  refine ord_begin 35 (fun wx => Below w14.heap.size w14 wx) (by kernel_rfl) ?_
  have hx0 : Below w14.heap.size w14 w14.drew := (Below.refl _ _).drew
  refine ord_take (i := 0) (v := ?_) (by kernel_rfl) rfl (by decide) (by kernel_rfl) (by kernel_rfl) (fun _ _ _ h => h) (Or.inl ⟨by rfl, ?_⟩) hx0 ?_
  rotate_left
  · intro wz hz; go_simp; (try with_reducible rfl)
  try simp only [Act.put, List.getElem_toArray, List.getElem_cons_zero, List.getElem_cons_succ, List.setIfInBounds_toArray, List.set_cons_zero, List.set_cons_succ]
  refine ord_take (i := 1) (v := ?_) (by kernel_rfl) rfl (by decide) (by kernel_rfl) (by kernel_rfl) (fun _ _ _ h => h) (Or.inl ⟨by rfl, ?_⟩) hx0 ?_
  rotate_left
  · intro wz hz; go_simp; (try with_reducible rfl)
  try simp only [Act.put, List.getElem_toArray, List.getElem_cons_zero, List.getElem_cons_succ, List.setIfInBounds_toArray, List.set_cons_zero, List.set_cons_succ]
  refine ord_take (i := 2) (v := ?_) (by kernel_rfl) rfl (by decide) (by kernel_rfl) (by kernel_rfl) (fun _ _ _ h => h) (Or.inl ⟨by rfl, ?_⟩) hx0 ?_
  rotate_left
  · intro wz hz; go_simp; (try with_reducible rfl)
  try simp only [Act.put, List.getElem_toArray, List.getElem_cons_zero, List.getElem_cons_succ, List.setIfInBounds_toArray, List.set_cons_zero, List.set_cons_succ]
  refine ord_take (i := 3) (v := ?_) (by kernel_rfl) rfl (by decide) (by kernel_rfl) (by kernel_rfl) (fun _ _ _ h => h) (Or.inl ⟨by rfl, ?_⟩) hx0 ?_
  rotate_left
  · intro wz hz; go_simp; (try with_reducible rfl)
  try simp only [Act.put, List.getElem_toArray, List.getElem_cons_zero, List.getElem_cons_succ, List.setIfInBounds_toArray, List.set_cons_zero, List.set_cons_succ]
  refine ord_take (i := 4) (v := ?_) (by kernel_rfl) rfl (by decide) (by kernel_rfl) (by kernel_rfl) (fun _ _ _ h => h) (Or.inl ⟨by rfl, ?_⟩) hx0 ?_
  rotate_left
  · intro wz hz; go_simp; (try with_reducible rfl)
  try simp only [Act.put, List.getElem_toArray, List.getElem_cons_zero, List.getElem_cons_succ, List.setIfInBounds_toArray, List.set_cons_zero, List.set_cons_succ]
  refine ord_take (i := 5) (v := ?_) (by kernel_rfl) rfl (by decide) (by kernel_rfl) (by kernel_rfl) (fun _ _ _ h => h) (Or.inl ⟨by rfl, ?_⟩) hx0 ?_
  rotate_left
  · intro wz hz; have j := k_l.below hz k_l.lt; have q0 := j.cell 0; have q1 := j.cell 1; go_simp; (try with_reducible rfl)
  try simp only [Act.put, List.getElem_toArray, List.getElem_cons_zero, List.getElem_cons_succ, List.setIfInBounds_toArray, List.set_cons_zero, List.set_cons_succ]
  refine ord_take (i := 6) (v := ?_) (by kernel_rfl) rfl (by decide) (by kernel_rfl) (by kernel_rfl) (fun _ _ _ h => h) (Or.inl ⟨by rfl, ?_⟩) hx0 ?_
  rotate_left
  · intro wz hz; have j := k_a.below hz k_a.lt; have q0 := j.cell 0; have q1 := j.cell 1; go_simp; (try with_reducible rfl)
  try simp only [Act.put, List.getElem_toArray, List.getElem_cons_zero, List.getElem_cons_succ, List.setIfInBounds_toArray, List.set_cons_zero, List.set_cons_succ]
  refine ord_step (i := 7) rfl (by decide) (by kernel_rfl) (by rfl) (fun K hK => ?_)
  go_simp
  refine (fcmp_v (I_l.on hx0) (I_a.on hx0) (by decide) (by decide)).mono ?_
  rintro y X14_9_1 ⟨rfl, hb⟩
  have hz0 := cmpQ_le hfl.1
  obtain ⟨z1, hz1⟩ : ∃ z, cmpQ ((X : Nat) : Rat) q_a = z := ⟨_, rfl⟩
  rw [hz1] at hz0 ⊢
  clear hz1
  have hx1 := bltB hx0 hx0.size hb
  clear hb hx0
  refine hK _ _ hx1 ?_
  clear hK K
  try simp only [Act.put, List.getElem_toArray, List.getElem_cons_zero, List.getElem_cons_succ, List.setIfInBounds_toArray, List.set_cons_zero, List.set_cons_succ]
  refine ord_take (i := 8) (v := ?_) (by kernel_rfl) rfl (by decide) (by kernel_rfl) (by kernel_rfl) (fun _ _ _ h => h) (Or.inl ⟨by rfl, ?_⟩) hx1 ?_
  rotate_left
  · intro wz hz; go_simp; (try with_reducible rfl)
  try simp only [Act.put, List.getElem_toArray, List.getElem_cons_zero, List.getElem_cons_succ, List.setIfInBounds_toArray, List.set_cons_zero, List.set_cons_succ]
  refine ord_take (i := 9) (v := ?_) (by kernel_rfl) rfl (by decide) (by kernel_rfl) (by kernel_rfl) (fun _ _ _ h => h) (Or.inl ⟨by rfl, ?_⟩) hx1 ?_
  rotate_left
  · intro wz hz; go_simp; (try with_reducible rfl)
  try simp only [Act.put, List.getElem_toArray, List.getElem_cons_zero, List.getElem_cons_succ, List.setIfInBounds_toArray, List.set_cons_zero, List.set_cons_succ]
  refine ord_take (i := 10) (v := ?_) (by kernel_rfl) rfl (by decide) (by kernel_rfl) (by kernel_rfl) (fun _ _ _ h => h) (Or.inl ⟨by rfl, ?_⟩) hx1 ?_
  rotate_left
  · intro wz hz; go_simp; (try with_reducible rfl)
  try simp only [Act.put, List.getElem_toArray, List.getElem_cons_zero, List.getElem_cons_succ, List.setIfInBounds_toArray, List.set_cons_zero, List.set_cons_succ]
  refine ord_take (i := 11) (v := ?_) (by kernel_rfl) rfl (by decide) (by kernel_rfl) (by kernel_rfl) (fun _ _ _ h => h) (Or.inl ⟨by rfl, ?_⟩) hx1 ?_
  rotate_left
  · intro wz hz; have j := k_a.below hz k_a.lt; have q0 := j.cell 0; have q1 := j.cell 1; go_simp; (try with_reducible rfl)
  try simp only [Act.put, List.getElem_toArray, List.getElem_cons_zero, List.getElem_cons_succ, List.setIfInBounds_toArray, List.set_cons_zero, List.set_cons_succ]
  refine ord_take (i := 12) (v := ?_) (by kernel_rfl) rfl (by decide) (by kernel_rfl) (by kernel_rfl) (fun _ _ _ h => h) (Or.inl ⟨by rfl, ?_⟩) hx1 ?_
  rotate_left
  · intro wz hz; have j := k_h.below hz k_h.lt; have q0 := j.cell 0; have q1 := j.cell 1; go_simp; (try with_reducible rfl)
  try simp only [Act.put, List.getElem_toArray, List.getElem_cons_zero, List.getElem_cons_succ, List.setIfInBounds_toArray, List.set_cons_zero, List.set_cons_succ]
  refine ord_step (i := 13) rfl (by decide) (by kernel_rfl) (by rfl) (fun K hK => ?_)
  go_simp
  refine (fcmp_v (I_a.on hx1) (I_h.on hx1) (by decide) (by decide)).mono ?_
  rintro y X14_9_2 ⟨rfl, hb⟩
  rw [cmpQ_lt (show q_a < ((X + 1 : Nat) : Rat) by have := hfl.2; rw [Rat.natCast_add]; exact this)]
  have hx2 := bltB hx1 hx1.size hb
  clear hb hx1
  refine hK _ _ hx2 ?_
  clear hK K
  try simp only [Act.put, List.getElem_toArray, List.getElem_cons_zero, List.getElem_cons_succ, List.setIfInBounds_toArray, List.set_cons_zero, List.set_cons_succ]
  refine ord_take (i := 14) (v := ?_) (by kernel_rfl) rfl (by decide) (by kernel_rfl) (by kernel_rfl) (fun _ _ _ h => h) (Or.inl ⟨by rfl, ?_⟩) hx2 ?_
  rotate_left
  · intro wz hz; go_simp; (try with_reducible rfl)
  try simp only [Act.put, List.getElem_toArray, List.getElem_cons_zero, List.getElem_cons_succ, List.setIfInBounds_toArray, List.set_cons_zero, List.set_cons_succ]
  refine ord_take (i := 15) (v := ?_) (by kernel_rfl) rfl (by decide) (by kernel_rfl) (by kernel_rfl) (fun _ _ _ h => h) (Or.inl ⟨by rfl, ?_⟩) hx2 ?_
  rotate_left
  · intro wz hz; go_simp; (try with_reducible rfl)
  try simp only [Act.put, List.getElem_toArray, List.getElem_cons_zero, List.getElem_cons_succ, List.setIfInBounds_toArray, List.set_cons_zero, List.set_cons_succ]
  refine ord_take (i := 16) (v := ?_) (by kernel_rfl) rfl (by decide) (by kernel_rfl) (by kernel_rfl) (fun _ _ _ h => h) (Or.inl ⟨by rfl, ?_⟩) hx2 ?_
  rotate_left
  · intro wz hz; go_simp; (try with_reducible rfl)
  try simp only [Act.put, List.getElem_toArray, List.getElem_cons_zero, List.getElem_cons_succ, List.setIfInBounds_toArray, List.set_cons_zero, List.set_cons_succ]
  refine ord_take (i := 17) (v := ?_) (by kernel_rfl) rfl (by decide) (by kernel_rfl) (by kernel_rfl) (fun _ _ _ h => h) (Or.inl ⟨by rfl, ?_⟩) hx2 ?_
  rotate_left
  · intro wz hz; have j := k_r.below hz k_r.lt; have q0 := j.cell 0; have q1 := j.cell 1; go_simp; (try with_reducible rfl)
  try simp only [Act.put, List.getElem_toArray, List.getElem_cons_zero, List.getElem_cons_succ, List.setIfInBounds_toArray, List.set_cons_zero, List.set_cons_succ]
  refine ord_take (i := 18) (v := ?_) (by kernel_rfl) rfl (by decide) (by kernel_rfl) (by kernel_rfl) (fun _ _ _ h => h) (Or.inl ⟨by rfl, ?_⟩) hx2 ?_
  rotate_left
  · intro wz hz; have j := k_o.below hz k_o.lt; have q0 := j.cell 0; have q1 := j.cell 1; go_simp; (try with_reducible rfl)
  try simp only [Act.put, List.getElem_toArray, List.getElem_cons_zero, List.getElem_cons_succ, List.setIfInBounds_toArray, List.set_cons_zero, List.set_cons_succ]
  refine ord_step (i := 19) rfl (by decide) (by kernel_rfl) (by rfl) (fun K hK => ?_)
  go_simp
  refine (fcmp_v (I_r.on hx2) (I_o.on hx2) (by decide) (by decide)).mono ?_
  rintro y X14_9_3 ⟨rfl, hb⟩
  rw [cmpQ_lt (rest_lt hfl.2)]
  have hx3 := bltB hx2 hx2.size hb
  clear hb hx2
  refine hK _ _ hx3 ?_
  clear hK K
  try simp only [Act.put, List.getElem_toArray, List.getElem_cons_zero, List.getElem_cons_succ, List.setIfInBounds_toArray, List.set_cons_zero, List.set_cons_succ]
  refine ord_take (i := 20) (v := ?_) (by kernel_rfl) rfl (by decide) (by kernel_rfl) (by kernel_rfl) (fun _ _ _ h => h) (Or.inl ⟨by rfl, ?_⟩) hx3 ?_
  rotate_left
  · intro wz hz; go_simp; (try with_reducible rfl)
  try simp only [Act.put, List.getElem_toArray, List.getElem_cons_zero, List.getElem_cons_succ, List.setIfInBounds_toArray, List.set_cons_zero, List.set_cons_succ]
  refine ord_take (i := 21) (v := ?_) (by kernel_rfl) rfl (by decide) (by kernel_rfl) (by kernel_rfl) (fun _ _ _ h => h) (Or.inl ⟨by rfl, ?_⟩) hx3 ?_
  rotate_left
  · intro wz hz; go_simp; (try with_reducible rfl)
  try simp only [Act.put, List.getElem_toArray, List.getElem_cons_zero, List.getElem_cons_succ, List.setIfInBounds_toArray, List.set_cons_zero, List.set_cons_succ]
  refine ord_take (i := 22) (v := ?_) (by kernel_rfl) rfl (by decide) (by kernel_rfl) (by kernel_rfl) (fun _ _ _ h => h) (Or.inl ⟨by rfl, ?_⟩) hx3 ?_
  rotate_left
  · intro wz hz; go_simp; (try with_reducible rfl)
  try simp only [Act.put, List.getElem_toArray, List.getElem_cons_zero, List.getElem_cons_succ, List.setIfInBounds_toArray, List.set_cons_zero, List.set_cons_succ]
  refine ord_take (i := 23) (v := ?_) (by kernel_rfl) rfl (by decide) (by kernel_rfl) (by kernel_rfl) (fun _ _ _ h => h) (Or.inl ⟨by rfl, ?_⟩) hx3 ?_
  rotate_left
  · intro wz hz; have j := k_l.below hz k_l.lt; have q0 := j.cell 0; have q1 := j.cell 1; go_simp; (try with_reducible rfl)
  try simp only [Act.put, List.getElem_toArray, List.getElem_cons_zero, List.getElem_cons_succ, List.setIfInBounds_toArray, List.set_cons_zero, List.set_cons_succ]
  refine ord_take (i := 24) (v := ?_) (by kernel_rfl) rfl (by decide) (by kernel_rfl) (by kernel_rfl) (fun _ _ _ h => h) (Or.inl ⟨by rfl, ?_⟩) hx3 ?_
  rotate_left
  · intro wz hz; have j := k_r.below hz k_r.lt; have q0 := j.cell 0; have q1 := j.cell 1; go_simp; (try with_reducible rfl)
  try simp only [Act.put, List.getElem_toArray, List.getElem_cons_zero, List.getElem_cons_succ, List.setIfInBounds_toArray, List.set_cons_zero, List.set_cons_succ]
  refine ord_take (i := 26) (v := ?_) (by kernel_rfl) rfl (by decide) (by kernel_rfl) (by kernel_rfl) (fun _ _ _ h => h) (Or.inl ⟨by rfl, ?_⟩) hx3 ?_
  rotate_left
  · intro wz hz; have j := k_a.below hz k_a.lt; have q0 := j.cell 0; have q1 := j.cell 1; go_simp; (try with_reducible rfl)
  try simp only [Act.put, List.getElem_toArray, List.getElem_cons_zero, List.getElem_cons_succ, List.setIfInBounds_toArray, List.set_cons_zero, List.set_cons_succ]
  refine ord_step (i := 25) rfl (by decide) (by kernel_rfl) (by rfl) (fun K hK => ?_)
  go_simp
  refine (fadd_v (I_l.on hx3) (I_r.on hx3) (by decide) (by decide)).mono ?_
  rintro y X14_9_4 ⟨v_t, rfl, I_t, hb⟩
  have hx4 := bltB hx3 hx3.size hb
  clear hb hx3
  refine hK _ _ hx4 ?_
  clear hK K
  try simp only [Act.put, List.getElem_toArray, List.getElem_cons_zero, List.getElem_cons_succ, List.setIfInBounds_toArray, List.set_cons_zero, List.set_cons_succ]
  refine ord_step (i := 27) rfl (by decide) (by kernel_rfl) (by rfl) (fun K hK => ?_)
  go_simp
  refine (fsame_v I_t (I_a.on hx4) (by decide)).mono ?_
  rintro y X14_9_5 ⟨rfl, hb⟩
  rw [decide_eq_true (show ((X : Nat) : Rat) + (q_a - ((X : Nat) : Rat)) = q_a by grind)]
  clear I_t
  have hx5 := bltB hx4 hx4.size hb
  clear hb hx4
  refine hK _ _ hx5 ?_
  clear hK K
  try simp only [Act.put, List.getElem_toArray, List.getElem_cons_zero, List.getElem_cons_succ, List.setIfInBounds_toArray, List.set_cons_zero, List.set_cons_succ]
  refine ord_take (i := 28) (v := ?_) (by kernel_rfl) rfl (by decide) (by kernel_rfl) (by kernel_rfl) (fun _ _ _ h => h) (Or.inl ⟨by rfl, ?_⟩) hx5 ?_
  rotate_left
  · intro wz hz; go_simp; (try with_reducible rfl)
  try simp only [Act.put, List.getElem_toArray, List.getElem_cons_zero, List.getElem_cons_succ, List.setIfInBounds_toArray, List.set_cons_zero, List.set_cons_succ]
  refine ord_take (i := 29) (v := ?_) (by kernel_rfl) rfl (by decide) (by kernel_rfl) (by kernel_rfl) (fun _ _ _ h => h) (Or.inl ⟨by rfl, ?_⟩) hx5 ?_
  rotate_left
  · intro wz hz; go_simp; (try with_reducible rfl)
  try simp only [Act.put, List.getElem_toArray, List.getElem_cons_zero, List.getElem_cons_succ, List.setIfInBounds_toArray, List.set_cons_zero, List.set_cons_succ]
  refine ord_take (i := 30) (v := ?_) (by kernel_rfl) rfl (by decide) (by kernel_rfl) (by kernel_rfl) (fun _ _ _ h => h) (Or.inl ⟨by rfl, ?_⟩) hx5 ?_
  rotate_left
  · intro wz hz; go_simp; (try with_reducible rfl)
  try simp only [Act.put, List.getElem_toArray, List.getElem_cons_zero, List.getElem_cons_succ, List.setIfInBounds_toArray, List.set_cons_zero, List.set_cons_succ]
  refine ord_take (i := 31) (v := ?_) (by kernel_rfl) rfl (by decide) (by kernel_rfl) (by kernel_rfl) (fun _ _ _ h => h) (Or.inl ⟨by rfl, ?_⟩) hx5 ?_
  rotate_left
  · intro wz hz; have j := k_l.below hz k_l.lt; have q0 := j.cell 0; have q1 := j.cell 1; go_simp; (try with_reducible rfl)
  try simp only [Act.put, List.getElem_toArray, List.getElem_cons_zero, List.getElem_cons_succ, List.setIfInBounds_toArray, List.set_cons_zero, List.set_cons_succ]
  refine ord_take (i := 32) (v := ?_) (by kernel_rfl) rfl (by decide) (by kernel_rfl) (by kernel_rfl) (fun _ _ _ h => h) (Or.inl ⟨by rfl, ?_⟩) hx5 ?_
  rotate_left
  · intro wz hz; go_simp; (try with_reducible rfl)
  try simp only [Act.put, List.getElem_toArray, List.getElem_cons_zero, List.getElem_cons_succ, List.setIfInBounds_toArray, List.set_cons_zero, List.set_cons_succ]
  refine ord_step (i := 33) rfl (by decide) (by kernel_rfl) (by rfl) (fun K hK => ?_)
  go_simp
  refine (nats_any _ _ _ _ _ _ _ _ _ (R_l.on hx5) (r_n.on hx5) (by have := isq_n I_l; omega)).mono ?_
  rintro y X14_9_6 ⟨rfl, hb⟩
  rw [show decide (digs (rn ((X : Nat) : Rat)) = digs X) = true from decide_eq_true rfl]
  have hx6 := bltB hx5 hx5.size hb
  clear hb hx5
  refine hK _ _ hx6 ?_
  clear hK K
  try simp only [Act.put, List.getElem_toArray, List.getElem_cons_zero, List.getElem_cons_succ, List.setIfInBounds_toArray, List.set_cons_zero, List.set_cons_succ]
  refine ord_take (i := 34) (v := ?_) (by kernel_rfl) rfl (by decide) (by kernel_rfl) (by kernel_rfl) (fun _ _ _ h => h) (Or.inl ⟨by rfl, ?_⟩) hx6 ?_
  rotate_left
  · intro wz hz; go_simp; (try with_reducible rfl)
  try simp only [Act.put, List.getElem_toArray, List.getElem_cons_zero, List.getElem_cons_succ, List.setIfInBounds_toArray, List.set_cons_zero, List.set_cons_succ]
  refine ord_rest (by kernel_rfl) ?_
  refine any_step (i := 35) rfl (by kernel_rfl) (by rfl) (fun K hK => ?_)
  go_simp
  refine hK _ _ ?_
  clear hK K
  try simp only [Act.put, List.getElem_toArray, List.getElem_cons_zero, List.getElem_cons_succ, List.setIfInBounds_toArray, List.set_cons_zero, List.set_cons_succ]
  refine wpAny_done (by kernel_rfl) ?_ _
  refine NoPanic.normal ?_
  replace k_a := k_a.below hx6 k_a.lt
  replace I_a := I_a.on hx6
  replace r_n := r_n.on hx6
  replace I_l := I_l.on hx6
  replace R_l := R_l.on hx6
  replace T_l := T_l.on hx6
  replace k_l := k_l.below hx6 k_l.lt
  replace I_h := I_h.on hx6
  replace k_h := k_h.below hx6 k_h.lt
  replace I_r := I_r.on hx6
  replace k_r := k_r.below hx6 k_r.lt
  replace I_o := I_o.on hx6
  replace k_o := k_o.below hx6 k_o.lt
  have hB15 := bltB hB14 hB14.size hx6
  clear hx6 hB14
  go_wp2_with fail
  go_ret
  exact ⟨rfl, hB15⟩

end Go.Proofs.YthkgeafidbihmaaDoor
