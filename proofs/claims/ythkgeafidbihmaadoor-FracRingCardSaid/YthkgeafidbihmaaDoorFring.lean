/-
  The law FracRing: what its walk answers, whatever the digits.
-/
import Derived.Test.YthkgeafidbihmaaDoorFsml
import Derived.Test.YthkgeafidbihmaaDoorFracI
namespace Go.Proofs.YthkgeafidbihmaaDoor
open Go.RowKit Go.Shelf
set_option linter.unusedVariables false
set_option linter.unusedSimpArgs false
attribute [local go_sem] Oper.semAt_some

set_option maxRecDepth 100000 in
set_option maxHeartbeats 4000000 in
theorem fring_any (w : World) (hT : Tab w) (A_a B_a : Option Addr) (n_a c_a m_a d_a : Nat) (l_a j_a : List Nat) (r_a : Rd w w.heap.size A_a n_a c_a l_a) (t_a : Rd w w.heap.size B_a m_a d_a j_a) (g_a : n_a ≤ 9223372036854775807) (h_a : m_a ≤ 9223372036854775807) (A_b B_b : Option Addr) (n_b c_b m_b d_b : Nat) (l_b j_b : List Nat) (r_b : Rd w w.heap.size A_b n_b c_b l_b) (t_b : Rd w w.heap.size B_b m_b d_b j_b) (g_b : n_b ≤ 9223372036854775807) (h_b : m_b ≤ 9223372036854775807) (A_c B_c : Option Addr) (n_c c_c m_c d_c : Nat) (l_c j_c : List Nat) (r_c : Rd w w.heap.size A_c n_c c_c l_c) (t_c : Rd w w.heap.size B_c m_c d_c j_c) (g_c : n_c ≤ 9223372036854775807) (h_c : m_c ≤ 9223372036854775807) :
    Calls Tryd.prog 5 #[.agg #[.slice A_a n_a c_a, .slice B_a m_a d_a], .agg #[.slice A_b n_b c_b, .slice B_b m_b d_b], .agg #[.slice A_c n_c c_c, .slice B_c m_c d_c]] w fun e w' => e = .returned (.bool true) ∧ Below w.heap.size w w' := by
  have HT := Lib.hid hT
  clear hT
  obtain ⟨w0, hw0⟩ : ∃ W, W = (((w.alloc (.cells #[.slice A_a n_a c_a, .slice B_a m_a d_a] 24)).alloc (.cells #[.slice A_b n_b c_b, .slice B_b m_b d_b] 24)).alloc (.cells #[.slice A_c n_c c_c, .slice B_c m_c d_c] 24)) := ⟨_, rfl⟩
  have hB0 : Below w.heap.size w w0 := by rw [hw0]; exact ((((Below.refl _ _).alloc (Nat.le_refl _) _).alloc (by simp; try omega) _).alloc (by simp; try omega) _)
  have k_a : Blk w0 w.heap.size 24 #[.slice A_a n_a c_a, .slice B_a m_a d_a] := by
    rw [hw0]
    have := Blk.new w 24 #[.slice A_a n_a c_a, .slice B_a m_a d_a]
    exact ((this.alloc _).alloc _)
  have k_b : Blk w0 (w.heap.size + 1) 24 #[.slice A_b n_b c_b, .slice B_b m_b d_b] := by
    rw [hw0]
    have := Blk.new (w.alloc (.cells #[.slice A_a n_a c_a, .slice B_a m_a d_a] 24)) 24 #[.slice A_b n_b c_b, .slice B_b m_b d_b]
    rw [World.size_alloc] at this
    exact (this.alloc _)
  have k_c : Blk w0 (w.heap.size + 2) 24 #[.slice A_c n_c c_c, .slice B_c m_c d_c] := by
    rw [hw0]
    have := Blk.new ((w.alloc (.cells #[.slice A_a n_a c_a, .slice B_a m_a d_a] 24)).alloc (.cells #[.slice A_b n_b c_b, .slice B_b m_b d_b] 24)) 24 #[.slice A_c n_c c_c, .slice B_c m_c d_c]
    rw [World.size_alloc, World.size_alloc] at this
    exact this
  replace r_a := r_a.on hB0
  replace t_a := t_a.on hB0
  replace r_b := r_b.on hB0
  replace t_b := t_b.on hB0
  replace r_c := r_c.on hB0
  replace t_c := t_c.on hB0
  go_enter Tryd.func5, Tryd.ntmps5
  go_wp2_with fail
  rw [← hw0]
  clear hw0
  refine (small_any w0 (HT.out.on hB0)).mono ?_
  rintro y w1 ⟨rfl, hb⟩
  replace k_a := k_a.below hb k_a.lt
  replace k_b := k_b.below hb k_b.lt
  replace k_c := k_c.below hb k_c.lt
  replace r_a := r_a.on hb
  replace t_a := t_a.on hb
  replace r_b := r_b.on hb
  replace t_b := t_b.on hb
  replace r_c := r_c.on hb
  replace t_c := t_c.on hb
  have hB1 := bltB hB0 hB0.size hb
  clear hb hB0
  have q_k_a_0 := k_a.cell 0
  have q_k_a_1 := k_a.cell 1
  have q_k_a_l := k_a.lt
  have q_k_b_0 := k_b.cell 0
  have q_k_b_1 := k_b.cell 1
  have q_k_b_l := k_b.lt
  go_wp2_with fail
  clear q_k_a_0 q_k_a_1 q_k_a_l q_k_b_0 q_k_b_1 q_k_b_l
  refine (few_any w1 _ _ _ _ _ _ _ _ _ _ _ _ g_a h_a g_b h_b).mono ?_
  rintro y w2 ⟨rfl, hb⟩
  replace k_a := k_a.below hb k_a.lt
  replace k_b := k_b.below hb k_b.lt
  replace k_c := k_c.below hb k_c.lt
  replace r_a := r_a.on hb
  replace t_a := t_a.on hb
  replace r_b := r_b.on hb
  replace t_b := t_b.on hb
  replace r_c := r_c.on hb
  replace t_c := t_c.on hb
  have hB2 := bltB hB1 hB1.size hb
  clear hb hB1
  rcases hf : (fewB n_a m_a && fewB n_b m_b) with _ | _
  · clear hf
    go_wp2_with fail
    go_ret
    exact ⟨rfl, hB2⟩
  have hle := few_le2 hf
  clear hf
  have le_a : n_a ≤ 12 ∧ m_a ≤ 12 := hle.1
  have le_b : n_b ≤ 12 ∧ m_b ≤ 12 := hle.2
  clear hle
  have q_k_c_0 := k_c.cell 0
  have q_k_c_1 := k_c.cell 1
  have q_k_c_l := k_c.lt
  go_wp2_with fail
  clear q_k_c_0 q_k_c_1 q_k_c_l
  refine (few_any w2 _ _ _ _ _ _ _ _ _ _ _ _ g_c h_c g_c h_c).mono ?_
  rintro y w3 ⟨rfl, hb⟩
  replace k_a := k_a.below hb k_a.lt
  replace k_b := k_b.below hb k_b.lt
  replace k_c := k_c.below hb k_c.lt
  replace r_a := r_a.on hb
  replace t_a := t_a.on hb
  replace r_b := r_b.on hb
  replace t_b := t_b.on hb
  replace r_c := r_c.on hb
  replace t_c := t_c.on hb
  have hB3 := bltB hB2 hB2.size hb
  clear hb hB2
  rcases hf : (fewB n_c m_c && fewB n_c m_c) with _ | _
  · clear hf
    go_wp2_with fail
    go_ret
    exact ⟨rfl, hB3⟩
  have hle := few_le2 hf
  clear hf
  have le_c : n_c ≤ 12 ∧ m_c ≤ 12 := hle.1
  clear hle
  have q_k_a_0 := k_a.cell 0
  have q_k_a_1 := k_a.cell 1
  have q_k_a_l := k_a.lt
  go_wp2_with fail
  clear q_k_a_0 q_k_a_1 q_k_a_l
  refine (fright_any w3 _ _ _ _ _ _ _ _ r_a t_a (by omega) (by omega)).mono ?_
  rintro y w4 ⟨rfl, hb⟩
  replace k_a := k_a.below hb k_a.lt
  replace k_b := k_b.below hb k_b.lt
  replace k_c := k_c.below hb k_c.lt
  replace r_a := r_a.on hb
  replace t_a := t_a.on hb
  replace r_b := r_b.on hb
  replace t_b := t_b.on hb
  replace r_c := r_c.on hb
  replace t_c := t_c.on hb
  have hB4 := bltB hB3 hB3.size hb
  clear hb hB3
  rcases hr : frR l_a j_a with _ | _
  · clear hr
    go_wp2_with fail
    go_ret
    exact ⟨rfl, hB4⟩
  obtain ⟨q_a, rfl, rfl, F_a⟩ := as_q r_a t_a le_a.1 le_a.2 hr
  clear hr
  have q_k_b_0 := k_b.cell 0
  have q_k_b_1 := k_b.cell 1
  have q_k_b_l := k_b.lt
  go_wp2_with fail
  clear q_k_b_0 q_k_b_1 q_k_b_l
  refine (fright_any w4 _ _ _ _ _ _ _ _ r_b t_b (by omega) (by omega)).mono ?_
  rintro y w5 ⟨rfl, hb⟩
  replace k_a := k_a.below hb k_a.lt
  replace k_b := k_b.below hb k_b.lt
  replace k_c := k_c.below hb k_c.lt
  replace r_a := r_a.on hb
  replace t_a := t_a.on hb
  replace r_b := r_b.on hb
  replace t_b := t_b.on hb
  replace r_c := r_c.on hb
  replace t_c := t_c.on hb
  have hB5 := bltB hB4 hB4.size hb
  clear hb hB4
  rcases hr : frR l_b j_b with _ | _
  · clear hr
    go_wp2_with fail
    go_ret
    exact ⟨rfl, hB5⟩
  obtain ⟨q_b, rfl, rfl, F_b⟩ := as_q r_b t_b le_b.1 le_b.2 hr
  clear hr
  have q_k_c_0 := k_c.cell 0
  have q_k_c_1 := k_c.cell 1
  have q_k_c_l := k_c.lt
  go_wp2_with fail
  clear q_k_c_0 q_k_c_1 q_k_c_l
  refine (fright_any w5 _ _ _ _ _ _ _ _ r_c t_c (by omega) (by omega)).mono ?_
  rintro y w6 ⟨rfl, hb⟩
  replace k_a := k_a.below hb k_a.lt
  replace k_b := k_b.below hb k_b.lt
  replace k_c := k_c.below hb k_c.lt
  replace r_a := r_a.on hb
  replace t_a := t_a.on hb
  replace r_b := r_b.on hb
  replace t_b := t_b.on hb
  replace r_c := r_c.on hb
  replace t_c := t_c.on hb
  have hB6 := bltB hB5 hB5.size hb
  clear hb hB5
  rcases hr : frR l_c j_c with _ | _
  · clear hr
    go_wp2_with fail
    go_ret
    exact ⟨rfl, hB6⟩
  obtain ⟨q_c, rfl, rfl, F_c⟩ := as_q r_c t_c le_c.1 le_c.2 hr
  clear hr
  have g_len := r_b.len
  have I_a := IsQ.mk r_a t_a F_a
  have I_b := IsQ.mk r_b t_b F_b
  have I_c := IsQ.mk r_c t_c F_c
  go_wp2_with fail
  refine wp_region_noPanic ?_
  refine ord_begin 17 (fun wx => Below w6.heap.size w6 wx) (by kernel_rfl) ?_
  have hx0 : Below w6.heap.size w6 w6.drew := (Below.refl _ _).drew
  refine ord_take (i := 0) (v := ?_) (by kernel_rfl) rfl (by decide) (by kernel_rfl) (by kernel_rfl) (fun _ _ _ h => h) (Or.inl ⟨by rfl, ?_⟩) hx0 ?_
  rotate_left
  · intro wz hz; have j := k_a.below hz k_a.lt; have q0 := j.cell 0; have q1 := j.cell 1; go_simp; (try with_reducible rfl)
  try simp only [Act.put, List.getElem_toArray, List.getElem_cons_zero, List.getElem_cons_succ, List.setIfInBounds_toArray, List.set_cons_zero, List.set_cons_succ]
  refine ord_take (i := 1) (v := ?_) (by kernel_rfl) rfl (by decide) (by kernel_rfl) (by kernel_rfl) (fun _ _ _ h => h) (Or.inl ⟨by rfl, ?_⟩) hx0 ?_
  rotate_left
  · intro wz hz; have j := k_b.below hz k_b.lt; have q0 := j.cell 0; have q1 := j.cell 1; go_simp; (try with_reducible rfl)
  try simp only [Act.put, List.getElem_toArray, List.getElem_cons_zero, List.getElem_cons_succ, List.setIfInBounds_toArray, List.set_cons_zero, List.set_cons_succ]
  refine ord_take (i := 3) (v := ?_) (by kernel_rfl) rfl (by decide) (by kernel_rfl) (by kernel_rfl) (fun _ _ _ h => h) (Or.inl ⟨by rfl, ?_⟩) hx0 ?_
  rotate_left
  · intro wz hz; have j := k_b.below hz k_b.lt; have q0 := j.cell 0; have q1 := j.cell 1; go_simp; (try with_reducible rfl)
  try simp only [Act.put, List.getElem_toArray, List.getElem_cons_zero, List.getElem_cons_succ, List.setIfInBounds_toArray, List.set_cons_zero, List.set_cons_succ]
  refine ord_take (i := 4) (v := ?_) (by kernel_rfl) rfl (by decide) (by kernel_rfl) (by kernel_rfl) (fun _ _ _ h => h) (Or.inl ⟨by rfl, ?_⟩) hx0 ?_
  rotate_left
  · intro wz hz; have j := k_a.below hz k_a.lt; have q0 := j.cell 0; have q1 := j.cell 1; go_simp; (try with_reducible rfl)
  try simp only [Act.put, List.getElem_toArray, List.getElem_cons_zero, List.getElem_cons_succ, List.setIfInBounds_toArray, List.set_cons_zero, List.set_cons_succ]
  refine ord_step (i := 2) rfl (by decide) (by kernel_rfl) (by rfl) (fun K hK => ?_)
  go_simp
  refine (fadd_v (I_a.on hx0) (I_b.on hx0) (by decide) (by decide)).mono ?_
  rintro y X6_4_1 ⟨v_x, rfl, I_x, hb⟩
  have hx1 := bltB hx0 hx0.size hb
  clear hb hx0
  refine hK _ _ hx1 ?_
  clear hK K
  try simp only [Act.put, List.getElem_toArray, List.getElem_cons_zero, List.getElem_cons_succ, List.setIfInBounds_toArray, List.set_cons_zero, List.set_cons_succ]
  refine ord_step (i := 5) rfl (by decide) (by kernel_rfl) (by rfl) (fun K hK => ?_)
  go_simp
  refine (fadd_v (I_b.on hx1) (I_a.on hx1) (by decide) (by decide)).mono ?_
  rintro y X6_4_2 ⟨v_y, rfl, I_y, hb⟩
  replace I_x := I_x.on hb
  have hx2 := bltB hx1 hx1.size hb
  clear hb hx1
  refine hK _ _ hx2 ?_
  clear hK K
  try simp only [Act.put, List.getElem_toArray, List.getElem_cons_zero, List.getElem_cons_succ, List.setIfInBounds_toArray, List.set_cons_zero, List.set_cons_succ]
  refine ord_step (i := 6) rfl (by decide) (by kernel_rfl) (by rfl) (fun K hK => ?_)
  go_simp
  refine (fsame_v I_x I_y (by decide)).mono ?_
  rintro y X6_4_3 ⟨rfl, hb⟩
  rw [decide_eq_true (Rat.add_comm q_a q_b)]
  clear I_x
  clear I_y
  have hx3 := bltB hx2 hx2.size hb
  clear hb hx2
  refine hK _ _ hx3 ?_
  clear hK K
  try simp only [Act.put, List.getElem_toArray, List.getElem_cons_zero, List.getElem_cons_succ, List.setIfInBounds_toArray, List.set_cons_zero, List.set_cons_succ]
  refine ord_take (i := 7) (v := ?_) (by kernel_rfl) rfl (by decide) (by kernel_rfl) (by kernel_rfl) (fun _ _ _ h => h) (Or.inl ⟨by rfl, ?_⟩) hx3 ?_
  rotate_left
  · intro wz hz; go_simp; (try with_reducible rfl)
  try simp only [Act.put, List.getElem_toArray, List.getElem_cons_zero, List.getElem_cons_succ, List.setIfInBounds_toArray, List.set_cons_zero, List.set_cons_succ]
  refine ord_take (i := 8) (v := ?_) (by kernel_rfl) rfl (by decide) (by kernel_rfl) (by kernel_rfl) (fun _ _ _ h => h) (Or.inl ⟨by rfl, ?_⟩) hx3 ?_
  rotate_left
  · intro wz hz; go_simp; (try with_reducible rfl)
  try simp only [Act.put, List.getElem_toArray, List.getElem_cons_zero, List.getElem_cons_succ, List.setIfInBounds_toArray, List.set_cons_zero, List.set_cons_succ]
  refine ord_take (i := 9) (v := ?_) (by kernel_rfl) rfl (by decide) (by kernel_rfl) (by kernel_rfl) (fun _ _ _ h => h) (Or.inl ⟨by rfl, ?_⟩) hx3 ?_
  rotate_left
  · intro wz hz; have j := k_a.below hz k_a.lt; have q0 := j.cell 0; have q1 := j.cell 1; go_simp; (try with_reducible rfl)
  try simp only [Act.put, List.getElem_toArray, List.getElem_cons_zero, List.getElem_cons_succ, List.setIfInBounds_toArray, List.set_cons_zero, List.set_cons_succ]
  refine ord_take (i := 10) (v := ?_) (by kernel_rfl) rfl (by decide) (by kernel_rfl) (by kernel_rfl) (fun _ _ _ h => h) (Or.inl ⟨by rfl, ?_⟩) hx3 ?_
  rotate_left
  · intro wz hz; have j := k_b.below hz k_b.lt; have q0 := j.cell 0; have q1 := j.cell 1; go_simp; (try with_reducible rfl)
  try simp only [Act.put, List.getElem_toArray, List.getElem_cons_zero, List.getElem_cons_succ, List.setIfInBounds_toArray, List.set_cons_zero, List.set_cons_succ]
  refine ord_take (i := 12) (v := ?_) (by kernel_rfl) rfl (by decide) (by kernel_rfl) (by kernel_rfl) (fun _ _ _ h => h) (Or.inl ⟨by rfl, ?_⟩) hx3 ?_
  rotate_left
  · intro wz hz; have j := k_b.below hz k_b.lt; have q0 := j.cell 0; have q1 := j.cell 1; go_simp; (try with_reducible rfl)
  try simp only [Act.put, List.getElem_toArray, List.getElem_cons_zero, List.getElem_cons_succ, List.setIfInBounds_toArray, List.set_cons_zero, List.set_cons_succ]
  refine ord_take (i := 13) (v := ?_) (by kernel_rfl) rfl (by decide) (by kernel_rfl) (by kernel_rfl) (fun _ _ _ h => h) (Or.inl ⟨by rfl, ?_⟩) hx3 ?_
  rotate_left
  · intro wz hz; have j := k_a.below hz k_a.lt; have q0 := j.cell 0; have q1 := j.cell 1; go_simp; (try with_reducible rfl)
  try simp only [Act.put, List.getElem_toArray, List.getElem_cons_zero, List.getElem_cons_succ, List.setIfInBounds_toArray, List.set_cons_zero, List.set_cons_succ]
  refine ord_step (i := 11) rfl (by decide) (by kernel_rfl) (by rfl) (fun K hK => ?_)
  go_simp
  refine (fmul_v (I_a.on hx3) (I_b.on hx3) (by decide) (by decide)).mono ?_
  rintro y X6_4_4 ⟨v_x, rfl, I_x, hb⟩
  have hx4 := bltB hx3 hx3.size hb
  clear hb hx3
  refine hK _ _ hx4 ?_
  clear hK K
  try simp only [Act.put, List.getElem_toArray, List.getElem_cons_zero, List.getElem_cons_succ, List.setIfInBounds_toArray, List.set_cons_zero, List.set_cons_succ]
  refine ord_step (i := 14) rfl (by decide) (by kernel_rfl) (by rfl) (fun K hK => ?_)
  go_simp
  refine (fmul_v (I_b.on hx4) (I_a.on hx4) (by decide) (by decide)).mono ?_
  rintro y X6_4_5 ⟨v_y, rfl, I_y, hb⟩
  replace I_x := I_x.on hb
  have hx5 := bltB hx4 hx4.size hb
  clear hb hx4
  refine hK _ _ hx5 ?_
  clear hK K
  try simp only [Act.put, List.getElem_toArray, List.getElem_cons_zero, List.getElem_cons_succ, List.setIfInBounds_toArray, List.set_cons_zero, List.set_cons_succ]
  refine ord_step (i := 15) rfl (by decide) (by kernel_rfl) (by rfl) (fun K hK => ?_)
  go_simp
  refine (fsame_v I_x I_y (by decide)).mono ?_
  rintro y X6_4_6 ⟨rfl, hb⟩
  rw [decide_eq_true (Rat.mul_comm q_a q_b)]
  clear I_x
  clear I_y
  have hx6 := bltB hx5 hx5.size hb
  clear hb hx5
  refine hK _ _ hx6 ?_
  clear hK K
  try simp only [Act.put, List.getElem_toArray, List.getElem_cons_zero, List.getElem_cons_succ, List.setIfInBounds_toArray, List.set_cons_zero, List.set_cons_succ]
  refine ord_take (i := 16) (v := ?_) (by kernel_rfl) rfl (by decide) (by kernel_rfl) (by kernel_rfl) (fun _ _ _ h => h) (Or.inl ⟨by rfl, ?_⟩) hx6 ?_
  rotate_left
  · intro wz hz; go_simp; (try with_reducible rfl)
  try simp only [Act.put, List.getElem_toArray, List.getElem_cons_zero, List.getElem_cons_succ, List.setIfInBounds_toArray, List.set_cons_zero, List.set_cons_succ]
  refine ord_rest (by kernel_rfl) ?_
  refine wpAny_take (i := 17) (v := ?_) rfl (by kernel_rfl) (by kernel_rfl) (by kernel_rfl) (fun _ _ _ h => h) (Or.inl ⟨by rfl, ?_⟩) ?_
  rotate_left
  · intro wz; go_simp; (try with_reducible rfl)
  try simp only [Act.put, List.getElem_toArray, List.getElem_cons_zero, List.getElem_cons_succ, List.setIfInBounds_toArray, List.set_cons_zero, List.set_cons_succ]
  refine wpAny_done (by kernel_rfl) ?_ _
  refine NoPanic.normal ?_
  replace k_a := k_a.below hx6 k_a.lt
  replace k_b := k_b.below hx6 k_b.lt
  replace k_c := k_c.below hx6 k_c.lt
  replace I_a := I_a.on hx6
  replace I_b := I_b.on hx6
  replace I_c := I_c.on hx6
  have hB7 := bltB hB6 hB6.size hx6
  clear hx6 hB6
  go_wp2_with fail
  refine wp_region_noPanic ?_
  refine ord_begin 25 (fun wx => Below X6_4_6.heap.size X6_4_6 wx) (by kernel_rfl) ?_
  have hx0 : Below X6_4_6.heap.size X6_4_6 X6_4_6.drew := (Below.refl _ _).drew
  refine ord_take (i := 0) (v := ?_) (by kernel_rfl) rfl (by decide) (by kernel_rfl) (by kernel_rfl) (fun _ _ _ h => h) (Or.inl ⟨by rfl, ?_⟩) hx0 ?_
  rotate_left
  · intro wz hz; have j := k_a.below hz k_a.lt; have q0 := j.cell 0; have q1 := j.cell 1; go_simp; (try with_reducible rfl)
  try simp only [Act.put, List.getElem_toArray, List.getElem_cons_zero, List.getElem_cons_succ, List.setIfInBounds_toArray, List.set_cons_zero, List.set_cons_succ]
  refine ord_take (i := 1) (v := ?_) (by kernel_rfl) rfl (by decide) (by kernel_rfl) (by kernel_rfl) (fun _ _ _ h => h) (Or.inl ⟨by rfl, ?_⟩) hx0 ?_
  rotate_left
  · intro wz hz; have j := k_b.below hz k_b.lt; have q0 := j.cell 0; have q1 := j.cell 1; go_simp; (try with_reducible rfl)
  try simp only [Act.put, List.getElem_toArray, List.getElem_cons_zero, List.getElem_cons_succ, List.setIfInBounds_toArray, List.set_cons_zero, List.set_cons_succ]
  refine ord_take (i := 3) (v := ?_) (by kernel_rfl) rfl (by decide) (by kernel_rfl) (by kernel_rfl) (fun _ _ _ h => h) (Or.inl ⟨by rfl, ?_⟩) hx0 ?_
  rotate_left
  · intro wz hz; have j := k_c.below hz k_c.lt; have q0 := j.cell 0; have q1 := j.cell 1; go_simp; (try with_reducible rfl)
  try simp only [Act.put, List.getElem_toArray, List.getElem_cons_zero, List.getElem_cons_succ, List.setIfInBounds_toArray, List.set_cons_zero, List.set_cons_succ]
  refine ord_take (i := 5) (v := ?_) (by kernel_rfl) rfl (by decide) (by kernel_rfl) (by kernel_rfl) (fun _ _ _ h => h) (Or.inl ⟨by rfl, ?_⟩) hx0 ?_
  rotate_left
  · intro wz hz; have j := k_a.below hz k_a.lt; have q0 := j.cell 0; have q1 := j.cell 1; go_simp; (try with_reducible rfl)
  try simp only [Act.put, List.getElem_toArray, List.getElem_cons_zero, List.getElem_cons_succ, List.setIfInBounds_toArray, List.set_cons_zero, List.set_cons_succ]
  refine ord_take (i := 6) (v := ?_) (by kernel_rfl) rfl (by decide) (by kernel_rfl) (by kernel_rfl) (fun _ _ _ h => h) (Or.inl ⟨by rfl, ?_⟩) hx0 ?_
  rotate_left
  · intro wz hz; have j := k_b.below hz k_b.lt; have q0 := j.cell 0; have q1 := j.cell 1; go_simp; (try with_reducible rfl)
  try simp only [Act.put, List.getElem_toArray, List.getElem_cons_zero, List.getElem_cons_succ, List.setIfInBounds_toArray, List.set_cons_zero, List.set_cons_succ]
  refine ord_take (i := 7) (v := ?_) (by kernel_rfl) rfl (by decide) (by kernel_rfl) (by kernel_rfl) (fun _ _ _ h => h) (Or.inl ⟨by rfl, ?_⟩) hx0 ?_
  rotate_left
  · intro wz hz; have j := k_c.below hz k_c.lt; have q0 := j.cell 0; have q1 := j.cell 1; go_simp; (try with_reducible rfl)
  try simp only [Act.put, List.getElem_toArray, List.getElem_cons_zero, List.getElem_cons_succ, List.setIfInBounds_toArray, List.set_cons_zero, List.set_cons_succ]
  refine ord_step (i := 2) rfl (by decide) (by kernel_rfl) (by rfl) (fun K hK => ?_)
  go_simp
  refine (fadd_v (I_a.on hx0) (I_b.on hx0) (by decide) (by decide)).mono ?_
  rintro y X7_6_1 ⟨v_x, rfl, I_x, hb⟩
  have hx1 := bltB hx0 hx0.size hb
  clear hb hx0
  refine hK _ _ hx1 ?_
  clear hK K
  try simp only [Act.put, List.getElem_toArray, List.getElem_cons_zero, List.getElem_cons_succ, List.setIfInBounds_toArray, List.set_cons_zero, List.set_cons_succ]
  refine ord_step (i := 4) rfl (by decide) (by kernel_rfl) (by rfl) (fun K hK => ?_)
  go_simp
  refine (fadd_v I_x (I_c.on hx1) (by decide) (by decide)).mono ?_
  rintro y X7_6_2 ⟨v_y, rfl, I_y, hb⟩
  have hx2 := bltB hx1 hx1.size hb
  clear hb hx1
  refine hK _ _ hx2 ?_
  clear hK K
  try simp only [Act.put, List.getElem_toArray, List.getElem_cons_zero, List.getElem_cons_succ, List.setIfInBounds_toArray, List.set_cons_zero, List.set_cons_succ]
  refine ord_step (i := 8) rfl (by decide) (by kernel_rfl) (by rfl) (fun K hK => ?_)
  go_simp
  refine (fadd_v (I_b.on hx2) (I_c.on hx2) (by decide) (by decide)).mono ?_
  rintro y X7_6_3 ⟨v_z, rfl, I_z, hb⟩
  replace I_y := I_y.on hb
  have hx3 := bltB hx2 hx2.size hb
  clear hb hx2
  refine hK _ _ hx3 ?_
  clear hK K
  try simp only [Act.put, List.getElem_toArray, List.getElem_cons_zero, List.getElem_cons_succ, List.setIfInBounds_toArray, List.set_cons_zero, List.set_cons_succ]
  refine ord_step (i := 9) rfl (by decide) (by kernel_rfl) (by rfl) (fun K hK => ?_)
  go_simp
  refine (fadd_v (I_a.on hx3) I_z (by decide) (by decide)).mono ?_
  rintro y X7_6_4 ⟨v_u, rfl, I_u, hb⟩
  replace I_y := I_y.on hb
  have hx4 := bltB hx3 hx3.size hb
  clear hb hx3
  refine hK _ _ hx4 ?_
  clear hK K
  try simp only [Act.put, List.getElem_toArray, List.getElem_cons_zero, List.getElem_cons_succ, List.setIfInBounds_toArray, List.set_cons_zero, List.set_cons_succ]
  refine ord_step (i := 10) rfl (by decide) (by kernel_rfl) (by rfl) (fun K hK => ?_)
  go_simp
  refine (fsame_v I_y I_u (by decide)).mono ?_
  rintro y X7_6_5 ⟨rfl, hb⟩
  rw [decide_eq_true (Rat.add_assoc q_a q_b q_c)]
  clear I_y
  clear I_u
  have hx5 := bltB hx4 hx4.size hb
  clear hb hx4
  refine hK _ _ hx5 ?_
  clear hK K
  try simp only [Act.put, List.getElem_toArray, List.getElem_cons_zero, List.getElem_cons_succ, List.setIfInBounds_toArray, List.set_cons_zero, List.set_cons_succ]
  refine ord_take (i := 11) (v := ?_) (by kernel_rfl) rfl (by decide) (by kernel_rfl) (by kernel_rfl) (fun _ _ _ h => h) (Or.inl ⟨by rfl, ?_⟩) hx5 ?_
  rotate_left
  · intro wz hz; go_simp; (try with_reducible rfl)
  try simp only [Act.put, List.getElem_toArray, List.getElem_cons_zero, List.getElem_cons_succ, List.setIfInBounds_toArray, List.set_cons_zero, List.set_cons_succ]
  refine ord_take (i := 12) (v := ?_) (by kernel_rfl) rfl (by decide) (by kernel_rfl) (by kernel_rfl) (fun _ _ _ h => h) (Or.inl ⟨by rfl, ?_⟩) hx5 ?_
  rotate_left
  · intro wz hz; go_simp; (try with_reducible rfl)
  try simp only [Act.put, List.getElem_toArray, List.getElem_cons_zero, List.getElem_cons_succ, List.setIfInBounds_toArray, List.set_cons_zero, List.set_cons_succ]
  refine ord_take (i := 13) (v := ?_) (by kernel_rfl) rfl (by decide) (by kernel_rfl) (by kernel_rfl) (fun _ _ _ h => h) (Or.inl ⟨by rfl, ?_⟩) hx5 ?_
  rotate_left
  · intro wz hz; have j := k_a.below hz k_a.lt; have q0 := j.cell 0; have q1 := j.cell 1; go_simp; (try with_reducible rfl)
  try simp only [Act.put, List.getElem_toArray, List.getElem_cons_zero, List.getElem_cons_succ, List.setIfInBounds_toArray, List.set_cons_zero, List.set_cons_succ]
  refine ord_take (i := 14) (v := ?_) (by kernel_rfl) rfl (by decide) (by kernel_rfl) (by kernel_rfl) (fun _ _ _ h => h) (Or.inl ⟨by rfl, ?_⟩) hx5 ?_
  rotate_left
  · intro wz hz; have j := k_b.below hz k_b.lt; have q0 := j.cell 0; have q1 := j.cell 1; go_simp; (try with_reducible rfl)
  try simp only [Act.put, List.getElem_toArray, List.getElem_cons_zero, List.getElem_cons_succ, List.setIfInBounds_toArray, List.set_cons_zero, List.set_cons_succ]
  refine ord_take (i := 16) (v := ?_) (by kernel_rfl) rfl (by decide) (by kernel_rfl) (by kernel_rfl) (fun _ _ _ h => h) (Or.inl ⟨by rfl, ?_⟩) hx5 ?_
  rotate_left
  · intro wz hz; have j := k_c.below hz k_c.lt; have q0 := j.cell 0; have q1 := j.cell 1; go_simp; (try with_reducible rfl)
  try simp only [Act.put, List.getElem_toArray, List.getElem_cons_zero, List.getElem_cons_succ, List.setIfInBounds_toArray, List.set_cons_zero, List.set_cons_succ]
  refine ord_take (i := 18) (v := ?_) (by kernel_rfl) rfl (by decide) (by kernel_rfl) (by kernel_rfl) (fun _ _ _ h => h) (Or.inl ⟨by rfl, ?_⟩) hx5 ?_
  rotate_left
  · intro wz hz; have j := k_a.below hz k_a.lt; have q0 := j.cell 0; have q1 := j.cell 1; go_simp; (try with_reducible rfl)
  try simp only [Act.put, List.getElem_toArray, List.getElem_cons_zero, List.getElem_cons_succ, List.setIfInBounds_toArray, List.set_cons_zero, List.set_cons_succ]
  refine ord_take (i := 19) (v := ?_) (by kernel_rfl) rfl (by decide) (by kernel_rfl) (by kernel_rfl) (fun _ _ _ h => h) (Or.inl ⟨by rfl, ?_⟩) hx5 ?_
  rotate_left
  · intro wz hz; have j := k_b.below hz k_b.lt; have q0 := j.cell 0; have q1 := j.cell 1; go_simp; (try with_reducible rfl)
  try simp only [Act.put, List.getElem_toArray, List.getElem_cons_zero, List.getElem_cons_succ, List.setIfInBounds_toArray, List.set_cons_zero, List.set_cons_succ]
  refine ord_take (i := 20) (v := ?_) (by kernel_rfl) rfl (by decide) (by kernel_rfl) (by kernel_rfl) (fun _ _ _ h => h) (Or.inl ⟨by rfl, ?_⟩) hx5 ?_
  rotate_left
  · intro wz hz; have j := k_c.below hz k_c.lt; have q0 := j.cell 0; have q1 := j.cell 1; go_simp; (try with_reducible rfl)
  try simp only [Act.put, List.getElem_toArray, List.getElem_cons_zero, List.getElem_cons_succ, List.setIfInBounds_toArray, List.set_cons_zero, List.set_cons_succ]
  refine ord_step (i := 15) rfl (by decide) (by kernel_rfl) (by rfl) (fun K hK => ?_)
  go_simp
  refine (fmul_v (I_a.on hx5) (I_b.on hx5) (by decide) (by decide)).mono ?_
  rintro y X7_6_6 ⟨v_x, rfl, I_x, hb⟩
  have hx6 := bltB hx5 hx5.size hb
  clear hb hx5
  refine hK _ _ hx6 ?_
  clear hK K
  try simp only [Act.put, List.getElem_toArray, List.getElem_cons_zero, List.getElem_cons_succ, List.setIfInBounds_toArray, List.set_cons_zero, List.set_cons_succ]
  refine ord_step (i := 17) rfl (by decide) (by kernel_rfl) (by rfl) (fun K hK => ?_)
  go_simp
  refine (fmul_v I_x (I_c.on hx6) (by decide) (by decide)).mono ?_
  rintro y X7_6_7 ⟨v_y, rfl, I_y, hb⟩
  have hx7 := bltB hx6 hx6.size hb
  clear hb hx6
  refine hK _ _ hx7 ?_
  clear hK K
  try simp only [Act.put, List.getElem_toArray, List.getElem_cons_zero, List.getElem_cons_succ, List.setIfInBounds_toArray, List.set_cons_zero, List.set_cons_succ]
  refine ord_step (i := 21) rfl (by decide) (by kernel_rfl) (by rfl) (fun K hK => ?_)
  go_simp
  refine (fmul_v (I_b.on hx7) (I_c.on hx7) (by decide) (by decide)).mono ?_
  rintro y X7_6_8 ⟨v_z, rfl, I_z, hb⟩
  replace I_y := I_y.on hb
  have hx8 := bltB hx7 hx7.size hb
  clear hb hx7
  refine hK _ _ hx8 ?_
  clear hK K
  try simp only [Act.put, List.getElem_toArray, List.getElem_cons_zero, List.getElem_cons_succ, List.setIfInBounds_toArray, List.set_cons_zero, List.set_cons_succ]
  refine ord_step (i := 22) rfl (by decide) (by kernel_rfl) (by rfl) (fun K hK => ?_)
  go_simp
  refine (fmul_v (I_a.on hx8) I_z (by decide) (by decide)).mono ?_
  rintro y X7_6_9 ⟨v_u, rfl, I_u, hb⟩
  replace I_y := I_y.on hb
  have hx9 := bltB hx8 hx8.size hb
  clear hb hx8
  refine hK _ _ hx9 ?_
  clear hK K
  try simp only [Act.put, List.getElem_toArray, List.getElem_cons_zero, List.getElem_cons_succ, List.setIfInBounds_toArray, List.set_cons_zero, List.set_cons_succ]
  refine ord_step (i := 23) rfl (by decide) (by kernel_rfl) (by rfl) (fun K hK => ?_)
  go_simp
  refine (fsame_v I_y I_u (by decide)).mono ?_
  rintro y X7_6_10 ⟨rfl, hb⟩
  rw [decide_eq_true (Rat.mul_assoc q_a q_b q_c)]
  clear I_y
  clear I_u
  have hx10 := bltB hx9 hx9.size hb
  clear hb hx9
  refine hK _ _ hx10 ?_
  clear hK K
  try simp only [Act.put, List.getElem_toArray, List.getElem_cons_zero, List.getElem_cons_succ, List.setIfInBounds_toArray, List.set_cons_zero, List.set_cons_succ]
  refine ord_take (i := 24) (v := ?_) (by kernel_rfl) rfl (by decide) (by kernel_rfl) (by kernel_rfl) (fun _ _ _ h => h) (Or.inl ⟨by rfl, ?_⟩) hx10 ?_
  rotate_left
  · intro wz hz; go_simp; (try with_reducible rfl)
  try simp only [Act.put, List.getElem_toArray, List.getElem_cons_zero, List.getElem_cons_succ, List.setIfInBounds_toArray, List.set_cons_zero, List.set_cons_succ]
  refine ord_rest (by kernel_rfl) ?_
  refine wpAny_take (i := 25) (v := ?_) rfl (by kernel_rfl) (by kernel_rfl) (by kernel_rfl) (fun _ _ _ h => h) (Or.inl ⟨by rfl, ?_⟩) ?_
  rotate_left
  · intro wz; go_simp; (try with_reducible rfl)
  try simp only [Act.put, List.getElem_toArray, List.getElem_cons_zero, List.getElem_cons_succ, List.setIfInBounds_toArray, List.set_cons_zero, List.set_cons_succ]
  refine wpAny_done (by kernel_rfl) ?_ _
  refine NoPanic.normal ?_
  replace k_a := k_a.below hx10 k_a.lt
  replace k_b := k_b.below hx10 k_b.lt
  replace k_c := k_c.below hx10 k_c.lt
  replace I_a := I_a.on hx10
  replace I_b := I_b.on hx10
  replace I_c := I_c.on hx10
  have hB8 := bltB hB7 hB7.size hx10
  clear hx10 hB7
  go_wp2_with fail
  refine wp_region_noPanic ?_
  refine ord_begin 13 (fun wx => Below X7_6_10.heap.size X7_6_10 wx) (by kernel_rfl) ?_
  have hx0 : Below X7_6_10.heap.size X7_6_10 X7_6_10.drew := (Below.refl _ _).drew
  refine ord_take (i := 0) (v := ?_) (by kernel_rfl) rfl (by decide) (by kernel_rfl) (by kernel_rfl) (fun _ _ _ h => h) (Or.inl ⟨by rfl, ?_⟩) hx0 ?_
  rotate_left
  · intro wz hz; have j := k_a.below hz k_a.lt; have q0 := j.cell 0; have q1 := j.cell 1; go_simp; (try with_reducible rfl)
  try simp only [Act.put, List.getElem_toArray, List.getElem_cons_zero, List.getElem_cons_succ, List.setIfInBounds_toArray, List.set_cons_zero, List.set_cons_succ]
  refine ord_take (i := 1) (v := ?_) (by kernel_rfl) rfl (by decide) (by kernel_rfl) (by kernel_rfl) (fun _ _ _ h => h) (Or.inl ⟨by rfl, ?_⟩) hx0 ?_
  rotate_left
  · intro wz hz; have j := k_b.below hz k_b.lt; have q0 := j.cell 0; have q1 := j.cell 1; go_simp; (try with_reducible rfl)
  try simp only [Act.put, List.getElem_toArray, List.getElem_cons_zero, List.getElem_cons_succ, List.setIfInBounds_toArray, List.set_cons_zero, List.set_cons_succ]
  refine ord_take (i := 2) (v := ?_) (by kernel_rfl) rfl (by decide) (by kernel_rfl) (by kernel_rfl) (fun _ _ _ h => h) (Or.inl ⟨by rfl, ?_⟩) hx0 ?_
  rotate_left
  · intro wz hz; have j := k_c.below hz k_c.lt; have q0 := j.cell 0; have q1 := j.cell 1; go_simp; (try with_reducible rfl)
  try simp only [Act.put, List.getElem_toArray, List.getElem_cons_zero, List.getElem_cons_succ, List.setIfInBounds_toArray, List.set_cons_zero, List.set_cons_succ]
  refine ord_take (i := 5) (v := ?_) (by kernel_rfl) rfl (by decide) (by kernel_rfl) (by kernel_rfl) (fun _ _ _ h => h) (Or.inl ⟨by rfl, ?_⟩) hx0 ?_
  rotate_left
  · intro wz hz; have j := k_a.below hz k_a.lt; have q0 := j.cell 0; have q1 := j.cell 1; go_simp; (try with_reducible rfl)
  try simp only [Act.put, List.getElem_toArray, List.getElem_cons_zero, List.getElem_cons_succ, List.setIfInBounds_toArray, List.set_cons_zero, List.set_cons_succ]
  refine ord_take (i := 6) (v := ?_) (by kernel_rfl) rfl (by decide) (by kernel_rfl) (by kernel_rfl) (fun _ _ _ h => h) (Or.inl ⟨by rfl, ?_⟩) hx0 ?_
  rotate_left
  · intro wz hz; have j := k_b.below hz k_b.lt; have q0 := j.cell 0; have q1 := j.cell 1; go_simp; (try with_reducible rfl)
  try simp only [Act.put, List.getElem_toArray, List.getElem_cons_zero, List.getElem_cons_succ, List.setIfInBounds_toArray, List.set_cons_zero, List.set_cons_succ]
  refine ord_take (i := 8) (v := ?_) (by kernel_rfl) rfl (by decide) (by kernel_rfl) (by kernel_rfl) (fun _ _ _ h => h) (Or.inl ⟨by rfl, ?_⟩) hx0 ?_
  rotate_left
  · intro wz hz; have j := k_a.below hz k_a.lt; have q0 := j.cell 0; have q1 := j.cell 1; go_simp; (try with_reducible rfl)
  try simp only [Act.put, List.getElem_toArray, List.getElem_cons_zero, List.getElem_cons_succ, List.setIfInBounds_toArray, List.set_cons_zero, List.set_cons_succ]
  refine ord_take (i := 9) (v := ?_) (by kernel_rfl) rfl (by decide) (by kernel_rfl) (by kernel_rfl) (fun _ _ _ h => h) (Or.inl ⟨by rfl, ?_⟩) hx0 ?_
  rotate_left
  · intro wz hz; have j := k_c.below hz k_c.lt; have q0 := j.cell 0; have q1 := j.cell 1; go_simp; (try with_reducible rfl)
  try simp only [Act.put, List.getElem_toArray, List.getElem_cons_zero, List.getElem_cons_succ, List.setIfInBounds_toArray, List.set_cons_zero, List.set_cons_succ]
  refine ord_step (i := 3) rfl (by decide) (by kernel_rfl) (by rfl) (fun K hK => ?_)
  go_simp
  refine (fadd_v (I_b.on hx0) (I_c.on hx0) (by decide) (by decide)).mono ?_
  rintro y X8_8_1 ⟨v_x, rfl, I_x, hb⟩
  have hx1 := bltB hx0 hx0.size hb
  clear hb hx0
  refine hK _ _ hx1 ?_
  clear hK K
  try simp only [Act.put, List.getElem_toArray, List.getElem_cons_zero, List.getElem_cons_succ, List.setIfInBounds_toArray, List.set_cons_zero, List.set_cons_succ]
  refine ord_step (i := 4) rfl (by decide) (by kernel_rfl) (by rfl) (fun K hK => ?_)
  go_simp
  refine (fmul_v (I_a.on hx1) I_x (by decide) (by decide)).mono ?_
  rintro y X8_8_2 ⟨v_y, rfl, I_y, hb⟩
  have hx2 := bltB hx1 hx1.size hb
  clear hb hx1
  refine hK _ _ hx2 ?_
  clear hK K
  try simp only [Act.put, List.getElem_toArray, List.getElem_cons_zero, List.getElem_cons_succ, List.setIfInBounds_toArray, List.set_cons_zero, List.set_cons_succ]
  refine ord_step (i := 7) rfl (by decide) (by kernel_rfl) (by rfl) (fun K hK => ?_)
  go_simp
  refine (fmul_v (I_a.on hx2) (I_b.on hx2) (by decide) (by decide)).mono ?_
  rintro y X8_8_3 ⟨v_z, rfl, I_z, hb⟩
  replace I_y := I_y.on hb
  have hx3 := bltB hx2 hx2.size hb
  clear hb hx2
  refine hK _ _ hx3 ?_
  clear hK K
  try simp only [Act.put, List.getElem_toArray, List.getElem_cons_zero, List.getElem_cons_succ, List.setIfInBounds_toArray, List.set_cons_zero, List.set_cons_succ]
  refine ord_step (i := 10) rfl (by decide) (by kernel_rfl) (by rfl) (fun K hK => ?_)
  go_simp
  refine (fmul_v (I_a.on hx3) (I_c.on hx3) (by decide) (by decide)).mono ?_
  rintro y X8_8_4 ⟨v_u, rfl, I_u, hb⟩
  replace I_y := I_y.on hb
  replace I_z := I_z.on hb
  have hx4 := bltB hx3 hx3.size hb
  clear hb hx3
  refine hK _ _ hx4 ?_
  clear hK K
  try simp only [Act.put, List.getElem_toArray, List.getElem_cons_zero, List.getElem_cons_succ, List.setIfInBounds_toArray, List.set_cons_zero, List.set_cons_succ]
  refine ord_step (i := 11) rfl (by decide) (by kernel_rfl) (by rfl) (fun K hK => ?_)
  go_simp
  refine (fadd_v I_z I_u (by decide) (by decide)).mono ?_
  rintro y X8_8_5 ⟨v_v, rfl, I_v, hb⟩
  replace I_y := I_y.on hb
  have hx5 := bltB hx4 hx4.size hb
  clear hb hx4
  refine hK _ _ hx5 ?_
  clear hK K
  try simp only [Act.put, List.getElem_toArray, List.getElem_cons_zero, List.getElem_cons_succ, List.setIfInBounds_toArray, List.set_cons_zero, List.set_cons_succ]
  refine ord_step (i := 12) rfl (by decide) (by kernel_rfl) (by rfl) (fun K hK => ?_)
  go_simp
  refine (fsame_v I_y I_v (by decide)).mono ?_
  rintro y X8_8_6 ⟨rfl, hb⟩
  rw [decide_eq_true (Rat.mul_add q_a q_b q_c)]
  clear I_y
  clear I_v
  have hx6 := bltB hx5 hx5.size hb
  clear hb hx5
  refine hK _ _ hx6 ?_
  clear hK K
  try simp only [Act.put, List.getElem_toArray, List.getElem_cons_zero, List.getElem_cons_succ, List.setIfInBounds_toArray, List.set_cons_zero, List.set_cons_succ]
  refine ord_rest (by kernel_rfl) ?_
  refine wpAny_take (i := 13) (v := ?_) rfl (by kernel_rfl) (by kernel_rfl) (by kernel_rfl) (fun _ _ _ h => h) (Or.inl ⟨by rfl, ?_⟩) ?_
  rotate_left
  · intro wz; go_simp; (try with_reducible rfl)
  try simp only [Act.put, List.getElem_toArray, List.getElem_cons_zero, List.getElem_cons_succ, List.setIfInBounds_toArray, List.set_cons_zero, List.set_cons_succ]
  refine wpAny_done (by kernel_rfl) ?_ _
  refine NoPanic.normal ?_
  replace k_a := k_a.below hx6 k_a.lt
  replace k_b := k_b.below hx6 k_b.lt
  replace k_c := k_c.below hx6 k_c.lt
  replace I_a := I_a.on hx6
  replace I_b := I_b.on hx6
  replace I_c := I_c.on hx6
  have hB9 := bltB hB8 hB8.size hx6
  clear hx6 hB8
  go_wp2_with fail
  refine wp_region_noPanic ?_
  refine ord_begin 10 (fun wx => Below X8_8_6.heap.size X8_8_6 wx) (by kernel_rfl) ?_
  have hx0 : Below X8_8_6.heap.size X8_8_6 X8_8_6.drew := (Below.refl _ _).drew
  refine ord_funnelT (F := ?F9_10) (k := 2) #[true, true, true, true, true, true, true, true, true, false, false] (fun _ y G W => IsQ W y q_a (12 + 12 + 3 + 12 + 3) ∧ Blk W G 24 #[.slice none 0 0, .slice none 0 0] ∧ Below X8_8_6.heap.size X8_8_6 W ∧ X8_8_6.heap.size ≤ G) ?_ ?_
  rotate_left
  · intro HQ
    refine ord_take (i := 0) (v := ?_) (by kernel_rfl) rfl (by decide) (by kernel_rfl) (by kernel_rfl) (fun _ _ _ h => h) (Or.inl ⟨by rfl, ?_⟩) hx0 ?_
    rotate_left
    · intro wz hz; have j := k_a.below hz k_a.lt; have q0 := j.cell 0; have q1 := j.cell 1; go_simp; (try with_reducible rfl)
    try simp only [Act.put, List.getElem_toArray, List.getElem_cons_zero, List.getElem_cons_succ, List.setIfInBounds_toArray, List.set_cons_zero, List.set_cons_succ]
    refine ord_take (i := 1) (v := ?_) (by kernel_rfl) rfl (by decide) (by kernel_rfl) (by kernel_rfl) (fun _ _ _ h => h) (Or.inl ⟨by rfl, ?_⟩) hx0 ?_
    rotate_left
    · intro wz hz; have j := k_b.below hz k_b.lt; have q0 := j.cell 0; have q1 := j.cell 1; go_simp; (try with_reducible rfl)
    try simp only [Act.put, List.getElem_toArray, List.getElem_cons_zero, List.getElem_cons_succ, List.setIfInBounds_toArray, List.set_cons_zero, List.set_cons_succ]
    refine ord_take (i := 3) (v := ?_) (by kernel_rfl) rfl (by decide) (by kernel_rfl) (by kernel_rfl) (fun _ _ _ h => h) (Or.inl ⟨by rfl, ?_⟩) hx0 ?_
    rotate_left
    · intro wz hz; have j := k_b.below hz k_b.lt; have q0 := j.cell 0; have q1 := j.cell 1; go_simp; (try with_reducible rfl)
    try simp only [Act.put, List.getElem_toArray, List.getElem_cons_zero, List.getElem_cons_succ, List.setIfInBounds_toArray, List.set_cons_zero, List.set_cons_succ]
    refine ord_step2 (i := 2) (k := 8) rfl rfl (by decide) (by decide) (by kernel_rfl) (by rfl) (by rfl) (fun K hK => ?_) (fun K hK => ?_)
    · go_simp
      refine (fadd_v (I_a.on hx0) (I_b.on hx0) (by decide) (by decide)).mono ?_
      rintro y X9_10_0 ⟨v_x, rfl, I_x, hb⟩
      have hx1 := bltB hx0 hx0.size hb
      clear hb
      refine hK _ _ hx1 ?_
      clear hK K
      try simp only [Act.put, List.getElem_toArray, List.getElem_cons_zero, List.getElem_cons_succ, List.setIfInBounds_toArray, List.set_cons_zero, List.set_cons_succ]
      refine ord_step2 (i := 4) (k := 8) rfl rfl (by decide) (by decide) (by kernel_rfl) (by rfl) (by rfl) (fun K hK => ?_) (fun K hK => ?_)
      · go_simp
        refine (fsub_v I_x (I_b.on hx1) (by decide) (by decide)).mono ?_
        rintro y X9_10_1 ⟨v_d, rfl, I_d, hb⟩
        rw [decide_eq_true (show q_b ≤ q_a + q_b by have := I_a.ge0; grind)]
        replace I_d := I_d.as (show (if q_b ≤ q_a + q_b then q_a + q_b - q_b else 0) = q_a by rw [if_pos (by have := I_a.ge0; grind)]; grind)
        have hx2 := bltB hx1 hx1.size hb
        clear hb
        refine hK _ _ hx2 ?_
        clear hK K
        try simp only [Act.put, List.getElem_toArray, List.getElem_cons_zero, List.getElem_cons_succ, List.setIfInBounds_toArray, List.set_cons_zero, List.set_cons_succ]
        refine ord_take (i := 5) (v := ?_) (by kernel_rfl) rfl (by decide) (by kernel_rfl) (by kernel_rfl) (fun _ _ _ h => h) (Or.inl ⟨by rfl, ?_⟩) hx2 ?_
        rotate_left
        · intro wz hz; go_simp; (try with_reducible rfl)
        try simp only [Act.put, List.getElem_toArray, List.getElem_cons_zero, List.getElem_cons_succ, List.setIfInBounds_toArray, List.set_cons_zero, List.set_cons_succ]
        refine ord_take (i := 6) (v := ?_) (by kernel_rfl) rfl (by decide) (by kernel_rfl) (by kernel_rfl) (fun _ _ _ h => h) (Or.inl ⟨by rfl, ?_⟩) hx2 ?_
        rotate_left
        · intro wz hz; go_simp; (try with_reducible rfl)
        try simp only [Act.put, List.getElem_toArray, List.getElem_cons_zero, List.getElem_cons_succ, List.setIfInBounds_toArray, List.set_cons_zero, List.set_cons_succ]
        refine ord_take (i := 7) (v := ?_) (by kernel_rfl) rfl (by decide) (by kernel_rfl) (by kernel_rfl) (fun _ _ _ h => h) (Or.inl ⟨by rfl, ?_⟩) hx2 ?_
        rotate_left
        · intro wz hz; go_simp; (try with_reducible rfl)
        try simp only [Act.put, List.getElem_toArray, List.getElem_cons_zero, List.getElem_cons_succ, List.setIfInBounds_toArray, List.set_cons_zero, List.set_cons_succ]
        refine ord_step (i := 8) rfl (by decide) (by kernel_rfl) (by rfl) (fun K hK => ?_)
        go_simp
        obtain ⟨G_d, hG⟩ : ∃ G, X9_10_1.heap.size = G := ⟨_, rfl⟩
        have hN : Blk (X9_10_1.alloc (.cells #[.slice none 0 0, .slice none 0 0] 24)) G_d 24 #[.slice none 0 0, .slice none 0 0] := hG ▸ Blk.new X9_10_1 _ _
        have hG2 : X8_8_6.heap.size ≤ G_d := hG ▸ hx2.size
        have hb : Below X9_10_1.heap.size X9_10_1 (X9_10_1.alloc (.cells #[.slice none 0 0, .slice none 0 0] 24)) := (Below.refl _ _).alloc (Nat.le_refl _) _
        rw [hG]
        replace I_d := I_d.on hb
        have hx3 := bltB hx2 hx2.size hb
        clear hb
        refine hK _ _ hx3 ?_
        clear hK K
        try simp only [Act.put, List.getElem_toArray, List.getElem_cons_zero, List.getElem_cons_succ, List.setIfInBounds_toArray, List.set_cons_zero, List.set_cons_succ]
        generalize X9_10_1.alloc (.cells #[.slice none 0 0, .slice none 0 0] 24) = Y9_10_2 at *
        clear hG
        refine ord_relist #[true, true, true, true, true, true, true, true, true, false, false] (by kernel_rfl) ?_
        exact HQ v_x v_d G_d _ ⟨I_d, hN, hx3, hG2⟩
      · go_simp
        obtain ⟨G_d, hG⟩ : ∃ G, X9_10_0.heap.size = G := ⟨_, rfl⟩
        have hN : Blk (X9_10_0.alloc (.cells #[.slice none 0 0, .slice none 0 0] 24)) G_d 24 #[.slice none 0 0, .slice none 0 0] := hG ▸ Blk.new X9_10_0 _ _
        have hG2 : X8_8_6.heap.size ≤ G_d := hG ▸ hx1.size
        have hb : Below X9_10_0.heap.size X9_10_0 (X9_10_0.alloc (.cells #[.slice none 0 0, .slice none 0 0] 24)) := (Below.refl _ _).alloc (Nat.le_refl _) _
        rw [hG]
        replace I_x := I_x.on hb
        have hx2 := bltB hx1 hx1.size hb
        clear hb
        refine hK _ _ hx2 ?_
        clear hK K
        try simp only [Act.put, List.getElem_toArray, List.getElem_cons_zero, List.getElem_cons_succ, List.setIfInBounds_toArray, List.set_cons_zero, List.set_cons_succ]
        generalize X9_10_0.alloc (.cells #[.slice none 0 0, .slice none 0 0] 24) = Y9_10_1 at *
        clear hG
        refine ord_step (i := 4) rfl (by decide) (by kernel_rfl) (by rfl) (fun K hK => ?_)
        go_simp
        refine (fsub_v I_x (I_b.on hx2) (by decide) (by decide)).mono ?_
        rintro y X9_10_2 ⟨v_d, rfl, I_d, hb⟩
        rw [decide_eq_true (show q_b ≤ q_a + q_b by have := I_a.ge0; grind)]
        replace I_d := I_d.as (show (if q_b ≤ q_a + q_b then q_a + q_b - q_b else 0) = q_a by rw [if_pos (by have := I_a.ge0; grind)]; grind)
        replace hN := hN.below hb hN.lt
        have hx3 := bltB hx2 hx2.size hb
        clear hb
        refine hK _ _ hx3 ?_
        clear hK K
        try simp only [Act.put, List.getElem_toArray, List.getElem_cons_zero, List.getElem_cons_succ, List.setIfInBounds_toArray, List.set_cons_zero, List.set_cons_succ]
        refine ord_take (i := 5) (v := ?_) (by kernel_rfl) rfl (by decide) (by kernel_rfl) (by kernel_rfl) (fun _ _ _ h => h) (Or.inl ⟨by rfl, ?_⟩) hx3 ?_
        rotate_left
        · intro wz hz; go_simp; (try with_reducible rfl)
        try simp only [Act.put, List.getElem_toArray, List.getElem_cons_zero, List.getElem_cons_succ, List.setIfInBounds_toArray, List.set_cons_zero, List.set_cons_succ]
        refine ord_take (i := 6) (v := ?_) (by kernel_rfl) rfl (by decide) (by kernel_rfl) (by kernel_rfl) (fun _ _ _ h => h) (Or.inl ⟨by rfl, ?_⟩) hx3 ?_
        rotate_left
        · intro wz hz; go_simp; (try with_reducible rfl)
        try simp only [Act.put, List.getElem_toArray, List.getElem_cons_zero, List.getElem_cons_succ, List.setIfInBounds_toArray, List.set_cons_zero, List.set_cons_succ]
        refine ord_take (i := 7) (v := ?_) (by kernel_rfl) rfl (by decide) (by kernel_rfl) (by kernel_rfl) (fun _ _ _ h => h) (Or.inl ⟨by rfl, ?_⟩) hx3 ?_
        rotate_left
        · intro wz hz; go_simp; (try with_reducible rfl)
        try simp only [Act.put, List.getElem_toArray, List.getElem_cons_zero, List.getElem_cons_succ, List.setIfInBounds_toArray, List.set_cons_zero, List.set_cons_succ]
        refine ord_relist #[true, true, true, true, true, true, true, true, true, false, false] (by kernel_rfl) ?_
        exact HQ v_x v_d G_d _ ⟨I_d, hN, hx3, hG2⟩
    · go_simp
      obtain ⟨G_d, hG⟩ : ∃ G, X8_8_6.heap.size = G := ⟨_, rfl⟩
      have hN : Blk ((X8_8_6.alloc (.cells #[.slice none 0 0, .slice none 0 0] 24)).drew) G_d 24 #[.slice none 0 0, .slice none 0 0] := hG ▸ (Blk.new X8_8_6 _ _).drew
      have hG2 : X8_8_6.heap.size ≤ G_d := hG ▸ Nat.le_refl _
      rw [hG]
      have hx1 : Below X8_8_6.heap.size X8_8_6 ((X8_8_6.alloc (.cells #[.slice none 0 0, .slice none 0 0] 24)).drew) := ((Below.refl _ _).alloc (Nat.le_refl _) _).drew
      refine hK _ _ hx1 ?_
      clear hK K
      try simp only [Act.put, List.getElem_toArray, List.getElem_cons_zero, List.getElem_cons_succ, List.setIfInBounds_toArray, List.set_cons_zero, List.set_cons_succ]
      generalize (X8_8_6.alloc (.cells #[.slice none 0 0, .slice none 0 0] 24)).drew = Y9_10_0 at *
      clear hG
      refine ord_step (i := 2) rfl (by decide) (by kernel_rfl) (by rfl) (fun K hK => ?_)
      go_simp
      refine (fadd_v (I_a.on hx1) (I_b.on hx1) (by decide) (by decide)).mono ?_
      rintro y X9_10_1 ⟨v_x, rfl, I_x, hb⟩
      replace hN := hN.below hb hN.lt
      have hx2 := bltB hx1 hx1.size hb
      clear hb
      refine hK _ _ hx2 ?_
      clear hK K
      try simp only [Act.put, List.getElem_toArray, List.getElem_cons_zero, List.getElem_cons_succ, List.setIfInBounds_toArray, List.set_cons_zero, List.set_cons_succ]
      refine ord_step (i := 4) rfl (by decide) (by kernel_rfl) (by rfl) (fun K hK => ?_)
      go_simp
      refine (fsub_v I_x (I_b.on hx2) (by decide) (by decide)).mono ?_
      rintro y X9_10_2 ⟨v_d, rfl, I_d, hb⟩
      rw [decide_eq_true (show q_b ≤ q_a + q_b by have := I_a.ge0; grind)]
      replace I_d := I_d.as (show (if q_b ≤ q_a + q_b then q_a + q_b - q_b else 0) = q_a by rw [if_pos (by have := I_a.ge0; grind)]; grind)
      replace hN := hN.below hb hN.lt
      have hx3 := bltB hx2 hx2.size hb
      clear hb
      refine hK _ _ hx3 ?_
      clear hK K
      try simp only [Act.put, List.getElem_toArray, List.getElem_cons_zero, List.getElem_cons_succ, List.setIfInBounds_toArray, List.set_cons_zero, List.set_cons_succ]
      refine ord_take (i := 5) (v := ?_) (by kernel_rfl) rfl (by decide) (by kernel_rfl) (by kernel_rfl) (fun _ _ _ h => h) (Or.inl ⟨by rfl, ?_⟩) hx3 ?_
      rotate_left
      · intro wz hz; go_simp; (try with_reducible rfl)
      try simp only [Act.put, List.getElem_toArray, List.getElem_cons_zero, List.getElem_cons_succ, List.setIfInBounds_toArray, List.set_cons_zero, List.set_cons_succ]
      refine ord_take (i := 6) (v := ?_) (by kernel_rfl) rfl (by decide) (by kernel_rfl) (by kernel_rfl) (fun _ _ _ h => h) (Or.inl ⟨by rfl, ?_⟩) hx3 ?_
      rotate_left
      · intro wz hz; go_simp; (try with_reducible rfl)
      try simp only [Act.put, List.getElem_toArray, List.getElem_cons_zero, List.getElem_cons_succ, List.setIfInBounds_toArray, List.set_cons_zero, List.set_cons_succ]
      refine ord_take (i := 7) (v := ?_) (by kernel_rfl) rfl (by decide) (by kernel_rfl) (by kernel_rfl) (fun _ _ _ h => h) (Or.inl ⟨by rfl, ?_⟩) hx3 ?_
      rotate_left
      · intro wz hz; go_simp; (try with_reducible rfl)
      try simp only [Act.put, List.getElem_toArray, List.getElem_cons_zero, List.getElem_cons_succ, List.setIfInBounds_toArray, List.set_cons_zero, List.set_cons_succ]
      refine ord_relist #[true, true, true, true, true, true, true, true, true, false, false] (by kernel_rfl) ?_
      exact HQ v_x v_d G_d _ ⟨I_d, hN, hx3, hG2⟩
  rintro v_x v_d G_d Z9_10 ⟨I_d, hN, hx, hG2⟩
  obtain ⟨A_d, n_d, c_d, B_d, m_d, d_d, rfl, hI⟩ := I_d
  have I_d : IsQ Z9_10 (.agg #[.slice A_d n_d c_d, .slice B_d m_d d_d]) _ _ := ⟨_, _, _, _, _, _, rfl, hI⟩
  clear hI
  have hc0 := hN.cell 0
  have hc1 := hN.cell 1
  have hf0 := hN.frozen 0
  have hf1 := hN.frozen 1
  refine ord_step (i := 9) rfl (by decide) (by kernel_rfl) (by rfl) (fun K hK => ?_)
  go_simp
  obtain ⟨k_d, I_d, hx⟩ := isq_store hN I_d hx hG2
  clear hc0 hc1 hf0 hf1 hN hG2
  generalize (Z9_10.setCell ⟨G_d, 0, none⟩ (.slice A_d n_d c_d)).setCell ⟨G_d, 1, none⟩ (.slice B_d m_d d_d) = V9_10 at *
  refine hK _ _ hx ?_
  clear hK K
  try simp only [Act.put, List.getElem_toArray, List.getElem_cons_zero, List.getElem_cons_succ, List.setIfInBounds_toArray, List.set_cons_zero, List.set_cons_succ]
  refine ord_rest (by kernel_rfl) ?_
  refine any_step (i := 10) rfl (by kernel_rfl) (by rfl) (fun K hK => ?_)
  go_simp
  refine hK _ _ ?_
  clear hK K
  try simp only [Act.put, List.getElem_toArray, List.getElem_cons_zero, List.getElem_cons_succ, List.setIfInBounds_toArray, List.set_cons_zero, List.set_cons_succ]
  refine wpAny_done (by kernel_rfl) ?_ _
  refine NoPanic.normal ?_
  replace k_a := k_a.below hx k_a.lt
  replace k_b := k_b.below hx k_b.lt
  replace k_c := k_c.below hx k_c.lt
  replace I_a := I_a.on hx
  replace I_b := I_b.on hx
  replace I_c := I_c.on hx
  have hB10 := bltB hB9 hB9.size hx
  clear hx hB9
  obtain ⟨z, hz⟩ : ∃ z, decide (q_b ≠ 0) = z := ⟨_, rfl⟩
  have HZ := Lib.hid hz
  go_wp2_with fail
  refine wp_region_noPanic ?_
  refine ord_begin 10 (fun wx => Below V9_10.heap.size V9_10 wx) (by kernel_rfl) ?_
  have hx0 : Below V9_10.heap.size V9_10 V9_10.drew := (Below.refl _ _).drew
  refine ord_funnelT (F := ?F10_11) (k := 2) #[true, true, true, true, true, true, true, true, true, false, false] (fun _ y G W => IsQ W y (q_a * q_b / q_b) (12 + 12 + 2 + 12 + 3) ∧ Blk W G 24 #[.slice none 0 0, .slice none 0 0] ∧ Below V9_10.heap.size V9_10 W ∧ V9_10.heap.size ≤ G) ?_ ?_
  rotate_left
  · intro HQ
    refine ord_take (i := 0) (v := ?_) (by kernel_rfl) rfl (by decide) (by kernel_rfl) (by kernel_rfl) (fun _ _ _ h => h) (Or.inl ⟨by rfl, ?_⟩) hx0 ?_
    rotate_left
    · intro wz hz; have j := k_a.below hz k_a.lt; have q0 := j.cell 0; have q1 := j.cell 1; go_simp; (try with_reducible rfl)
    try simp only [Act.put, List.getElem_toArray, List.getElem_cons_zero, List.getElem_cons_succ, List.setIfInBounds_toArray, List.set_cons_zero, List.set_cons_succ]
    refine ord_take (i := 1) (v := ?_) (by kernel_rfl) rfl (by decide) (by kernel_rfl) (by kernel_rfl) (fun _ _ _ h => h) (Or.inl ⟨by rfl, ?_⟩) hx0 ?_
    rotate_left
    · intro wz hz; have j := k_b.below hz k_b.lt; have q0 := j.cell 0; have q1 := j.cell 1; go_simp; (try with_reducible rfl)
    try simp only [Act.put, List.getElem_toArray, List.getElem_cons_zero, List.getElem_cons_succ, List.setIfInBounds_toArray, List.set_cons_zero, List.set_cons_succ]
    refine ord_take (i := 3) (v := ?_) (by kernel_rfl) rfl (by decide) (by kernel_rfl) (by kernel_rfl) (fun _ _ _ h => h) (Or.inl ⟨by rfl, ?_⟩) hx0 ?_
    rotate_left
    · intro wz hz; have j := k_b.below hz k_b.lt; have q0 := j.cell 0; have q1 := j.cell 1; go_simp; (try with_reducible rfl)
    try simp only [Act.put, List.getElem_toArray, List.getElem_cons_zero, List.getElem_cons_succ, List.setIfInBounds_toArray, List.set_cons_zero, List.set_cons_succ]
    refine ord_step2 (i := 2) (k := 8) rfl rfl (by decide) (by decide) (by kernel_rfl) (by rfl) (by rfl) (fun K hK => ?_) (fun K hK => ?_)
    · go_simp
      refine (fmul_v (I_a.on hx0) (I_b.on hx0) (by decide) (by decide)).mono ?_
      rintro y X10_11_0 ⟨v_x, rfl, I_x, hb⟩
      have hx1 := bltB hx0 hx0.size hb
      clear hb
      refine hK _ _ hx1 ?_
      clear hK K
      try simp only [Act.put, List.getElem_toArray, List.getElem_cons_zero, List.getElem_cons_succ, List.setIfInBounds_toArray, List.set_cons_zero, List.set_cons_succ]
      refine ord_step2 (i := 4) (k := 8) rfl rfl (by decide) (by decide) (by kernel_rfl) (by rfl) (by rfl) (fun K hK => ?_) (fun K hK => ?_)
      · go_simp
        refine (fquo_v I_x (I_b.on hx1) (by decide) (by decide)).mono ?_
        rintro y X10_11_1 ⟨v_e, rfl, I_e, hb⟩
        rw [hz]
        have hx2 := bltB hx1 hx1.size hb
        clear hb
        refine hK _ _ hx2 ?_
        clear hK K
        try simp only [Act.put, List.getElem_toArray, List.getElem_cons_zero, List.getElem_cons_succ, List.setIfInBounds_toArray, List.set_cons_zero, List.set_cons_succ]
        refine ord_take (i := 5) (v := ?_) (by kernel_rfl) rfl (by decide) (by kernel_rfl) (by kernel_rfl) (fun _ _ _ h => h) (Or.inl ⟨by rfl, ?_⟩) hx2 ?_
        rotate_left
        · intro wz hz; go_simp; (try with_reducible rfl)
        try simp only [Act.put, List.getElem_toArray, List.getElem_cons_zero, List.getElem_cons_succ, List.setIfInBounds_toArray, List.set_cons_zero, List.set_cons_succ]
        refine ord_take (i := 6) (v := ?_) (by kernel_rfl) rfl (by decide) (by kernel_rfl) (by kernel_rfl) (fun _ _ _ h => h) (Or.inl ⟨by rfl, ?_⟩) hx2 ?_
        rotate_left
        · intro wz hz; go_simp; (try with_reducible rfl)
        try simp only [Act.put, List.getElem_toArray, List.getElem_cons_zero, List.getElem_cons_succ, List.setIfInBounds_toArray, List.set_cons_zero, List.set_cons_succ]
        refine ord_take (i := 7) (v := ?_) (by kernel_rfl) rfl (by decide) (by kernel_rfl) (by kernel_rfl) (fun _ _ _ h => h) (Or.inl ⟨by rfl, ?_⟩) hx2 ?_
        rotate_left
        · intro wz hz; go_simp; (try with_reducible rfl)
        try simp only [Act.put, List.getElem_toArray, List.getElem_cons_zero, List.getElem_cons_succ, List.setIfInBounds_toArray, List.set_cons_zero, List.set_cons_succ]
        refine ord_step (i := 8) rfl (by decide) (by kernel_rfl) (by rfl) (fun K hK => ?_)
        go_simp
        obtain ⟨G_e, hG⟩ : ∃ G, X10_11_1.heap.size = G := ⟨_, rfl⟩
        have hN : Blk (X10_11_1.alloc (.cells #[.slice none 0 0, .slice none 0 0] 24)) G_e 24 #[.slice none 0 0, .slice none 0 0] := hG ▸ Blk.new X10_11_1 _ _
        have hG2 : V9_10.heap.size ≤ G_e := hG ▸ hx2.size
        have hb : Below X10_11_1.heap.size X10_11_1 (X10_11_1.alloc (.cells #[.slice none 0 0, .slice none 0 0] 24)) := (Below.refl _ _).alloc (Nat.le_refl _) _
        rw [hG]
        replace I_e := I_e.on hb
        have hx3 := bltB hx2 hx2.size hb
        clear hb
        refine hK _ _ hx3 ?_
        clear hK K
        try simp only [Act.put, List.getElem_toArray, List.getElem_cons_zero, List.getElem_cons_succ, List.setIfInBounds_toArray, List.set_cons_zero, List.set_cons_succ]
        generalize X10_11_1.alloc (.cells #[.slice none 0 0, .slice none 0 0] 24) = Y10_11_2 at *
        clear hG
        refine ord_relist #[true, true, true, true, true, true, true, true, true, false, false] (by kernel_rfl) ?_
        exact HQ v_x v_e G_e _ ⟨I_e, hN, hx3, hG2⟩
      · go_simp
        obtain ⟨G_e, hG⟩ : ∃ G, X10_11_0.heap.size = G := ⟨_, rfl⟩
        have hN : Blk (X10_11_0.alloc (.cells #[.slice none 0 0, .slice none 0 0] 24)) G_e 24 #[.slice none 0 0, .slice none 0 0] := hG ▸ Blk.new X10_11_0 _ _
        have hG2 : V9_10.heap.size ≤ G_e := hG ▸ hx1.size
        have hb : Below X10_11_0.heap.size X10_11_0 (X10_11_0.alloc (.cells #[.slice none 0 0, .slice none 0 0] 24)) := (Below.refl _ _).alloc (Nat.le_refl _) _
        rw [hG]
        replace I_x := I_x.on hb
        have hx2 := bltB hx1 hx1.size hb
        clear hb
        refine hK _ _ hx2 ?_
        clear hK K
        try simp only [Act.put, List.getElem_toArray, List.getElem_cons_zero, List.getElem_cons_succ, List.setIfInBounds_toArray, List.set_cons_zero, List.set_cons_succ]
        generalize X10_11_0.alloc (.cells #[.slice none 0 0, .slice none 0 0] 24) = Y10_11_1 at *
        clear hG
        refine ord_step (i := 4) rfl (by decide) (by kernel_rfl) (by rfl) (fun K hK => ?_)
        go_simp
        refine (fquo_v I_x (I_b.on hx2) (by decide) (by decide)).mono ?_
        rintro y X10_11_2 ⟨v_e, rfl, I_e, hb⟩
        rw [hz]
        replace hN := hN.below hb hN.lt
        have hx3 := bltB hx2 hx2.size hb
        clear hb
        refine hK _ _ hx3 ?_
        clear hK K
        try simp only [Act.put, List.getElem_toArray, List.getElem_cons_zero, List.getElem_cons_succ, List.setIfInBounds_toArray, List.set_cons_zero, List.set_cons_succ]
        refine ord_take (i := 5) (v := ?_) (by kernel_rfl) rfl (by decide) (by kernel_rfl) (by kernel_rfl) (fun _ _ _ h => h) (Or.inl ⟨by rfl, ?_⟩) hx3 ?_
        rotate_left
        · intro wz hz; go_simp; (try with_reducible rfl)
        try simp only [Act.put, List.getElem_toArray, List.getElem_cons_zero, List.getElem_cons_succ, List.setIfInBounds_toArray, List.set_cons_zero, List.set_cons_succ]
        refine ord_take (i := 6) (v := ?_) (by kernel_rfl) rfl (by decide) (by kernel_rfl) (by kernel_rfl) (fun _ _ _ h => h) (Or.inl ⟨by rfl, ?_⟩) hx3 ?_
        rotate_left
        · intro wz hz; go_simp; (try with_reducible rfl)
        try simp only [Act.put, List.getElem_toArray, List.getElem_cons_zero, List.getElem_cons_succ, List.setIfInBounds_toArray, List.set_cons_zero, List.set_cons_succ]
        refine ord_take (i := 7) (v := ?_) (by kernel_rfl) rfl (by decide) (by kernel_rfl) (by kernel_rfl) (fun _ _ _ h => h) (Or.inl ⟨by rfl, ?_⟩) hx3 ?_
        rotate_left
        · intro wz hz; go_simp; (try with_reducible rfl)
        try simp only [Act.put, List.getElem_toArray, List.getElem_cons_zero, List.getElem_cons_succ, List.setIfInBounds_toArray, List.set_cons_zero, List.set_cons_succ]
        refine ord_relist #[true, true, true, true, true, true, true, true, true, false, false] (by kernel_rfl) ?_
        exact HQ v_x v_e G_e _ ⟨I_e, hN, hx3, hG2⟩
    · go_simp
      obtain ⟨G_e, hG⟩ : ∃ G, V9_10.heap.size = G := ⟨_, rfl⟩
      have hN : Blk ((V9_10.alloc (.cells #[.slice none 0 0, .slice none 0 0] 24)).drew) G_e 24 #[.slice none 0 0, .slice none 0 0] := hG ▸ (Blk.new V9_10 _ _).drew
      have hG2 : V9_10.heap.size ≤ G_e := hG ▸ Nat.le_refl _
      rw [hG]
      have hx1 : Below V9_10.heap.size V9_10 ((V9_10.alloc (.cells #[.slice none 0 0, .slice none 0 0] 24)).drew) := ((Below.refl _ _).alloc (Nat.le_refl _) _).drew
      refine hK _ _ hx1 ?_
      clear hK K
      try simp only [Act.put, List.getElem_toArray, List.getElem_cons_zero, List.getElem_cons_succ, List.setIfInBounds_toArray, List.set_cons_zero, List.set_cons_succ]
      generalize (V9_10.alloc (.cells #[.slice none 0 0, .slice none 0 0] 24)).drew = Y10_11_0 at *
      clear hG
      refine ord_step (i := 2) rfl (by decide) (by kernel_rfl) (by rfl) (fun K hK => ?_)
      go_simp
      refine (fmul_v (I_a.on hx1) (I_b.on hx1) (by decide) (by decide)).mono ?_
      rintro y X10_11_1 ⟨v_x, rfl, I_x, hb⟩
      replace hN := hN.below hb hN.lt
      have hx2 := bltB hx1 hx1.size hb
      clear hb
      refine hK _ _ hx2 ?_
      clear hK K
      try simp only [Act.put, List.getElem_toArray, List.getElem_cons_zero, List.getElem_cons_succ, List.setIfInBounds_toArray, List.set_cons_zero, List.set_cons_succ]
      refine ord_step (i := 4) rfl (by decide) (by kernel_rfl) (by rfl) (fun K hK => ?_)
      go_simp
      refine (fquo_v I_x (I_b.on hx2) (by decide) (by decide)).mono ?_
      rintro y X10_11_2 ⟨v_e, rfl, I_e, hb⟩
      rw [hz]
      replace hN := hN.below hb hN.lt
      have hx3 := bltB hx2 hx2.size hb
      clear hb
      refine hK _ _ hx3 ?_
      clear hK K
      try simp only [Act.put, List.getElem_toArray, List.getElem_cons_zero, List.getElem_cons_succ, List.setIfInBounds_toArray, List.set_cons_zero, List.set_cons_succ]
      refine ord_take (i := 5) (v := ?_) (by kernel_rfl) rfl (by decide) (by kernel_rfl) (by kernel_rfl) (fun _ _ _ h => h) (Or.inl ⟨by rfl, ?_⟩) hx3 ?_
      rotate_left
      · intro wz hz; go_simp; (try with_reducible rfl)
      try simp only [Act.put, List.getElem_toArray, List.getElem_cons_zero, List.getElem_cons_succ, List.setIfInBounds_toArray, List.set_cons_zero, List.set_cons_succ]
      refine ord_take (i := 6) (v := ?_) (by kernel_rfl) rfl (by decide) (by kernel_rfl) (by kernel_rfl) (fun _ _ _ h => h) (Or.inl ⟨by rfl, ?_⟩) hx3 ?_
      rotate_left
      · intro wz hz; go_simp; (try with_reducible rfl)
      try simp only [Act.put, List.getElem_toArray, List.getElem_cons_zero, List.getElem_cons_succ, List.setIfInBounds_toArray, List.set_cons_zero, List.set_cons_succ]
      refine ord_take (i := 7) (v := ?_) (by kernel_rfl) rfl (by decide) (by kernel_rfl) (by kernel_rfl) (fun _ _ _ h => h) (Or.inl ⟨by rfl, ?_⟩) hx3 ?_
      rotate_left
      · intro wz hz; go_simp; (try with_reducible rfl)
      try simp only [Act.put, List.getElem_toArray, List.getElem_cons_zero, List.getElem_cons_succ, List.setIfInBounds_toArray, List.set_cons_zero, List.set_cons_succ]
      refine ord_relist #[true, true, true, true, true, true, true, true, true, false, false] (by kernel_rfl) ?_
      exact HQ v_x v_e G_e _ ⟨I_e, hN, hx3, hG2⟩
  rintro v_x v_e G_e Z10_11 ⟨I_e, hN, hx, hG2⟩
  obtain ⟨A_e, n_e, c_e, B_e, m_e, d_e, rfl, hI⟩ := I_e
  have I_e : IsQ Z10_11 (.agg #[.slice A_e n_e c_e, .slice B_e m_e d_e]) _ _ := ⟨_, _, _, _, _, _, rfl, hI⟩
  clear hI
  have hc0 := hN.cell 0
  have hc1 := hN.cell 1
  have hf0 := hN.frozen 0
  have hf1 := hN.frozen 1
  refine ord_step (i := 9) rfl (by decide) (by kernel_rfl) (by rfl) (fun K hK => ?_)
  go_simp
  obtain ⟨k_e, I_e, hx⟩ := isq_store hN I_e hx hG2
  clear hc0 hc1 hf0 hf1 hN hG2
  generalize (Z10_11.setCell ⟨G_e, 0, none⟩ (.slice A_e n_e c_e)).setCell ⟨G_e, 1, none⟩ (.slice B_e m_e d_e) = V10_11 at *
  refine hK _ _ hx ?_
  clear hK K
  try simp only [Act.put, List.getElem_toArray, List.getElem_cons_zero, List.getElem_cons_succ, List.setIfInBounds_toArray, List.set_cons_zero, List.set_cons_succ]
  refine ord_rest (by kernel_rfl) ?_
  refine any_step (i := 10) rfl (by kernel_rfl) (by rfl) (fun K hK => ?_)
  go_simp
  refine hK _ _ ?_
  clear hK K
  try simp only [Act.put, List.getElem_toArray, List.getElem_cons_zero, List.getElem_cons_succ, List.setIfInBounds_toArray, List.set_cons_zero, List.set_cons_succ]
  refine wpAny_done (by kernel_rfl) ?_ _
  refine NoPanic.normal ?_
  replace k_a := k_a.below hx k_a.lt
  replace k_b := k_b.below hx k_b.lt
  replace k_c := k_c.below hx k_c.lt
  replace I_a := I_a.on hx
  replace I_b := I_b.on hx
  replace I_c := I_c.on hx
  replace k_d := k_d.below hx k_d.lt
  replace I_d := I_d.on hx
  have hB11 := bltB hB10 hB10.size hx
  clear hx hB10
  clear hz
  rcases z with _ | _
  · have hq : q_b = 0 := by have := HZ.out; simpa using this
    have hn : n_b = 0 := by have h1 : ¬ 0 < (digs (rn q_b)).length := fun h => (len_pos_q I_b.ge0).1 h hq; have h2 := g_len; omega
    subst hn
    have q_k_b_0 := k_b.cell 0
    have q_k_b_1 := k_b.cell 1
    have q_k_b_l := k_b.lt
    have q_k_d_0 := k_d.cell 0
    have q_k_d_1 := k_d.cell 1
    have q_k_d_l := k_d.lt
    have q_k_a_0 := k_a.cell 0
    have q_k_a_1 := k_a.cell 1
    have q_k_a_l := k_a.lt
    go_wp2_with fail
    clear q_k_b_0 q_k_b_1 q_k_b_l q_k_d_0 q_k_d_1 q_k_d_l q_k_a_0 q_k_a_1 q_k_a_l
    refine (fsame_v I_d I_a (by decide)).mono ?_
    rintro y w12 ⟨rfl, hb⟩
    replace k_a := k_a.below hb k_a.lt
    replace k_b := k_b.below hb k_b.lt
    replace k_c := k_c.below hb k_c.lt
    replace I_a := I_a.on hb
    replace I_b := I_b.on hb
    replace I_c := I_c.on hb
    replace k_d := k_d.below hb k_d.lt
    replace I_d := I_d.on hb
    replace k_e := k_e.below hb k_e.lt
    replace I_e := I_e.on hb
    have hB12 := bltB hB11 hB11.size hb
    clear hb hB11
    rw [decide_eq_true (show q_a = q_a from rfl)]
    go_wp2_with fail
    go_ret
    exact ⟨rfl, hB12⟩
  · have hq : q_b ≠ 0 := by have := HZ.out; simpa using this
    have hn : (0 : Int) < (n_b : Int) := by have h1 := (len_pos_q I_b.ge0).2 hq; have h2 := g_len; omega
    have q_k_b_0 := k_b.cell 0
    have q_k_b_1 := k_b.cell 1
    have q_k_b_l := k_b.lt
    have q_k_e_0 := k_e.cell 0
    have q_k_e_1 := k_e.cell 1
    have q_k_e_l := k_e.lt
    have q_k_a_0 := k_a.cell 0
    have q_k_a_1 := k_a.cell 1
    have q_k_a_l := k_a.lt
    go_wp2_with fail
    clear q_k_b_0 q_k_b_1 q_k_b_l q_k_e_0 q_k_e_1 q_k_e_l q_k_a_0 q_k_a_1 q_k_a_l
    refine (fsame_v I_e I_a (by decide)).mono ?_
    rintro y w12 ⟨rfl, hb⟩
    replace k_a := k_a.below hb k_a.lt
    replace k_b := k_b.below hb k_b.lt
    replace k_c := k_c.below hb k_c.lt
    replace I_a := I_a.on hb
    replace I_b := I_b.on hb
    replace I_c := I_c.on hb
    replace k_d := k_d.below hb k_d.lt
    replace I_d := I_d.on hb
    replace k_e := k_e.below hb k_e.lt
    replace I_e := I_e.on hb
    have hB12 := bltB hB11 hB11.size hb
    clear hb hB11
    rw [decide_eq_true (show q_a * q_b / q_b = q_a from Rat.mul_div_cancel hq)]
    have q_k_d_0 := k_d.cell 0
    have q_k_d_1 := k_d.cell 1
    have q_k_d_l := k_d.lt
    have q_k_a_0 := k_a.cell 0
    have q_k_a_1 := k_a.cell 1
    have q_k_a_l := k_a.lt
    go_wp2_with fail
    clear q_k_d_0 q_k_d_1 q_k_d_l q_k_a_0 q_k_a_1 q_k_a_l
    refine (fsame_v I_d I_a (by decide)).mono ?_
    rintro y w13 ⟨rfl, hb⟩
    replace k_a := k_a.below hb k_a.lt
    replace k_b := k_b.below hb k_b.lt
    replace k_c := k_c.below hb k_c.lt
    replace I_a := I_a.on hb
    replace I_b := I_b.on hb
    replace I_c := I_c.on hb
    replace k_d := k_d.below hb k_d.lt
    replace I_d := I_d.on hb
    replace k_e := k_e.below hb k_e.lt
    replace I_e := I_e.on hb
    have hB13 := bltB hB12 hB12.size hb
    clear hb hB12
    rw [decide_eq_true (show q_a = q_a from rfl)]
    go_wp2_with fail
    go_ret
    exact ⟨rfl, hB13⟩

end Go.Proofs.YthkgeafidbihmaaDoor
