/-
  The law FracOrder: what its walk answers, whatever the digits.
-/
import Derived.Test.YthkgeafidbihmaaDoorFsml
import Derived.Test.YthkgeafidbihmaaDoorFtxt
namespace Go.Proofs.YthkgeafidbihmaaDoor
open Go.RowKit Go.Shelf
set_option linter.unusedVariables false
set_option linter.unusedSimpArgs false
attribute [local go_sem] Oper.semAt_some

set_option maxRecDepth 100000 in
set_option maxHeartbeats 4000000 in
theorem ford_any (w : World) (hT : Tab w) (A_a B_a : Option Addr) (n_a c_a m_a d_a : Nat) (l_a j_a : List Nat) (r_a : Rd w w.heap.size A_a n_a c_a l_a) (t_a : Rd w w.heap.size B_a m_a d_a j_a) (g_a : n_a ≤ 9223372036854775807) (h_a : m_a ≤ 9223372036854775807) (A_b B_b : Option Addr) (n_b c_b m_b d_b : Nat) (l_b j_b : List Nat) (r_b : Rd w w.heap.size A_b n_b c_b l_b) (t_b : Rd w w.heap.size B_b m_b d_b j_b) (g_b : n_b ≤ 9223372036854775807) (h_b : m_b ≤ 9223372036854775807) (A_c B_c : Option Addr) (n_c c_c m_c d_c : Nat) (l_c j_c : List Nat) (r_c : Rd w w.heap.size A_c n_c c_c l_c) (t_c : Rd w w.heap.size B_c m_c d_c j_c) (g_c : n_c ≤ 9223372036854775807) (h_c : m_c ≤ 9223372036854775807) :
    Calls Tryd.prog 6 #[.agg #[.slice A_a n_a c_a, .slice B_a m_a d_a], .agg #[.slice A_b n_b c_b, .slice B_b m_b d_b], .agg #[.slice A_c n_c c_c, .slice B_c m_c d_c]] w fun e w' => e = .returned (.bool true) ∧ Below w.heap.size w w' := by
  have HT := Lib.hid hT
  clear hT
  obtain ⟨w0, hw0⟩ : ∃ W, W = (((w.alloc (.cells #[.slice A_a n_a c_a, .slice B_a m_a d_a] 24)).alloc (.cells #[.slice A_b n_b c_b, .slice B_b m_b d_b] 24)).alloc (.cells #[.slice A_c n_c c_c, .slice B_c m_c d_c] 24)) := ⟨_, rfl⟩
  have hB0 : Below w.heap.size w w0 := by rw [hw0]; exact ((((Below.refl _ _).alloc (Nat.le_refl _) _).alloc (by simp; try omega) _).alloc (by simp; try omega) _)
  have k_a : Blk w0 w.heap.size 24 #[.slice A_a n_a c_a, .slice B_a m_a d_a] := by
    rw [hw0]
    have := Blk.new w 24 #[.slice A_a n_a c_a, .slice B_a m_a d_a]
    exact ((this.alloc _).alloc _)
  have k_b : Blk w0 (w.heap.size + 1) 24 #[.slice A_b n_b c_b, .slice B_b m_b d_b] := by
    rw [hw0]
    have := Blk.new (w.alloc (.cells #[.slice A_a n_a c_a, .slice B_a m_a d_a] 24)) 24 #[.slice A_b n_b c_b, .slice B_b m_b d_b]
    rw [World.size_alloc] at this
    exact (this.alloc _)
  have k_c : Blk w0 (w.heap.size + 2) 24 #[.slice A_c n_c c_c, .slice B_c m_c d_c] := by
    rw [hw0]
    have := Blk.new ((w.alloc (.cells #[.slice A_a n_a c_a, .slice B_a m_a d_a] 24)).alloc (.cells #[.slice A_b n_b c_b, .slice B_b m_b d_b] 24)) 24 #[.slice A_c n_c c_c, .slice B_c m_c d_c]
    rw [World.size_alloc, World.size_alloc] at this
    exact this
  replace r_a := r_a.on hB0
  replace t_a := t_a.on hB0
  replace r_b := r_b.on hB0
  replace t_b := t_b.on hB0
  replace r_c := r_c.on hB0
  replace t_c := t_c.on hB0
  go_enter Tryd.func6, Tryd.ntmps6
  go_wp2_with fail
  rw [← hw0]
  clear hw0
  refine (small_any w0 (HT.out.on hB0)).mono ?_
  rintro y w1 ⟨rfl, hb⟩
  replace k_a := k_a.below hb k_a.lt
  replace k_b := k_b.below hb k_b.lt
  replace k_c := k_c.below hb k_c.lt
  replace r_a := r_a.on hb
  replace t_a := t_a.on hb
  replace r_b := r_b.on hb
  replace t_b := t_b.on hb
  replace r_c := r_c.on hb
  replace t_c := t_c.on hb
  have hB1 := bltB hB0 hB0.size hb
  clear hb hB0
  have q_k_a_0 := k_a.cell 0
  have q_k_a_1 := k_a.cell 1
  have q_k_a_l := k_a.lt
  have q_k_b_0 := k_b.cell 0
  have q_k_b_1 := k_b.cell 1
  have q_k_b_l := k_b.lt
  go_wp2_with fail
  clear q_k_a_0 q_k_a_1 q_k_a_l q_k_b_0 q_k_b_1 q_k_b_l
  refine (few_any w1 _ _ _ _ _ _ _ _ _ _ _ _ g_a h_a g_b h_b).mono ?_
  rintro y w2 ⟨rfl, hb⟩
  replace k_a := k_a.below hb k_a.lt
  replace k_b := k_b.below hb k_b.lt
  replace k_c := k_c.below hb k_c.lt
  replace r_a := r_a.on hb
  replace t_a := t_a.on hb
  replace r_b := r_b.on hb
  replace t_b := t_b.on hb
  replace r_c := r_c.on hb
  replace t_c := t_c.on hb
  have hB2 := bltB hB1 hB1.size hb
  clear hb hB1
  rcases hf : (fewB n_a m_a && fewB n_b m_b) with _ | _
  · clear hf
    go_wp2_with fail
    go_ret
    exact ⟨rfl, hB2⟩
  have hle := few_le2 hf
  clear hf
  have le_a : n_a ≤ 12 ∧ m_a ≤ 12 := hle.1
  have le_b : n_b ≤ 12 ∧ m_b ≤ 12 := hle.2
  clear hle
  have q_k_c_0 := k_c.cell 0
  have q_k_c_1 := k_c.cell 1
  have q_k_c_l := k_c.lt
  go_wp2_with fail
  clear q_k_c_0 q_k_c_1 q_k_c_l
  refine (few_any w2 _ _ _ _ _ _ _ _ _ _ _ _ g_c h_c g_c h_c).mono ?_
  rintro y w3 ⟨rfl, hb⟩
  replace k_a := k_a.below hb k_a.lt
  replace k_b := k_b.below hb k_b.lt
  replace k_c := k_c.below hb k_c.lt
  replace r_a := r_a.on hb
  replace t_a := t_a.on hb
  replace r_b := r_b.on hb
  replace t_b := t_b.on hb
  replace r_c := r_c.on hb
  replace t_c := t_c.on hb
  have hB3 := bltB hB2 hB2.size hb
  clear hb hB2
  rcases hf : (fewB n_c m_c && fewB n_c m_c) with _ | _
  · clear hf
    go_wp2_with fail
    go_ret
    exact ⟨rfl, hB3⟩
  have hle := few_le2 hf
  clear hf
  have le_c : n_c ≤ 12 ∧ m_c ≤ 12 := hle.1
  clear hle
  have q_k_a_0 := k_a.cell 0
  have q_k_a_1 := k_a.cell 1
  have q_k_a_l := k_a.lt
  go_wp2_with fail
  clear q_k_a_0 q_k_a_1 q_k_a_l
  refine (fright_any w3 _ _ _ _ _ _ _ _ r_a t_a (by omega) (by omega)).mono ?_
  rintro y w4 ⟨rfl, hb⟩
  replace k_a := k_a.below hb k_a.lt
  replace k_b := k_b.below hb k_b.lt
  replace k_c := k_c.below hb k_c.lt
  replace r_a := r_a.on hb
  replace t_a := t_a.on hb
  replace r_b := r_b.on hb
  replace t_b := t_b.on hb
  replace r_c := r_c.on hb
  replace t_c := t_c.on hb
  have hB4 := bltB hB3 hB3.size hb
  clear hb hB3
  rcases hr : frR l_a j_a with _ | _
  · clear hr
    go_wp2_with fail
    go_ret
    exact ⟨rfl, hB4⟩
  obtain ⟨q_a, rfl, rfl, F_a⟩ := as_q r_a t_a le_a.1 le_a.2 hr
  clear hr
  have q_k_b_0 := k_b.cell 0
  have q_k_b_1 := k_b.cell 1
  have q_k_b_l := k_b.lt
  go_wp2_with fail
  clear q_k_b_0 q_k_b_1 q_k_b_l
  refine (fright_any w4 _ _ _ _ _ _ _ _ r_b t_b (by omega) (by omega)).mono ?_
  rintro y w5 ⟨rfl, hb⟩
  replace k_a := k_a.below hb k_a.lt
  replace k_b := k_b.below hb k_b.lt
  replace k_c := k_c.below hb k_c.lt
  replace r_a := r_a.on hb
  replace t_a := t_a.on hb
  replace r_b := r_b.on hb
  replace t_b := t_b.on hb
  replace r_c := r_c.on hb
  replace t_c := t_c.on hb
  have hB5 := bltB hB4 hB4.size hb
  clear hb hB4
  rcases hr : frR l_b j_b with _ | _
  · clear hr
    go_wp2_with fail
    go_ret
    exact ⟨rfl, hB5⟩
  obtain ⟨q_b, rfl, rfl, F_b⟩ := as_q r_b t_b le_b.1 le_b.2 hr
  clear hr
  have q_k_c_0 := k_c.cell 0
  have q_k_c_1 := k_c.cell 1
  have q_k_c_l := k_c.lt
  go_wp2_with fail
  clear q_k_c_0 q_k_c_1 q_k_c_l
  refine (fright_any w5 _ _ _ _ _ _ _ _ r_c t_c (by omega) (by omega)).mono ?_
  rintro y w6 ⟨rfl, hb⟩
  replace k_a := k_a.below hb k_a.lt
  replace k_b := k_b.below hb k_b.lt
  replace k_c := k_c.below hb k_c.lt
  replace r_a := r_a.on hb
  replace t_a := t_a.on hb
  replace r_b := r_b.on hb
  replace t_b := t_b.on hb
  replace r_c := r_c.on hb
  replace t_c := t_c.on hb
  have hB6 := bltB hB5 hB5.size hb
  clear hb hB5
  rcases hr : frR l_c j_c with _ | _
  · clear hr
    go_wp2_with fail
    go_ret
    exact ⟨rfl, hB6⟩
  obtain ⟨q_c, rfl, rfl, F_c⟩ := as_q r_c t_c le_c.1 le_c.2 hr
  clear hr
  have g_len := r_c.len
  have I_a := IsQ.mk r_a t_a F_a
  have I_b := IsQ.mk r_b t_b F_b
  have I_c := IsQ.mk r_c t_c F_c
  have q_k_a_0 := k_a.cell 0
  have q_k_a_1 := k_a.cell 1
  have q_k_a_l := k_a.lt
  have q_k_b_0 := k_b.cell 0
  have q_k_b_1 := k_b.cell 1
  have q_k_b_l := k_b.lt
  go_wp2_with fail
  clear q_k_a_0 q_k_a_1 q_k_a_l q_k_b_0 q_k_b_1 q_k_b_l
  have htri : q_a < q_b ∨ q_a = q_b ∨ q_b < q_a := by grind
  rcases htri with hq | hq | hq
  · refine (fcmp_v I_a I_b (by decide) (by decide)).mono ?_
    rintro y w7 ⟨rfl, hb⟩
    replace k_a := k_a.below hb k_a.lt
    replace k_b := k_b.below hb k_b.lt
    replace k_c := k_c.below hb k_c.lt
    replace I_a := I_a.on hb
    replace I_b := I_b.on hb
    replace I_c := I_c.on hb
    have hB7 := bltB hB6 hB6.size hb
    clear hb hB6
    rw [cmpQ_lt hq]
    have q_k_a_0 := k_a.cell 0
    have q_k_a_1 := k_a.cell 1
    have q_k_a_l := k_a.lt
    have q_k_b_0 := k_b.cell 0
    have q_k_b_1 := k_b.cell 1
    have q_k_b_l := k_b.lt
    go_wp2_with fail
    clear q_k_a_0 q_k_a_1 q_k_a_l q_k_b_0 q_k_b_1 q_k_b_l
    refine (fsub_v I_a I_b (by decide) (by decide)).mono ?_
    rintro y w8 ⟨v_d, rfl, I_d, hb⟩
    rw [decide_eq_false (Rat.not_le.2 hq)]
    replace k_a := k_a.below hb k_a.lt
    replace k_b := k_b.below hb k_b.lt
    replace k_c := k_c.below hb k_c.lt
    replace I_a := I_a.on hb
    replace I_b := I_b.on hb
    replace I_c := I_c.on hb
    have hB8 := bltB hB7 hB7.size hb
    clear hb hB7
    replace I_d := I_d.as (if_neg (Rat.not_le.2 hq))
    obtain ⟨A_d, n_d, c_d, B_d, m_d, d_d, rfl, hI⟩ := I_d
    have I_d : IsQ w8 (.agg #[.slice A_d n_d c_d, .slice B_d m_d d_d]) _ _ := ⟨_, _, _, _, _, _, rfl, hI⟩
    clear hI
    have HQ := Lib.hid hq
    clear hq
    go_wp2_with fail
    obtain ⟨w9, hw9⟩ : ∃ W, W = w8.alloc (.cells #[.slice A_d n_d c_d, .slice B_d m_d d_d] 24) := ⟨_, rfl⟩
    obtain ⟨G_d, hG_d⟩ : ∃ G, w8.heap.size = G := ⟨_, rfl⟩
    have ha : Below w8.heap.size w8 w9 := by rw [hw9]; exact (Below.refl _ _).alloc (Nat.le_refl _) _
    have k_d : Blk w9 G_d 24 #[.slice A_d n_d c_d, .slice B_d m_d d_d] := by rw [hw9, ← hG_d]; exact Blk.new w8 _ _
    rw [← hw9]
    simp only [hG_d]
    clear hw9 hG_d
    replace k_a := k_a.below ha k_a.lt
    replace k_b := k_b.below ha k_b.lt
    replace k_c := k_c.below ha k_c.lt
    replace I_a := I_a.on ha
    replace I_b := I_b.on ha
    replace I_c := I_c.on ha
    replace I_d := I_d.on ha
    have hB9 := bltB hB8 hB8.size ha
    clear ha hB8
    refine wp_region_noPanic ?_
    refine ord_begin 30 (fun wx => Below w9.heap.size w9 wx) (by kernel_rfl) ?_
    have hx0 : Below w9.heap.size w9 w9.drew := (Below.refl _ _).drew
    refine ord_take (i := 0) (v := ?_) (by kernel_rfl) rfl (by decide) (by kernel_rfl) (by kernel_rfl) (fun _ _ _ h => h) (Or.inl ⟨by rfl, ?_⟩) hx0 ?_
    rotate_left
    · intro wz hz; go_simp; (try with_reducible rfl)
    try simp only [Act.put, List.getElem_toArray, List.getElem_cons_zero, List.getElem_cons_succ, List.setIfInBounds_toArray, List.set_cons_zero, List.set_cons_succ]
    refine ord_take (i := 1) (v := ?_) (by kernel_rfl) rfl (by decide) (by kernel_rfl) (by kernel_rfl) (fun _ _ _ h => h) (Or.inl ⟨by rfl, ?_⟩) hx0 ?_
    rotate_left
    · intro wz hz; have j := k_b.below hz k_b.lt; have q0 := j.cell 0; have q1 := j.cell 1; go_simp; (try with_reducible rfl)
    try simp only [Act.put, List.getElem_toArray, List.getElem_cons_zero, List.getElem_cons_succ, List.setIfInBounds_toArray, List.set_cons_zero, List.set_cons_succ]
    refine ord_take (i := 2) (v := ?_) (by kernel_rfl) rfl (by decide) (by kernel_rfl) (by kernel_rfl) (fun _ _ _ h => h) (Or.inl ⟨by rfl, ?_⟩) hx0 ?_
    rotate_left
    · intro wz hz; have j := k_a.below hz k_a.lt; have q0 := j.cell 0; have q1 := j.cell 1; go_simp; (try with_reducible rfl)
    try simp only [Act.put, List.getElem_toArray, List.getElem_cons_zero, List.getElem_cons_succ, List.setIfInBounds_toArray, List.set_cons_zero, List.set_cons_succ]
    refine ord_step (i := 3) rfl (by decide) (by kernel_rfl) (by rfl) (fun K hK => ?_)
    go_simp
    refine (fcmp_v (I_b.on hx0) (I_a.on hx0) (by decide) (by decide)).mono ?_
    rintro y X9_6_1 ⟨rfl, hb⟩
    rw [cmpQ_gt HQ.out]
    have hx1 := bltB hx0 hx0.size hb
    clear hb hx0
    refine hK _ _ hx1 ?_
    clear hK K
    try simp only [Act.put, List.getElem_toArray, List.getElem_cons_zero, List.getElem_cons_succ, List.setIfInBounds_toArray, List.set_cons_zero, List.set_cons_succ]
    refine ord_take (i := 4) (v := ?_) (by kernel_rfl) rfl (by decide) (by kernel_rfl) (by kernel_rfl) (fun _ _ _ h => h) (Or.inl ⟨by rfl, ?_⟩) hx1 ?_
    rotate_left
    · intro wz hz; go_simp; (try with_reducible rfl)
    try simp only [Act.put, List.getElem_toArray, List.getElem_cons_zero, List.getElem_cons_succ, List.setIfInBounds_toArray, List.set_cons_zero, List.set_cons_succ]
    refine ord_take (i := 5) (v := ?_) (by kernel_rfl) rfl (by decide) (by kernel_rfl) (by kernel_rfl) (fun _ _ _ h => h) (Or.inl ⟨by rfl, ?_⟩) hx1 ?_
    rotate_left
    · intro wz hz; go_simp; (try with_reducible rfl)
    try simp only [Act.put, List.getElem_toArray, List.getElem_cons_zero, List.getElem_cons_succ, List.setIfInBounds_toArray, List.set_cons_zero, List.set_cons_succ]
    refine ord_take (i := 6) (v := ?_) (by kernel_rfl) rfl (by decide) (by kernel_rfl) (by kernel_rfl) (fun _ _ _ h => h) (Or.inl ⟨by rfl, ?_⟩) hx1 ?_
    rotate_left
    · intro wz hz; go_simp; (try with_reducible rfl)
    try simp only [Act.put, List.getElem_toArray, List.getElem_cons_zero, List.getElem_cons_succ, List.setIfInBounds_toArray, List.set_cons_zero, List.set_cons_succ]
    refine ord_take (i := 7) (v := ?_) (by kernel_rfl) rfl (by decide) (by kernel_rfl) (by kernel_rfl) (fun _ _ _ h => h) (Or.inl ⟨by rfl, ?_⟩) hx1 ?_
    rotate_left
    · intro wz hz; go_simp; (try with_reducible rfl)
    try simp only [Act.put, List.getElem_toArray, List.getElem_cons_zero, List.getElem_cons_succ, List.setIfInBounds_toArray, List.set_cons_zero, List.set_cons_succ]
    refine ord_take (i := 8) (v := ?_) (by kernel_rfl) rfl (by decide) (by kernel_rfl) (by kernel_rfl) (fun _ _ _ h => h) (Or.inl ⟨by rfl, ?_⟩) hx1 ?_
    rotate_left
    · intro wz hz; go_simp; (try with_reducible rfl)
    try simp only [Act.put, List.getElem_toArray, List.getElem_cons_zero, List.getElem_cons_succ, List.setIfInBounds_toArray, List.set_cons_zero, List.set_cons_succ]
    refine ord_take (i := 9) (v := ?_) (by kernel_rfl) rfl (by decide) (by kernel_rfl) (by kernel_rfl) (fun _ _ _ h => h) (Or.inl ⟨by rfl, ?_⟩) hx1 ?_
    rotate_left
    · intro wz hz; have j := k_a.below hz k_a.lt; have q0 := j.cell 0; have q1 := j.cell 1; go_simp; (try with_reducible rfl)
    try simp only [Act.put, List.getElem_toArray, List.getElem_cons_zero, List.getElem_cons_succ, List.setIfInBounds_toArray, List.set_cons_zero, List.set_cons_succ]
    refine ord_take (i := 10) (v := ?_) (by kernel_rfl) rfl (by decide) (by kernel_rfl) (by kernel_rfl) (fun _ _ _ h => h) (Or.inl ⟨by rfl, ?_⟩) hx1 ?_
    rotate_left
    · intro wz hz; have j := k_b.below hz k_b.lt; have q0 := j.cell 0; have q1 := j.cell 1; go_simp; (try with_reducible rfl)
    try simp only [Act.put, List.getElem_toArray, List.getElem_cons_zero, List.getElem_cons_succ, List.setIfInBounds_toArray, List.set_cons_zero, List.set_cons_succ]
    refine ord_step (i := 11) rfl (by decide) (by kernel_rfl) (by rfl) (fun K hK => ?_)
    go_simp
    refine (fsame_v (I_a.on hx1) (I_b.on hx1) (by decide)).mono ?_
    rintro y X9_6_2 ⟨rfl, hb⟩
    rw [decide_eq_false (Rat.ne_of_lt HQ.out)]
    have hx2 := bltB hx1 hx1.size hb
    clear hb hx1
    refine hK _ _ hx2 ?_
    clear hK K
    try simp only [Act.put, List.getElem_toArray, List.getElem_cons_zero, List.getElem_cons_succ, List.setIfInBounds_toArray, List.set_cons_zero, List.set_cons_succ]
    refine ord_take (i := 12) (v := ?_) (by kernel_rfl) rfl (by decide) (by kernel_rfl) (by kernel_rfl) (fun _ _ _ h => h) (Or.inl ⟨by rfl, ?_⟩) hx2 ?_
    rotate_left
    · intro wz hz; go_simp; (try with_reducible rfl)
    try simp only [Act.put, List.getElem_toArray, List.getElem_cons_zero, List.getElem_cons_succ, List.setIfInBounds_toArray, List.set_cons_zero, List.set_cons_succ]
    refine ord_take (i := 13) (v := ?_) (by kernel_rfl) rfl (by decide) (by kernel_rfl) (by kernel_rfl) (fun _ _ _ h => h) (Or.inl ⟨by rfl, ?_⟩) hx2 ?_
    rotate_left
    · intro wz hz; go_simp; (try with_reducible rfl)
    try simp only [Act.put, List.getElem_toArray, List.getElem_cons_zero, List.getElem_cons_succ, List.setIfInBounds_toArray, List.set_cons_zero, List.set_cons_succ]
    refine ord_take (i := 14) (v := ?_) (by kernel_rfl) rfl (by decide) (by kernel_rfl) (by kernel_rfl) (fun _ _ _ h => h) (Or.inl ⟨by rfl, ?_⟩) hx2 ?_
    rotate_left
    · intro wz hz; go_simp; (try with_reducible rfl)
    try simp only [Act.put, List.getElem_toArray, List.getElem_cons_zero, List.getElem_cons_succ, List.setIfInBounds_toArray, List.set_cons_zero, List.set_cons_succ]
    refine ord_take (i := 15) (v := ?_) (by kernel_rfl) rfl (by decide) (by kernel_rfl) (by kernel_rfl) (fun _ _ _ h => h) (Or.inl ⟨by rfl, ?_⟩) hx2 ?_
    rotate_left
    · intro wz hz; go_simp; (try with_reducible rfl)
    try simp only [Act.put, List.getElem_toArray, List.getElem_cons_zero, List.getElem_cons_succ, List.setIfInBounds_toArray, List.set_cons_zero, List.set_cons_succ]
    refine ord_take (i := 16) (v := ?_) (by kernel_rfl) rfl (by decide) (by kernel_rfl) (by kernel_rfl) (fun _ _ _ h => h) (Or.inl ⟨by rfl, ?_⟩) hx2 ?_
    rotate_left
    · intro wz hz; go_simp; (try with_reducible rfl)
    try simp only [Act.put, List.getElem_toArray, List.getElem_cons_zero, List.getElem_cons_succ, List.setIfInBounds_toArray, List.set_cons_zero, List.set_cons_succ]
    refine ord_take (i := 17) (v := ?_) (by kernel_rfl) rfl (by decide) (by kernel_rfl) (by kernel_rfl) (fun _ _ _ h => h) (Or.inl ⟨by rfl, ?_⟩) hx2 ?_
    rotate_left
    · intro wz hz; go_simp; (try with_reducible rfl)
    try simp only [Act.put, List.getElem_toArray, List.getElem_cons_zero, List.getElem_cons_succ, List.setIfInBounds_toArray, List.set_cons_zero, List.set_cons_succ]
    refine ord_take (i := 18) (v := ?_) (by kernel_rfl) rfl (by decide) (by kernel_rfl) (by kernel_rfl) (fun _ _ _ h => h) (Or.inl ⟨by rfl, ?_⟩) hx2 ?_
    rotate_left
    · intro wz hz; go_simp; (try with_reducible rfl)
    try simp only [Act.put, List.getElem_toArray, List.getElem_cons_zero, List.getElem_cons_succ, List.setIfInBounds_toArray, List.set_cons_zero, List.set_cons_succ]
    refine ord_take (i := 19) (v := ?_) (by kernel_rfl) rfl (by decide) (by kernel_rfl) (by kernel_rfl) (fun _ _ _ h => h) (Or.inl ⟨by rfl, ?_⟩) hx2 ?_
    rotate_left
    · intro wz hz; go_simp; (try with_reducible rfl)
    try simp only [Act.put, List.getElem_toArray, List.getElem_cons_zero, List.getElem_cons_succ, List.setIfInBounds_toArray, List.set_cons_zero, List.set_cons_succ]
    refine ord_take (i := 20) (v := ?_) (by kernel_rfl) rfl (by decide) (by kernel_rfl) (by kernel_rfl) (fun _ _ _ h => h) (Or.inl ⟨by rfl, ?_⟩) hx2 ?_
    rotate_left
    · intro wz hz; go_simp; (try with_reducible rfl)
    try simp only [Act.put, List.getElem_toArray, List.getElem_cons_zero, List.getElem_cons_succ, List.setIfInBounds_toArray, List.set_cons_zero, List.set_cons_succ]
    refine ord_take (i := 21) (v := ?_) (by kernel_rfl) rfl (by decide) (by kernel_rfl) (by kernel_rfl) (fun _ _ _ h => h) (Or.inl ⟨by rfl, ?_⟩) hx2 ?_
    rotate_left
    · intro wz hz; have j := k_a.below hz k_a.lt; have q0 := j.cell 0; have q1 := j.cell 1; go_simp; (try with_reducible rfl)
    try simp only [Act.put, List.getElem_toArray, List.getElem_cons_zero, List.getElem_cons_succ, List.setIfInBounds_toArray, List.set_cons_zero, List.set_cons_succ]
    refine ord_take (i := 22) (v := ?_) (by kernel_rfl) rfl (by decide) (by kernel_rfl) (by kernel_rfl) (fun _ _ _ h => h) (Or.inl ⟨by rfl, ?_⟩) hx2 ?_
    rotate_left
    · intro wz hz; have j := k_c.below hz k_c.lt; have q0 := j.cell 0; have q1 := j.cell 1; go_simp; (try with_reducible rfl)
    try simp only [Act.put, List.getElem_toArray, List.getElem_cons_zero, List.getElem_cons_succ, List.setIfInBounds_toArray, List.set_cons_zero, List.set_cons_succ]
    refine ord_take (i := 24) (v := ?_) (by kernel_rfl) rfl (by decide) (by kernel_rfl) (by kernel_rfl) (fun _ _ _ h => h) (Or.inl ⟨by rfl, ?_⟩) hx2 ?_
    rotate_left
    · intro wz hz; have j := k_b.below hz k_b.lt; have q0 := j.cell 0; have q1 := j.cell 1; go_simp; (try with_reducible rfl)
    try simp only [Act.put, List.getElem_toArray, List.getElem_cons_zero, List.getElem_cons_succ, List.setIfInBounds_toArray, List.set_cons_zero, List.set_cons_succ]
    refine ord_take (i := 25) (v := ?_) (by kernel_rfl) rfl (by decide) (by kernel_rfl) (by kernel_rfl) (fun _ _ _ h => h) (Or.inl ⟨by rfl, ?_⟩) hx2 ?_
    rotate_left
    · intro wz hz; have j := k_c.below hz k_c.lt; have q0 := j.cell 0; have q1 := j.cell 1; go_simp; (try with_reducible rfl)
    try simp only [Act.put, List.getElem_toArray, List.getElem_cons_zero, List.getElem_cons_succ, List.setIfInBounds_toArray, List.set_cons_zero, List.set_cons_succ]
    refine ord_take (i := 28) (v := ?_) (by kernel_rfl) rfl (by decide) (by kernel_rfl) (by kernel_rfl) (fun _ _ _ h => h) (Or.inl ⟨by rfl, ?_⟩) hx2 ?_
    rotate_left
    · intro wz hz; go_simp; (try with_reducible rfl)
    try simp only [Act.put, List.getElem_toArray, List.getElem_cons_zero, List.getElem_cons_succ, List.setIfInBounds_toArray, List.set_cons_zero, List.set_cons_succ]
    refine ord_step (i := 23) rfl (by decide) (by kernel_rfl) (by rfl) (fun K hK => ?_)
    go_simp
    refine (fadd_v (I_a.on hx2) (I_c.on hx2) (by decide) (by decide)).mono ?_
    rintro y X9_6_3 ⟨v_x, rfl, I_x, hb⟩
    have hx3 := bltB hx2 hx2.size hb
    clear hb hx2
    refine hK _ _ hx3 ?_
    clear hK K
    try simp only [Act.put, List.getElem_toArray, List.getElem_cons_zero, List.getElem_cons_succ, List.setIfInBounds_toArray, List.set_cons_zero, List.set_cons_succ]
    refine ord_step (i := 26) rfl (by decide) (by kernel_rfl) (by rfl) (fun K hK => ?_)
    go_simp
    refine (fadd_v (I_b.on hx3) (I_c.on hx3) (by decide) (by decide)).mono ?_
    rintro y X9_6_4 ⟨v_y, rfl, I_y, hb⟩
    replace I_x := I_x.on hb
    have hx4 := bltB hx3 hx3.size hb
    clear hb hx3
    refine hK _ _ hx4 ?_
    clear hK K
    try simp only [Act.put, List.getElem_toArray, List.getElem_cons_zero, List.getElem_cons_succ, List.setIfInBounds_toArray, List.set_cons_zero, List.set_cons_succ]
    refine ord_step (i := 27) rfl (by decide) (by kernel_rfl) (by rfl) (fun K hK => ?_)
    go_simp
    refine (fcmp_v I_x I_y (by decide) (by decide)).mono ?_
    rintro y X9_6_5 ⟨rfl, hb⟩
    rw [cmpQ_lt (Rat.add_lt_add_right.2 HQ.out)]
    clear I_x
    clear I_y
    have hx5 := bltB hx4 hx4.size hb
    clear hb hx4
    refine hK _ _ hx5 ?_
    clear hK K
    try simp only [Act.put, List.getElem_toArray, List.getElem_cons_zero, List.getElem_cons_succ, List.setIfInBounds_toArray, List.set_cons_zero, List.set_cons_succ]
    refine ord_take (i := 29) (v := ?_) (by kernel_rfl) rfl (by decide) (by kernel_rfl) (by kernel_rfl) (fun _ _ _ h => h) (Or.inl ⟨by rfl, ?_⟩) hx5 ?_
    rotate_left
    · intro wz hz; go_simp; (try with_reducible rfl)
    try simp only [Act.put, List.getElem_toArray, List.getElem_cons_zero, List.getElem_cons_succ, List.setIfInBounds_toArray, List.set_cons_zero, List.set_cons_succ]
    refine ord_rest (by kernel_rfl) ?_
    refine wpAny_take (i := 30) (v := ?_) rfl (by kernel_rfl) (by kernel_rfl) (by kernel_rfl) (fun _ _ _ h => h) (Or.inl ⟨by rfl, ?_⟩) ?_
    rotate_left
    · intro wz; go_simp; (try with_reducible rfl)
    try simp only [Act.put, List.getElem_toArray, List.getElem_cons_zero, List.getElem_cons_succ, List.setIfInBounds_toArray, List.set_cons_zero, List.set_cons_succ]
    refine wpAny_done (by kernel_rfl) ?_ _
    refine NoPanic.normal ?_
    replace k_a := k_a.below hx5 k_a.lt
    replace k_b := k_b.below hx5 k_b.lt
    replace k_c := k_c.below hx5 k_c.lt
    replace I_a := I_a.on hx5
    replace I_b := I_b.on hx5
    replace I_c := I_c.on hx5
    replace I_d := I_d.on hx5
    replace k_d := k_d.below hx5 k_d.lt
    have hB10 := bltB hB9 hB9.size hx5
    clear hx5 hB9
    go_wp2_with fail
    by_cases hc : q_c = 0
    · have h1 : ¬ 0 < (digs (rn q_c)).length := fun h => (len_pos_q I_c.ge0).1 h hc
      have gz : n_c = 0 := by omega
      subst gz
      clear h1
      refine wp_region_noPanic ?_
      refine ord_begin 14 (fun wx => Below X9_6_5.heap.size X9_6_5 wx) (by kernel_rfl) ?_
      have hx0 : Below X9_6_5.heap.size X9_6_5 X9_6_5.drew := (Below.refl _ _).drew
      refine ord_take (i := 0) (v := ?_) (by kernel_rfl) rfl (by decide) (by kernel_rfl) (by kernel_rfl) (fun _ _ _ h => h) (Or.inl ⟨by rfl, ?_⟩) hx0 ?_
      rotate_left
      · intro wz hz; go_simp; (try with_reducible rfl)
      try simp only [Act.put, List.getElem_toArray, List.getElem_cons_zero, List.getElem_cons_succ, List.setIfInBounds_toArray, List.set_cons_zero, List.set_cons_succ]
      refine ord_take (i := 1) (v := ?_) (by kernel_rfl) rfl (by decide) (by kernel_rfl) (by kernel_rfl) (fun _ _ _ h => h) (Or.inl ⟨by rfl, ?_⟩) hx0 ?_
      rotate_left
      · intro wz hz; have j := k_c.below hz k_c.lt; have q0 := j.cell 0; have q1 := j.cell 1; go_simp; (try with_reducible rfl)
      try simp only [Act.put, List.getElem_toArray, List.getElem_cons_zero, List.getElem_cons_succ, List.setIfInBounds_toArray, List.set_cons_zero, List.set_cons_succ]
      refine ord_take (i := 2) (v := ?_) (by kernel_rfl) rfl (by decide) (by kernel_rfl) (by kernel_rfl) (fun _ _ _ h => h) (Or.inl ⟨by rfl, ?_⟩) hx0 ?_
      rotate_left
      · intro wz hz; go_simp; (try with_reducible rfl)
      try simp only [Act.put, List.getElem_toArray, List.getElem_cons_zero, List.getElem_cons_succ, List.setIfInBounds_toArray, List.set_cons_zero, List.set_cons_succ]
      refine ord_take (i := 3) (v := ?_) (by kernel_rfl) rfl (by decide) (by kernel_rfl) (by kernel_rfl) (fun _ _ _ h => h) (Or.inl ⟨by rfl, ?_⟩) hx0 ?_
      rotate_left
      · intro wz hz; go_simp; (try with_reducible rfl)
      try simp only [Act.put, List.getElem_toArray, List.getElem_cons_zero, List.getElem_cons_succ, List.setIfInBounds_toArray, List.set_cons_zero, List.set_cons_succ]
      refine ord_take (i := 4) (v := ?_) (by kernel_rfl) rfl (by decide) (by kernel_rfl) (by kernel_rfl) (fun _ _ _ h => h) (Or.inl ⟨by rfl, ?_⟩) hx0 ?_
      rotate_left
      · intro wz hz; go_simp; (try with_reducible rfl)
      try simp only [Act.put, List.getElem_toArray, List.getElem_cons_zero, List.getElem_cons_succ, List.setIfInBounds_toArray, List.set_cons_zero, List.set_cons_succ]
      refine ord_take (i := 5) (v := undef) (by kernel_rfl) rfl (by decide) (by kernel_rfl) (by kernel_rfl) (fun _ _ _ h => h) (Or.inr ⟨by rfl, rfl⟩) hx0 ?_
      try simp only [Act.put, List.getElem_toArray, List.getElem_cons_zero, List.getElem_cons_succ, List.setIfInBounds_toArray, List.set_cons_zero, List.set_cons_succ]
      refine ord_take (i := 6) (v := undef) (by kernel_rfl) rfl (by decide) (by kernel_rfl) (by kernel_rfl) (fun _ _ _ h => h) (Or.inr ⟨by rfl, rfl⟩) hx0 ?_
      try simp only [Act.put, List.getElem_toArray, List.getElem_cons_zero, List.getElem_cons_succ, List.setIfInBounds_toArray, List.set_cons_zero, List.set_cons_succ]
      refine ord_take (i := 7) (v := undef) (by kernel_rfl) rfl (by decide) (by kernel_rfl) (by kernel_rfl) (fun _ _ _ h => h) (Or.inr ⟨by rfl, rfl⟩) hx0 ?_
      try simp only [Act.put, List.getElem_toArray, List.getElem_cons_zero, List.getElem_cons_succ, List.setIfInBounds_toArray, List.set_cons_zero, List.set_cons_succ]
      refine ord_take (i := 8) (v := undef) (by kernel_rfl) rfl (by decide) (by kernel_rfl) (by kernel_rfl) (fun _ _ _ h => h) (Or.inr ⟨by rfl, rfl⟩) hx0 ?_
      try simp only [Act.put, List.getElem_toArray, List.getElem_cons_zero, List.getElem_cons_succ, List.setIfInBounds_toArray, List.set_cons_zero, List.set_cons_succ]
      refine ord_take (i := 9) (v := undef) (by kernel_rfl) rfl (by decide) (by kernel_rfl) (by kernel_rfl) (fun _ _ _ h => h) (Or.inr ⟨by rfl, rfl⟩) hx0 ?_
      try simp only [Act.put, List.getElem_toArray, List.getElem_cons_zero, List.getElem_cons_succ, List.setIfInBounds_toArray, List.set_cons_zero, List.set_cons_succ]
      refine ord_take (i := 10) (v := undef) (by kernel_rfl) rfl (by decide) (by kernel_rfl) (by kernel_rfl) (fun _ _ _ h => h) (Or.inr ⟨by rfl, rfl⟩) hx0 ?_
      try simp only [Act.put, List.getElem_toArray, List.getElem_cons_zero, List.getElem_cons_succ, List.setIfInBounds_toArray, List.set_cons_zero, List.set_cons_succ]
      refine ord_take (i := 11) (v := undef) (by kernel_rfl) rfl (by decide) (by kernel_rfl) (by kernel_rfl) (fun _ _ _ h => h) (Or.inr ⟨by rfl, rfl⟩) hx0 ?_
      try simp only [Act.put, List.getElem_toArray, List.getElem_cons_zero, List.getElem_cons_succ, List.setIfInBounds_toArray, List.set_cons_zero, List.set_cons_succ]
      refine ord_take (i := 12) (v := undef) (by kernel_rfl) rfl (by decide) (by kernel_rfl) (by kernel_rfl) (fun _ _ _ h => h) (Or.inr ⟨by rfl, rfl⟩) hx0 ?_
      try simp only [Act.put, List.getElem_toArray, List.getElem_cons_zero, List.getElem_cons_succ, List.setIfInBounds_toArray, List.set_cons_zero, List.set_cons_succ]
      refine ord_take (i := 13) (v := undef) (by kernel_rfl) rfl (by decide) (by kernel_rfl) (by kernel_rfl) (fun _ _ _ h => h) (Or.inr ⟨by rfl, rfl⟩) hx0 ?_
      try simp only [Act.put, List.getElem_toArray, List.getElem_cons_zero, List.getElem_cons_succ, List.setIfInBounds_toArray, List.set_cons_zero, List.set_cons_succ]
      refine ord_rest (by kernel_rfl) ?_
      refine wpAny_take (i := 14) (v := ?_) rfl (by kernel_rfl) (by kernel_rfl) (by kernel_rfl) (fun _ _ _ h => h) (Or.inl ⟨by rfl, ?_⟩) ?_
      rotate_left
      · intro wz; go_simp; (try with_reducible rfl)
      try simp only [Act.put, List.getElem_toArray, List.getElem_cons_zero, List.getElem_cons_succ, List.setIfInBounds_toArray, List.set_cons_zero, List.set_cons_succ]
      refine wpAny_done (by kernel_rfl) ?_ _
      refine NoPanic.normal ?_
      replace k_a := k_a.below hx0 k_a.lt
      replace k_b := k_b.below hx0 k_b.lt
      replace k_c := k_c.below hx0 k_c.lt
      replace I_a := I_a.on hx0
      replace I_b := I_b.on hx0
      replace I_c := I_c.on hx0
      replace I_d := I_d.on hx0
      replace k_d := k_d.below hx0 k_d.lt
      have hB11 := bltB hB10 hB10.size hx0
      clear hx0 hB10
      go_wp2_with fail
      refine wp_region_noPanic ?_
      refine ord_begin 16 (fun wx => Below X9_6_5.drew.heap.size X9_6_5.drew wx) (by kernel_rfl) ?_
      have hx0 : Below X9_6_5.drew.heap.size X9_6_5.drew X9_6_5.drew.drew := (Below.refl _ _).drew
      refine ord_take (i := 0) (v := ?_) (by kernel_rfl) rfl (by decide) (by kernel_rfl) (by kernel_rfl) (fun _ _ _ h => h) (Or.inl ⟨by rfl, ?_⟩) hx0 ?_
      rotate_left
      · intro wz hz; go_simp; (try with_reducible rfl)
      try simp only [Act.put, List.getElem_toArray, List.getElem_cons_zero, List.getElem_cons_succ, List.setIfInBounds_toArray, List.set_cons_zero, List.set_cons_succ]
      refine ord_take (i := 1) (v := ?_) (by kernel_rfl) rfl (by decide) (by kernel_rfl) (by kernel_rfl) (fun _ _ _ h => h) (Or.inl ⟨by rfl, ?_⟩) hx0 ?_
      rotate_left
      · intro wz hz; go_simp; (try with_reducible rfl)
      try simp only [Act.put, List.getElem_toArray, List.getElem_cons_zero, List.getElem_cons_succ, List.setIfInBounds_toArray, List.set_cons_zero, List.set_cons_succ]
      refine ord_take (i := 2) (v := ?_) (by kernel_rfl) rfl (by decide) (by kernel_rfl) (by kernel_rfl) (fun _ _ _ h => h) (Or.inl ⟨by rfl, ?_⟩) hx0 ?_
      rotate_left
      · intro wz hz; go_simp; (try with_reducible rfl)
      try simp only [Act.put, List.getElem_toArray, List.getElem_cons_zero, List.getElem_cons_succ, List.setIfInBounds_toArray, List.set_cons_zero, List.set_cons_succ]
      refine ord_take (i := 3) (v := ?_) (by kernel_rfl) rfl (by decide) (by kernel_rfl) (by kernel_rfl) (fun _ _ _ h => h) (Or.inl ⟨by rfl, ?_⟩) hx0 ?_
      rotate_left
      · intro wz hz; go_simp; (try with_reducible rfl)
      try simp only [Act.put, List.getElem_toArray, List.getElem_cons_zero, List.getElem_cons_succ, List.setIfInBounds_toArray, List.set_cons_zero, List.set_cons_succ]
      refine ord_take (i := 4) (v := ?_) (by kernel_rfl) rfl (by decide) (by kernel_rfl) (by kernel_rfl) (fun _ _ _ h => h) (Or.inl ⟨by rfl, ?_⟩) hx0 ?_
      rotate_left
      · intro wz hz; go_simp; (try with_reducible rfl)
      try simp only [Act.put, List.getElem_toArray, List.getElem_cons_zero, List.getElem_cons_succ, List.setIfInBounds_toArray, List.set_cons_zero, List.set_cons_succ]
      refine ord_take (i := 5) (v := undef) (by kernel_rfl) rfl (by decide) (by kernel_rfl) (by kernel_rfl) (fun _ _ _ h => h) (Or.inr ⟨by rfl, rfl⟩) hx0 ?_
      try simp only [Act.put, List.getElem_toArray, List.getElem_cons_zero, List.getElem_cons_succ, List.setIfInBounds_toArray, List.set_cons_zero, List.set_cons_succ]
      refine ord_take (i := 6) (v := undef) (by kernel_rfl) rfl (by decide) (by kernel_rfl) (by kernel_rfl) (fun _ _ _ h => h) (Or.inr ⟨by rfl, rfl⟩) hx0 ?_
      try simp only [Act.put, List.getElem_toArray, List.getElem_cons_zero, List.getElem_cons_succ, List.setIfInBounds_toArray, List.set_cons_zero, List.set_cons_succ]
      refine ord_take (i := 7) (v := undef) (by kernel_rfl) rfl (by decide) (by kernel_rfl) (by kernel_rfl) (fun _ _ _ h => h) (Or.inr ⟨by rfl, rfl⟩) hx0 ?_
      try simp only [Act.put, List.getElem_toArray, List.getElem_cons_zero, List.getElem_cons_succ, List.setIfInBounds_toArray, List.set_cons_zero, List.set_cons_succ]
      refine ord_take (i := 8) (v := undef) (by kernel_rfl) rfl (by decide) (by kernel_rfl) (by kernel_rfl) (fun _ _ _ h => h) (Or.inr ⟨by rfl, rfl⟩) hx0 ?_
      try simp only [Act.put, List.getElem_toArray, List.getElem_cons_zero, List.getElem_cons_succ, List.setIfInBounds_toArray, List.set_cons_zero, List.set_cons_succ]
      refine ord_take (i := 9) (v := undef) (by kernel_rfl) rfl (by decide) (by kernel_rfl) (by kernel_rfl) (fun _ _ _ h => h) (Or.inr ⟨by rfl, rfl⟩) hx0 ?_
      try simp only [Act.put, List.getElem_toArray, List.getElem_cons_zero, List.getElem_cons_succ, List.setIfInBounds_toArray, List.set_cons_zero, List.set_cons_succ]
      refine ord_take (i := 10) (v := ?_) (by kernel_rfl) rfl (by decide) (by kernel_rfl) (by kernel_rfl) (fun _ _ _ h => h) (Or.inl ⟨by rfl, ?_⟩) hx0 ?_
      rotate_left
      · intro wz hz; go_simp; (try with_reducible rfl)
      try simp only [Act.put, List.getElem_toArray, List.getElem_cons_zero, List.getElem_cons_succ, List.setIfInBounds_toArray, List.set_cons_zero, List.set_cons_succ]
      refine ord_take (i := 11) (v := ?_) (by kernel_rfl) rfl (by decide) (by kernel_rfl) (by kernel_rfl) (fun _ _ _ h => h) (Or.inl ⟨by rfl, ?_⟩) hx0 ?_
      rotate_left
      · intro wz hz; go_simp; (try with_reducible rfl)
      try simp only [Act.put, List.getElem_toArray, List.getElem_cons_zero, List.getElem_cons_succ, List.setIfInBounds_toArray, List.set_cons_zero, List.set_cons_succ]
      refine ord_take (i := 12) (v := ?_) (by kernel_rfl) rfl (by decide) (by kernel_rfl) (by kernel_rfl) (fun _ _ _ h => h) (Or.inl ⟨by rfl, ?_⟩) hx0 ?_
      rotate_left
      · intro wz hz; go_simp; (try with_reducible rfl)
      try simp only [Act.put, List.getElem_toArray, List.getElem_cons_zero, List.getElem_cons_succ, List.setIfInBounds_toArray, List.set_cons_zero, List.set_cons_succ]
      refine ord_take (i := 13) (v := ?_) (by kernel_rfl) rfl (by decide) (by kernel_rfl) (by kernel_rfl) (fun _ _ _ h => h) (Or.inl ⟨by rfl, ?_⟩) hx0 ?_
      rotate_left
      · intro wz hz; have j := k_d.below hz k_d.lt; have q0 := j.cell 0; have q1 := j.cell 1; go_simp; (try with_reducible rfl)
      try simp only [Act.put, List.getElem_toArray, List.getElem_cons_zero, List.getElem_cons_succ, List.setIfInBounds_toArray, List.set_cons_zero, List.set_cons_succ]
      refine ord_step (i := 14) rfl (by decide) (by kernel_rfl) (by rfl) (fun K hK => ?_)
      go_simp
      refine (fright_v (I_d.on hx0) (by decide)).mono ?_
      rintro y X11_10_1 ⟨rfl, hb⟩
      have hx1 := bltB hx0 hx0.size hb
      clear hb hx0
      refine hK _ _ hx1 ?_
      clear hK K
      try simp only [Act.put, List.getElem_toArray, List.getElem_cons_zero, List.getElem_cons_succ, List.setIfInBounds_toArray, List.set_cons_zero, List.set_cons_succ]
      refine ord_take (i := 15) (v := ?_) (by kernel_rfl) rfl (by decide) (by kernel_rfl) (by kernel_rfl) (fun _ _ _ h => h) (Or.inl ⟨by rfl, ?_⟩) hx1 ?_
      rotate_left
      · intro wz hz; go_simp; (try with_reducible rfl)
      try simp only [Act.put, List.getElem_toArray, List.getElem_cons_zero, List.getElem_cons_succ, List.setIfInBounds_toArray, List.set_cons_zero, List.set_cons_succ]
      refine ord_rest (by kernel_rfl) ?_
      refine any_step (i := 16) rfl (by kernel_rfl) (by rfl) (fun K hK => ?_)
      go_simp
      refine hK _ _ ?_
      clear hK K
      try simp only [Act.put, List.getElem_toArray, List.getElem_cons_zero, List.getElem_cons_succ, List.setIfInBounds_toArray, List.set_cons_zero, List.set_cons_succ]
      refine wpAny_done (by kernel_rfl) ?_ _
      refine NoPanic.normal ?_
      replace k_a := k_a.below hx1 k_a.lt
      replace k_b := k_b.below hx1 k_b.lt
      replace k_c := k_c.below hx1 k_c.lt
      replace I_a := I_a.on hx1
      replace I_b := I_b.on hx1
      replace I_c := I_c.on hx1
      replace I_d := I_d.on hx1
      replace k_d := k_d.below hx1 k_d.lt
      have hB12 := bltB hB11 hB11.size hx1
      clear hx1 hB11
      go_wp2_with fail
      go_ret
      exact ⟨rfl, hB12⟩
    · have h1 : 0 < (digs (rn q_c)).length := (len_pos_q I_c.ge0).2 hc
      have gz : decide (0 < n_c) = true := decide_eq_true (by omega)
      have hcp : 0 < q_c := by have := I_c.ge0; grind
      clear h1
      refine wp_region_noPanic ?_
      refine ord_begin 14 (fun wx => Below X9_6_5.heap.size X9_6_5 wx) (by kernel_rfl) ?_
      have hx0 : Below X9_6_5.heap.size X9_6_5 X9_6_5.drew := (Below.refl _ _).drew
      refine ord_take (i := 0) (v := ?_) (by kernel_rfl) rfl (by decide) (by kernel_rfl) (by kernel_rfl) (fun _ _ _ h => h) (Or.inl ⟨by rfl, ?_⟩) hx0 ?_
      rotate_left
      · intro wz hz; go_simp; (try with_reducible rfl)
      try simp only [Act.put, List.getElem_toArray, List.getElem_cons_zero, List.getElem_cons_succ, List.setIfInBounds_toArray, List.set_cons_zero, List.set_cons_succ]
      refine ord_take (i := 1) (v := ?_) (by kernel_rfl) rfl (by decide) (by kernel_rfl) (by kernel_rfl) (fun _ _ _ h => h) (Or.inl ⟨by rfl, ?_⟩) hx0 ?_
      rotate_left
      · intro wz hz; have j := k_c.below hz k_c.lt; have q0 := j.cell 0; have q1 := j.cell 1; go_simp; (try with_reducible rfl)
      try simp only [Act.put, List.getElem_toArray, List.getElem_cons_zero, List.getElem_cons_succ, List.setIfInBounds_toArray, List.set_cons_zero, List.set_cons_succ]
      refine ord_take (i := 2) (v := ?_) (by kernel_rfl) rfl (by decide) (by kernel_rfl) (by kernel_rfl) (fun _ _ _ h => h) (Or.inl ⟨by rfl, ?_⟩) hx0 ?_
      rotate_left
      · intro wz hz; go_simp; (try with_reducible rfl)
      try simp only [Act.put, List.getElem_toArray, List.getElem_cons_zero, List.getElem_cons_succ, List.setIfInBounds_toArray, List.set_cons_zero, List.set_cons_succ]
      refine ord_take (i := 3) (v := ?_) (by kernel_rfl) rfl (by decide) (by kernel_rfl) (by kernel_rfl) (fun _ _ _ h => h) (Or.inl ⟨by rfl, ?_⟩) hx0 ?_
      rotate_left
      · intro wz hz; go_simp; (try with_reducible rfl)
      try simp only [Act.put, List.getElem_toArray, List.getElem_cons_zero, List.getElem_cons_succ, List.setIfInBounds_toArray, List.set_cons_zero, List.set_cons_succ]
      refine ord_take (i := 4) (v := ?_) (by kernel_rfl) rfl (by decide) (by kernel_rfl) (by kernel_rfl) (fun _ _ _ h => h) (Or.inl ⟨by rfl, ?_⟩) hx0 ?_
      rotate_left
      · intro wz hz; go_simp; (try with_reducible rfl)
      try simp only [Act.put, List.getElem_toArray, List.getElem_cons_zero, List.getElem_cons_succ, List.setIfInBounds_toArray, List.set_cons_zero, List.set_cons_succ]
      refine ord_take (i := 5) (v := ?_) (by kernel_rfl) rfl (by decide) (by kernel_rfl) (by kernel_rfl) (fun _ _ _ h => h) (Or.inl ⟨by rfl, ?_⟩) hx0 ?_
      rotate_left
      · intro wz hz; have j := k_a.below hz k_a.lt; have q0 := j.cell 0; have q1 := j.cell 1; go_simp; (try with_reducible rfl)
      try simp only [Act.put, List.getElem_toArray, List.getElem_cons_zero, List.getElem_cons_succ, List.setIfInBounds_toArray, List.set_cons_zero, List.set_cons_succ]
      refine ord_take (i := 6) (v := ?_) (by kernel_rfl) rfl (by decide) (by kernel_rfl) (by kernel_rfl) (fun _ _ _ h => h) (Or.inl ⟨by rfl, ?_⟩) hx0 ?_
      rotate_left
      · intro wz hz; have j := k_c.below hz k_c.lt; have q0 := j.cell 0; have q1 := j.cell 1; go_simp; (try with_reducible rfl)
      try simp only [Act.put, List.getElem_toArray, List.getElem_cons_zero, List.getElem_cons_succ, List.setIfInBounds_toArray, List.set_cons_zero, List.set_cons_succ]
      refine ord_take (i := 8) (v := ?_) (by kernel_rfl) rfl (by decide) (by kernel_rfl) (by kernel_rfl) (fun _ _ _ h => h) (Or.inl ⟨by rfl, ?_⟩) hx0 ?_
      rotate_left
      · intro wz hz; have j := k_b.below hz k_b.lt; have q0 := j.cell 0; have q1 := j.cell 1; go_simp; (try with_reducible rfl)
      try simp only [Act.put, List.getElem_toArray, List.getElem_cons_zero, List.getElem_cons_succ, List.setIfInBounds_toArray, List.set_cons_zero, List.set_cons_succ]
      refine ord_take (i := 9) (v := ?_) (by kernel_rfl) rfl (by decide) (by kernel_rfl) (by kernel_rfl) (fun _ _ _ h => h) (Or.inl ⟨by rfl, ?_⟩) hx0 ?_
      rotate_left
      · intro wz hz; have j := k_c.below hz k_c.lt; have q0 := j.cell 0; have q1 := j.cell 1; go_simp; (try with_reducible rfl)
      try simp only [Act.put, List.getElem_toArray, List.getElem_cons_zero, List.getElem_cons_succ, List.setIfInBounds_toArray, List.set_cons_zero, List.set_cons_succ]
      refine ord_take (i := 12) (v := ?_) (by kernel_rfl) rfl (by decide) (by kernel_rfl) (by kernel_rfl) (fun _ _ _ h => h) (Or.inl ⟨by rfl, ?_⟩) hx0 ?_
      rotate_left
      · intro wz hz; go_simp; (try with_reducible rfl)
      try simp only [Act.put, List.getElem_toArray, List.getElem_cons_zero, List.getElem_cons_succ, List.setIfInBounds_toArray, List.set_cons_zero, List.set_cons_succ]
      refine ord_step (i := 7) rfl (by decide) (by kernel_rfl) (by rfl) (fun K hK => ?_)
      go_simp
      refine (fmul_v (I_a.on hx0) (I_c.on hx0) (by decide) (by decide)).mono ?_
      rintro y X10_8_1 ⟨v_x, rfl, I_x, hb⟩
      have hx1 := bltB hx0 hx0.size hb
      clear hb hx0
      refine hK _ _ hx1 ?_
      clear hK K
      try simp only [Act.put, List.getElem_toArray, List.getElem_cons_zero, List.getElem_cons_succ, List.setIfInBounds_toArray, List.set_cons_zero, List.set_cons_succ]
      refine ord_step (i := 10) rfl (by decide) (by kernel_rfl) (by rfl) (fun K hK => ?_)
      go_simp
      refine (fmul_v (I_b.on hx1) (I_c.on hx1) (by decide) (by decide)).mono ?_
      rintro y X10_8_2 ⟨v_y, rfl, I_y, hb⟩
      replace I_x := I_x.on hb
      have hx2 := bltB hx1 hx1.size hb
      clear hb hx1
      refine hK _ _ hx2 ?_
      clear hK K
      try simp only [Act.put, List.getElem_toArray, List.getElem_cons_zero, List.getElem_cons_succ, List.setIfInBounds_toArray, List.set_cons_zero, List.set_cons_succ]
      refine ord_step (i := 11) rfl (by decide) (by kernel_rfl) (by rfl) (fun K hK => ?_)
      go_simp
      refine (fcmp_v I_x I_y (by decide) (by decide)).mono ?_
      rintro y X10_8_3 ⟨rfl, hb⟩
      rw [cmpQ_lt (Rat.mul_lt_mul_of_pos_right HQ.out hcp)]
      clear I_x
      clear I_y
      have hx3 := bltB hx2 hx2.size hb
      clear hb hx2
      refine hK _ _ hx3 ?_
      clear hK K
      try simp only [Act.put, List.getElem_toArray, List.getElem_cons_zero, List.getElem_cons_succ, List.setIfInBounds_toArray, List.set_cons_zero, List.set_cons_succ]
      refine ord_take (i := 13) (v := ?_) (by kernel_rfl) rfl (by decide) (by kernel_rfl) (by kernel_rfl) (fun _ _ _ h => h) (Or.inl ⟨by rfl, ?_⟩) hx3 ?_
      rotate_left
      · intro wz hz; go_simp; (try with_reducible rfl)
      try simp only [Act.put, List.getElem_toArray, List.getElem_cons_zero, List.getElem_cons_succ, List.setIfInBounds_toArray, List.set_cons_zero, List.set_cons_succ]
      refine ord_rest (by kernel_rfl) ?_
      refine wpAny_take (i := 14) (v := ?_) rfl (by kernel_rfl) (by kernel_rfl) (by kernel_rfl) (fun _ _ _ h => h) (Or.inl ⟨by rfl, ?_⟩) ?_
      rotate_left
      · intro wz; go_simp; (try with_reducible rfl)
      try simp only [Act.put, List.getElem_toArray, List.getElem_cons_zero, List.getElem_cons_succ, List.setIfInBounds_toArray, List.set_cons_zero, List.set_cons_succ]
      refine wpAny_done (by kernel_rfl) ?_ _
      refine NoPanic.normal ?_
      replace k_a := k_a.below hx3 k_a.lt
      replace k_b := k_b.below hx3 k_b.lt
      replace k_c := k_c.below hx3 k_c.lt
      replace I_a := I_a.on hx3
      replace I_b := I_b.on hx3
      replace I_c := I_c.on hx3
      replace I_d := I_d.on hx3
      replace k_d := k_d.below hx3 k_d.lt
      have hB11 := bltB hB10 hB10.size hx3
      clear hx3 hB10
      go_wp2_with fail
      refine wp_region_noPanic ?_
      refine ord_begin 16 (fun wx => Below X10_8_3.heap.size X10_8_3 wx) (by kernel_rfl) ?_
      have hx0 : Below X10_8_3.heap.size X10_8_3 X10_8_3.drew := (Below.refl _ _).drew
      refine ord_take (i := 0) (v := ?_) (by kernel_rfl) rfl (by decide) (by kernel_rfl) (by kernel_rfl) (fun _ _ _ h => h) (Or.inl ⟨by rfl, ?_⟩) hx0 ?_
      rotate_left
      · intro wz hz; go_simp; (try with_reducible rfl)
      try simp only [Act.put, List.getElem_toArray, List.getElem_cons_zero, List.getElem_cons_succ, List.setIfInBounds_toArray, List.set_cons_zero, List.set_cons_succ]
      refine ord_take (i := 1) (v := ?_) (by kernel_rfl) rfl (by decide) (by kernel_rfl) (by kernel_rfl) (fun _ _ _ h => h) (Or.inl ⟨by rfl, ?_⟩) hx0 ?_
      rotate_left
      · intro wz hz; go_simp; (try with_reducible rfl)
      try simp only [Act.put, List.getElem_toArray, List.getElem_cons_zero, List.getElem_cons_succ, List.setIfInBounds_toArray, List.set_cons_zero, List.set_cons_succ]
      refine ord_take (i := 2) (v := ?_) (by kernel_rfl) rfl (by decide) (by kernel_rfl) (by kernel_rfl) (fun _ _ _ h => h) (Or.inl ⟨by rfl, ?_⟩) hx0 ?_
      rotate_left
      · intro wz hz; go_simp; (try with_reducible rfl)
      try simp only [Act.put, List.getElem_toArray, List.getElem_cons_zero, List.getElem_cons_succ, List.setIfInBounds_toArray, List.set_cons_zero, List.set_cons_succ]
      refine ord_take (i := 3) (v := ?_) (by kernel_rfl) rfl (by decide) (by kernel_rfl) (by kernel_rfl) (fun _ _ _ h => h) (Or.inl ⟨by rfl, ?_⟩) hx0 ?_
      rotate_left
      · intro wz hz; go_simp; (try with_reducible rfl)
      try simp only [Act.put, List.getElem_toArray, List.getElem_cons_zero, List.getElem_cons_succ, List.setIfInBounds_toArray, List.set_cons_zero, List.set_cons_succ]
      refine ord_take (i := 4) (v := ?_) (by kernel_rfl) rfl (by decide) (by kernel_rfl) (by kernel_rfl) (fun _ _ _ h => h) (Or.inl ⟨by rfl, ?_⟩) hx0 ?_
      rotate_left
      · intro wz hz; go_simp; (try with_reducible rfl)
      try simp only [Act.put, List.getElem_toArray, List.getElem_cons_zero, List.getElem_cons_succ, List.setIfInBounds_toArray, List.set_cons_zero, List.set_cons_succ]
      refine ord_take (i := 5) (v := undef) (by kernel_rfl) rfl (by decide) (by kernel_rfl) (by kernel_rfl) (fun _ _ _ h => h) (Or.inr ⟨by rfl, rfl⟩) hx0 ?_
      try simp only [Act.put, List.getElem_toArray, List.getElem_cons_zero, List.getElem_cons_succ, List.setIfInBounds_toArray, List.set_cons_zero, List.set_cons_succ]
      refine ord_take (i := 6) (v := undef) (by kernel_rfl) rfl (by decide) (by kernel_rfl) (by kernel_rfl) (fun _ _ _ h => h) (Or.inr ⟨by rfl, rfl⟩) hx0 ?_
      try simp only [Act.put, List.getElem_toArray, List.getElem_cons_zero, List.getElem_cons_succ, List.setIfInBounds_toArray, List.set_cons_zero, List.set_cons_succ]
      refine ord_take (i := 7) (v := undef) (by kernel_rfl) rfl (by decide) (by kernel_rfl) (by kernel_rfl) (fun _ _ _ h => h) (Or.inr ⟨by rfl, rfl⟩) hx0 ?_
      try simp only [Act.put, List.getElem_toArray, List.getElem_cons_zero, List.getElem_cons_succ, List.setIfInBounds_toArray, List.set_cons_zero, List.set_cons_succ]
      refine ord_take (i := 8) (v := undef) (by kernel_rfl) rfl (by decide) (by kernel_rfl) (by kernel_rfl) (fun _ _ _ h => h) (Or.inr ⟨by rfl, rfl⟩) hx0 ?_
      try simp only [Act.put, List.getElem_toArray, List.getElem_cons_zero, List.getElem_cons_succ, List.setIfInBounds_toArray, List.set_cons_zero, List.set_cons_succ]
      refine ord_take (i := 9) (v := undef) (by kernel_rfl) rfl (by decide) (by kernel_rfl) (by kernel_rfl) (fun _ _ _ h => h) (Or.inr ⟨by rfl, rfl⟩) hx0 ?_
      try simp only [Act.put, List.getElem_toArray, List.getElem_cons_zero, List.getElem_cons_succ, List.setIfInBounds_toArray, List.set_cons_zero, List.set_cons_succ]
      refine ord_take (i := 10) (v := ?_) (by kernel_rfl) rfl (by decide) (by kernel_rfl) (by kernel_rfl) (fun _ _ _ h => h) (Or.inl ⟨by rfl, ?_⟩) hx0 ?_
      rotate_left
      · intro wz hz; go_simp; (try with_reducible rfl)
      try simp only [Act.put, List.getElem_toArray, List.getElem_cons_zero, List.getElem_cons_succ, List.setIfInBounds_toArray, List.set_cons_zero, List.set_cons_succ]
      refine ord_take (i := 11) (v := ?_) (by kernel_rfl) rfl (by decide) (by kernel_rfl) (by kernel_rfl) (fun _ _ _ h => h) (Or.inl ⟨by rfl, ?_⟩) hx0 ?_
      rotate_left
      · intro wz hz; go_simp; (try with_reducible rfl)
      try simp only [Act.put, List.getElem_toArray, List.getElem_cons_zero, List.getElem_cons_succ, List.setIfInBounds_toArray, List.set_cons_zero, List.set_cons_succ]
      refine ord_take (i := 12) (v := ?_) (by kernel_rfl) rfl (by decide) (by kernel_rfl) (by kernel_rfl) (fun _ _ _ h => h) (Or.inl ⟨by rfl, ?_⟩) hx0 ?_
      rotate_left
      · intro wz hz; go_simp; (try with_reducible rfl)
      try simp only [Act.put, List.getElem_toArray, List.getElem_cons_zero, List.getElem_cons_succ, List.setIfInBounds_toArray, List.set_cons_zero, List.set_cons_succ]
      refine ord_take (i := 13) (v := ?_) (by kernel_rfl) rfl (by decide) (by kernel_rfl) (by kernel_rfl) (fun _ _ _ h => h) (Or.inl ⟨by rfl, ?_⟩) hx0 ?_
      rotate_left
      · intro wz hz; have j := k_d.below hz k_d.lt; have q0 := j.cell 0; have q1 := j.cell 1; go_simp; (try with_reducible rfl)
      try simp only [Act.put, List.getElem_toArray, List.getElem_cons_zero, List.getElem_cons_succ, List.setIfInBounds_toArray, List.set_cons_zero, List.set_cons_succ]
      refine ord_step (i := 14) rfl (by decide) (by kernel_rfl) (by rfl) (fun K hK => ?_)
      go_simp
      refine (fright_v (I_d.on hx0) (by decide)).mono ?_
      rintro y X11_10_1 ⟨rfl, hb⟩
      have hx1 := bltB hx0 hx0.size hb
      clear hb hx0
      refine hK _ _ hx1 ?_
      clear hK K
      try simp only [Act.put, List.getElem_toArray, List.getElem_cons_zero, List.getElem_cons_succ, List.setIfInBounds_toArray, List.set_cons_zero, List.set_cons_succ]
      refine ord_take (i := 15) (v := ?_) (by kernel_rfl) rfl (by decide) (by kernel_rfl) (by kernel_rfl) (fun _ _ _ h => h) (Or.inl ⟨by rfl, ?_⟩) hx1 ?_
      rotate_left
      · intro wz hz; go_simp; (try with_reducible rfl)
      try simp only [Act.put, List.getElem_toArray, List.getElem_cons_zero, List.getElem_cons_succ, List.setIfInBounds_toArray, List.set_cons_zero, List.set_cons_succ]
      refine ord_rest (by kernel_rfl) ?_
      refine any_step (i := 16) rfl (by kernel_rfl) (by rfl) (fun K hK => ?_)
      go_simp
      refine hK _ _ ?_
      clear hK K
      try simp only [Act.put, List.getElem_toArray, List.getElem_cons_zero, List.getElem_cons_succ, List.setIfInBounds_toArray, List.set_cons_zero, List.set_cons_succ]
      refine wpAny_done (by kernel_rfl) ?_ _
      refine NoPanic.normal ?_
      replace k_a := k_a.below hx1 k_a.lt
      replace k_b := k_b.below hx1 k_b.lt
      replace k_c := k_c.below hx1 k_c.lt
      replace I_a := I_a.on hx1
      replace I_b := I_b.on hx1
      replace I_c := I_c.on hx1
      replace I_d := I_d.on hx1
      replace k_d := k_d.below hx1 k_d.lt
      have hB12 := bltB hB11 hB11.size hx1
      clear hx1 hB11
      go_wp2_with fail
      go_ret
      exact ⟨rfl, hB12⟩
  · refine (fcmp_v I_a I_b (by decide) (by decide)).mono ?_
    rintro y w7 ⟨rfl, hb⟩
    replace k_a := k_a.below hb k_a.lt
    replace k_b := k_b.below hb k_b.lt
    replace k_c := k_c.below hb k_c.lt
    replace I_a := I_a.on hb
    replace I_b := I_b.on hb
    replace I_c := I_c.on hb
    have hB7 := bltB hB6 hB6.size hb
    clear hb hB6
    rw [cmpQ_eq hq]
    have q_k_a_0 := k_a.cell 0
    have q_k_a_1 := k_a.cell 1
    have q_k_a_l := k_a.lt
    have q_k_b_0 := k_b.cell 0
    have q_k_b_1 := k_b.cell 1
    have q_k_b_l := k_b.lt
    go_wp2_with fail
    clear q_k_a_0 q_k_a_1 q_k_a_l q_k_b_0 q_k_b_1 q_k_b_l
    refine (fsub_v I_a I_b (by decide) (by decide)).mono ?_
    rintro y w8 ⟨v_d, rfl, I_d, hb⟩
    rw [decide_eq_true (show q_b ≤ q_a by rw [hq]; exact Rat.le_refl)]
    replace k_a := k_a.below hb k_a.lt
    replace k_b := k_b.below hb k_b.lt
    replace k_c := k_c.below hb k_c.lt
    replace I_a := I_a.on hb
    replace I_b := I_b.on hb
    replace I_c := I_c.on hb
    have hB8 := bltB hB7 hB7.size hb
    clear hb hB7
    replace I_d := I_d.as (if_pos (show q_b ≤ q_a by rw [hq]; exact Rat.le_refl))
    obtain ⟨A_d, n_d, c_d, B_d, m_d, d_d, rfl, hI⟩ := I_d
    have I_d : IsQ w8 (.agg #[.slice A_d n_d c_d, .slice B_d m_d d_d]) _ _ := ⟨_, _, _, _, _, _, rfl, hI⟩
    clear hI
    have HQ := Lib.hid hq
    clear hq
    go_wp2_with fail
    obtain ⟨w9, hw9⟩ : ∃ W, W = w8.alloc (.cells #[.slice A_d n_d c_d, .slice B_d m_d d_d] 24) := ⟨_, rfl⟩
    obtain ⟨G_d, hG_d⟩ : ∃ G, w8.heap.size = G := ⟨_, rfl⟩
    have ha : Below w8.heap.size w8 w9 := by rw [hw9]; exact (Below.refl _ _).alloc (Nat.le_refl _) _
    have k_d : Blk w9 G_d 24 #[.slice A_d n_d c_d, .slice B_d m_d d_d] := by rw [hw9, ← hG_d]; exact Blk.new w8 _ _
    rw [← hw9]
    simp only [hG_d]
    clear hw9 hG_d
    replace k_a := k_a.below ha k_a.lt
    replace k_b := k_b.below ha k_b.lt
    replace k_c := k_c.below ha k_c.lt
    replace I_a := I_a.on ha
    replace I_b := I_b.on ha
    replace I_c := I_c.on ha
    replace I_d := I_d.on ha
    have hB9 := bltB hB8 hB8.size ha
    clear ha hB8
    refine wp_region_noPanic ?_
    refine ord_begin 30 (fun wx => Below w9.heap.size w9 wx) (by kernel_rfl) ?_
    have hx0 : Below w9.heap.size w9 w9.drew := (Below.refl _ _).drew
    refine ord_take (i := 0) (v := ?_) (by kernel_rfl) rfl (by decide) (by kernel_rfl) (by kernel_rfl) (fun _ _ _ h => h) (Or.inl ⟨by rfl, ?_⟩) hx0 ?_
    rotate_left
    · intro wz hz; go_simp; (try with_reducible rfl)
    try simp only [Act.put, List.getElem_toArray, List.getElem_cons_zero, List.getElem_cons_succ, List.setIfInBounds_toArray, List.set_cons_zero, List.set_cons_succ]
    refine ord_take (i := 1) (v := ?_) (by kernel_rfl) rfl (by decide) (by kernel_rfl) (by kernel_rfl) (fun _ _ _ h => h) (Or.inl ⟨by rfl, ?_⟩) hx0 ?_
    rotate_left
    · intro wz hz; have j := k_b.below hz k_b.lt; have q0 := j.cell 0; have q1 := j.cell 1; go_simp; (try with_reducible rfl)
    try simp only [Act.put, List.getElem_toArray, List.getElem_cons_zero, List.getElem_cons_succ, List.setIfInBounds_toArray, List.set_cons_zero, List.set_cons_succ]
    refine ord_take (i := 2) (v := ?_) (by kernel_rfl) rfl (by decide) (by kernel_rfl) (by kernel_rfl) (fun _ _ _ h => h) (Or.inl ⟨by rfl, ?_⟩) hx0 ?_
    rotate_left
    · intro wz hz; have j := k_a.below hz k_a.lt; have q0 := j.cell 0; have q1 := j.cell 1; go_simp; (try with_reducible rfl)
    try simp only [Act.put, List.getElem_toArray, List.getElem_cons_zero, List.getElem_cons_succ, List.setIfInBounds_toArray, List.set_cons_zero, List.set_cons_succ]
    refine ord_step (i := 3) rfl (by decide) (by kernel_rfl) (by rfl) (fun K hK => ?_)
    go_simp
    refine (fcmp_v (I_b.on hx0) (I_a.on hx0) (by decide) (by decide)).mono ?_
    rintro y X9_6_1 ⟨rfl, hb⟩
    rw [cmpQ_eq HQ.out.symm]
    have hx1 := bltB hx0 hx0.size hb
    clear hb hx0
    refine hK _ _ hx1 ?_
    clear hK K
    try simp only [Act.put, List.getElem_toArray, List.getElem_cons_zero, List.getElem_cons_succ, List.setIfInBounds_toArray, List.set_cons_zero, List.set_cons_succ]
    refine ord_take (i := 4) (v := ?_) (by kernel_rfl) rfl (by decide) (by kernel_rfl) (by kernel_rfl) (fun _ _ _ h => h) (Or.inl ⟨by rfl, ?_⟩) hx1 ?_
    rotate_left
    · intro wz hz; go_simp; (try with_reducible rfl)
    try simp only [Act.put, List.getElem_toArray, List.getElem_cons_zero, List.getElem_cons_succ, List.setIfInBounds_toArray, List.set_cons_zero, List.set_cons_succ]
    refine ord_take (i := 5) (v := ?_) (by kernel_rfl) rfl (by decide) (by kernel_rfl) (by kernel_rfl) (fun _ _ _ h => h) (Or.inl ⟨by rfl, ?_⟩) hx1 ?_
    rotate_left
    · intro wz hz; go_simp; (try with_reducible rfl)
    try simp only [Act.put, List.getElem_toArray, List.getElem_cons_zero, List.getElem_cons_succ, List.setIfInBounds_toArray, List.set_cons_zero, List.set_cons_succ]
    refine ord_take (i := 6) (v := ?_) (by kernel_rfl) rfl (by decide) (by kernel_rfl) (by kernel_rfl) (fun _ _ _ h => h) (Or.inl ⟨by rfl, ?_⟩) hx1 ?_
    rotate_left
    · intro wz hz; go_simp; (try with_reducible rfl)
    try simp only [Act.put, List.getElem_toArray, List.getElem_cons_zero, List.getElem_cons_succ, List.setIfInBounds_toArray, List.set_cons_zero, List.set_cons_succ]
    refine ord_take (i := 7) (v := ?_) (by kernel_rfl) rfl (by decide) (by kernel_rfl) (by kernel_rfl) (fun _ _ _ h => h) (Or.inl ⟨by rfl, ?_⟩) hx1 ?_
    rotate_left
    · intro wz hz; go_simp; (try with_reducible rfl)
    try simp only [Act.put, List.getElem_toArray, List.getElem_cons_zero, List.getElem_cons_succ, List.setIfInBounds_toArray, List.set_cons_zero, List.set_cons_succ]
    refine ord_take (i := 8) (v := ?_) (by kernel_rfl) rfl (by decide) (by kernel_rfl) (by kernel_rfl) (fun _ _ _ h => h) (Or.inl ⟨by rfl, ?_⟩) hx1 ?_
    rotate_left
    · intro wz hz; go_simp; (try with_reducible rfl)
    try simp only [Act.put, List.getElem_toArray, List.getElem_cons_zero, List.getElem_cons_succ, List.setIfInBounds_toArray, List.set_cons_zero, List.set_cons_succ]
    refine ord_take (i := 9) (v := ?_) (by kernel_rfl) rfl (by decide) (by kernel_rfl) (by kernel_rfl) (fun _ _ _ h => h) (Or.inl ⟨by rfl, ?_⟩) hx1 ?_
    rotate_left
    · intro wz hz; have j := k_a.below hz k_a.lt; have q0 := j.cell 0; have q1 := j.cell 1; go_simp; (try with_reducible rfl)
    try simp only [Act.put, List.getElem_toArray, List.getElem_cons_zero, List.getElem_cons_succ, List.setIfInBounds_toArray, List.set_cons_zero, List.set_cons_succ]
    refine ord_take (i := 10) (v := ?_) (by kernel_rfl) rfl (by decide) (by kernel_rfl) (by kernel_rfl) (fun _ _ _ h => h) (Or.inl ⟨by rfl, ?_⟩) hx1 ?_
    rotate_left
    · intro wz hz; have j := k_b.below hz k_b.lt; have q0 := j.cell 0; have q1 := j.cell 1; go_simp; (try with_reducible rfl)
    try simp only [Act.put, List.getElem_toArray, List.getElem_cons_zero, List.getElem_cons_succ, List.setIfInBounds_toArray, List.set_cons_zero, List.set_cons_succ]
    refine ord_step (i := 11) rfl (by decide) (by kernel_rfl) (by rfl) (fun K hK => ?_)
    go_simp
    refine (fsame_v (I_a.on hx1) (I_b.on hx1) (by decide)).mono ?_
    rintro y X9_6_2 ⟨rfl, hb⟩
    rw [decide_eq_true HQ.out]
    have hx2 := bltB hx1 hx1.size hb
    clear hb hx1
    refine hK _ _ hx2 ?_
    clear hK K
    try simp only [Act.put, List.getElem_toArray, List.getElem_cons_zero, List.getElem_cons_succ, List.setIfInBounds_toArray, List.set_cons_zero, List.set_cons_succ]
    refine ord_take (i := 12) (v := ?_) (by kernel_rfl) rfl (by decide) (by kernel_rfl) (by kernel_rfl) (fun _ _ _ h => h) (Or.inl ⟨by rfl, ?_⟩) hx2 ?_
    rotate_left
    · intro wz hz; go_simp; (try with_reducible rfl)
    try simp only [Act.put, List.getElem_toArray, List.getElem_cons_zero, List.getElem_cons_succ, List.setIfInBounds_toArray, List.set_cons_zero, List.set_cons_succ]
    refine ord_take (i := 13) (v := ?_) (by kernel_rfl) rfl (by decide) (by kernel_rfl) (by kernel_rfl) (fun _ _ _ h => h) (Or.inl ⟨by rfl, ?_⟩) hx2 ?_
    rotate_left
    · intro wz hz; go_simp; (try with_reducible rfl)
    try simp only [Act.put, List.getElem_toArray, List.getElem_cons_zero, List.getElem_cons_succ, List.setIfInBounds_toArray, List.set_cons_zero, List.set_cons_succ]
    refine ord_take (i := 14) (v := ?_) (by kernel_rfl) rfl (by decide) (by kernel_rfl) (by kernel_rfl) (fun _ _ _ h => h) (Or.inl ⟨by rfl, ?_⟩) hx2 ?_
    rotate_left
    · intro wz hz; go_simp; (try with_reducible rfl)
    try simp only [Act.put, List.getElem_toArray, List.getElem_cons_zero, List.getElem_cons_succ, List.setIfInBounds_toArray, List.set_cons_zero, List.set_cons_succ]
    refine ord_take (i := 15) (v := ?_) (by kernel_rfl) rfl (by decide) (by kernel_rfl) (by kernel_rfl) (fun _ _ _ h => h) (Or.inl ⟨by rfl, ?_⟩) hx2 ?_
    rotate_left
    · intro wz hz; go_simp; (try with_reducible rfl)
    try simp only [Act.put, List.getElem_toArray, List.getElem_cons_zero, List.getElem_cons_succ, List.setIfInBounds_toArray, List.set_cons_zero, List.set_cons_succ]
    refine ord_take (i := 16) (v := ?_) (by kernel_rfl) rfl (by decide) (by kernel_rfl) (by kernel_rfl) (fun _ _ _ h => h) (Or.inl ⟨by rfl, ?_⟩) hx2 ?_
    rotate_left
    · intro wz hz; go_simp; (try with_reducible rfl)
    try simp only [Act.put, List.getElem_toArray, List.getElem_cons_zero, List.getElem_cons_succ, List.setIfInBounds_toArray, List.set_cons_zero, List.set_cons_succ]
    refine ord_take (i := 17) (v := ?_) (by kernel_rfl) rfl (by decide) (by kernel_rfl) (by kernel_rfl) (fun _ _ _ h => h) (Or.inl ⟨by rfl, ?_⟩) hx2 ?_
    rotate_left
    · intro wz hz; go_simp; (try with_reducible rfl)
    try simp only [Act.put, List.getElem_toArray, List.getElem_cons_zero, List.getElem_cons_succ, List.setIfInBounds_toArray, List.set_cons_zero, List.set_cons_succ]
    refine ord_take (i := 18) (v := ?_) (by kernel_rfl) rfl (by decide) (by kernel_rfl) (by kernel_rfl) (fun _ _ _ h => h) (Or.inl ⟨by rfl, ?_⟩) hx2 ?_
    rotate_left
    · intro wz hz; go_simp; (try with_reducible rfl)
    try simp only [Act.put, List.getElem_toArray, List.getElem_cons_zero, List.getElem_cons_succ, List.setIfInBounds_toArray, List.set_cons_zero, List.set_cons_succ]
    refine ord_take (i := 19) (v := ?_) (by kernel_rfl) rfl (by decide) (by kernel_rfl) (by kernel_rfl) (fun _ _ _ h => h) (Or.inl ⟨by rfl, ?_⟩) hx2 ?_
    rotate_left
    · intro wz hz; go_simp; (try with_reducible rfl)
    try simp only [Act.put, List.getElem_toArray, List.getElem_cons_zero, List.getElem_cons_succ, List.setIfInBounds_toArray, List.set_cons_zero, List.set_cons_succ]
    refine ord_take (i := 20) (v := ?_) (by kernel_rfl) rfl (by decide) (by kernel_rfl) (by kernel_rfl) (fun _ _ _ h => h) (Or.inl ⟨by rfl, ?_⟩) hx2 ?_
    rotate_left
    · intro wz hz; go_simp; (try with_reducible rfl)
    try simp only [Act.put, List.getElem_toArray, List.getElem_cons_zero, List.getElem_cons_succ, List.setIfInBounds_toArray, List.set_cons_zero, List.set_cons_succ]
    refine ord_take (i := 21) (v := ?_) (by kernel_rfl) rfl (by decide) (by kernel_rfl) (by kernel_rfl) (fun _ _ _ h => h) (Or.inl ⟨by rfl, ?_⟩) hx2 ?_
    rotate_left
    · intro wz hz; have j := k_a.below hz k_a.lt; have q0 := j.cell 0; have q1 := j.cell 1; go_simp; (try with_reducible rfl)
    try simp only [Act.put, List.getElem_toArray, List.getElem_cons_zero, List.getElem_cons_succ, List.setIfInBounds_toArray, List.set_cons_zero, List.set_cons_succ]
    refine ord_take (i := 22) (v := ?_) (by kernel_rfl) rfl (by decide) (by kernel_rfl) (by kernel_rfl) (fun _ _ _ h => h) (Or.inl ⟨by rfl, ?_⟩) hx2 ?_
    rotate_left
    · intro wz hz; have j := k_c.below hz k_c.lt; have q0 := j.cell 0; have q1 := j.cell 1; go_simp; (try with_reducible rfl)
    try simp only [Act.put, List.getElem_toArray, List.getElem_cons_zero, List.getElem_cons_succ, List.setIfInBounds_toArray, List.set_cons_zero, List.set_cons_succ]
    refine ord_take (i := 24) (v := ?_) (by kernel_rfl) rfl (by decide) (by kernel_rfl) (by kernel_rfl) (fun _ _ _ h => h) (Or.inl ⟨by rfl, ?_⟩) hx2 ?_
    rotate_left
    · intro wz hz; have j := k_b.below hz k_b.lt; have q0 := j.cell 0; have q1 := j.cell 1; go_simp; (try with_reducible rfl)
    try simp only [Act.put, List.getElem_toArray, List.getElem_cons_zero, List.getElem_cons_succ, List.setIfInBounds_toArray, List.set_cons_zero, List.set_cons_succ]
    refine ord_take (i := 25) (v := ?_) (by kernel_rfl) rfl (by decide) (by kernel_rfl) (by kernel_rfl) (fun _ _ _ h => h) (Or.inl ⟨by rfl, ?_⟩) hx2 ?_
    rotate_left
    · intro wz hz; have j := k_c.below hz k_c.lt; have q0 := j.cell 0; have q1 := j.cell 1; go_simp; (try with_reducible rfl)
    try simp only [Act.put, List.getElem_toArray, List.getElem_cons_zero, List.getElem_cons_succ, List.setIfInBounds_toArray, List.set_cons_zero, List.set_cons_succ]
    refine ord_take (i := 28) (v := ?_) (by kernel_rfl) rfl (by decide) (by kernel_rfl) (by kernel_rfl) (fun _ _ _ h => h) (Or.inl ⟨by rfl, ?_⟩) hx2 ?_
    rotate_left
    · intro wz hz; go_simp; (try with_reducible rfl)
    try simp only [Act.put, List.getElem_toArray, List.getElem_cons_zero, List.getElem_cons_succ, List.setIfInBounds_toArray, List.set_cons_zero, List.set_cons_succ]
    refine ord_step (i := 23) rfl (by decide) (by kernel_rfl) (by rfl) (fun K hK => ?_)
    go_simp
    refine (fadd_v (I_a.on hx2) (I_c.on hx2) (by decide) (by decide)).mono ?_
    rintro y X9_6_3 ⟨v_x, rfl, I_x, hb⟩
    have hx3 := bltB hx2 hx2.size hb
    clear hb hx2
    refine hK _ _ hx3 ?_
    clear hK K
    try simp only [Act.put, List.getElem_toArray, List.getElem_cons_zero, List.getElem_cons_succ, List.setIfInBounds_toArray, List.set_cons_zero, List.set_cons_succ]
    refine ord_step (i := 26) rfl (by decide) (by kernel_rfl) (by rfl) (fun K hK => ?_)
    go_simp
    refine (fadd_v (I_b.on hx3) (I_c.on hx3) (by decide) (by decide)).mono ?_
    rintro y X9_6_4 ⟨v_y, rfl, I_y, hb⟩
    replace I_x := I_x.on hb
    have hx4 := bltB hx3 hx3.size hb
    clear hb hx3
    refine hK _ _ hx4 ?_
    clear hK K
    try simp only [Act.put, List.getElem_toArray, List.getElem_cons_zero, List.getElem_cons_succ, List.setIfInBounds_toArray, List.set_cons_zero, List.set_cons_succ]
    refine ord_step (i := 27) rfl (by decide) (by kernel_rfl) (by rfl) (fun K hK => ?_)
    go_simp
    refine (fcmp_v I_x I_y (by decide) (by decide)).mono ?_
    rintro y X9_6_5 ⟨rfl, hb⟩
    rw [cmpQ_eq (show q_a + q_c = q_b + q_c by rw [HQ.out])]
    clear I_x
    clear I_y
    have hx5 := bltB hx4 hx4.size hb
    clear hb hx4
    refine hK _ _ hx5 ?_
    clear hK K
    try simp only [Act.put, List.getElem_toArray, List.getElem_cons_zero, List.getElem_cons_succ, List.setIfInBounds_toArray, List.set_cons_zero, List.set_cons_succ]
    refine ord_take (i := 29) (v := ?_) (by kernel_rfl) rfl (by decide) (by kernel_rfl) (by kernel_rfl) (fun _ _ _ h => h) (Or.inl ⟨by rfl, ?_⟩) hx5 ?_
    rotate_left
    · intro wz hz; go_simp; (try with_reducible rfl)
    try simp only [Act.put, List.getElem_toArray, List.getElem_cons_zero, List.getElem_cons_succ, List.setIfInBounds_toArray, List.set_cons_zero, List.set_cons_succ]
    refine ord_rest (by kernel_rfl) ?_
    refine wpAny_take (i := 30) (v := ?_) rfl (by kernel_rfl) (by kernel_rfl) (by kernel_rfl) (fun _ _ _ h => h) (Or.inl ⟨by rfl, ?_⟩) ?_
    rotate_left
    · intro wz; go_simp; (try with_reducible rfl)
    try simp only [Act.put, List.getElem_toArray, List.getElem_cons_zero, List.getElem_cons_succ, List.setIfInBounds_toArray, List.set_cons_zero, List.set_cons_succ]
    refine wpAny_done (by kernel_rfl) ?_ _
    refine NoPanic.normal ?_
    replace k_a := k_a.below hx5 k_a.lt
    replace k_b := k_b.below hx5 k_b.lt
    replace k_c := k_c.below hx5 k_c.lt
    replace I_a := I_a.on hx5
    replace I_b := I_b.on hx5
    replace I_c := I_c.on hx5
    replace I_d := I_d.on hx5
    replace k_d := k_d.below hx5 k_d.lt
    have hB10 := bltB hB9 hB9.size hx5
    clear hx5 hB9
    go_wp2_with fail
    by_cases hc : q_c = 0
    · have h1 : ¬ 0 < (digs (rn q_c)).length := fun h => (len_pos_q I_c.ge0).1 h hc
      have gz : n_c = 0 := by omega
      subst gz
      clear h1
      refine wp_region_noPanic ?_
      refine ord_begin 14 (fun wx => Below X9_6_5.heap.size X9_6_5 wx) (by kernel_rfl) ?_
      have hx0 : Below X9_6_5.heap.size X9_6_5 X9_6_5.drew := (Below.refl _ _).drew
      refine ord_take (i := 0) (v := ?_) (by kernel_rfl) rfl (by decide) (by kernel_rfl) (by kernel_rfl) (fun _ _ _ h => h) (Or.inl ⟨by rfl, ?_⟩) hx0 ?_
      rotate_left
      · intro wz hz; go_simp; (try with_reducible rfl)
      try simp only [Act.put, List.getElem_toArray, List.getElem_cons_zero, List.getElem_cons_succ, List.setIfInBounds_toArray, List.set_cons_zero, List.set_cons_succ]
      refine ord_take (i := 1) (v := ?_) (by kernel_rfl) rfl (by decide) (by kernel_rfl) (by kernel_rfl) (fun _ _ _ h => h) (Or.inl ⟨by rfl, ?_⟩) hx0 ?_
      rotate_left
      · intro wz hz; have j := k_c.below hz k_c.lt; have q0 := j.cell 0; have q1 := j.cell 1; go_simp; (try with_reducible rfl)
      try simp only [Act.put, List.getElem_toArray, List.getElem_cons_zero, List.getElem_cons_succ, List.setIfInBounds_toArray, List.set_cons_zero, List.set_cons_succ]
      refine ord_take (i := 2) (v := ?_) (by kernel_rfl) rfl (by decide) (by kernel_rfl) (by kernel_rfl) (fun _ _ _ h => h) (Or.inl ⟨by rfl, ?_⟩) hx0 ?_
      rotate_left
      · intro wz hz; go_simp; (try with_reducible rfl)
      try simp only [Act.put, List.getElem_toArray, List.getElem_cons_zero, List.getElem_cons_succ, List.setIfInBounds_toArray, List.set_cons_zero, List.set_cons_succ]
      refine ord_take (i := 3) (v := ?_) (by kernel_rfl) rfl (by decide) (by kernel_rfl) (by kernel_rfl) (fun _ _ _ h => h) (Or.inl ⟨by rfl, ?_⟩) hx0 ?_
      rotate_left
      · intro wz hz; go_simp; (try with_reducible rfl)
      try simp only [Act.put, List.getElem_toArray, List.getElem_cons_zero, List.getElem_cons_succ, List.setIfInBounds_toArray, List.set_cons_zero, List.set_cons_succ]
      refine ord_take (i := 4) (v := ?_) (by kernel_rfl) rfl (by decide) (by kernel_rfl) (by kernel_rfl) (fun _ _ _ h => h) (Or.inl ⟨by rfl, ?_⟩) hx0 ?_
      rotate_left
      · intro wz hz; go_simp; (try with_reducible rfl)
      try simp only [Act.put, List.getElem_toArray, List.getElem_cons_zero, List.getElem_cons_succ, List.setIfInBounds_toArray, List.set_cons_zero, List.set_cons_succ]
      refine ord_take (i := 5) (v := undef) (by kernel_rfl) rfl (by decide) (by kernel_rfl) (by kernel_rfl) (fun _ _ _ h => h) (Or.inr ⟨by rfl, rfl⟩) hx0 ?_
      try simp only [Act.put, List.getElem_toArray, List.getElem_cons_zero, List.getElem_cons_succ, List.setIfInBounds_toArray, List.set_cons_zero, List.set_cons_succ]
      refine ord_take (i := 6) (v := undef) (by kernel_rfl) rfl (by decide) (by kernel_rfl) (by kernel_rfl) (fun _ _ _ h => h) (Or.inr ⟨by rfl, rfl⟩) hx0 ?_
      try simp only [Act.put, List.getElem_toArray, List.getElem_cons_zero, List.getElem_cons_succ, List.setIfInBounds_toArray, List.set_cons_zero, List.set_cons_succ]
      refine ord_take (i := 7) (v := undef) (by kernel_rfl) rfl (by decide) (by kernel_rfl) (by kernel_rfl) (fun _ _ _ h => h) (Or.inr ⟨by rfl, rfl⟩) hx0 ?_
      try simp only [Act.put, List.getElem_toArray, List.getElem_cons_zero, List.getElem_cons_succ, List.setIfInBounds_toArray, List.set_cons_zero, List.set_cons_succ]
      refine ord_take (i := 8) (v := undef) (by kernel_rfl) rfl (by decide) (by kernel_rfl) (by kernel_rfl) (fun _ _ _ h => h) (Or.inr ⟨by rfl, rfl⟩) hx0 ?_
      try simp only [Act.put, List.getElem_toArray, List.getElem_cons_zero, List.getElem_cons_succ, List.setIfInBounds_toArray, List.set_cons_zero, List.set_cons_succ]
      refine ord_take (i := 9) (v := undef) (by kernel_rfl) rfl (by decide) (by kernel_rfl) (by kernel_rfl) (fun _ _ _ h => h) (Or.inr ⟨by rfl, rfl⟩) hx0 ?_
      try simp only [Act.put, List.getElem_toArray, List.getElem_cons_zero, List.getElem_cons_succ, List.setIfInBounds_toArray, List.set_cons_zero, List.set_cons_succ]
      refine ord_take (i := 10) (v := undef) (by kernel_rfl) rfl (by decide) (by kernel_rfl) (by kernel_rfl) (fun _ _ _ h => h) (Or.inr ⟨by rfl, rfl⟩) hx0 ?_
      try simp only [Act.put, List.getElem_toArray, List.getElem_cons_zero, List.getElem_cons_succ, List.setIfInBounds_toArray, List.set_cons_zero, List.set_cons_succ]
      refine ord_take (i := 11) (v := undef) (by kernel_rfl) rfl (by decide) (by kernel_rfl) (by kernel_rfl) (fun _ _ _ h => h) (Or.inr ⟨by rfl, rfl⟩) hx0 ?_
      try simp only [Act.put, List.getElem_toArray, List.getElem_cons_zero, List.getElem_cons_succ, List.setIfInBounds_toArray, List.set_cons_zero, List.set_cons_succ]
      refine ord_take (i := 12) (v := undef) (by kernel_rfl) rfl (by decide) (by kernel_rfl) (by kernel_rfl) (fun _ _ _ h => h) (Or.inr ⟨by rfl, rfl⟩) hx0 ?_
      try simp only [Act.put, List.getElem_toArray, List.getElem_cons_zero, List.getElem_cons_succ, List.setIfInBounds_toArray, List.set_cons_zero, List.set_cons_succ]
      refine ord_take (i := 13) (v := undef) (by kernel_rfl) rfl (by decide) (by kernel_rfl) (by kernel_rfl) (fun _ _ _ h => h) (Or.inr ⟨by rfl, rfl⟩) hx0 ?_
      try simp only [Act.put, List.getElem_toArray, List.getElem_cons_zero, List.getElem_cons_succ, List.setIfInBounds_toArray, List.set_cons_zero, List.set_cons_succ]
      refine ord_rest (by kernel_rfl) ?_
      refine wpAny_take (i := 14) (v := ?_) rfl (by kernel_rfl) (by kernel_rfl) (by kernel_rfl) (fun _ _ _ h => h) (Or.inl ⟨by rfl, ?_⟩) ?_
      rotate_left
      · intro wz; go_simp; (try with_reducible rfl)
      try simp only [Act.put, List.getElem_toArray, List.getElem_cons_zero, List.getElem_cons_succ, List.setIfInBounds_toArray, List.set_cons_zero, List.set_cons_succ]
      refine wpAny_done (by kernel_rfl) ?_ _
      refine NoPanic.normal ?_
      replace k_a := k_a.below hx0 k_a.lt
      replace k_b := k_b.below hx0 k_b.lt
      replace k_c := k_c.below hx0 k_c.lt
      replace I_a := I_a.on hx0
      replace I_b := I_b.on hx0
      replace I_c := I_c.on hx0
      replace I_d := I_d.on hx0
      replace k_d := k_d.below hx0 k_d.lt
      have hB11 := bltB hB10 hB10.size hx0
      clear hx0 hB10
      go_wp2_with fail
      refine wp_region_noPanic ?_
      refine ord_begin 16 (fun wx => Below X9_6_5.drew.heap.size X9_6_5.drew wx) (by kernel_rfl) ?_
      have hx0 : Below X9_6_5.drew.heap.size X9_6_5.drew X9_6_5.drew.drew := (Below.refl _ _).drew
      refine ord_take (i := 0) (v := ?_) (by kernel_rfl) rfl (by decide) (by kernel_rfl) (by kernel_rfl) (fun _ _ _ h => h) (Or.inl ⟨by rfl, ?_⟩) hx0 ?_
      rotate_left
      · intro wz hz; go_simp; (try with_reducible rfl)
      try simp only [Act.put, List.getElem_toArray, List.getElem_cons_zero, List.getElem_cons_succ, List.setIfInBounds_toArray, List.set_cons_zero, List.set_cons_succ]
      refine ord_take (i := 1) (v := ?_) (by kernel_rfl) rfl (by decide) (by kernel_rfl) (by kernel_rfl) (fun _ _ _ h => h) (Or.inl ⟨by rfl, ?_⟩) hx0 ?_
      rotate_left
      · intro wz hz; go_simp; (try with_reducible rfl)
      try simp only [Act.put, List.getElem_toArray, List.getElem_cons_zero, List.getElem_cons_succ, List.setIfInBounds_toArray, List.set_cons_zero, List.set_cons_succ]
      refine ord_take (i := 2) (v := ?_) (by kernel_rfl) rfl (by decide) (by kernel_rfl) (by kernel_rfl) (fun _ _ _ h => h) (Or.inl ⟨by rfl, ?_⟩) hx0 ?_
      rotate_left
      · intro wz hz; go_simp; (try with_reducible rfl)
      try simp only [Act.put, List.getElem_toArray, List.getElem_cons_zero, List.getElem_cons_succ, List.setIfInBounds_toArray, List.set_cons_zero, List.set_cons_succ]
      refine ord_take (i := 3) (v := ?_) (by kernel_rfl) rfl (by decide) (by kernel_rfl) (by kernel_rfl) (fun _ _ _ h => h) (Or.inl ⟨by rfl, ?_⟩) hx0 ?_
      rotate_left
      · intro wz hz; go_simp; (try with_reducible rfl)
      try simp only [Act.put, List.getElem_toArray, List.getElem_cons_zero, List.getElem_cons_succ, List.setIfInBounds_toArray, List.set_cons_zero, List.set_cons_succ]
      refine ord_take (i := 4) (v := ?_) (by kernel_rfl) rfl (by decide) (by kernel_rfl) (by kernel_rfl) (fun _ _ _ h => h) (Or.inl ⟨by rfl, ?_⟩) hx0 ?_
      rotate_left
      · intro wz hz; go_simp; (try with_reducible rfl)
      try simp only [Act.put, List.getElem_toArray, List.getElem_cons_zero, List.getElem_cons_succ, List.setIfInBounds_toArray, List.set_cons_zero, List.set_cons_succ]
      refine ord_take (i := 5) (v := ?_) (by kernel_rfl) rfl (by decide) (by kernel_rfl) (by kernel_rfl) (fun _ _ _ h => h) (Or.inl ⟨by rfl, ?_⟩) hx0 ?_
      rotate_left
      · intro wz hz; have j := k_d.below hz k_d.lt; have q0 := j.cell 0; have q1 := j.cell 1; go_simp; (try with_reducible rfl)
      try simp only [Act.put, List.getElem_toArray, List.getElem_cons_zero, List.getElem_cons_succ, List.setIfInBounds_toArray, List.set_cons_zero, List.set_cons_succ]
      refine ord_take (i := 6) (v := ?_) (by kernel_rfl) rfl (by decide) (by kernel_rfl) (by kernel_rfl) (fun _ _ _ h => h) (Or.inl ⟨by rfl, ?_⟩) hx0 ?_
      rotate_left
      · intro wz hz; have j := k_b.below hz k_b.lt; have q0 := j.cell 0; have q1 := j.cell 1; go_simp; (try with_reducible rfl)
      try simp only [Act.put, List.getElem_toArray, List.getElem_cons_zero, List.getElem_cons_succ, List.setIfInBounds_toArray, List.set_cons_zero, List.set_cons_succ]
      refine ord_take (i := 8) (v := ?_) (by kernel_rfl) rfl (by decide) (by kernel_rfl) (by kernel_rfl) (fun _ _ _ h => h) (Or.inl ⟨by rfl, ?_⟩) hx0 ?_
      rotate_left
      · intro wz hz; have j := k_a.below hz k_a.lt; have q0 := j.cell 0; have q1 := j.cell 1; go_simp; (try with_reducible rfl)
      try simp only [Act.put, List.getElem_toArray, List.getElem_cons_zero, List.getElem_cons_succ, List.setIfInBounds_toArray, List.set_cons_zero, List.set_cons_succ]
      refine ord_step (i := 7) rfl (by decide) (by kernel_rfl) (by rfl) (fun K hK => ?_)
      go_simp
      refine (fadd_v (I_d.on hx0) (I_b.on hx0) (by decide) (by decide)).mono ?_
      rintro y X11_10_1 ⟨v_x, rfl, I_x, hb⟩
      have hx1 := bltB hx0 hx0.size hb
      clear hb hx0
      refine hK _ _ hx1 ?_
      clear hK K
      try simp only [Act.put, List.getElem_toArray, List.getElem_cons_zero, List.getElem_cons_succ, List.setIfInBounds_toArray, List.set_cons_zero, List.set_cons_succ]
      refine ord_step (i := 9) rfl (by decide) (by kernel_rfl) (by rfl) (fun K hK => ?_)
      go_simp
      refine (fsame_v I_x (I_a.on hx1) (by decide)).mono ?_
      rintro y X11_10_2 ⟨rfl, hb⟩
      rw [decide_eq_true (show q_a - q_b + q_b = q_a by grind)]
      clear I_x
      have hx2 := bltB hx1 hx1.size hb
      clear hb hx1
      refine hK _ _ hx2 ?_
      clear hK K
      try simp only [Act.put, List.getElem_toArray, List.getElem_cons_zero, List.getElem_cons_succ, List.setIfInBounds_toArray, List.set_cons_zero, List.set_cons_succ]
      refine ord_take (i := 10) (v := ?_) (by kernel_rfl) rfl (by decide) (by kernel_rfl) (by kernel_rfl) (fun _ _ _ h => h) (Or.inl ⟨by rfl, ?_⟩) hx2 ?_
      rotate_left
      · intro wz hz; go_simp; (try with_reducible rfl)
      try simp only [Act.put, List.getElem_toArray, List.getElem_cons_zero, List.getElem_cons_succ, List.setIfInBounds_toArray, List.set_cons_zero, List.set_cons_succ]
      refine ord_take (i := 11) (v := ?_) (by kernel_rfl) rfl (by decide) (by kernel_rfl) (by kernel_rfl) (fun _ _ _ h => h) (Or.inl ⟨by rfl, ?_⟩) hx2 ?_
      rotate_left
      · intro wz hz; go_simp; (try with_reducible rfl)
      try simp only [Act.put, List.getElem_toArray, List.getElem_cons_zero, List.getElem_cons_succ, List.setIfInBounds_toArray, List.set_cons_zero, List.set_cons_succ]
      refine ord_take (i := 12) (v := ?_) (by kernel_rfl) rfl (by decide) (by kernel_rfl) (by kernel_rfl) (fun _ _ _ h => h) (Or.inl ⟨by rfl, ?_⟩) hx2 ?_
      rotate_left
      · intro wz hz; go_simp; (try with_reducible rfl)
      try simp only [Act.put, List.getElem_toArray, List.getElem_cons_zero, List.getElem_cons_succ, List.setIfInBounds_toArray, List.set_cons_zero, List.set_cons_succ]
      refine ord_take (i := 13) (v := ?_) (by kernel_rfl) rfl (by decide) (by kernel_rfl) (by kernel_rfl) (fun _ _ _ h => h) (Or.inl ⟨by rfl, ?_⟩) hx2 ?_
      rotate_left
      · intro wz hz; have j := k_d.below hz k_d.lt; have q0 := j.cell 0; have q1 := j.cell 1; go_simp; (try with_reducible rfl)
      try simp only [Act.put, List.getElem_toArray, List.getElem_cons_zero, List.getElem_cons_succ, List.setIfInBounds_toArray, List.set_cons_zero, List.set_cons_succ]
      refine ord_step (i := 14) rfl (by decide) (by kernel_rfl) (by rfl) (fun K hK => ?_)
      go_simp
      refine (fright_v (I_d.on hx2) (by decide)).mono ?_
      rintro y X11_10_3 ⟨rfl, hb⟩
      have hx3 := bltB hx2 hx2.size hb
      clear hb hx2
      refine hK _ _ hx3 ?_
      clear hK K
      try simp only [Act.put, List.getElem_toArray, List.getElem_cons_zero, List.getElem_cons_succ, List.setIfInBounds_toArray, List.set_cons_zero, List.set_cons_succ]
      refine ord_take (i := 15) (v := ?_) (by kernel_rfl) rfl (by decide) (by kernel_rfl) (by kernel_rfl) (fun _ _ _ h => h) (Or.inl ⟨by rfl, ?_⟩) hx3 ?_
      rotate_left
      · intro wz hz; go_simp; (try with_reducible rfl)
      try simp only [Act.put, List.getElem_toArray, List.getElem_cons_zero, List.getElem_cons_succ, List.setIfInBounds_toArray, List.set_cons_zero, List.set_cons_succ]
      refine ord_rest (by kernel_rfl) ?_
      refine any_step (i := 16) rfl (by kernel_rfl) (by rfl) (fun K hK => ?_)
      go_simp
      refine hK _ _ ?_
      clear hK K
      try simp only [Act.put, List.getElem_toArray, List.getElem_cons_zero, List.getElem_cons_succ, List.setIfInBounds_toArray, List.set_cons_zero, List.set_cons_succ]
      refine wpAny_done (by kernel_rfl) ?_ _
      refine NoPanic.normal ?_
      replace k_a := k_a.below hx3 k_a.lt
      replace k_b := k_b.below hx3 k_b.lt
      replace k_c := k_c.below hx3 k_c.lt
      replace I_a := I_a.on hx3
      replace I_b := I_b.on hx3
      replace I_c := I_c.on hx3
      replace I_d := I_d.on hx3
      replace k_d := k_d.below hx3 k_d.lt
      have hB12 := bltB hB11 hB11.size hx3
      clear hx3 hB11
      go_wp2_with fail
      go_ret
      exact ⟨rfl, hB12⟩
    · have h1 : 0 < (digs (rn q_c)).length := (len_pos_q I_c.ge0).2 hc
      have gz : decide (0 < n_c) = true := decide_eq_true (by omega)
      have hcp : 0 < q_c := by have := I_c.ge0; grind
      clear h1
      refine wp_region_noPanic ?_
      refine ord_begin 14 (fun wx => Below X9_6_5.heap.size X9_6_5 wx) (by kernel_rfl) ?_
      have hx0 : Below X9_6_5.heap.size X9_6_5 X9_6_5.drew := (Below.refl _ _).drew
      refine ord_take (i := 0) (v := ?_) (by kernel_rfl) rfl (by decide) (by kernel_rfl) (by kernel_rfl) (fun _ _ _ h => h) (Or.inl ⟨by rfl, ?_⟩) hx0 ?_
      rotate_left
      · intro wz hz; go_simp; (try with_reducible rfl)
      try simp only [Act.put, List.getElem_toArray, List.getElem_cons_zero, List.getElem_cons_succ, List.setIfInBounds_toArray, List.set_cons_zero, List.set_cons_succ]
      refine ord_take (i := 1) (v := ?_) (by kernel_rfl) rfl (by decide) (by kernel_rfl) (by kernel_rfl) (fun _ _ _ h => h) (Or.inl ⟨by rfl, ?_⟩) hx0 ?_
      rotate_left
      · intro wz hz; have j := k_c.below hz k_c.lt; have q0 := j.cell 0; have q1 := j.cell 1; go_simp; (try with_reducible rfl)
      try simp only [Act.put, List.getElem_toArray, List.getElem_cons_zero, List.getElem_cons_succ, List.setIfInBounds_toArray, List.set_cons_zero, List.set_cons_succ]
      refine ord_take (i := 2) (v := ?_) (by kernel_rfl) rfl (by decide) (by kernel_rfl) (by kernel_rfl) (fun _ _ _ h => h) (Or.inl ⟨by rfl, ?_⟩) hx0 ?_
      rotate_left
      · intro wz hz; go_simp; (try with_reducible rfl)
      try simp only [Act.put, List.getElem_toArray, List.getElem_cons_zero, List.getElem_cons_succ, List.setIfInBounds_toArray, List.set_cons_zero, List.set_cons_succ]
      refine ord_take (i := 3) (v := ?_) (by kernel_rfl) rfl (by decide) (by kernel_rfl) (by kernel_rfl) (fun _ _ _ h => h) (Or.inl ⟨by rfl, ?_⟩) hx0 ?_
      rotate_left
      · intro wz hz; go_simp; (try with_reducible rfl)
      try simp only [Act.put, List.getElem_toArray, List.getElem_cons_zero, List.getElem_cons_succ, List.setIfInBounds_toArray, List.set_cons_zero, List.set_cons_succ]
      refine ord_take (i := 4) (v := ?_) (by kernel_rfl) rfl (by decide) (by kernel_rfl) (by kernel_rfl) (fun _ _ _ h => h) (Or.inl ⟨by rfl, ?_⟩) hx0 ?_
      rotate_left
      · intro wz hz; go_simp; (try with_reducible rfl)
      try simp only [Act.put, List.getElem_toArray, List.getElem_cons_zero, List.getElem_cons_succ, List.setIfInBounds_toArray, List.set_cons_zero, List.set_cons_succ]
      refine ord_take (i := 5) (v := ?_) (by kernel_rfl) rfl (by decide) (by kernel_rfl) (by kernel_rfl) (fun _ _ _ h => h) (Or.inl ⟨by rfl, ?_⟩) hx0 ?_
      rotate_left
      · intro wz hz; have j := k_a.below hz k_a.lt; have q0 := j.cell 0; have q1 := j.cell 1; go_simp; (try with_reducible rfl)
      try simp only [Act.put, List.getElem_toArray, List.getElem_cons_zero, List.getElem_cons_succ, List.setIfInBounds_toArray, List.set_cons_zero, List.set_cons_succ]
      refine ord_take (i := 6) (v := ?_) (by kernel_rfl) rfl (by decide) (by kernel_rfl) (by kernel_rfl) (fun _ _ _ h => h) (Or.inl ⟨by rfl, ?_⟩) hx0 ?_
      rotate_left
      · intro wz hz; have j := k_c.below hz k_c.lt; have q0 := j.cell 0; have q1 := j.cell 1; go_simp; (try with_reducible rfl)
      try simp only [Act.put, List.getElem_toArray, List.getElem_cons_zero, List.getElem_cons_succ, List.setIfInBounds_toArray, List.set_cons_zero, List.set_cons_succ]
      refine ord_take (i := 8) (v := ?_) (by kernel_rfl) rfl (by decide) (by kernel_rfl) (by kernel_rfl) (fun _ _ _ h => h) (Or.inl ⟨by rfl, ?_⟩) hx0 ?_
      rotate_left
      · intro wz hz; have j := k_b.below hz k_b.lt; have q0 := j.cell 0; have q1 := j.cell 1; go_simp; (try with_reducible rfl)
      try simp only [Act.put, List.getElem_toArray, List.getElem_cons_zero, List.getElem_cons_succ, List.setIfInBounds_toArray, List.set_cons_zero, List.set_cons_succ]
      refine ord_take (i := 9) (v := ?_) (by kernel_rfl) rfl (by decide) (by kernel_rfl) (by kernel_rfl) (fun _ _ _ h => h) (Or.inl ⟨by rfl, ?_⟩) hx0 ?_
      rotate_left
      · intro wz hz; have j := k_c.below hz k_c.lt; have q0 := j.cell 0; have q1 := j.cell 1; go_simp; (try with_reducible rfl)
      try simp only [Act.put, List.getElem_toArray, List.getElem_cons_zero, List.getElem_cons_succ, List.setIfInBounds_toArray, List.set_cons_zero, List.set_cons_succ]
      refine ord_take (i := 12) (v := ?_) (by kernel_rfl) rfl (by decide) (by kernel_rfl) (by kernel_rfl) (fun _ _ _ h => h) (Or.inl ⟨by rfl, ?_⟩) hx0 ?_
      rotate_left
      · intro wz hz; go_simp; (try with_reducible rfl)
      try simp only [Act.put, List.getElem_toArray, List.getElem_cons_zero, List.getElem_cons_succ, List.setIfInBounds_toArray, List.set_cons_zero, List.set_cons_succ]
      refine ord_step (i := 7) rfl (by decide) (by kernel_rfl) (by rfl) (fun K hK => ?_)
      go_simp
      refine (fmul_v (I_a.on hx0) (I_c.on hx0) (by decide) (by decide)).mono ?_
      rintro y X10_8_1 ⟨v_x, rfl, I_x, hb⟩
      have hx1 := bltB hx0 hx0.size hb
      clear hb hx0
      refine hK _ _ hx1 ?_
      clear hK K
      try simp only [Act.put, List.getElem_toArray, List.getElem_cons_zero, List.getElem_cons_succ, List.setIfInBounds_toArray, List.set_cons_zero, List.set_cons_succ]
      refine ord_step (i := 10) rfl (by decide) (by kernel_rfl) (by rfl) (fun K hK => ?_)
      go_simp
      refine (fmul_v (I_b.on hx1) (I_c.on hx1) (by decide) (by decide)).mono ?_
      rintro y X10_8_2 ⟨v_y, rfl, I_y, hb⟩
      replace I_x := I_x.on hb
      have hx2 := bltB hx1 hx1.size hb
      clear hb hx1
      refine hK _ _ hx2 ?_
      clear hK K
      try simp only [Act.put, List.getElem_toArray, List.getElem_cons_zero, List.getElem_cons_succ, List.setIfInBounds_toArray, List.set_cons_zero, List.set_cons_succ]
      refine ord_step (i := 11) rfl (by decide) (by kernel_rfl) (by rfl) (fun K hK => ?_)
      go_simp
      refine (fcmp_v I_x I_y (by decide) (by decide)).mono ?_
      rintro y X10_8_3 ⟨rfl, hb⟩
      rw [cmpQ_eq (show q_a * q_c = q_b * q_c by rw [HQ.out])]
      clear I_x
      clear I_y
      have hx3 := bltB hx2 hx2.size hb
      clear hb hx2
      refine hK _ _ hx3 ?_
      clear hK K
      try simp only [Act.put, List.getElem_toArray, List.getElem_cons_zero, List.getElem_cons_succ, List.setIfInBounds_toArray, List.set_cons_zero, List.set_cons_succ]
      refine ord_take (i := 13) (v := ?_) (by kernel_rfl) rfl (by decide) (by kernel_rfl) (by kernel_rfl) (fun _ _ _ h => h) (Or.inl ⟨by rfl, ?_⟩) hx3 ?_
      rotate_left
      · intro wz hz; go_simp; (try with_reducible rfl)
      try simp only [Act.put, List.getElem_toArray, List.getElem_cons_zero, List.getElem_cons_succ, List.setIfInBounds_toArray, List.set_cons_zero, List.set_cons_succ]
      refine ord_rest (by kernel_rfl) ?_
      refine wpAny_take (i := 14) (v := ?_) rfl (by kernel_rfl) (by kernel_rfl) (by kernel_rfl) (fun _ _ _ h => h) (Or.inl ⟨by rfl, ?_⟩) ?_
      rotate_left
      · intro wz; go_simp; (try with_reducible rfl)
      try simp only [Act.put, List.getElem_toArray, List.getElem_cons_zero, List.getElem_cons_succ, List.setIfInBounds_toArray, List.set_cons_zero, List.set_cons_succ]
      refine wpAny_done (by kernel_rfl) ?_ _
      refine NoPanic.normal ?_
      replace k_a := k_a.below hx3 k_a.lt
      replace k_b := k_b.below hx3 k_b.lt
      replace k_c := k_c.below hx3 k_c.lt
      replace I_a := I_a.on hx3
      replace I_b := I_b.on hx3
      replace I_c := I_c.on hx3
      replace I_d := I_d.on hx3
      replace k_d := k_d.below hx3 k_d.lt
      have hB11 := bltB hB10 hB10.size hx3
      clear hx3 hB10
      go_wp2_with fail
      refine wp_region_noPanic ?_
      refine ord_begin 16 (fun wx => Below X10_8_3.heap.size X10_8_3 wx) (by kernel_rfl) ?_
      have hx0 : Below X10_8_3.heap.size X10_8_3 X10_8_3.drew := (Below.refl _ _).drew
      refine ord_take (i := 0) (v := ?_) (by kernel_rfl) rfl (by decide) (by kernel_rfl) (by kernel_rfl) (fun _ _ _ h => h) (Or.inl ⟨by rfl, ?_⟩) hx0 ?_
      rotate_left
      · intro wz hz; go_simp; (try with_reducible rfl)
      try simp only [Act.put, List.getElem_toArray, List.getElem_cons_zero, List.getElem_cons_succ, List.setIfInBounds_toArray, List.set_cons_zero, List.set_cons_succ]
      refine ord_take (i := 1) (v := ?_) (by kernel_rfl) rfl (by decide) (by kernel_rfl) (by kernel_rfl) (fun _ _ _ h => h) (Or.inl ⟨by rfl, ?_⟩) hx0 ?_
      rotate_left
      · intro wz hz; go_simp; (try with_reducible rfl)
      try simp only [Act.put, List.getElem_toArray, List.getElem_cons_zero, List.getElem_cons_succ, List.setIfInBounds_toArray, List.set_cons_zero, List.set_cons_succ]
      refine ord_take (i := 2) (v := ?_) (by kernel_rfl) rfl (by decide) (by kernel_rfl) (by kernel_rfl) (fun _ _ _ h => h) (Or.inl ⟨by rfl, ?_⟩) hx0 ?_
      rotate_left
      · intro wz hz; go_simp; (try with_reducible rfl)
      try simp only [Act.put, List.getElem_toArray, List.getElem_cons_zero, List.getElem_cons_succ, List.setIfInBounds_toArray, List.set_cons_zero, List.set_cons_succ]
      refine ord_take (i := 3) (v := ?_) (by kernel_rfl) rfl (by decide) (by kernel_rfl) (by kernel_rfl) (fun _ _ _ h => h) (Or.inl ⟨by rfl, ?_⟩) hx0 ?_
      rotate_left
      · intro wz hz; go_simp; (try with_reducible rfl)
      try simp only [Act.put, List.getElem_toArray, List.getElem_cons_zero, List.getElem_cons_succ, List.setIfInBounds_toArray, List.set_cons_zero, List.set_cons_succ]
      refine ord_take (i := 4) (v := ?_) (by kernel_rfl) rfl (by decide) (by kernel_rfl) (by kernel_rfl) (fun _ _ _ h => h) (Or.inl ⟨by rfl, ?_⟩) hx0 ?_
      rotate_left
      · intro wz hz; go_simp; (try with_reducible rfl)
      try simp only [Act.put, List.getElem_toArray, List.getElem_cons_zero, List.getElem_cons_succ, List.setIfInBounds_toArray, List.set_cons_zero, List.set_cons_succ]
      refine ord_take (i := 5) (v := ?_) (by kernel_rfl) rfl (by decide) (by kernel_rfl) (by kernel_rfl) (fun _ _ _ h => h) (Or.inl ⟨by rfl, ?_⟩) hx0 ?_
      rotate_left
      · intro wz hz; have j := k_d.below hz k_d.lt; have q0 := j.cell 0; have q1 := j.cell 1; go_simp; (try with_reducible rfl)
      try simp only [Act.put, List.getElem_toArray, List.getElem_cons_zero, List.getElem_cons_succ, List.setIfInBounds_toArray, List.set_cons_zero, List.set_cons_succ]
      refine ord_take (i := 6) (v := ?_) (by kernel_rfl) rfl (by decide) (by kernel_rfl) (by kernel_rfl) (fun _ _ _ h => h) (Or.inl ⟨by rfl, ?_⟩) hx0 ?_
      rotate_left
      · intro wz hz; have j := k_b.below hz k_b.lt; have q0 := j.cell 0; have q1 := j.cell 1; go_simp; (try with_reducible rfl)
      try simp only [Act.put, List.getElem_toArray, List.getElem_cons_zero, List.getElem_cons_succ, List.setIfInBounds_toArray, List.set_cons_zero, List.set_cons_succ]
      refine ord_take (i := 8) (v := ?_) (by kernel_rfl) rfl (by decide) (by kernel_rfl) (by kernel_rfl) (fun _ _ _ h => h) (Or.inl ⟨by rfl, ?_⟩) hx0 ?_
      rotate_left
      · intro wz hz; have j := k_a.below hz k_a.lt; have q0 := j.cell 0; have q1 := j.cell 1; go_simp; (try with_reducible rfl)
      try simp only [Act.put, List.getElem_toArray, List.getElem_cons_zero, List.getElem_cons_succ, List.setIfInBounds_toArray, List.set_cons_zero, List.set_cons_succ]
      refine ord_step (i := 7) rfl (by decide) (by kernel_rfl) (by rfl) (fun K hK => ?_)
      go_simp
      refine (fadd_v (I_d.on hx0) (I_b.on hx0) (by decide) (by decide)).mono ?_
      rintro y X11_10_1 ⟨v_x, rfl, I_x, hb⟩
      have hx1 := bltB hx0 hx0.size hb
      clear hb hx0
      refine hK _ _ hx1 ?_
      clear hK K
      try simp only [Act.put, List.getElem_toArray, List.getElem_cons_zero, List.getElem_cons_succ, List.setIfInBounds_toArray, List.set_cons_zero, List.set_cons_succ]
      refine ord_step (i := 9) rfl (by decide) (by kernel_rfl) (by rfl) (fun K hK => ?_)
      go_simp
      refine (fsame_v I_x (I_a.on hx1) (by decide)).mono ?_
      rintro y X11_10_2 ⟨rfl, hb⟩
      rw [decide_eq_true (show q_a - q_b + q_b = q_a by grind)]
      clear I_x
      have hx2 := bltB hx1 hx1.size hb
      clear hb hx1
      refine hK _ _ hx2 ?_
      clear hK K
      try simp only [Act.put, List.getElem_toArray, List.getElem_cons_zero, List.getElem_cons_succ, List.setIfInBounds_toArray, List.set_cons_zero, List.set_cons_succ]
      refine ord_take (i := 10) (v := ?_) (by kernel_rfl) rfl (by decide) (by kernel_rfl) (by kernel_rfl) (fun _ _ _ h => h) (Or.inl ⟨by rfl, ?_⟩) hx2 ?_
      rotate_left
      · intro wz hz; go_simp; (try with_reducible rfl)
      try simp only [Act.put, List.getElem_toArray, List.getElem_cons_zero, List.getElem_cons_succ, List.setIfInBounds_toArray, List.set_cons_zero, List.set_cons_succ]
      refine ord_take (i := 11) (v := ?_) (by kernel_rfl) rfl (by decide) (by kernel_rfl) (by kernel_rfl) (fun _ _ _ h => h) (Or.inl ⟨by rfl, ?_⟩) hx2 ?_
      rotate_left
      · intro wz hz; go_simp; (try with_reducible rfl)
      try simp only [Act.put, List.getElem_toArray, List.getElem_cons_zero, List.getElem_cons_succ, List.setIfInBounds_toArray, List.set_cons_zero, List.set_cons_succ]
      refine ord_take (i := 12) (v := ?_) (by kernel_rfl) rfl (by decide) (by kernel_rfl) (by kernel_rfl) (fun _ _ _ h => h) (Or.inl ⟨by rfl, ?_⟩) hx2 ?_
      rotate_left
      · intro wz hz; go_simp; (try with_reducible rfl)
      try simp only [Act.put, List.getElem_toArray, List.getElem_cons_zero, List.getElem_cons_succ, List.setIfInBounds_toArray, List.set_cons_zero, List.set_cons_succ]
      refine ord_take (i := 13) (v := ?_) (by kernel_rfl) rfl (by decide) (by kernel_rfl) (by kernel_rfl) (fun _ _ _ h => h) (Or.inl ⟨by rfl, ?_⟩) hx2 ?_
      rotate_left
      · intro wz hz; have j := k_d.below hz k_d.lt; have q0 := j.cell 0; have q1 := j.cell 1; go_simp; (try with_reducible rfl)
      try simp only [Act.put, List.getElem_toArray, List.getElem_cons_zero, List.getElem_cons_succ, List.setIfInBounds_toArray, List.set_cons_zero, List.set_cons_succ]
      refine ord_step (i := 14) rfl (by decide) (by kernel_rfl) (by rfl) (fun K hK => ?_)
      go_simp
      refine (fright_v (I_d.on hx2) (by decide)).mono ?_
      rintro y X11_10_3 ⟨rfl, hb⟩
      have hx3 := bltB hx2 hx2.size hb
      clear hb hx2
      refine hK _ _ hx3 ?_
      clear hK K
      try simp only [Act.put, List.getElem_toArray, List.getElem_cons_zero, List.getElem_cons_succ, List.setIfInBounds_toArray, List.set_cons_zero, List.set_cons_succ]
      refine ord_take (i := 15) (v := ?_) (by kernel_rfl) rfl (by decide) (by kernel_rfl) (by kernel_rfl) (fun _ _ _ h => h) (Or.inl ⟨by rfl, ?_⟩) hx3 ?_
      rotate_left
      · intro wz hz; go_simp; (try with_reducible rfl)
      try simp only [Act.put, List.getElem_toArray, List.getElem_cons_zero, List.getElem_cons_succ, List.setIfInBounds_toArray, List.set_cons_zero, List.set_cons_succ]
      refine ord_rest (by kernel_rfl) ?_
      refine any_step (i := 16) rfl (by kernel_rfl) (by rfl) (fun K hK => ?_)
      go_simp
      refine hK _ _ ?_
      clear hK K
      try simp only [Act.put, List.getElem_toArray, List.getElem_cons_zero, List.getElem_cons_succ, List.setIfInBounds_toArray, List.set_cons_zero, List.set_cons_succ]
      refine wpAny_done (by kernel_rfl) ?_ _
      refine NoPanic.normal ?_
      replace k_a := k_a.below hx3 k_a.lt
      replace k_b := k_b.below hx3 k_b.lt
      replace k_c := k_c.below hx3 k_c.lt
      replace I_a := I_a.on hx3
      replace I_b := I_b.on hx3
      replace I_c := I_c.on hx3
      replace I_d := I_d.on hx3
      replace k_d := k_d.below hx3 k_d.lt
      have hB12 := bltB hB11 hB11.size hx3
      clear hx3 hB11
      go_wp2_with fail
      go_ret
      exact ⟨rfl, hB12⟩
  · refine (fcmp_v I_a I_b (by decide) (by decide)).mono ?_
    rintro y w7 ⟨rfl, hb⟩
    replace k_a := k_a.below hb k_a.lt
    replace k_b := k_b.below hb k_b.lt
    replace k_c := k_c.below hb k_c.lt
    replace I_a := I_a.on hb
    replace I_b := I_b.on hb
    replace I_c := I_c.on hb
    have hB7 := bltB hB6 hB6.size hb
    clear hb hB6
    rw [cmpQ_gt hq]
    have q_k_a_0 := k_a.cell 0
    have q_k_a_1 := k_a.cell 1
    have q_k_a_l := k_a.lt
    have q_k_b_0 := k_b.cell 0
    have q_k_b_1 := k_b.cell 1
    have q_k_b_l := k_b.lt
    go_wp2_with fail
    clear q_k_a_0 q_k_a_1 q_k_a_l q_k_b_0 q_k_b_1 q_k_b_l
    refine (fsub_v I_a I_b (by decide) (by decide)).mono ?_
    rintro y w8 ⟨v_d, rfl, I_d, hb⟩
    rw [decide_eq_true (Rat.le_of_lt hq)]
    replace k_a := k_a.below hb k_a.lt
    replace k_b := k_b.below hb k_b.lt
    replace k_c := k_c.below hb k_c.lt
    replace I_a := I_a.on hb
    replace I_b := I_b.on hb
    replace I_c := I_c.on hb
    have hB8 := bltB hB7 hB7.size hb
    clear hb hB7
    replace I_d := I_d.as (if_pos (Rat.le_of_lt hq))
    obtain ⟨A_d, n_d, c_d, B_d, m_d, d_d, rfl, hI⟩ := I_d
    have I_d : IsQ w8 (.agg #[.slice A_d n_d c_d, .slice B_d m_d d_d]) _ _ := ⟨_, _, _, _, _, _, rfl, hI⟩
    clear hI
    have HQ := Lib.hid hq
    clear hq
    go_wp2_with fail
    obtain ⟨w9, hw9⟩ : ∃ W, W = w8.alloc (.cells #[.slice A_d n_d c_d, .slice B_d m_d d_d] 24) := ⟨_, rfl⟩
    obtain ⟨G_d, hG_d⟩ : ∃ G, w8.heap.size = G := ⟨_, rfl⟩
    have ha : Below w8.heap.size w8 w9 := by rw [hw9]; exact (Below.refl _ _).alloc (Nat.le_refl _) _
    have k_d : Blk w9 G_d 24 #[.slice A_d n_d c_d, .slice B_d m_d d_d] := by rw [hw9, ← hG_d]; exact Blk.new w8 _ _
    rw [← hw9]
    simp only [hG_d]
    clear hw9 hG_d
    replace k_a := k_a.below ha k_a.lt
    replace k_b := k_b.below ha k_b.lt
    replace k_c := k_c.below ha k_c.lt
    replace I_a := I_a.on ha
    replace I_b := I_b.on ha
    replace I_c := I_c.on ha
    replace I_d := I_d.on ha
    have hB9 := bltB hB8 hB8.size ha
    clear ha hB8
    refine wp_region_noPanic ?_
    refine ord_begin 30 (fun wx => Below w9.heap.size w9 wx) (by kernel_rfl) ?_
    have hx0 : Below w9.heap.size w9 w9.drew := (Below.refl _ _).drew
    refine ord_take (i := 0) (v := ?_) (by kernel_rfl) rfl (by decide) (by kernel_rfl) (by kernel_rfl) (fun _ _ _ h => h) (Or.inl ⟨by rfl, ?_⟩) hx0 ?_
    rotate_left
    · intro wz hz; go_simp; (try with_reducible rfl)
    try simp only [Act.put, List.getElem_toArray, List.getElem_cons_zero, List.getElem_cons_succ, List.setIfInBounds_toArray, List.set_cons_zero, List.set_cons_succ]
    refine ord_take (i := 1) (v := ?_) (by kernel_rfl) rfl (by decide) (by kernel_rfl) (by kernel_rfl) (fun _ _ _ h => h) (Or.inl ⟨by rfl, ?_⟩) hx0 ?_
    rotate_left
    · intro wz hz; have j := k_b.below hz k_b.lt; have q0 := j.cell 0; have q1 := j.cell 1; go_simp; (try with_reducible rfl)
    try simp only [Act.put, List.getElem_toArray, List.getElem_cons_zero, List.getElem_cons_succ, List.setIfInBounds_toArray, List.set_cons_zero, List.set_cons_succ]
    refine ord_take (i := 2) (v := ?_) (by kernel_rfl) rfl (by decide) (by kernel_rfl) (by kernel_rfl) (fun _ _ _ h => h) (Or.inl ⟨by rfl, ?_⟩) hx0 ?_
    rotate_left
    · intro wz hz; have j := k_a.below hz k_a.lt; have q0 := j.cell 0; have q1 := j.cell 1; go_simp; (try with_reducible rfl)
    try simp only [Act.put, List.getElem_toArray, List.getElem_cons_zero, List.getElem_cons_succ, List.setIfInBounds_toArray, List.set_cons_zero, List.set_cons_succ]
    refine ord_step (i := 3) rfl (by decide) (by kernel_rfl) (by rfl) (fun K hK => ?_)
    go_simp
    refine (fcmp_v (I_b.on hx0) (I_a.on hx0) (by decide) (by decide)).mono ?_
    rintro y X9_6_1 ⟨rfl, hb⟩
    rw [cmpQ_lt HQ.out]
    have hx1 := bltB hx0 hx0.size hb
    clear hb hx0
    refine hK _ _ hx1 ?_
    clear hK K
    try simp only [Act.put, List.getElem_toArray, List.getElem_cons_zero, List.getElem_cons_succ, List.setIfInBounds_toArray, List.set_cons_zero, List.set_cons_succ]
    refine ord_take (i := 4) (v := ?_) (by kernel_rfl) rfl (by decide) (by kernel_rfl) (by kernel_rfl) (fun _ _ _ h => h) (Or.inl ⟨by rfl, ?_⟩) hx1 ?_
    rotate_left
    · intro wz hz; go_simp; (try with_reducible rfl)
    try simp only [Act.put, List.getElem_toArray, List.getElem_cons_zero, List.getElem_cons_succ, List.setIfInBounds_toArray, List.set_cons_zero, List.set_cons_succ]
    refine ord_take (i := 5) (v := ?_) (by kernel_rfl) rfl (by decide) (by kernel_rfl) (by kernel_rfl) (fun _ _ _ h => h) (Or.inl ⟨by rfl, ?_⟩) hx1 ?_
    rotate_left
    · intro wz hz; go_simp; (try with_reducible rfl)
    try simp only [Act.put, List.getElem_toArray, List.getElem_cons_zero, List.getElem_cons_succ, List.setIfInBounds_toArray, List.set_cons_zero, List.set_cons_succ]
    refine ord_take (i := 6) (v := ?_) (by kernel_rfl) rfl (by decide) (by kernel_rfl) (by kernel_rfl) (fun _ _ _ h => h) (Or.inl ⟨by rfl, ?_⟩) hx1 ?_
    rotate_left
    · intro wz hz; go_simp; (try with_reducible rfl)
    try simp only [Act.put, List.getElem_toArray, List.getElem_cons_zero, List.getElem_cons_succ, List.setIfInBounds_toArray, List.set_cons_zero, List.set_cons_succ]
    refine ord_take (i := 7) (v := ?_) (by kernel_rfl) rfl (by decide) (by kernel_rfl) (by kernel_rfl) (fun _ _ _ h => h) (Or.inl ⟨by rfl, ?_⟩) hx1 ?_
    rotate_left
    · intro wz hz; go_simp; (try with_reducible rfl)
    try simp only [Act.put, List.getElem_toArray, List.getElem_cons_zero, List.getElem_cons_succ, List.setIfInBounds_toArray, List.set_cons_zero, List.set_cons_succ]
    refine ord_take (i := 8) (v := ?_) (by kernel_rfl) rfl (by decide) (by kernel_rfl) (by kernel_rfl) (fun _ _ _ h => h) (Or.inl ⟨by rfl, ?_⟩) hx1 ?_
    rotate_left
    · intro wz hz; go_simp; (try with_reducible rfl)
    try simp only [Act.put, List.getElem_toArray, List.getElem_cons_zero, List.getElem_cons_succ, List.setIfInBounds_toArray, List.set_cons_zero, List.set_cons_succ]
    refine ord_take (i := 9) (v := ?_) (by kernel_rfl) rfl (by decide) (by kernel_rfl) (by kernel_rfl) (fun _ _ _ h => h) (Or.inl ⟨by rfl, ?_⟩) hx1 ?_
    rotate_left
    · intro wz hz; have j := k_a.below hz k_a.lt; have q0 := j.cell 0; have q1 := j.cell 1; go_simp; (try with_reducible rfl)
    try simp only [Act.put, List.getElem_toArray, List.getElem_cons_zero, List.getElem_cons_succ, List.setIfInBounds_toArray, List.set_cons_zero, List.set_cons_succ]
    refine ord_take (i := 10) (v := ?_) (by kernel_rfl) rfl (by decide) (by kernel_rfl) (by kernel_rfl) (fun _ _ _ h => h) (Or.inl ⟨by rfl, ?_⟩) hx1 ?_
    rotate_left
    · intro wz hz; have j := k_b.below hz k_b.lt; have q0 := j.cell 0; have q1 := j.cell 1; go_simp; (try with_reducible rfl)
    try simp only [Act.put, List.getElem_toArray, List.getElem_cons_zero, List.getElem_cons_succ, List.setIfInBounds_toArray, List.set_cons_zero, List.set_cons_succ]
    refine ord_step (i := 11) rfl (by decide) (by kernel_rfl) (by rfl) (fun K hK => ?_)
    go_simp
    refine (fsame_v (I_a.on hx1) (I_b.on hx1) (by decide)).mono ?_
    rintro y X9_6_2 ⟨rfl, hb⟩
    rw [decide_eq_false (Rat.ne_of_gt HQ.out)]
    have hx2 := bltB hx1 hx1.size hb
    clear hb hx1
    refine hK _ _ hx2 ?_
    clear hK K
    try simp only [Act.put, List.getElem_toArray, List.getElem_cons_zero, List.getElem_cons_succ, List.setIfInBounds_toArray, List.set_cons_zero, List.set_cons_succ]
    refine ord_take (i := 12) (v := ?_) (by kernel_rfl) rfl (by decide) (by kernel_rfl) (by kernel_rfl) (fun _ _ _ h => h) (Or.inl ⟨by rfl, ?_⟩) hx2 ?_
    rotate_left
    · intro wz hz; go_simp; (try with_reducible rfl)
    try simp only [Act.put, List.getElem_toArray, List.getElem_cons_zero, List.getElem_cons_succ, List.setIfInBounds_toArray, List.set_cons_zero, List.set_cons_succ]
    refine ord_take (i := 13) (v := ?_) (by kernel_rfl) rfl (by decide) (by kernel_rfl) (by kernel_rfl) (fun _ _ _ h => h) (Or.inl ⟨by rfl, ?_⟩) hx2 ?_
    rotate_left
    · intro wz hz; go_simp; (try with_reducible rfl)
    try simp only [Act.put, List.getElem_toArray, List.getElem_cons_zero, List.getElem_cons_succ, List.setIfInBounds_toArray, List.set_cons_zero, List.set_cons_succ]
    refine ord_take (i := 14) (v := ?_) (by kernel_rfl) rfl (by decide) (by kernel_rfl) (by kernel_rfl) (fun _ _ _ h => h) (Or.inl ⟨by rfl, ?_⟩) hx2 ?_
    rotate_left
    · intro wz hz; go_simp; (try with_reducible rfl)
    try simp only [Act.put, List.getElem_toArray, List.getElem_cons_zero, List.getElem_cons_succ, List.setIfInBounds_toArray, List.set_cons_zero, List.set_cons_succ]
    refine ord_take (i := 15) (v := ?_) (by kernel_rfl) rfl (by decide) (by kernel_rfl) (by kernel_rfl) (fun _ _ _ h => h) (Or.inl ⟨by rfl, ?_⟩) hx2 ?_
    rotate_left
    · intro wz hz; go_simp; (try with_reducible rfl)
    try simp only [Act.put, List.getElem_toArray, List.getElem_cons_zero, List.getElem_cons_succ, List.setIfInBounds_toArray, List.set_cons_zero, List.set_cons_succ]
    refine ord_take (i := 16) (v := ?_) (by kernel_rfl) rfl (by decide) (by kernel_rfl) (by kernel_rfl) (fun _ _ _ h => h) (Or.inl ⟨by rfl, ?_⟩) hx2 ?_
    rotate_left
    · intro wz hz; go_simp; (try with_reducible rfl)
    try simp only [Act.put, List.getElem_toArray, List.getElem_cons_zero, List.getElem_cons_succ, List.setIfInBounds_toArray, List.set_cons_zero, List.set_cons_succ]
    refine ord_take (i := 17) (v := ?_) (by kernel_rfl) rfl (by decide) (by kernel_rfl) (by kernel_rfl) (fun _ _ _ h => h) (Or.inl ⟨by rfl, ?_⟩) hx2 ?_
    rotate_left
    · intro wz hz; go_simp; (try with_reducible rfl)
    try simp only [Act.put, List.getElem_toArray, List.getElem_cons_zero, List.getElem_cons_succ, List.setIfInBounds_toArray, List.set_cons_zero, List.set_cons_succ]
    refine ord_take (i := 18) (v := ?_) (by kernel_rfl) rfl (by decide) (by kernel_rfl) (by kernel_rfl) (fun _ _ _ h => h) (Or.inl ⟨by rfl, ?_⟩) hx2 ?_
    rotate_left
    · intro wz hz; go_simp; (try with_reducible rfl)
    try simp only [Act.put, List.getElem_toArray, List.getElem_cons_zero, List.getElem_cons_succ, List.setIfInBounds_toArray, List.set_cons_zero, List.set_cons_succ]
    refine ord_take (i := 19) (v := ?_) (by kernel_rfl) rfl (by decide) (by kernel_rfl) (by kernel_rfl) (fun _ _ _ h => h) (Or.inl ⟨by rfl, ?_⟩) hx2 ?_
    rotate_left
    · intro wz hz; go_simp; (try with_reducible rfl)
    try simp only [Act.put, List.getElem_toArray, List.getElem_cons_zero, List.getElem_cons_succ, List.setIfInBounds_toArray, List.set_cons_zero, List.set_cons_succ]
    refine ord_take (i := 20) (v := ?_) (by kernel_rfl) rfl (by decide) (by kernel_rfl) (by kernel_rfl) (fun _ _ _ h => h) (Or.inl ⟨by rfl, ?_⟩) hx2 ?_
    rotate_left
    · intro wz hz; go_simp; (try with_reducible rfl)
    try simp only [Act.put, List.getElem_toArray, List.getElem_cons_zero, List.getElem_cons_succ, List.setIfInBounds_toArray, List.set_cons_zero, List.set_cons_succ]
    refine ord_take (i := 21) (v := ?_) (by kernel_rfl) rfl (by decide) (by kernel_rfl) (by kernel_rfl) (fun _ _ _ h => h) (Or.inl ⟨by rfl, ?_⟩) hx2 ?_
    rotate_left
    · intro wz hz; have j := k_a.below hz k_a.lt; have q0 := j.cell 0; have q1 := j.cell 1; go_simp; (try with_reducible rfl)
    try simp only [Act.put, List.getElem_toArray, List.getElem_cons_zero, List.getElem_cons_succ, List.setIfInBounds_toArray, List.set_cons_zero, List.set_cons_succ]
    refine ord_take (i := 22) (v := ?_) (by kernel_rfl) rfl (by decide) (by kernel_rfl) (by kernel_rfl) (fun _ _ _ h => h) (Or.inl ⟨by rfl, ?_⟩) hx2 ?_
    rotate_left
    · intro wz hz; have j := k_c.below hz k_c.lt; have q0 := j.cell 0; have q1 := j.cell 1; go_simp; (try with_reducible rfl)
    try simp only [Act.put, List.getElem_toArray, List.getElem_cons_zero, List.getElem_cons_succ, List.setIfInBounds_toArray, List.set_cons_zero, List.set_cons_succ]
    refine ord_take (i := 24) (v := ?_) (by kernel_rfl) rfl (by decide) (by kernel_rfl) (by kernel_rfl) (fun _ _ _ h => h) (Or.inl ⟨by rfl, ?_⟩) hx2 ?_
    rotate_left
    · intro wz hz; have j := k_b.below hz k_b.lt; have q0 := j.cell 0; have q1 := j.cell 1; go_simp; (try with_reducible rfl)
    try simp only [Act.put, List.getElem_toArray, List.getElem_cons_zero, List.getElem_cons_succ, List.setIfInBounds_toArray, List.set_cons_zero, List.set_cons_succ]
    refine ord_take (i := 25) (v := ?_) (by kernel_rfl) rfl (by decide) (by kernel_rfl) (by kernel_rfl) (fun _ _ _ h => h) (Or.inl ⟨by rfl, ?_⟩) hx2 ?_
    rotate_left
    · intro wz hz; have j := k_c.below hz k_c.lt; have q0 := j.cell 0; have q1 := j.cell 1; go_simp; (try with_reducible rfl)
    try simp only [Act.put, List.getElem_toArray, List.getElem_cons_zero, List.getElem_cons_succ, List.setIfInBounds_toArray, List.set_cons_zero, List.set_cons_succ]
    refine ord_take (i := 28) (v := ?_) (by kernel_rfl) rfl (by decide) (by kernel_rfl) (by kernel_rfl) (fun _ _ _ h => h) (Or.inl ⟨by rfl, ?_⟩) hx2 ?_
    rotate_left
    · intro wz hz; go_simp; (try with_reducible rfl)
    try simp only [Act.put, List.getElem_toArray, List.getElem_cons_zero, List.getElem_cons_succ, List.setIfInBounds_toArray, List.set_cons_zero, List.set_cons_succ]
    refine ord_step (i := 23) rfl (by decide) (by kernel_rfl) (by rfl) (fun K hK => ?_)
    go_simp
    refine (fadd_v (I_a.on hx2) (I_c.on hx2) (by decide) (by decide)).mono ?_
    rintro y X9_6_3 ⟨v_x, rfl, I_x, hb⟩
    have hx3 := bltB hx2 hx2.size hb
    clear hb hx2
    refine hK _ _ hx3 ?_
    clear hK K
    try simp only [Act.put, List.getElem_toArray, List.getElem_cons_zero, List.getElem_cons_succ, List.setIfInBounds_toArray, List.set_cons_zero, List.set_cons_succ]
    refine ord_step (i := 26) rfl (by decide) (by kernel_rfl) (by rfl) (fun K hK => ?_)
    go_simp
    refine (fadd_v (I_b.on hx3) (I_c.on hx3) (by decide) (by decide)).mono ?_
    rintro y X9_6_4 ⟨v_y, rfl, I_y, hb⟩
    replace I_x := I_x.on hb
    have hx4 := bltB hx3 hx3.size hb
    clear hb hx3
    refine hK _ _ hx4 ?_
    clear hK K
    try simp only [Act.put, List.getElem_toArray, List.getElem_cons_zero, List.getElem_cons_succ, List.setIfInBounds_toArray, List.set_cons_zero, List.set_cons_succ]
    refine ord_step (i := 27) rfl (by decide) (by kernel_rfl) (by rfl) (fun K hK => ?_)
    go_simp
    refine (fcmp_v I_x I_y (by decide) (by decide)).mono ?_
    rintro y X9_6_5 ⟨rfl, hb⟩
    rw [cmpQ_gt (Rat.add_lt_add_right.2 HQ.out)]
    clear I_x
    clear I_y
    have hx5 := bltB hx4 hx4.size hb
    clear hb hx4
    refine hK _ _ hx5 ?_
    clear hK K
    try simp only [Act.put, List.getElem_toArray, List.getElem_cons_zero, List.getElem_cons_succ, List.setIfInBounds_toArray, List.set_cons_zero, List.set_cons_succ]
    refine ord_take (i := 29) (v := ?_) (by kernel_rfl) rfl (by decide) (by kernel_rfl) (by kernel_rfl) (fun _ _ _ h => h) (Or.inl ⟨by rfl, ?_⟩) hx5 ?_
    rotate_left
    · intro wz hz; go_simp; (try with_reducible rfl)
    try simp only [Act.put, List.getElem_toArray, List.getElem_cons_zero, List.getElem_cons_succ, List.setIfInBounds_toArray, List.set_cons_zero, List.set_cons_succ]
    refine ord_rest (by kernel_rfl) ?_
    refine wpAny_take (i := 30) (v := ?_) rfl (by kernel_rfl) (by kernel_rfl) (by kernel_rfl) (fun _ _ _ h => h) (Or.inl ⟨by rfl, ?_⟩) ?_
    rotate_left
    · intro wz; go_simp; (try with_reducible rfl)
    try simp only [Act.put, List.getElem_toArray, List.getElem_cons_zero, List.getElem_cons_succ, List.setIfInBounds_toArray, List.set_cons_zero, List.set_cons_succ]
    refine wpAny_done (by kernel_rfl) ?_ _
    refine NoPanic.normal ?_
    replace k_a := k_a.below hx5 k_a.lt
    replace k_b := k_b.below hx5 k_b.lt
    replace k_c := k_c.below hx5 k_c.lt
    replace I_a := I_a.on hx5
    replace I_b := I_b.on hx5
    replace I_c := I_c.on hx5
    replace I_d := I_d.on hx5
    replace k_d := k_d.below hx5 k_d.lt
    have hB10 := bltB hB9 hB9.size hx5
    clear hx5 hB9
    go_wp2_with fail
    by_cases hc : q_c = 0
    · have h1 : ¬ 0 < (digs (rn q_c)).length := fun h => (len_pos_q I_c.ge0).1 h hc
      have gz : n_c = 0 := by omega
      subst gz
      clear h1
      refine wp_region_noPanic ?_
      refine ord_begin 14 (fun wx => Below X9_6_5.heap.size X9_6_5 wx) (by kernel_rfl) ?_
      have hx0 : Below X9_6_5.heap.size X9_6_5 X9_6_5.drew := (Below.refl _ _).drew
      refine ord_take (i := 0) (v := ?_) (by kernel_rfl) rfl (by decide) (by kernel_rfl) (by kernel_rfl) (fun _ _ _ h => h) (Or.inl ⟨by rfl, ?_⟩) hx0 ?_
      rotate_left
      · intro wz hz; go_simp; (try with_reducible rfl)
      try simp only [Act.put, List.getElem_toArray, List.getElem_cons_zero, List.getElem_cons_succ, List.setIfInBounds_toArray, List.set_cons_zero, List.set_cons_succ]
      refine ord_take (i := 1) (v := ?_) (by kernel_rfl) rfl (by decide) (by kernel_rfl) (by kernel_rfl) (fun _ _ _ h => h) (Or.inl ⟨by rfl, ?_⟩) hx0 ?_
      rotate_left
      · intro wz hz; have j := k_c.below hz k_c.lt; have q0 := j.cell 0; have q1 := j.cell 1; go_simp; (try with_reducible rfl)
      try simp only [Act.put, List.getElem_toArray, List.getElem_cons_zero, List.getElem_cons_succ, List.setIfInBounds_toArray, List.set_cons_zero, List.set_cons_succ]
      refine ord_take (i := 2) (v := ?_) (by kernel_rfl) rfl (by decide) (by kernel_rfl) (by kernel_rfl) (fun _ _ _ h => h) (Or.inl ⟨by rfl, ?_⟩) hx0 ?_
      rotate_left
      · intro wz hz; go_simp; (try with_reducible rfl)
      try simp only [Act.put, List.getElem_toArray, List.getElem_cons_zero, List.getElem_cons_succ, List.setIfInBounds_toArray, List.set_cons_zero, List.set_cons_succ]
      refine ord_take (i := 3) (v := ?_) (by kernel_rfl) rfl (by decide) (by kernel_rfl) (by kernel_rfl) (fun _ _ _ h => h) (Or.inl ⟨by rfl, ?_⟩) hx0 ?_
      rotate_left
      · intro wz hz; go_simp; (try with_reducible rfl)
      try simp only [Act.put, List.getElem_toArray, List.getElem_cons_zero, List.getElem_cons_succ, List.setIfInBounds_toArray, List.set_cons_zero, List.set_cons_succ]
      refine ord_take (i := 4) (v := ?_) (by kernel_rfl) rfl (by decide) (by kernel_rfl) (by kernel_rfl) (fun _ _ _ h => h) (Or.inl ⟨by rfl, ?_⟩) hx0 ?_
      rotate_left
      · intro wz hz; go_simp; (try with_reducible rfl)
      try simp only [Act.put, List.getElem_toArray, List.getElem_cons_zero, List.getElem_cons_succ, List.setIfInBounds_toArray, List.set_cons_zero, List.set_cons_succ]
      refine ord_take (i := 5) (v := undef) (by kernel_rfl) rfl (by decide) (by kernel_rfl) (by kernel_rfl) (fun _ _ _ h => h) (Or.inr ⟨by rfl, rfl⟩) hx0 ?_
      try simp only [Act.put, List.getElem_toArray, List.getElem_cons_zero, List.getElem_cons_succ, List.setIfInBounds_toArray, List.set_cons_zero, List.set_cons_succ]
      refine ord_take (i := 6) (v := undef) (by kernel_rfl) rfl (by decide) (by kernel_rfl) (by kernel_rfl) (fun _ _ _ h => h) (Or.inr ⟨by rfl, rfl⟩) hx0 ?_
      try simp only [Act.put, List.getElem_toArray, List.getElem_cons_zero, List.getElem_cons_succ, List.setIfInBounds_toArray, List.set_cons_zero, List.set_cons_succ]
      refine ord_take (i := 7) (v := undef) (by kernel_rfl) rfl (by decide) (by kernel_rfl) (by kernel_rfl) (fun _ _ _ h => h) (Or.inr ⟨by rfl, rfl⟩) hx0 ?_
      try simp only [Act.put, List.getElem_toArray, List.getElem_cons_zero, List.getElem_cons_succ, List.setIfInBounds_toArray, List.set_cons_zero, List.set_cons_succ]
      refine ord_take (i := 8) (v := undef) (by kernel_rfl) rfl (by decide) (by kernel_rfl) (by kernel_rfl) (fun _ _ _ h => h) (Or.inr ⟨by rfl, rfl⟩) hx0 ?_
      try simp only [Act.put, List.getElem_toArray, List.getElem_cons_zero, List.getElem_cons_succ, List.setIfInBounds_toArray, List.set_cons_zero, List.set_cons_succ]
      refine ord_take (i := 9) (v := undef) (by kernel_rfl) rfl (by decide) (by kernel_rfl) (by kernel_rfl) (fun _ _ _ h => h) (Or.inr ⟨by rfl, rfl⟩) hx0 ?_
      try simp only [Act.put, List.getElem_toArray, List.getElem_cons_zero, List.getElem_cons_succ, List.setIfInBounds_toArray, List.set_cons_zero, List.set_cons_succ]
      refine ord_take (i := 10) (v := undef) (by kernel_rfl) rfl (by decide) (by kernel_rfl) (by kernel_rfl) (fun _ _ _ h => h) (Or.inr ⟨by rfl, rfl⟩) hx0 ?_
      try simp only [Act.put, List.getElem_toArray, List.getElem_cons_zero, List.getElem_cons_succ, List.setIfInBounds_toArray, List.set_cons_zero, List.set_cons_succ]
      refine ord_take (i := 11) (v := undef) (by kernel_rfl) rfl (by decide) (by kernel_rfl) (by kernel_rfl) (fun _ _ _ h => h) (Or.inr ⟨by rfl, rfl⟩) hx0 ?_
      try simp only [Act.put, List.getElem_toArray, List.getElem_cons_zero, List.getElem_cons_succ, List.setIfInBounds_toArray, List.set_cons_zero, List.set_cons_succ]
      refine ord_take (i := 12) (v := undef) (by kernel_rfl) rfl (by decide) (by kernel_rfl) (by kernel_rfl) (fun _ _ _ h => h) (Or.inr ⟨by rfl, rfl⟩) hx0 ?_
      try simp only [Act.put, List.getElem_toArray, List.getElem_cons_zero, List.getElem_cons_succ, List.setIfInBounds_toArray, List.set_cons_zero, List.set_cons_succ]
      refine ord_take (i := 13) (v := undef) (by kernel_rfl) rfl (by decide) (by kernel_rfl) (by kernel_rfl) (fun _ _ _ h => h) (Or.inr ⟨by rfl, rfl⟩) hx0 ?_
      try simp only [Act.put, List.getElem_toArray, List.getElem_cons_zero, List.getElem_cons_succ, List.setIfInBounds_toArray, List.set_cons_zero, List.set_cons_succ]
      refine ord_rest (by kernel_rfl) ?_
      refine wpAny_take (i := 14) (v := ?_) rfl (by kernel_rfl) (by kernel_rfl) (by kernel_rfl) (fun _ _ _ h => h) (Or.inl ⟨by rfl, ?_⟩) ?_
      rotate_left
      · intro wz; go_simp; (try with_reducible rfl)
      try simp only [Act.put, List.getElem_toArray, List.getElem_cons_zero, List.getElem_cons_succ, List.setIfInBounds_toArray, List.set_cons_zero, List.set_cons_succ]
      refine wpAny_done (by kernel_rfl) ?_ _
      refine NoPanic.normal ?_
      replace k_a := k_a.below hx0 k_a.lt
      replace k_b := k_b.below hx0 k_b.lt
      replace k_c := k_c.below hx0 k_c.lt
      replace I_a := I_a.on hx0
      replace I_b := I_b.on hx0
      replace I_c := I_c.on hx0
      replace I_d := I_d.on hx0
      replace k_d := k_d.below hx0 k_d.lt
      have hB11 := bltB hB10 hB10.size hx0
      clear hx0 hB10
      go_wp2_with fail
      refine wp_region_noPanic ?_
      refine ord_begin 16 (fun wx => Below X9_6_5.drew.heap.size X9_6_5.drew wx) (by kernel_rfl) ?_
      have hx0 : Below X9_6_5.drew.heap.size X9_6_5.drew X9_6_5.drew.drew := (Below.refl _ _).drew
      refine ord_take (i := 0) (v := ?_) (by kernel_rfl) rfl (by decide) (by kernel_rfl) (by kernel_rfl) (fun _ _ _ h => h) (Or.inl ⟨by rfl, ?_⟩) hx0 ?_
      rotate_left
      · intro wz hz; go_simp; (try with_reducible rfl)
      try simp only [Act.put, List.getElem_toArray, List.getElem_cons_zero, List.getElem_cons_succ, List.setIfInBounds_toArray, List.set_cons_zero, List.set_cons_succ]
      refine ord_take (i := 1) (v := ?_) (by kernel_rfl) rfl (by decide) (by kernel_rfl) (by kernel_rfl) (fun _ _ _ h => h) (Or.inl ⟨by rfl, ?_⟩) hx0 ?_
      rotate_left
      · intro wz hz; go_simp; (try with_reducible rfl)
      try simp only [Act.put, List.getElem_toArray, List.getElem_cons_zero, List.getElem_cons_succ, List.setIfInBounds_toArray, List.set_cons_zero, List.set_cons_succ]
      refine ord_take (i := 2) (v := ?_) (by kernel_rfl) rfl (by decide) (by kernel_rfl) (by kernel_rfl) (fun _ _ _ h => h) (Or.inl ⟨by rfl, ?_⟩) hx0 ?_
      rotate_left
      · intro wz hz; go_simp; (try with_reducible rfl)
      try simp only [Act.put, List.getElem_toArray, List.getElem_cons_zero, List.getElem_cons_succ, List.setIfInBounds_toArray, List.set_cons_zero, List.set_cons_succ]
      refine ord_take (i := 3) (v := ?_) (by kernel_rfl) rfl (by decide) (by kernel_rfl) (by kernel_rfl) (fun _ _ _ h => h) (Or.inl ⟨by rfl, ?_⟩) hx0 ?_
      rotate_left
      · intro wz hz; go_simp; (try with_reducible rfl)
      try simp only [Act.put, List.getElem_toArray, List.getElem_cons_zero, List.getElem_cons_succ, List.setIfInBounds_toArray, List.set_cons_zero, List.set_cons_succ]
      refine ord_take (i := 4) (v := ?_) (by kernel_rfl) rfl (by decide) (by kernel_rfl) (by kernel_rfl) (fun _ _ _ h => h) (Or.inl ⟨by rfl, ?_⟩) hx0 ?_
      rotate_left
      · intro wz hz; go_simp; (try with_reducible rfl)
      try simp only [Act.put, List.getElem_toArray, List.getElem_cons_zero, List.getElem_cons_succ, List.setIfInBounds_toArray, List.set_cons_zero, List.set_cons_succ]
      refine ord_take (i := 5) (v := ?_) (by kernel_rfl) rfl (by decide) (by kernel_rfl) (by kernel_rfl) (fun _ _ _ h => h) (Or.inl ⟨by rfl, ?_⟩) hx0 ?_
      rotate_left
      · intro wz hz; have j := k_d.below hz k_d.lt; have q0 := j.cell 0; have q1 := j.cell 1; go_simp; (try with_reducible rfl)
      try simp only [Act.put, List.getElem_toArray, List.getElem_cons_zero, List.getElem_cons_succ, List.setIfInBounds_toArray, List.set_cons_zero, List.set_cons_succ]
      refine ord_take (i := 6) (v := ?_) (by kernel_rfl) rfl (by decide) (by kernel_rfl) (by kernel_rfl) (fun _ _ _ h => h) (Or.inl ⟨by rfl, ?_⟩) hx0 ?_
      rotate_left
      · intro wz hz; have j := k_b.below hz k_b.lt; have q0 := j.cell 0; have q1 := j.cell 1; go_simp; (try with_reducible rfl)
      try simp only [Act.put, List.getElem_toArray, List.getElem_cons_zero, List.getElem_cons_succ, List.setIfInBounds_toArray, List.set_cons_zero, List.set_cons_succ]
      refine ord_take (i := 8) (v := ?_) (by kernel_rfl) rfl (by decide) (by kernel_rfl) (by kernel_rfl) (fun _ _ _ h => h) (Or.inl ⟨by rfl, ?_⟩) hx0 ?_
      rotate_left
      · intro wz hz; have j := k_a.below hz k_a.lt; have q0 := j.cell 0; have q1 := j.cell 1; go_simp; (try with_reducible rfl)
      try simp only [Act.put, List.getElem_toArray, List.getElem_cons_zero, List.getElem_cons_succ, List.setIfInBounds_toArray, List.set_cons_zero, List.set_cons_succ]
      refine ord_step (i := 7) rfl (by decide) (by kernel_rfl) (by rfl) (fun K hK => ?_)
      go_simp
      refine (fadd_v (I_d.on hx0) (I_b.on hx0) (by decide) (by decide)).mono ?_
      rintro y X11_10_1 ⟨v_x, rfl, I_x, hb⟩
      have hx1 := bltB hx0 hx0.size hb
      clear hb hx0
      refine hK _ _ hx1 ?_
      clear hK K
      try simp only [Act.put, List.getElem_toArray, List.getElem_cons_zero, List.getElem_cons_succ, List.setIfInBounds_toArray, List.set_cons_zero, List.set_cons_succ]
      refine ord_step (i := 9) rfl (by decide) (by kernel_rfl) (by rfl) (fun K hK => ?_)
      go_simp
      refine (fsame_v I_x (I_a.on hx1) (by decide)).mono ?_
      rintro y X11_10_2 ⟨rfl, hb⟩
      rw [decide_eq_true (show q_a - q_b + q_b = q_a by grind)]
      clear I_x
      have hx2 := bltB hx1 hx1.size hb
      clear hb hx1
      refine hK _ _ hx2 ?_
      clear hK K
      try simp only [Act.put, List.getElem_toArray, List.getElem_cons_zero, List.getElem_cons_succ, List.setIfInBounds_toArray, List.set_cons_zero, List.set_cons_succ]
      refine ord_take (i := 10) (v := ?_) (by kernel_rfl) rfl (by decide) (by kernel_rfl) (by kernel_rfl) (fun _ _ _ h => h) (Or.inl ⟨by rfl, ?_⟩) hx2 ?_
      rotate_left
      · intro wz hz; go_simp; (try with_reducible rfl)
      try simp only [Act.put, List.getElem_toArray, List.getElem_cons_zero, List.getElem_cons_succ, List.setIfInBounds_toArray, List.set_cons_zero, List.set_cons_succ]
      refine ord_take (i := 11) (v := ?_) (by kernel_rfl) rfl (by decide) (by kernel_rfl) (by kernel_rfl) (fun _ _ _ h => h) (Or.inl ⟨by rfl, ?_⟩) hx2 ?_
      rotate_left
      · intro wz hz; go_simp; (try with_reducible rfl)
      try simp only [Act.put, List.getElem_toArray, List.getElem_cons_zero, List.getElem_cons_succ, List.setIfInBounds_toArray, List.set_cons_zero, List.set_cons_succ]
      refine ord_take (i := 12) (v := ?_) (by kernel_rfl) rfl (by decide) (by kernel_rfl) (by kernel_rfl) (fun _ _ _ h => h) (Or.inl ⟨by rfl, ?_⟩) hx2 ?_
      rotate_left
      · intro wz hz; go_simp; (try with_reducible rfl)
      try simp only [Act.put, List.getElem_toArray, List.getElem_cons_zero, List.getElem_cons_succ, List.setIfInBounds_toArray, List.set_cons_zero, List.set_cons_succ]
      refine ord_take (i := 13) (v := ?_) (by kernel_rfl) rfl (by decide) (by kernel_rfl) (by kernel_rfl) (fun _ _ _ h => h) (Or.inl ⟨by rfl, ?_⟩) hx2 ?_
      rotate_left
      · intro wz hz; have j := k_d.below hz k_d.lt; have q0 := j.cell 0; have q1 := j.cell 1; go_simp; (try with_reducible rfl)
      try simp only [Act.put, List.getElem_toArray, List.getElem_cons_zero, List.getElem_cons_succ, List.setIfInBounds_toArray, List.set_cons_zero, List.set_cons_succ]
      refine ord_step (i := 14) rfl (by decide) (by kernel_rfl) (by rfl) (fun K hK => ?_)
      go_simp
      refine (fright_v (I_d.on hx2) (by decide)).mono ?_
      rintro y X11_10_3 ⟨rfl, hb⟩
      have hx3 := bltB hx2 hx2.size hb
      clear hb hx2
      refine hK _ _ hx3 ?_
      clear hK K
      try simp only [Act.put, List.getElem_toArray, List.getElem_cons_zero, List.getElem_cons_succ, List.setIfInBounds_toArray, List.set_cons_zero, List.set_cons_succ]
      refine ord_take (i := 15) (v := ?_) (by kernel_rfl) rfl (by decide) (by kernel_rfl) (by kernel_rfl) (fun _ _ _ h => h) (Or.inl ⟨by rfl, ?_⟩) hx3 ?_
      rotate_left
      · intro wz hz; go_simp; (try with_reducible rfl)
      try simp only [Act.put, List.getElem_toArray, List.getElem_cons_zero, List.getElem_cons_succ, List.setIfInBounds_toArray, List.set_cons_zero, List.set_cons_succ]
      refine ord_rest (by kernel_rfl) ?_
      refine any_step (i := 16) rfl (by kernel_rfl) (by rfl) (fun K hK => ?_)
      go_simp
      refine hK _ _ ?_
      clear hK K
      try simp only [Act.put, List.getElem_toArray, List.getElem_cons_zero, List.getElem_cons_succ, List.setIfInBounds_toArray, List.set_cons_zero, List.set_cons_succ]
      refine wpAny_done (by kernel_rfl) ?_ _
      refine NoPanic.normal ?_
      replace k_a := k_a.below hx3 k_a.lt
      replace k_b := k_b.below hx3 k_b.lt
      replace k_c := k_c.below hx3 k_c.lt
      replace I_a := I_a.on hx3
      replace I_b := I_b.on hx3
      replace I_c := I_c.on hx3
      replace I_d := I_d.on hx3
      replace k_d := k_d.below hx3 k_d.lt
      have hB12 := bltB hB11 hB11.size hx3
      clear hx3 hB11
      go_wp2_with fail
      go_ret
      exact ⟨rfl, hB12⟩
    · have h1 : 0 < (digs (rn q_c)).length := (len_pos_q I_c.ge0).2 hc
      have gz : decide (0 < n_c) = true := decide_eq_true (by omega)
      have hcp : 0 < q_c := by have := I_c.ge0; grind
      clear h1
      refine wp_region_noPanic ?_
      refine ord_begin 14 (fun wx => Below X9_6_5.heap.size X9_6_5 wx) (by kernel_rfl) ?_
      have hx0 : Below X9_6_5.heap.size X9_6_5 X9_6_5.drew := (Below.refl _ _).drew
      refine ord_take (i := 0) (v := ?_) (by kernel_rfl) rfl (by decide) (by kernel_rfl) (by kernel_rfl) (fun _ _ _ h => h) (Or.inl ⟨by rfl, ?_⟩) hx0 ?_
      rotate_left
      · intro wz hz; go_simp; (try with_reducible rfl)
      try simp only [Act.put, List.getElem_toArray, List.getElem_cons_zero, List.getElem_cons_succ, List.setIfInBounds_toArray, List.set_cons_zero, List.set_cons_succ]
      refine ord_take (i := 1) (v := ?_) (by kernel_rfl) rfl (by decide) (by kernel_rfl) (by kernel_rfl) (fun _ _ _ h => h) (Or.inl ⟨by rfl, ?_⟩) hx0 ?_
      rotate_left
      · intro wz hz; have j := k_c.below hz k_c.lt; have q0 := j.cell 0; have q1 := j.cell 1; go_simp; (try with_reducible rfl)
      try simp only [Act.put, List.getElem_toArray, List.getElem_cons_zero, List.getElem_cons_succ, List.setIfInBounds_toArray, List.set_cons_zero, List.set_cons_succ]
      refine ord_take (i := 2) (v := ?_) (by kernel_rfl) rfl (by decide) (by kernel_rfl) (by kernel_rfl) (fun _ _ _ h => h) (Or.inl ⟨by rfl, ?_⟩) hx0 ?_
      rotate_left
      · intro wz hz; go_simp; (try with_reducible rfl)
      try simp only [Act.put, List.getElem_toArray, List.getElem_cons_zero, List.getElem_cons_succ, List.setIfInBounds_toArray, List.set_cons_zero, List.set_cons_succ]
      refine ord_take (i := 3) (v := ?_) (by kernel_rfl) rfl (by decide) (by kernel_rfl) (by kernel_rfl) (fun _ _ _ h => h) (Or.inl ⟨by rfl, ?_⟩) hx0 ?_
      rotate_left
      · intro wz hz; go_simp; (try with_reducible rfl)
      try simp only [Act.put, List.getElem_toArray, List.getElem_cons_zero, List.getElem_cons_succ, List.setIfInBounds_toArray, List.set_cons_zero, List.set_cons_succ]
      refine ord_take (i := 4) (v := ?_) (by kernel_rfl) rfl (by decide) (by kernel_rfl) (by kernel_rfl) (fun _ _ _ h => h) (Or.inl ⟨by rfl, ?_⟩) hx0 ?_
      rotate_left
      · intro wz hz; go_simp; (try with_reducible rfl)
      try simp only [Act.put, List.getElem_toArray, List.getElem_cons_zero, List.getElem_cons_succ, List.setIfInBounds_toArray, List.set_cons_zero, List.set_cons_succ]
      refine ord_take (i := 5) (v := ?_) (by kernel_rfl) rfl (by decide) (by kernel_rfl) (by kernel_rfl) (fun _ _ _ h => h) (Or.inl ⟨by rfl, ?_⟩) hx0 ?_
      rotate_left
      · intro wz hz; have j := k_a.below hz k_a.lt; have q0 := j.cell 0; have q1 := j.cell 1; go_simp; (try with_reducible rfl)
      try simp only [Act.put, List.getElem_toArray, List.getElem_cons_zero, List.getElem_cons_succ, List.setIfInBounds_toArray, List.set_cons_zero, List.set_cons_succ]
      refine ord_take (i := 6) (v := ?_) (by kernel_rfl) rfl (by decide) (by kernel_rfl) (by kernel_rfl) (fun _ _ _ h => h) (Or.inl ⟨by rfl, ?_⟩) hx0 ?_
      rotate_left
      · intro wz hz; have j := k_c.below hz k_c.lt; have q0 := j.cell 0; have q1 := j.cell 1; go_simp; (try with_reducible rfl)
      try simp only [Act.put, List.getElem_toArray, List.getElem_cons_zero, List.getElem_cons_succ, List.setIfInBounds_toArray, List.set_cons_zero, List.set_cons_succ]
      refine ord_take (i := 8) (v := ?_) (by kernel_rfl) rfl (by decide) (by kernel_rfl) (by kernel_rfl) (fun _ _ _ h => h) (Or.inl ⟨by rfl, ?_⟩) hx0 ?_
      rotate_left
      · intro wz hz; have j := k_b.below hz k_b.lt; have q0 := j.cell 0; have q1 := j.cell 1; go_simp; (try with_reducible rfl)
      try simp only [Act.put, List.getElem_toArray, List.getElem_cons_zero, List.getElem_cons_succ, List.setIfInBounds_toArray, List.set_cons_zero, List.set_cons_succ]
      refine ord_take (i := 9) (v := ?_) (by kernel_rfl) rfl (by decide) (by kernel_rfl) (by kernel_rfl) (fun _ _ _ h => h) (Or.inl ⟨by rfl, ?_⟩) hx0 ?_
      rotate_left
      · intro wz hz; have j := k_c.below hz k_c.lt; have q0 := j.cell 0; have q1 := j.cell 1; go_simp; (try with_reducible rfl)
      try simp only [Act.put, List.getElem_toArray, List.getElem_cons_zero, List.getElem_cons_succ, List.setIfInBounds_toArray, List.set_cons_zero, List.set_cons_succ]
      refine ord_take (i := 12) (v := ?_) (by kernel_rfl) rfl (by decide) (by kernel_rfl) (by kernel_rfl) (fun _ _ _ h => h) (Or.inl ⟨by rfl, ?_⟩) hx0 ?_
      rotate_left
      · intro wz hz; go_simp; (try with_reducible rfl)
      try simp only [Act.put, List.getElem_toArray, List.getElem_cons_zero, List.getElem_cons_succ, List.setIfInBounds_toArray, List.set_cons_zero, List.set_cons_succ]
      refine ord_step (i := 7) rfl (by decide) (by kernel_rfl) (by rfl) (fun K hK => ?_)
      go_simp
      refine (fmul_v (I_a.on hx0) (I_c.on hx0) (by decide) (by decide)).mono ?_
      rintro y X10_8_1 ⟨v_x, rfl, I_x, hb⟩
      have hx1 := bltB hx0 hx0.size hb
      clear hb hx0
      refine hK _ _ hx1 ?_
      clear hK K
      try simp only [Act.put, List.getElem_toArray, List.getElem_cons_zero, List.getElem_cons_succ, List.setIfInBounds_toArray, List.set_cons_zero, List.set_cons_succ]
      refine ord_step (i := 10) rfl (by decide) (by kernel_rfl) (by rfl) (fun K hK => ?_)
      go_simp
      refine (fmul_v (I_b.on hx1) (I_c.on hx1) (by decide) (by decide)).mono ?_
      rintro y X10_8_2 ⟨v_y, rfl, I_y, hb⟩
      replace I_x := I_x.on hb
      have hx2 := bltB hx1 hx1.size hb
      clear hb hx1
      refine hK _ _ hx2 ?_
      clear hK K
      try simp only [Act.put, List.getElem_toArray, List.getElem_cons_zero, List.getElem_cons_succ, List.setIfInBounds_toArray, List.set_cons_zero, List.set_cons_succ]
      refine ord_step (i := 11) rfl (by decide) (by kernel_rfl) (by rfl) (fun K hK => ?_)
      go_simp
      refine (fcmp_v I_x I_y (by decide) (by decide)).mono ?_
      rintro y X10_8_3 ⟨rfl, hb⟩
      rw [cmpQ_gt (Rat.mul_lt_mul_of_pos_right HQ.out hcp)]
      clear I_x
      clear I_y
      have hx3 := bltB hx2 hx2.size hb
      clear hb hx2
      refine hK _ _ hx3 ?_
      clear hK K
      try simp only [Act.put, List.getElem_toArray, List.getElem_cons_zero, List.getElem_cons_succ, List.setIfInBounds_toArray, List.set_cons_zero, List.set_cons_succ]
      refine ord_take (i := 13) (v := ?_) (by kernel_rfl) rfl (by decide) (by kernel_rfl) (by kernel_rfl) (fun _ _ _ h => h) (Or.inl ⟨by rfl, ?_⟩) hx3 ?_
      rotate_left
      · intro wz hz; go_simp; (try with_reducible rfl)
      try simp only [Act.put, List.getElem_toArray, List.getElem_cons_zero, List.getElem_cons_succ, List.setIfInBounds_toArray, List.set_cons_zero, List.set_cons_succ]
      refine ord_rest (by kernel_rfl) ?_
      refine wpAny_take (i := 14) (v := ?_) rfl (by kernel_rfl) (by kernel_rfl) (by kernel_rfl) (fun _ _ _ h => h) (Or.inl ⟨by rfl, ?_⟩) ?_
      rotate_left
      · intro wz; go_simp; (try with_reducible rfl)
      try simp only [Act.put, List.getElem_toArray, List.getElem_cons_zero, List.getElem_cons_succ, List.setIfInBounds_toArray, List.set_cons_zero, List.set_cons_succ]
      refine wpAny_done (by kernel_rfl) ?_ _
      refine NoPanic.normal ?_
      replace k_a := k_a.below hx3 k_a.lt
      replace k_b := k_b.below hx3 k_b.lt
      replace k_c := k_c.below hx3 k_c.lt
      replace I_a := I_a.on hx3
      replace I_b := I_b.on hx3
      replace I_c := I_c.on hx3
      replace I_d := I_d.on hx3
      replace k_d := k_d.below hx3 k_d.lt
      have hB11 := bltB hB10 hB10.size hx3
      clear hx3 hB10
      go_wp2_with fail
      refine wp_region_noPanic ?_
      refine ord_begin 16 (fun wx => Below X10_8_3.heap.size X10_8_3 wx) (by kernel_rfl) ?_
      have hx0 : Below X10_8_3.heap.size X10_8_3 X10_8_3.drew := (Below.refl _ _).drew
      refine ord_take (i := 0) (v := ?_) (by kernel_rfl) rfl (by decide) (by kernel_rfl) (by kernel_rfl) (fun _ _ _ h => h) (Or.inl ⟨by rfl, ?_⟩) hx0 ?_
      rotate_left
      · intro wz hz; go_simp; (try with_reducible rfl)
      try simp only [Act.put, List.getElem_toArray, List.getElem_cons_zero, List.getElem_cons_succ, List.setIfInBounds_toArray, List.set_cons_zero, List.set_cons_succ]
      refine ord_take (i := 1) (v := ?_) (by kernel_rfl) rfl (by decide) (by kernel_rfl) (by kernel_rfl) (fun _ _ _ h => h) (Or.inl ⟨by rfl, ?_⟩) hx0 ?_
      rotate_left
      · intro wz hz; go_simp; (try with_reducible rfl)
      try simp only [Act.put, List.getElem_toArray, List.getElem_cons_zero, List.getElem_cons_succ, List.setIfInBounds_toArray, List.set_cons_zero, List.set_cons_succ]
      refine ord_take (i := 2) (v := ?_) (by kernel_rfl) rfl (by decide) (by kernel_rfl) (by kernel_rfl) (fun _ _ _ h => h) (Or.inl ⟨by rfl, ?_⟩) hx0 ?_
      rotate_left
      · intro wz hz; go_simp; (try with_reducible rfl)
      try simp only [Act.put, List.getElem_toArray, List.getElem_cons_zero, List.getElem_cons_succ, List.setIfInBounds_toArray, List.set_cons_zero, List.set_cons_succ]
      refine ord_take (i := 3) (v := ?_) (by kernel_rfl) rfl (by decide) (by kernel_rfl) (by kernel_rfl) (fun _ _ _ h => h) (Or.inl ⟨by rfl, ?_⟩) hx0 ?_
      rotate_left
      · intro wz hz; go_simp; (try with_reducible rfl)
      try simp only [Act.put, List.getElem_toArray, List.getElem_cons_zero, List.getElem_cons_succ, List.setIfInBounds_toArray, List.set_cons_zero, List.set_cons_succ]
      refine ord_take (i := 4) (v := ?_) (by kernel_rfl) rfl (by decide) (by kernel_rfl) (by kernel_rfl) (fun _ _ _ h => h) (Or.inl ⟨by rfl, ?_⟩) hx0 ?_
      rotate_left
      · intro wz hz; go_simp; (try with_reducible rfl)
      try simp only [Act.put, List.getElem_toArray, List.getElem_cons_zero, List.getElem_cons_succ, List.setIfInBounds_toArray, List.set_cons_zero, List.set_cons_succ]
      refine ord_take (i := 5) (v := ?_) (by kernel_rfl) rfl (by decide) (by kernel_rfl) (by kernel_rfl) (fun _ _ _ h => h) (Or.inl ⟨by rfl, ?_⟩) hx0 ?_
      rotate_left
      · intro wz hz; have j := k_d.below hz k_d.lt; have q0 := j.cell 0; have q1 := j.cell 1; go_simp; (try with_reducible rfl)
      try simp only [Act.put, List.getElem_toArray, List.getElem_cons_zero, List.getElem_cons_succ, List.setIfInBounds_toArray, List.set_cons_zero, List.set_cons_succ]
      refine ord_take (i := 6) (v := ?_) (by kernel_rfl) rfl (by decide) (by kernel_rfl) (by kernel_rfl) (fun _ _ _ h => h) (Or.inl ⟨by rfl, ?_⟩) hx0 ?_
      rotate_left
      · intro wz hz; have j := k_b.below hz k_b.lt; have q0 := j.cell 0; have q1 := j.cell 1; go_simp; (try with_reducible rfl)
      try simp only [Act.put, List.getElem_toArray, List.getElem_cons_zero, List.getElem_cons_succ, List.setIfInBounds_toArray, List.set_cons_zero, List.set_cons_succ]
      refine ord_take (i := 8) (v := ?_) (by kernel_rfl) rfl (by decide) (by kernel_rfl) (by kernel_rfl) (fun _ _ _ h => h) (Or.inl ⟨by rfl, ?_⟩) hx0 ?_
      rotate_left
      · intro wz hz; have j := k_a.below hz k_a.lt; have q0 := j.cell 0; have q1 := j.cell 1; go_simp; (try with_reducible rfl)
      try simp only [Act.put, List.getElem_toArray, List.getElem_cons_zero, List.getElem_cons_succ, List.setIfInBounds_toArray, List.set_cons_zero, List.set_cons_succ]
      refine ord_step (i := 7) rfl (by decide) (by kernel_rfl) (by rfl) (fun K hK => ?_)
      go_simp
      refine (fadd_v (I_d.on hx0) (I_b.on hx0) (by decide) (by decide)).mono ?_
      rintro y X11_10_1 ⟨v_x, rfl, I_x, hb⟩
      have hx1 := bltB hx0 hx0.size hb
      clear hb hx0
      refine hK _ _ hx1 ?_
      clear hK K
      try simp only [Act.put, List.getElem_toArray, List.getElem_cons_zero, List.getElem_cons_succ, List.setIfInBounds_toArray, List.set_cons_zero, List.set_cons_succ]
      refine ord_step (i := 9) rfl (by decide) (by kernel_rfl) (by rfl) (fun K hK => ?_)
      go_simp
      refine (fsame_v I_x (I_a.on hx1) (by decide)).mono ?_
      rintro y X11_10_2 ⟨rfl, hb⟩
      rw [decide_eq_true (show q_a - q_b + q_b = q_a by grind)]
      clear I_x
      have hx2 := bltB hx1 hx1.size hb
      clear hb hx1
      refine hK _ _ hx2 ?_
      clear hK K
      try simp only [Act.put, List.getElem_toArray, List.getElem_cons_zero, List.getElem_cons_succ, List.setIfInBounds_toArray, List.set_cons_zero, List.set_cons_succ]
      refine ord_take (i := 10) (v := ?_) (by kernel_rfl) rfl (by decide) (by kernel_rfl) (by kernel_rfl) (fun _ _ _ h => h) (Or.inl ⟨by rfl, ?_⟩) hx2 ?_
      rotate_left
      · intro wz hz; go_simp; (try with_reducible rfl)
      try simp only [Act.put, List.getElem_toArray, List.getElem_cons_zero, List.getElem_cons_succ, List.setIfInBounds_toArray, List.set_cons_zero, List.set_cons_succ]
      refine ord_take (i := 11) (v := ?_) (by kernel_rfl) rfl (by decide) (by kernel_rfl) (by kernel_rfl) (fun _ _ _ h => h) (Or.inl ⟨by rfl, ?_⟩) hx2 ?_
      rotate_left
      · intro wz hz; go_simp; (try with_reducible rfl)
      try simp only [Act.put, List.getElem_toArray, List.getElem_cons_zero, List.getElem_cons_succ, List.setIfInBounds_toArray, List.set_cons_zero, List.set_cons_succ]
      refine ord_take (i := 12) (v := ?_) (by kernel_rfl) rfl (by decide) (by kernel_rfl) (by kernel_rfl) (fun _ _ _ h => h) (Or.inl ⟨by rfl, ?_⟩) hx2 ?_
      rotate_left
      · intro wz hz; go_simp; (try with_reducible rfl)
      try simp only [Act.put, List.getElem_toArray, List.getElem_cons_zero, List.getElem_cons_succ, List.setIfInBounds_toArray, List.set_cons_zero, List.set_cons_succ]
      refine ord_take (i := 13) (v := ?_) (by kernel_rfl) rfl (by decide) (by kernel_rfl) (by kernel_rfl) (fun _ _ _ h => h) (Or.inl ⟨by rfl, ?_⟩) hx2 ?_
      rotate_left
      · intro wz hz; have j := k_d.below hz k_d.lt; have q0 := j.cell 0; have q1 := j.cell 1; go_simp; (try with_reducible rfl)
      try simp only [Act.put, List.getElem_toArray, List.getElem_cons_zero, List.getElem_cons_succ, List.setIfInBounds_toArray, List.set_cons_zero, List.set_cons_succ]
      refine ord_step (i := 14) rfl (by decide) (by kernel_rfl) (by rfl) (fun K hK => ?_)
      go_simp
      refine (fright_v (I_d.on hx2) (by decide)).mono ?_
      rintro y X11_10_3 ⟨rfl, hb⟩
      have hx3 := bltB hx2 hx2.size hb
      clear hb hx2
      refine hK _ _ hx3 ?_
      clear hK K
      try simp only [Act.put, List.getElem_toArray, List.getElem_cons_zero, List.getElem_cons_succ, List.setIfInBounds_toArray, List.set_cons_zero, List.set_cons_succ]
      refine ord_take (i := 15) (v := ?_) (by kernel_rfl) rfl (by decide) (by kernel_rfl) (by kernel_rfl) (fun _ _ _ h => h) (Or.inl ⟨by rfl, ?_⟩) hx3 ?_
      rotate_left
      · intro wz hz; go_simp; (try with_reducible rfl)
      try simp only [Act.put, List.getElem_toArray, List.getElem_cons_zero, List.getElem_cons_succ, List.setIfInBounds_toArray, List.set_cons_zero, List.set_cons_succ]
      refine ord_rest (by kernel_rfl) ?_
      refine any_step (i := 16) rfl (by kernel_rfl) (by rfl) (fun K hK => ?_)
      go_simp
      refine hK _ _ ?_
      clear hK K
      try simp only [Act.put, List.getElem_toArray, List.getElem_cons_zero, List.getElem_cons_succ, List.setIfInBounds_toArray, List.set_cons_zero, List.set_cons_succ]
      refine wpAny_done (by kernel_rfl) ?_ _
      refine NoPanic.normal ?_
      replace k_a := k_a.below hx3 k_a.lt
      replace k_b := k_b.below hx3 k_b.lt
      replace k_c := k_c.below hx3 k_c.lt
      replace I_a := I_a.on hx3
      replace I_b := I_b.on hx3
      replace I_c := I_c.on hx3
      replace I_d := I_d.on hx3
      replace k_d := k_d.below hx3 k_d.lt
      have hB12 := bltB hB11 hB11.size hx3
      clear hx3 hB11
      go_wp2_with fail
      go_ret
      exact ⟨rfl, hB12⟩

end Go.Proofs.YthkgeafidbihmaaDoor
