/-
  The law FracLow: what its walk answers, whatever the numbers.
-/
import Derived.Test.YthkgeafidbihmaaDoorFsml
import Derived.Test.YthkgeafidbihmaaDoorFtxt
namespace Go.Proofs.YthkgeafidbihmaaDoor
open Go.RowKit Go.Shelf
set_option linter.unusedVariables false
set_option linter.unusedSimpArgs false
attribute [local go_sem] Oper.semAt_some

theorem low_cross (n d : Nat) (hd : 0 < d) : rn (mkRat n d) * d = rd (mkRat n d) * n := by
  rw [← low_rn n d hd, ← low_rd n d hd]
  have h1 := Nat.div_mul_cancel (Nat.gcd_dvd_left n d)
  have h2 := Nat.div_mul_cancel (Nat.gcd_dvd_right n d)
  have hg : 0 < Nat.gcd n d := Nat.gcd_pos_of_pos_right _ hd
  generalize n / Nat.gcd n d = a at *
  generalize d / Nat.gcd n d = b at *
  generalize Nat.gcd n d = g at *
  subst h1 h2
  rw [← Nat.mul_assoc, ← Nat.mul_assoc, Nat.mul_comm a b]
theorem mk_mul (n d k : Nat) (hk : 0 < k) : mkRat ((n * k : Nat) : Int) (d * k) = mkRat n d := by
  rw [← Rat.mkRat_mul_right (n := (n : Int)) (d := d) (a := k) (by omega)]
  congr 1
theorem mk_zero (n : Nat) : mkRat (n : Nat) 0 = 0 := Rat.mkRat_zero _
theorem mul_u32 {a b : Nat} (ha : a < 4294967296) (hb : b < 4294967296) : a * b < 18446744073709551616 := by
  have := Nat.mul_lt_mul'' ha hb
  omega
theorem mul_wrap {a b : Nat} (ha : a < 4294967296) (hb : b < 4294967296) : IntKind.u64.wrap ((a : Int) * (b : Int)) = ((a * b : Nat) : Int) := by
  have := mul_u32 ha hb
  rw [← Int.natCast_mul]
  exact IntWalk.u64_in _ (by omega)
theorem isq_nm {w : World} {A B' : Option Addr} {n c m d : Nat} {q : Rat} {b : Nat} (h : IsQ w (.agg #[.slice A n c, .slice B' m d]) q b) : n ≤ b ∧ m ≤ b := by
  obtain ⟨A2, n2, c2, B2, m2, d2, e, r, t, f⟩ := h
  injection e with e
  have e := congrArg Array.toList e
  simp only [List.cons.injEq, and_true, Value.slice.injEq] at e
  obtain ⟨⟨rfl, rfl, rfl⟩, rfl, rfl, rfl⟩ := e
  exact ⟨fq_n r f, fq_m t f⟩
theorem isq_n {w : World} {A B' : Option Addr} {n c m d : Nat} {q : Rat} {b : Nat} (h : IsQ w (.agg #[.slice A n c, .slice B' m d]) q b) : n ≤ b := (isq_nm h).1
theorem isq_m {w : World} {A B' : Option Addr} {n c m d : Nat} {q : Rat} {b : Nat} (h : IsQ w (.agg #[.slice A n c, .slice B' m d]) q b) : m ≤ b := (isq_nm h).2
theorem qTxt_zero : qTxt 0 = [48] := by
  unfold qTxt fTxt
  rw [rd_zero, if_pos rfl, rn_zero, Lib.decDigits_one (by decide)]
  rfl

set_option maxRecDepth 100000 in
set_option maxHeartbeats 4000000 in
theorem flow_any' (w : World) (hT : Tab w) (n d k : Nat) (hn : n < 4294967296) (hd : d < 4294967296) (hk : k < 4294967296) :
    Calls Tryd.prog 4 #[.int .u32 n, .int .u32 d, .int .u32 k] w fun e w' => e = .returned (.bool true) ∧ Below w.heap.size w w' := by
  have HT := Lib.hid hT
  clear hT
  have g1 := mul_wrap hn hk
  have g2 := mul_wrap hd hk
  have HB := Lib.hid (And.intro (mul_u32 hn hk) (mul_u32 hd hk))
  go_enter Tryd.func4, Tryd.ntmps4
  go_wp2_with fail
  refine (small_any w HT.out).mono ?_
  rintro y w1 ⟨rfl, hb⟩
  have hB1 := hb
  clear hb
  go_wp2_with fail
  obtain ⟨oa, hoa⟩ : ∃ z, decide (0 < d) = z := ⟨_, rfl⟩
  obtain ⟨ob, hob⟩ : ∃ z, decide (0 < d * k) = z := ⟨_, rfl⟩
  refine (fof_v w1 n d (by omega) (by omega)).mono ?_
  rintro y w2 ⟨v_a, rfl, I_a, hb⟩
  rw [hoa]
  have hB2 := bltB hB1 hB1.size hb
  clear hb hB1
  obtain ⟨A_a, n_a, c_a, B_a, m_a, d_a, rfl, hI⟩ := I_a
  have I_a : IsQ w2 (.agg #[.slice A_a n_a c_a, .slice B_a m_a d_a]) _ _ := ⟨_, _, _, _, _, _, rfl, hI⟩
  have R_a := hI.1
  have T_a := hI.2.1
  clear hI
  go_wp2_with fail
  obtain ⟨w3, hw3⟩ : ∃ W, W = w2.alloc (.cells #[.slice A_a n_a c_a, .slice B_a m_a d_a] 24) := ⟨_, rfl⟩
  obtain ⟨G_a, hG_a⟩ : ∃ G, w2.heap.size = G := ⟨_, rfl⟩
  have ha : Below w2.heap.size w2 w3 := by rw [hw3]; exact (Below.refl _ _).alloc (Nat.le_refl _) _
  have k_a : Blk w3 G_a 24 #[.slice A_a n_a c_a, .slice B_a m_a d_a] := by rw [hw3, ← hG_a]; exact Blk.new w2 _ _
  rw [← hw3]
  simp only [hG_a]
  clear hw3 hG_a
  replace I_a := I_a.on ha
  replace R_a := R_a.on ha
  replace T_a := T_a.on ha
  have hB3 := bltB hB2 hB2.size ha
  clear ha hB2
  refine (fof_v w3 (n * k) (d * k) HB.out.1 HB.out.2).mono ?_
  rintro y w4 ⟨v_b, rfl, I_b, hb⟩
  rw [hob]
  replace I_a := I_a.on hb
  replace R_a := R_a.on hb
  replace T_a := T_a.on hb
  replace k_a := k_a.below hb k_a.lt
  have hB4 := bltB hB3 hB3.size hb
  clear hb hB3
  obtain ⟨A_b, n_b, c_b, B_b, m_b, d_b, rfl, hI⟩ := I_b
  have I_b : IsQ w4 (.agg #[.slice A_b n_b c_b, .slice B_b m_b d_b]) _ _ := ⟨_, _, _, _, _, _, rfl, hI⟩
  clear hI
  clear g1 g2
  rcases Nat.eq_zero_or_pos d with hd0 | hd0
  · subst hd0
    have e1 : oa = false := by rw [← hoa]; rfl
    have e2 : ob = false := by rw [← hob, Nat.zero_mul]; rfl
    subst e1 e2
    clear hoa hob
    replace I_a := I_a.as (mk_zero n)
    have q_k_a_0 := k_a.cell 0
    have q_k_a_1 := k_a.cell 1
    have q_k_a_l := k_a.lt
    go_wp2_with fail
    clear q_k_a_0 q_k_a_1 q_k_a_l
    obtain ⟨w5, hw5⟩ : ∃ W, W = w4.alloc (.cells #[.slice A_b n_b c_b, .slice B_b m_b d_b] 24) := ⟨_, rfl⟩
    obtain ⟨G_b, hG_b⟩ : ∃ G, w4.heap.size = G := ⟨_, rfl⟩
    have ha : Below w4.heap.size w4 w5 := by rw [hw5]; exact (Below.refl _ _).alloc (Nat.le_refl _) _
    have k_b : Blk w5 G_b 24 #[.slice A_b n_b c_b, .slice B_b m_b d_b] := by rw [hw5, ← hG_b]; exact Blk.new w4 _ _
    rw [← hw5]
    simp only [hG_b]
    clear hw5 hG_b
    replace I_a := I_a.on ha
    replace R_a := R_a.on ha
    replace T_a := T_a.on ha
    replace k_a := k_a.below ha k_a.lt
    replace I_b := I_b.on ha
    have hB5 := bltB hB4 hB4.size ha
    clear ha hB4
    refine (ftext_v I_a (HT.out.on hB5) (by decide)).mono ?_
    rintro y w6 ⟨rfl, hb⟩
    replace I_a := I_a.on hb
    replace R_a := R_a.on hb
    replace T_a := T_a.on hb
    replace k_a := k_a.below hb k_a.lt
    replace I_b := I_b.on hb
    replace k_b := k_b.below hb k_b.lt
    have hB6 := bltB hB5 hB5.size hb
    clear hb hB5
    rw [txt, qTxt_zero]
    go_wp2_with fail
    go_ret
    exact ⟨rfl, hB6⟩
  · have e1 : oa = true := by rw [← hoa]; exact decide_eq_true hd0
    subst e1
    clear hoa
    have gd : ((d : Int) != 0) = true := by simp; omega
    have hx := Lib.hid (low_cross n d hd0)
    obtain ⟨q_a, hqa⟩ : ∃ q, mkRat (n : Int) d = q := ⟨_, rfl⟩
    rw [hqa] at I_a R_a T_a hx
    have HQ := Lib.hid hqa
    clear hqa
    rcases Nat.eq_zero_or_pos k with hk0 | hk0
    · subst hk0
      have e2 : ob = false := by rw [← hob, Nat.mul_zero]; rfl
      subst e2
      clear hob
      go_wp2_with fail
      obtain ⟨w5, hw5⟩ : ∃ W, W = w4.alloc (.cells #[.slice A_b n_b c_b, .slice B_b m_b d_b] 24) := ⟨_, rfl⟩
      obtain ⟨G_b, hG_b⟩ : ∃ G, w4.heap.size = G := ⟨_, rfl⟩
      have ha : Below w4.heap.size w4 w5 := by rw [hw5]; exact (Below.refl _ _).alloc (Nat.le_refl _) _
      have k_b : Blk w5 G_b 24 #[.slice A_b n_b c_b, .slice B_b m_b d_b] := by rw [hw5, ← hG_b]; exact Blk.new w4 _ _
      rw [← hw5]
      simp only [hG_b]
      clear hw5 hG_b
      replace I_a := I_a.on ha
      replace R_a := R_a.on ha
      replace T_a := T_a.on ha
      replace k_a := k_a.below ha k_a.lt
      replace I_b := I_b.on ha
      have hB5 := bltB hB4 hB4.size ha
      clear ha hB4
      have b_q : rn q_a < 4294967296 ^ 2 ∧ rd q_a < 4294967296 ^ 2 := ⟨rd_lt R_a (isq_n I_a), rd_lt T_a (isq_m I_a)⟩
      refine wp_region_noPanic ?_
      refine ord_begin 6 (fun wx => Below w5.heap.size w5 wx) (by kernel_rfl) ?_
      have hx0 : Below w5.heap.size w5 w5.drew := (Below.refl _ _).drew
      refine ord_take (i := 0) (v := ?_) (by kernel_rfl) rfl (by decide) (by kernel_rfl) (by kernel_rfl) (fun _ _ _ h => h) (Or.inl ⟨by rfl, ?_⟩) hx0 ?_
      rotate_left
      · intro wz hz; go_simp; (try with_reducible rfl)
      try simp only [Act.put, List.getElem_toArray, List.getElem_cons_zero, List.getElem_cons_succ, List.setIfInBounds_toArray, List.set_cons_zero, List.set_cons_succ]
      refine ord_take (i := 1) (v := ?_) (by kernel_rfl) rfl (by decide) (by kernel_rfl) (by kernel_rfl) (fun _ _ _ h => h) (Or.inl ⟨by rfl, ?_⟩) hx0 ?_
      rotate_left
      · intro wz hz; have j := k_a.below hz k_a.lt; have q0 := j.cell 0; have q1 := j.cell 1; go_simp; (try with_reducible rfl)
      try simp only [Act.put, List.getElem_toArray, List.getElem_cons_zero, List.getElem_cons_succ, List.setIfInBounds_toArray, List.set_cons_zero, List.set_cons_succ]
      refine ord_take (i := 2) (v := ?_) (by kernel_rfl) rfl (by decide) (by kernel_rfl) (by kernel_rfl) (fun _ _ _ h => h) (Or.inl ⟨by rfl, ?_⟩) hx0 ?_
      rotate_left
      · intro wz hz; go_simp; (try with_reducible rfl)
      try simp only [Act.put, List.getElem_toArray, List.getElem_cons_zero, List.getElem_cons_succ, List.setIfInBounds_toArray, List.set_cons_zero, List.set_cons_succ]
      refine ord_take (i := 3) (v := ?_) (by kernel_rfl) rfl (by decide) (by kernel_rfl) (by kernel_rfl) (fun _ _ _ h => h) (Or.inl ⟨by rfl, ?_⟩) hx0 ?_
      rotate_left
      · intro wz hz; go_simp; (try with_reducible rfl)
      try simp only [Act.put, List.getElem_toArray, List.getElem_cons_zero, List.getElem_cons_succ, List.setIfInBounds_toArray, List.set_cons_zero, List.set_cons_succ]
      refine ord_step (i := 4) rfl (by decide) (by kernel_rfl) (by rfl) (fun K hK => ?_)
      go_simp
      rw [show IntKind.u64.wrap (d : Int) = (d : Int) from IntWalk.u64_in _ (by omega)]
      refine (of_any w5.drew d (by omega)).mono ?_
      rintro y X5_8_1 ⟨A_x1, n_x1, c_x1, rfl, r_x1, hb⟩
      have n_x1_le : n_x1 ≤ 1 := rd_le r_x1 (by omega)
      have hx1 := bltB hx0 hx0.size hb
      clear hb hx0
      refine hK _ _ hx1 ?_
      clear hK K
      try simp only [Act.put, List.getElem_toArray, List.getElem_cons_zero, List.getElem_cons_succ, List.setIfInBounds_toArray, List.set_cons_zero, List.set_cons_succ]
      refine ord_step (i := 5) rfl (by decide) (by kernel_rfl) (by rfl) (fun K hK => ?_)
      go_simp
      refine (mul_any _ _ _ _ _ _ _ _ _ (R_a.on hx1) r_x1 (by have := isq_n I_a; omega) (by omega)).mono ?_
      rintro y X5_8_2 ⟨A_x, n_x, c_x, rfl, r_x, hb⟩
      clear r_x1
      rw [tv_digs, tv_digs] at r_x
      have hx2 := bltB hx1 hx1.size hb
      clear hb hx1
      refine hK _ _ hx2 ?_
      clear hK K
      try simp only [Act.put, List.getElem_toArray, List.getElem_cons_zero, List.getElem_cons_succ, List.setIfInBounds_toArray, List.set_cons_zero, List.set_cons_succ]
      refine ord_rest (by kernel_rfl) ?_
      refine any_step (i := 6) rfl (by kernel_rfl) (by rfl) (fun K hK => ?_)
      go_simp
      refine hK _ _ ?_
      clear hK K
      try simp only [Act.put, List.getElem_toArray, List.getElem_cons_zero, List.getElem_cons_succ, List.setIfInBounds_toArray, List.set_cons_zero, List.set_cons_succ]
      refine wpAny_done (by kernel_rfl) ?_ _
      refine NoPanic.normal ?_
      replace I_a := I_a.on hx2
      replace R_a := R_a.on hx2
      replace T_a := T_a.on hx2
      replace k_a := k_a.below hx2 k_a.lt
      replace I_b := I_b.on hx2
      replace k_b := k_b.below hx2 k_b.lt
      have hB6 := bltB hB5 hB5.size hx2
      clear hx2 hB5
      have n_x_le : n_x ≤ 3 := rd_le r_x (bd_mul (k := 1) b_q.1 (by omega))
      go_wp2_with fail
      refine wp_region_noPanic ?_
      refine ord_begin 6 (fun wx => Below X5_8_2.heap.size X5_8_2 wx) (by kernel_rfl) ?_
      have hx0 : Below X5_8_2.heap.size X5_8_2 X5_8_2.drew := (Below.refl _ _).drew
      refine ord_take (i := 0) (v := ?_) (by kernel_rfl) rfl (by decide) (by kernel_rfl) (by kernel_rfl) (fun _ _ _ h => h) (Or.inl ⟨by rfl, ?_⟩) hx0 ?_
      rotate_left
      · intro wz hz; go_simp; (try with_reducible rfl)
      try simp only [Act.put, List.getElem_toArray, List.getElem_cons_zero, List.getElem_cons_succ, List.setIfInBounds_toArray, List.set_cons_zero, List.set_cons_succ]
      refine ord_take (i := 1) (v := ?_) (by kernel_rfl) rfl (by decide) (by kernel_rfl) (by kernel_rfl) (fun _ _ _ h => h) (Or.inl ⟨by rfl, ?_⟩) hx0 ?_
      rotate_left
      · intro wz hz; have j := k_a.below hz k_a.lt; have q0 := j.cell 0; have q1 := j.cell 1; go_simp; (try with_reducible rfl)
      try simp only [Act.put, List.getElem_toArray, List.getElem_cons_zero, List.getElem_cons_succ, List.setIfInBounds_toArray, List.set_cons_zero, List.set_cons_succ]
      refine ord_take (i := 2) (v := ?_) (by kernel_rfl) rfl (by decide) (by kernel_rfl) (by kernel_rfl) (fun _ _ _ h => h) (Or.inl ⟨by rfl, ?_⟩) hx0 ?_
      rotate_left
      · intro wz hz; go_simp; (try with_reducible rfl)
      try simp only [Act.put, List.getElem_toArray, List.getElem_cons_zero, List.getElem_cons_succ, List.setIfInBounds_toArray, List.set_cons_zero, List.set_cons_succ]
      refine ord_take (i := 3) (v := ?_) (by kernel_rfl) rfl (by decide) (by kernel_rfl) (by kernel_rfl) (fun _ _ _ h => h) (Or.inl ⟨by rfl, ?_⟩) hx0 ?_
      rotate_left
      · intro wz hz; go_simp; (try with_reducible rfl)
      try simp only [Act.put, List.getElem_toArray, List.getElem_cons_zero, List.getElem_cons_succ, List.setIfInBounds_toArray, List.set_cons_zero, List.set_cons_succ]
      refine ord_step (i := 4) rfl (by decide) (by kernel_rfl) (by rfl) (fun K hK => ?_)
      go_simp
      rw [show IntKind.u64.wrap (n : Int) = (n : Int) from IntWalk.u64_in _ (by omega)]
      refine (of_any X5_8_2.drew n (by omega)).mono ?_
      rintro y X6_9_1 ⟨A_y1, n_y1, c_y1, rfl, r_y1, hb⟩
      have n_y1_le : n_y1 ≤ 1 := rd_le r_y1 (by omega)
      have hx1 := bltB hx0 hx0.size hb
      clear hb hx0
      refine hK _ _ hx1 ?_
      clear hK K
      try simp only [Act.put, List.getElem_toArray, List.getElem_cons_zero, List.getElem_cons_succ, List.setIfInBounds_toArray, List.set_cons_zero, List.set_cons_succ]
      refine ord_step (i := 5) rfl (by decide) (by kernel_rfl) (by rfl) (fun K hK => ?_)
      go_simp
      refine (mul_any _ _ _ _ _ _ _ _ _ (T_a.on hx1) r_y1 (by have := isq_m I_a; omega) (by omega)).mono ?_
      rintro y X6_9_2 ⟨A_y, n_y, c_y, rfl, r_y, hb⟩
      clear r_y1
      rw [tv_digs, tv_digs] at r_y
      have hx2 := bltB hx1 hx1.size hb
      clear hb hx1
      refine hK _ _ hx2 ?_
      clear hK K
      try simp only [Act.put, List.getElem_toArray, List.getElem_cons_zero, List.getElem_cons_succ, List.setIfInBounds_toArray, List.set_cons_zero, List.set_cons_succ]
      refine ord_rest (by kernel_rfl) ?_
      refine any_step (i := 6) rfl (by kernel_rfl) (by rfl) (fun K hK => ?_)
      go_simp
      refine hK _ _ ?_
      clear hK K
      try simp only [Act.put, List.getElem_toArray, List.getElem_cons_zero, List.getElem_cons_succ, List.setIfInBounds_toArray, List.set_cons_zero, List.set_cons_succ]
      refine wpAny_done (by kernel_rfl) ?_ _
      refine NoPanic.normal ?_
      replace I_a := I_a.on hx2
      replace R_a := R_a.on hx2
      replace T_a := T_a.on hx2
      replace k_a := k_a.below hx2 k_a.lt
      replace I_b := I_b.on hx2
      replace k_b := k_b.below hx2 k_b.lt
      replace r_x := r_x.on hx2
      have hB7 := bltB hB6 hB6.size hx2
      clear hx2 hB6
      have n_y_le : n_y ≤ 3 := rd_le r_y (bd_mul (k := 1) b_q.2 (by omega))
      have q_k_a_0 := k_a.cell 0
      have q_k_a_1 := k_a.cell 1
      have q_k_a_l := k_a.lt
      go_wp2_with fail
      clear q_k_a_0 q_k_a_1 q_k_a_l
      refine (fright_v I_a (by decide)).mono ?_
      rintro y w8 ⟨rfl, hb⟩
      replace I_a := I_a.on hb
      replace R_a := R_a.on hb
      replace T_a := T_a.on hb
      replace k_a := k_a.below hb k_a.lt
      replace I_b := I_b.on hb
      replace k_b := k_b.below hb k_b.lt
      replace r_x := r_x.on hb
      replace r_y := r_y.on hb
      have hB8 := bltB hB7 hB7.size hb
      clear hb hB7
      go_wp2_with fail
      refine (cmp_any _ _ _ _ _ _ _ _ _ r_x r_y (by omega) (by omega)).mono ?_
      rintro y w9 ⟨rfl, hb⟩
      replace I_a := I_a.on hb
      replace R_a := R_a.on hb
      replace T_a := T_a.on hb
      replace k_a := k_a.below hb k_a.lt
      replace I_b := I_b.on hb
      replace k_b := k_b.below hb k_b.lt
      replace r_x := r_x.on hb
      replace r_y := r_y.on hb
      have hB9 := bltB hB8 hB8.size hb
      clear hb hB8
      rw [tv_digs, tv_digs, cmp_eq hx.out]
      go_wp2_with fail
      go_ret
      exact ⟨rfl, hB9⟩
    · have e2 : ob = true := by rw [← hob]; exact decide_eq_true (Nat.mul_pos hd0 hk0)
      subst e2
      clear hob
      have gk : ((k : Int) != 0) = true := by simp; omega
      go_wp2_with fail
      obtain ⟨w5, hw5⟩ : ∃ W, W = w4.alloc (.cells #[.slice A_b n_b c_b, .slice B_b m_b d_b] 24) := ⟨_, rfl⟩
      obtain ⟨G_b, hG_b⟩ : ∃ G, w4.heap.size = G := ⟨_, rfl⟩
      have ha : Below w4.heap.size w4 w5 := by rw [hw5]; exact (Below.refl _ _).alloc (Nat.le_refl _) _
      have k_b : Blk w5 G_b 24 #[.slice A_b n_b c_b, .slice B_b m_b d_b] := by rw [hw5, ← hG_b]; exact Blk.new w4 _ _
      rw [← hw5]
      simp only [hG_b]
      clear hw5 hG_b
      replace I_a := I_a.on ha
      replace R_a := R_a.on ha
      replace T_a := T_a.on ha
      replace k_a := k_a.below ha k_a.lt
      replace I_b := I_b.on ha
      have hB5 := bltB hB4 hB4.size ha
      clear ha hB4
      have b_q : rn q_a < 4294967296 ^ 2 ∧ rd q_a < 4294967296 ^ 2 := ⟨rd_lt R_a (isq_n I_a), rd_lt T_a (isq_m I_a)⟩
      refine wp_region_noPanic ?_
      refine ord_begin 6 (fun wx => Below w5.heap.size w5 wx) (by kernel_rfl) ?_
      have hx0 : Below w5.heap.size w5 w5.drew := (Below.refl _ _).drew
      refine ord_take (i := 0) (v := ?_) (by kernel_rfl) rfl (by decide) (by kernel_rfl) (by kernel_rfl) (fun _ _ _ h => h) (Or.inl ⟨by rfl, ?_⟩) hx0 ?_
      rotate_left
      · intro wz hz; go_simp; (try with_reducible rfl)
      try simp only [Act.put, List.getElem_toArray, List.getElem_cons_zero, List.getElem_cons_succ, List.setIfInBounds_toArray, List.set_cons_zero, List.set_cons_succ]
      refine ord_take (i := 1) (v := ?_) (by kernel_rfl) rfl (by decide) (by kernel_rfl) (by kernel_rfl) (fun _ _ _ h => h) (Or.inl ⟨by rfl, ?_⟩) hx0 ?_
      rotate_left
      · intro wz hz; have j := k_a.below hz k_a.lt; have q0 := j.cell 0; have q1 := j.cell 1; go_simp; (try with_reducible rfl)
      try simp only [Act.put, List.getElem_toArray, List.getElem_cons_zero, List.getElem_cons_succ, List.setIfInBounds_toArray, List.set_cons_zero, List.set_cons_succ]
      refine ord_take (i := 2) (v := ?_) (by kernel_rfl) rfl (by decide) (by kernel_rfl) (by kernel_rfl) (fun _ _ _ h => h) (Or.inl ⟨by rfl, ?_⟩) hx0 ?_
      rotate_left
      · intro wz hz; go_simp; (try with_reducible rfl)
      try simp only [Act.put, List.getElem_toArray, List.getElem_cons_zero, List.getElem_cons_succ, List.setIfInBounds_toArray, List.set_cons_zero, List.set_cons_succ]
      refine ord_take (i := 3) (v := ?_) (by kernel_rfl) rfl (by decide) (by kernel_rfl) (by kernel_rfl) (fun _ _ _ h => h) (Or.inl ⟨by rfl, ?_⟩) hx0 ?_
      rotate_left
      · intro wz hz; go_simp; (try with_reducible rfl)
      try simp only [Act.put, List.getElem_toArray, List.getElem_cons_zero, List.getElem_cons_succ, List.setIfInBounds_toArray, List.set_cons_zero, List.set_cons_succ]
      refine ord_step (i := 4) rfl (by decide) (by kernel_rfl) (by rfl) (fun K hK => ?_)
      go_simp
      rw [show IntKind.u64.wrap (d : Int) = (d : Int) from IntWalk.u64_in _ (by omega)]
      refine (of_any w5.drew d (by omega)).mono ?_
      rintro y X5_8_1 ⟨A_x1, n_x1, c_x1, rfl, r_x1, hb⟩
      have n_x1_le : n_x1 ≤ 1 := rd_le r_x1 (by omega)
      have hx1 := bltB hx0 hx0.size hb
      clear hb hx0
      refine hK _ _ hx1 ?_
      clear hK K
      try simp only [Act.put, List.getElem_toArray, List.getElem_cons_zero, List.getElem_cons_succ, List.setIfInBounds_toArray, List.set_cons_zero, List.set_cons_succ]
      refine ord_step (i := 5) rfl (by decide) (by kernel_rfl) (by rfl) (fun K hK => ?_)
      go_simp
      refine (mul_any _ _ _ _ _ _ _ _ _ (R_a.on hx1) r_x1 (by have := isq_n I_a; omega) (by omega)).mono ?_
      rintro y X5_8_2 ⟨A_x, n_x, c_x, rfl, r_x, hb⟩
      clear r_x1
      rw [tv_digs, tv_digs] at r_x
      have hx2 := bltB hx1 hx1.size hb
      clear hb hx1
      refine hK _ _ hx2 ?_
      clear hK K
      try simp only [Act.put, List.getElem_toArray, List.getElem_cons_zero, List.getElem_cons_succ, List.setIfInBounds_toArray, List.set_cons_zero, List.set_cons_succ]
      refine ord_rest (by kernel_rfl) ?_
      refine any_step (i := 6) rfl (by kernel_rfl) (by rfl) (fun K hK => ?_)
      go_simp
      refine hK _ _ ?_
      clear hK K
      try simp only [Act.put, List.getElem_toArray, List.getElem_cons_zero, List.getElem_cons_succ, List.setIfInBounds_toArray, List.set_cons_zero, List.set_cons_succ]
      refine wpAny_done (by kernel_rfl) ?_ _
      refine NoPanic.normal ?_
      replace I_a := I_a.on hx2
      replace R_a := R_a.on hx2
      replace T_a := T_a.on hx2
      replace k_a := k_a.below hx2 k_a.lt
      replace I_b := I_b.on hx2
      replace k_b := k_b.below hx2 k_b.lt
      have hB6 := bltB hB5 hB5.size hx2
      clear hx2 hB5
      have n_x_le : n_x ≤ 3 := rd_le r_x (bd_mul (k := 1) b_q.1 (by omega))
      go_wp2_with fail
      refine wp_region_noPanic ?_
      refine ord_begin 6 (fun wx => Below X5_8_2.heap.size X5_8_2 wx) (by kernel_rfl) ?_
      have hx0 : Below X5_8_2.heap.size X5_8_2 X5_8_2.drew := (Below.refl _ _).drew
      refine ord_take (i := 0) (v := ?_) (by kernel_rfl) rfl (by decide) (by kernel_rfl) (by kernel_rfl) (fun _ _ _ h => h) (Or.inl ⟨by rfl, ?_⟩) hx0 ?_
      rotate_left
      · intro wz hz; go_simp; (try with_reducible rfl)
      try simp only [Act.put, List.getElem_toArray, List.getElem_cons_zero, List.getElem_cons_succ, List.setIfInBounds_toArray, List.set_cons_zero, List.set_cons_succ]
      refine ord_take (i := 1) (v := ?_) (by kernel_rfl) rfl (by decide) (by kernel_rfl) (by kernel_rfl) (fun _ _ _ h => h) (Or.inl ⟨by rfl, ?_⟩) hx0 ?_
      rotate_left
      · intro wz hz; have j := k_a.below hz k_a.lt; have q0 := j.cell 0; have q1 := j.cell 1; go_simp; (try with_reducible rfl)
      try simp only [Act.put, List.getElem_toArray, List.getElem_cons_zero, List.getElem_cons_succ, List.setIfInBounds_toArray, List.set_cons_zero, List.set_cons_succ]
      refine ord_take (i := 2) (v := ?_) (by kernel_rfl) rfl (by decide) (by kernel_rfl) (by kernel_rfl) (fun _ _ _ h => h) (Or.inl ⟨by rfl, ?_⟩) hx0 ?_
      rotate_left
      · intro wz hz; go_simp; (try with_reducible rfl)
      try simp only [Act.put, List.getElem_toArray, List.getElem_cons_zero, List.getElem_cons_succ, List.setIfInBounds_toArray, List.set_cons_zero, List.set_cons_succ]
      refine ord_take (i := 3) (v := ?_) (by kernel_rfl) rfl (by decide) (by kernel_rfl) (by kernel_rfl) (fun _ _ _ h => h) (Or.inl ⟨by rfl, ?_⟩) hx0 ?_
      rotate_left
      · intro wz hz; go_simp; (try with_reducible rfl)
      try simp only [Act.put, List.getElem_toArray, List.getElem_cons_zero, List.getElem_cons_succ, List.setIfInBounds_toArray, List.set_cons_zero, List.set_cons_succ]
      refine ord_step (i := 4) rfl (by decide) (by kernel_rfl) (by rfl) (fun K hK => ?_)
      go_simp
      rw [show IntKind.u64.wrap (n : Int) = (n : Int) from IntWalk.u64_in _ (by omega)]
      refine (of_any X5_8_2.drew n (by omega)).mono ?_
      rintro y X6_9_1 ⟨A_y1, n_y1, c_y1, rfl, r_y1, hb⟩
      have n_y1_le : n_y1 ≤ 1 := rd_le r_y1 (by omega)
      have hx1 := bltB hx0 hx0.size hb
      clear hb hx0
      refine hK _ _ hx1 ?_
      clear hK K
      try simp only [Act.put, List.getElem_toArray, List.getElem_cons_zero, List.getElem_cons_succ, List.setIfInBounds_toArray, List.set_cons_zero, List.set_cons_succ]
      refine ord_step (i := 5) rfl (by decide) (by kernel_rfl) (by rfl) (fun K hK => ?_)
      go_simp
      refine (mul_any _ _ _ _ _ _ _ _ _ (T_a.on hx1) r_y1 (by have := isq_m I_a; omega) (by omega)).mono ?_
      rintro y X6_9_2 ⟨A_y, n_y, c_y, rfl, r_y, hb⟩
      clear r_y1
      rw [tv_digs, tv_digs] at r_y
      have hx2 := bltB hx1 hx1.size hb
      clear hb hx1
      refine hK _ _ hx2 ?_
      clear hK K
      try simp only [Act.put, List.getElem_toArray, List.getElem_cons_zero, List.getElem_cons_succ, List.setIfInBounds_toArray, List.set_cons_zero, List.set_cons_succ]
      refine ord_rest (by kernel_rfl) ?_
      refine any_step (i := 6) rfl (by kernel_rfl) (by rfl) (fun K hK => ?_)
      go_simp
      refine hK _ _ ?_
      clear hK K
      try simp only [Act.put, List.getElem_toArray, List.getElem_cons_zero, List.getElem_cons_succ, List.setIfInBounds_toArray, List.set_cons_zero, List.set_cons_succ]
      refine wpAny_done (by kernel_rfl) ?_ _
      refine NoPanic.normal ?_
      replace I_a := I_a.on hx2
      replace R_a := R_a.on hx2
      replace T_a := T_a.on hx2
      replace k_a := k_a.below hx2 k_a.lt
      replace I_b := I_b.on hx2
      replace k_b := k_b.below hx2 k_b.lt
      replace r_x := r_x.on hx2
      have hB7 := bltB hB6 hB6.size hx2
      clear hx2 hB6
      have n_y_le : n_y ≤ 3 := rd_le r_y (bd_mul (k := 1) b_q.2 (by omega))
      have q_k_a_0 := k_a.cell 0
      have q_k_a_1 := k_a.cell 1
      have q_k_a_l := k_a.lt
      go_wp2_with fail
      clear q_k_a_0 q_k_a_1 q_k_a_l
      refine (fright_v I_a (by decide)).mono ?_
      rintro y w8 ⟨rfl, hb⟩
      replace I_a := I_a.on hb
      replace R_a := R_a.on hb
      replace T_a := T_a.on hb
      replace k_a := k_a.below hb k_a.lt
      replace I_b := I_b.on hb
      replace k_b := k_b.below hb k_b.lt
      replace r_x := r_x.on hb
      replace r_y := r_y.on hb
      have hB8 := bltB hB7 hB7.size hb
      clear hb hB7
      go_wp2_with fail
      refine (cmp_any _ _ _ _ _ _ _ _ _ r_x r_y (by omega) (by omega)).mono ?_
      rintro y w9 ⟨rfl, hb⟩
      replace I_a := I_a.on hb
      replace R_a := R_a.on hb
      replace T_a := T_a.on hb
      replace k_a := k_a.below hb k_a.lt
      replace I_b := I_b.on hb
      replace k_b := k_b.below hb k_b.lt
      replace r_x := r_x.on hb
      replace r_y := r_y.on hb
      have hB9 := bltB hB8 hB8.size hb
      clear hb hB8
      rw [tv_digs, tv_digs, cmp_eq hx.out]
      have q_k_a_0 := k_a.cell 0
      have q_k_a_1 := k_a.cell 1
      have q_k_a_l := k_a.lt
      have q_k_b_0 := k_b.cell 0
      have q_k_b_1 := k_b.cell 1
      have q_k_b_l := k_b.lt
      go_wp2_with fail
      clear q_k_a_0 q_k_a_1 q_k_a_l q_k_b_0 q_k_b_1 q_k_b_l
      replace I_b := I_b.as ((mk_mul n d k hk0).trans HQ.out)
      refine (fsame_v I_a I_b (by decide)).mono ?_
      rintro y w10 ⟨rfl, hb⟩
      replace I_a := I_a.on hb
      replace R_a := R_a.on hb
      replace T_a := T_a.on hb
      replace k_a := k_a.below hb k_a.lt
      replace I_b := I_b.on hb
      replace k_b := k_b.below hb k_b.lt
      replace r_x := r_x.on hb
      replace r_y := r_y.on hb
      have hB10 := bltB hB9 hB9.size hb
      clear hb hB9
      rw [decide_eq_true (show q_a = q_a from rfl)]
      go_wp2_with fail
      go_ret
      exact ⟨rfl, hB10⟩

end Go.Proofs.YthkgeafidbihmaaDoor
