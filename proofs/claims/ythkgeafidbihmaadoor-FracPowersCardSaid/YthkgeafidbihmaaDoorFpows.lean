/-
  The law FracPowers: what its walk answers, whatever the digits and the powers.
-/
import Derived.Test.YthkgeafidbihmaaDoorFsml
import Derived.Test.YthkgeafidbihmaaDoorFtxt
namespace Go.Proofs.YthkgeafidbihmaaDoor
open Go.RowKit Go.Shelf
set_option linter.unusedVariables false
set_option linter.unusedSimpArgs false
attribute [local go_sem] Oper.semAt_some

theorem qpow_add (q : Rat) (i : Nat) : ∀ j : Nat, q ^ (i + j) = q ^ i * q ^ j
  | 0 => by rw [Nat.add_zero, Rat.pow_zero, Rat.mul_one]
  | j + 1 => by rw [← Nat.add_assoc, Rat.pow_succ, Rat.pow_succ, qpow_add q i j, Rat.mul_assoc]
theorem qmul_pow (p q : Rat) : ∀ i : Nat, (p * q) ^ i = p ^ i * q ^ i
  | 0 => by rw [Rat.pow_zero, Rat.pow_zero, Rat.pow_zero, Rat.mul_one]
  | i + 1 => by rw [Rat.pow_succ, Rat.pow_succ, Rat.pow_succ, qmul_pow p q i]; grind

set_option maxRecDepth 100000 in
set_option maxHeartbeats 4000000 in
theorem fpows_any (w : World) (hT : Tab w) (A_a B_a : Option Addr) (n_a c_a m_a d_a : Nat) (l_a j_a : List Nat) (r_a : Rd w w.heap.size A_a n_a c_a l_a) (t_a : Rd w w.heap.size B_a m_a d_a j_a) (g_a : n_a ≤ 9223372036854775807) (h_a : m_a ≤ 9223372036854775807) (A_b B_b : Option Addr) (n_b c_b m_b d_b : Nat) (l_b j_b : List Nat) (r_b : Rd w w.heap.size A_b n_b c_b l_b) (t_b : Rd w w.heap.size B_b m_b d_b j_b) (g_b : n_b ≤ 9223372036854775807) (h_b : m_b ≤ 9223372036854775807) (x y : Nat) (hx : x < 256) (hy : y < 256) :
    Calls Tryd.prog 7 #[.agg #[.slice A_a n_a c_a, .slice B_a m_a d_a], .agg #[.slice A_b n_b c_b, .slice B_b m_b d_b], .int .u8 x, .int .u8 y] w fun e w' => e = .returned (.bool true) ∧ Below w.heap.size w w' := by
  have HT := Lib.hid hT
  clear hT
  obtain ⟨w0, hw0⟩ : ∃ W, W = ((w.alloc (.cells #[.slice A_a n_a c_a, .slice B_a m_a d_a] 24)).alloc (.cells #[.slice A_b n_b c_b, .slice B_b m_b d_b] 24)) := ⟨_, rfl⟩
  have hB0 : Below w.heap.size w w0 := by rw [hw0]; exact (((Below.refl _ _).alloc (Nat.le_refl _) _).alloc (by simp; try omega) _)
  have k_a : Blk w0 w.heap.size 24 #[.slice A_a n_a c_a, .slice B_a m_a d_a] := by
    rw [hw0]
    have := Blk.new w 24 #[.slice A_a n_a c_a, .slice B_a m_a d_a]
    exact (this.alloc _)
  have k_b : Blk w0 (w.heap.size + 1) 24 #[.slice A_b n_b c_b, .slice B_b m_b d_b] := by
    rw [hw0]
    have := Blk.new (w.alloc (.cells #[.slice A_a n_a c_a, .slice B_a m_a d_a] 24)) 24 #[.slice A_b n_b c_b, .slice B_b m_b d_b]
    rw [World.size_alloc] at this
    exact this
  replace r_a := r_a.on hB0
  replace t_a := t_a.on hB0
  replace r_b := r_b.on hB0
  replace t_b := t_b.on hB0
  go_enter Tryd.func7, Tryd.ntmps7
  go_wp2_with fail
  rw [← hw0]
  clear hw0
  refine (small_any w0 (HT.out.on hB0)).mono ?_
  rintro y w1 ⟨rfl, hb⟩
  replace k_a := k_a.below hb k_a.lt
  replace k_b := k_b.below hb k_b.lt
  replace r_a := r_a.on hb
  replace t_a := t_a.on hb
  replace r_b := r_b.on hb
  replace t_b := t_b.on hb
  have hB1 := bltB hB0 hB0.size hb
  clear hb hB0
  have q_k_a_0 := k_a.cell 0
  have q_k_a_1 := k_a.cell 1
  have q_k_a_l := k_a.lt
  have q_k_b_0 := k_b.cell 0
  have q_k_b_1 := k_b.cell 1
  have q_k_b_l := k_b.lt
  go_wp2_with fail
  clear q_k_a_0 q_k_a_1 q_k_a_l q_k_b_0 q_k_b_1 q_k_b_l
  refine (few_any w1 _ _ _ _ _ _ _ _ _ _ _ _ g_a h_a g_b h_b).mono ?_
  rintro y w2 ⟨rfl, hb⟩
  replace k_a := k_a.below hb k_a.lt
  replace k_b := k_b.below hb k_b.lt
  replace r_a := r_a.on hb
  replace t_a := t_a.on hb
  replace r_b := r_b.on hb
  replace t_b := t_b.on hb
  have hB2 := bltB hB1 hB1.size hb
  clear hb hB1
  rcases hf : (fewB n_a m_a && fewB n_b m_b) with _ | _
  · clear hf
    go_wp2_with fail
    go_ret
    exact ⟨rfl, hB2⟩
  have hle := few_le2 hf
  clear hf
  have le_a : n_a ≤ 12 ∧ m_a ≤ 12 := hle.1
  have le_b : n_b ≤ 12 ∧ m_b ≤ 12 := hle.2
  clear hle
  have f_a : FQ l_a j_a (frQ l_a j_a) 12 := FQ.self (by have := r_a.len; omega) (by have := t_a.len; omega)
  have f_b : FQ l_b j_b (frQ l_b j_b) 12 := FQ.self (by have := r_b.len; omega) (by have := t_b.len; omega)
  obtain ⟨q_a, hqa⟩ : ∃ q, frQ l_a j_a = q := ⟨_, rfl⟩
  obtain ⟨q_b, hqb⟩ : ∃ q, frQ l_b j_b = q := ⟨_, rfl⟩
  rw [hqa] at f_a
  rw [hqb] at f_b
  clear hqa hqb le_a le_b
  obtain ⟨i, hi⟩ : ∃ i, i = x % 9 := ⟨_, rfl⟩
  obtain ⟨j, hj⟩ : ∃ j, j = y % 9 := ⟨_, rfl⟩
  have gi : i ≤ 8 := by omega
  have gj : j ≤ 8 := by omega
  have q_k_a_0 := k_a.cell 0
  have q_k_a_1 := k_a.cell 1
  have q_k_a_l := k_a.lt
  have q_k_b_0 := k_b.cell 0
  have q_k_b_1 := k_b.cell 1
  have q_k_b_l := k_b.lt
  go_wp2_with fail
  clear q_k_a_0 q_k_a_1 q_k_a_l q_k_b_0 q_k_b_1 q_k_b_l
  rw [show (x : Int) % 9 = ((i : Nat) : Int) by omega, show (y : Int) % 9 = ((j : Nat) : Int) by omega]
  have HI := Lib.hid (And.intro hi hj)
  clear hi hj
  refine ((fpow_q r_a t_a f_a (by decide) i (by omega)).mono fun _ _ h => h.v).mono ?_
  rintro y w3 ⟨v_x, rfl, I_x, hb⟩
  replace k_a := k_a.below hb k_a.lt
  replace k_b := k_b.below hb k_b.lt
  replace r_a := r_a.on hb
  replace t_a := t_a.on hb
  replace r_b := r_b.on hb
  replace t_b := t_b.on hb
  have hB3 := bltB hB2 hB2.size hb
  clear hb hB2
  replace I_x := I_x.more (show _ ≤ 105 by omega)
  obtain ⟨A_x, n_x, c_x, B_x, m_x, d_x, rfl, hI⟩ := I_x
  have I_x : IsQ w3 (.agg #[.slice A_x n_x c_x, .slice B_x m_x d_x]) _ _ := ⟨_, _, _, _, _, _, rfl, hI⟩
  clear hI
  have q_k_a_0 := k_a.cell 0
  have q_k_a_1 := k_a.cell 1
  have q_k_a_l := k_a.lt
  go_wp2_with fail
  clear q_k_a_0 q_k_a_1 q_k_a_l
  obtain ⟨w4, hw4⟩ : ∃ W, W = w3.alloc (.cells #[.slice A_x n_x c_x, .slice B_x m_x d_x] 24) := ⟨_, rfl⟩
  obtain ⟨G_x, hG_x⟩ : ∃ G, w3.heap.size = G := ⟨_, rfl⟩
  have ha : Below w3.heap.size w3 w4 := by rw [hw4]; exact (Below.refl _ _).alloc (Nat.le_refl _) _
  have k_x : Blk w4 G_x 24 #[.slice A_x n_x c_x, .slice B_x m_x d_x] := by rw [hw4, ← hG_x]; exact Blk.new w3 _ _
  rw [← hw4]
  simp only [hG_x]
  clear hw4 hG_x
  replace k_a := k_a.below ha k_a.lt
  replace k_b := k_b.below ha k_b.lt
  replace r_a := r_a.on ha
  replace t_a := t_a.on ha
  replace r_b := r_b.on ha
  replace t_b := t_b.on ha
  replace I_x := I_x.on ha
  have hB4 := bltB hB3 hB3.size ha
  clear ha hB3
  refine ((fpow_q r_a t_a f_a (by decide) j (by omega)).mono fun _ _ h => h.v).mono ?_
  rintro y w5 ⟨v_y, rfl, I_y, hb⟩
  replace k_a := k_a.below hb k_a.lt
  replace k_b := k_b.below hb k_b.lt
  replace r_a := r_a.on hb
  replace t_a := t_a.on hb
  replace r_b := r_b.on hb
  replace t_b := t_b.on hb
  replace I_x := I_x.on hb
  replace k_x := k_x.below hb k_x.lt
  have hB5 := bltB hB4 hB4.size hb
  clear hb hB4
  replace I_y := I_y.more (show _ ≤ 105 by omega)
  obtain ⟨A_y, n_y, c_y, B_y, m_y, d_y, rfl, hI⟩ := I_y
  have I_y : IsQ w5 (.agg #[.slice A_y n_y c_y, .slice B_y m_y d_y]) _ _ := ⟨_, _, _, _, _, _, rfl, hI⟩
  clear hI
  have q_k_a_0 := k_a.cell 0
  have q_k_a_1 := k_a.cell 1
  have q_k_a_l := k_a.lt
  go_wp2_with fail
  clear q_k_a_0 q_k_a_1 q_k_a_l
  obtain ⟨w6, hw6⟩ : ∃ W, W = w5.alloc (.cells #[.slice A_y n_y c_y, .slice B_y m_y d_y] 24) := ⟨_, rfl⟩
  obtain ⟨G_y, hG_y⟩ : ∃ G, w5.heap.size = G := ⟨_, rfl⟩
  have ha : Below w5.heap.size w5 w6 := by rw [hw6]; exact (Below.refl _ _).alloc (Nat.le_refl _) _
  have k_y : Blk w6 G_y 24 #[.slice A_y n_y c_y, .slice B_y m_y d_y] := by rw [hw6, ← hG_y]; exact Blk.new w5 _ _
  rw [← hw6]
  simp only [hG_y]
  clear hw6 hG_y
  replace k_a := k_a.below ha k_a.lt
  replace k_b := k_b.below ha k_b.lt
  replace r_a := r_a.on ha
  replace t_a := t_a.on ha
  replace r_b := r_b.on ha
  replace t_b := t_b.on ha
  replace I_x := I_x.on ha
  replace k_x := k_x.below ha k_x.lt
  replace I_y := I_y.on ha
  have hB6 := bltB hB5 hB5.size ha
  clear ha hB5
  rw [show (i : Int) + (j : Int) = ((i + j : Nat) : Int) by omega]
  refine ((fpow_q r_a t_a f_a (by decide) (i + j) (by omega)).mono fun _ _ h => h.v).mono ?_
  rintro y w7 ⟨v_z, rfl, I_z, hb⟩
  replace k_a := k_a.below hb k_a.lt
  replace k_b := k_b.below hb k_b.lt
  replace r_a := r_a.on hb
  replace t_a := t_a.on hb
  replace r_b := r_b.on hb
  replace t_b := t_b.on hb
  replace I_x := I_x.on hb
  replace k_x := k_x.below hb k_x.lt
  replace I_y := I_y.on hb
  replace k_y := k_y.below hb k_y.lt
  have hB7 := bltB hB6 hB6.size hb
  clear hb hB6
  replace I_z := I_z.more (show _ ≤ 209 by omega)
  obtain ⟨A_z, n_z, c_z, B_z, m_z, d_z, rfl, hI⟩ := I_z
  have I_z : IsQ w7 (.agg #[.slice A_z n_z c_z, .slice B_z m_z d_z]) _ _ := ⟨_, _, _, _, _, _, rfl, hI⟩
  clear hI
  have q_k_b_0 := k_b.cell 0
  have q_k_b_1 := k_b.cell 1
  have q_k_b_l := k_b.lt
  go_wp2_with fail
  clear q_k_b_0 q_k_b_1 q_k_b_l
  obtain ⟨w8, hw8⟩ : ∃ W, W = w7.alloc (.cells #[.slice A_z n_z c_z, .slice B_z m_z d_z] 24) := ⟨_, rfl⟩
  obtain ⟨G_z, hG_z⟩ : ∃ G, w7.heap.size = G := ⟨_, rfl⟩
  have ha : Below w7.heap.size w7 w8 := by rw [hw8]; exact (Below.refl _ _).alloc (Nat.le_refl _) _
  have k_z : Blk w8 G_z 24 #[.slice A_z n_z c_z, .slice B_z m_z d_z] := by rw [hw8, ← hG_z]; exact Blk.new w7 _ _
  rw [← hw8]
  simp only [hG_z]
  clear hw8 hG_z
  replace k_a := k_a.below ha k_a.lt
  replace k_b := k_b.below ha k_b.lt
  replace r_a := r_a.on ha
  replace t_a := t_a.on ha
  replace r_b := r_b.on ha
  replace t_b := t_b.on ha
  replace I_x := I_x.on ha
  replace k_x := k_x.below ha k_x.lt
  replace I_y := I_y.on ha
  replace k_y := k_y.below ha k_y.lt
  replace I_z := I_z.on ha
  have hB8 := bltB hB7 hB7.size ha
  clear ha hB7
  refine ((fpow_q r_b t_b f_b (by decide) i (by omega)).mono fun _ _ h => h.v).mono ?_
  rintro y w9 ⟨v_u, rfl, I_u, hb⟩
  replace k_a := k_a.below hb k_a.lt
  replace k_b := k_b.below hb k_b.lt
  replace r_a := r_a.on hb
  replace t_a := t_a.on hb
  replace r_b := r_b.on hb
  replace t_b := t_b.on hb
  replace I_x := I_x.on hb
  replace k_x := k_x.below hb k_x.lt
  replace I_y := I_y.on hb
  replace k_y := k_y.below hb k_y.lt
  replace I_z := I_z.on hb
  replace k_z := k_z.below hb k_z.lt
  have hB9 := bltB hB8 hB8.size hb
  clear hb hB8
  replace I_u := I_u.more (show _ ≤ 105 by omega)
  obtain ⟨A_u, n_u, c_u, B_u, m_u, d_u, rfl, hI⟩ := I_u
  have I_u : IsQ w9 (.agg #[.slice A_u n_u c_u, .slice B_u m_u d_u]) _ _ := ⟨_, _, _, _, _, _, rfl, hI⟩
  clear hI
  have q_k_a_0 := k_a.cell 0
  have q_k_a_1 := k_a.cell 1
  have q_k_a_l := k_a.lt
  have q_k_b_0 := k_b.cell 0
  have q_k_b_1 := k_b.cell 1
  have q_k_b_l := k_b.lt
  go_wp2_with fail
  clear q_k_a_0 q_k_a_1 q_k_a_l q_k_b_0 q_k_b_1 q_k_b_l
  obtain ⟨w10, hw10⟩ : ∃ W, W = w9.alloc (.cells #[.slice A_u n_u c_u, .slice B_u m_u d_u] 24) := ⟨_, rfl⟩
  obtain ⟨G_u, hG_u⟩ : ∃ G, w9.heap.size = G := ⟨_, rfl⟩
  have ha : Below w9.heap.size w9 w10 := by rw [hw10]; exact (Below.refl _ _).alloc (Nat.le_refl _) _
  have k_u : Blk w10 G_u 24 #[.slice A_u n_u c_u, .slice B_u m_u d_u] := by rw [hw10, ← hG_u]; exact Blk.new w9 _ _
  rw [← hw10]
  simp only [hG_u]
  clear hw10 hG_u
  replace k_a := k_a.below ha k_a.lt
  replace k_b := k_b.below ha k_b.lt
  replace r_a := r_a.on ha
  replace t_a := t_a.on ha
  replace r_b := r_b.on ha
  replace t_b := t_b.on ha
  replace I_x := I_x.on ha
  replace k_x := k_x.below ha k_x.lt
  replace I_y := I_y.on ha
  replace k_y := k_y.below ha k_y.lt
  replace I_z := I_z.on ha
  replace k_z := k_z.below ha k_z.lt
  replace I_u := I_u.on ha
  have hB10 := bltB hB9 hB9.size ha
  clear ha hB9
  refine ((fmul_q r_a t_a f_a r_b t_b f_b (by decide) (by decide)).mono fun _ _ h => h.v).mono ?_
  rintro y w11 ⟨v_m, rfl, I_m, hb⟩
  replace k_a := k_a.below hb k_a.lt
  replace k_b := k_b.below hb k_b.lt
  replace r_a := r_a.on hb
  replace t_a := t_a.on hb
  replace r_b := r_b.on hb
  replace t_b := t_b.on hb
  replace I_x := I_x.on hb
  replace k_x := k_x.below hb k_x.lt
  replace I_y := I_y.on hb
  replace k_y := k_y.below hb k_y.lt
  replace I_z := I_z.on hb
  replace k_z := k_z.below hb k_z.lt
  replace I_u := I_u.on hb
  replace k_u := k_u.below hb k_u.lt
  have hB11 := bltB hB10 hB10.size hb
  clear hb hB10
  go_wp2_with fail
  refine (fpow_v I_m (by decide) i (by omega)).mono ?_
  rintro y w12 ⟨v_v, rfl, I_v, hb⟩
  replace k_a := k_a.below hb k_a.lt
  replace k_b := k_b.below hb k_b.lt
  replace r_a := r_a.on hb
  replace t_a := t_a.on hb
  replace r_b := r_b.on hb
  replace t_b := t_b.on hb
  replace I_x := I_x.on hb
  replace k_x := k_x.below hb k_x.lt
  replace I_y := I_y.on hb
  replace k_y := k_y.below hb k_y.lt
  replace I_z := I_z.on hb
  replace k_z := k_z.below hb k_z.lt
  replace I_u := I_u.on hb
  replace k_u := k_u.below hb k_u.lt
  replace I_m := I_m.on hb
  have hB12 := bltB hB11 hB11.size hb
  clear hb hB11
  replace I_v := I_v.more (show _ ≤ 217 by omega)
  obtain ⟨A_v, n_v, c_v, B_v, m_v, d_v, rfl, hI⟩ := I_v
  have I_v : IsQ w12 (.agg #[.slice A_v n_v c_v, .slice B_v m_v d_v]) _ _ := ⟨_, _, _, _, _, _, rfl, hI⟩
  clear hI
  clear I_m
  go_wp2_with fail
  obtain ⟨w13, hw13⟩ : ∃ W, W = w12.alloc (.cells #[.slice A_v n_v c_v, .slice B_v m_v d_v] 24) := ⟨_, rfl⟩
  obtain ⟨G_v, hG_v⟩ : ∃ G, w12.heap.size = G := ⟨_, rfl⟩
  have ha : Below w12.heap.size w12 w13 := by rw [hw13]; exact (Below.refl _ _).alloc (Nat.le_refl _) _
  have k_v : Blk w13 G_v 24 #[.slice A_v n_v c_v, .slice B_v m_v d_v] := by rw [hw13, ← hG_v]; exact Blk.new w12 _ _
  rw [← hw13]
  simp only [hG_v]
  clear hw13 hG_v
  replace k_a := k_a.below ha k_a.lt
  replace k_b := k_b.below ha k_b.lt
  replace r_a := r_a.on ha
  replace t_a := t_a.on ha
  replace r_b := r_b.on ha
  replace t_b := t_b.on ha
  replace I_x := I_x.on ha
  replace k_x := k_x.below ha k_x.lt
  replace I_y := I_y.on ha
  replace k_y := k_y.below ha k_y.lt
  replace I_z := I_z.on ha
  replace k_z := k_z.below ha k_z.lt
  replace I_u := I_u.on ha
  replace k_u := k_u.below ha k_u.lt
  replace I_v := I_v.on ha
  have hB13 := bltB hB12 hB12.size ha
  clear ha hB12
  refine wp_region_noPanic ?_
  refine ord_begin 30 (fun wx => Below w13.heap.size w13 wx) (by kernel_rfl) ?_
  have hx0 : Below w13.heap.size w13 w13.drew := (Below.refl _ _).drew
  refine ord_take (i := 0) (v := ?_) (by kernel_rfl) rfl (by decide) (by kernel_rfl) (by kernel_rfl) (fun _ _ _ h => h) (Or.inl ⟨by rfl, ?_⟩) hx0 ?_
  rotate_left
  · intro wz hz; go_simp; (try with_reducible rfl)
  try simp only [Act.put, List.getElem_toArray, List.getElem_cons_zero, List.getElem_cons_succ, List.setIfInBounds_toArray, List.set_cons_zero, List.set_cons_succ]
  refine ord_take (i := 1) (v := ?_) (by kernel_rfl) rfl (by decide) (by kernel_rfl) (by kernel_rfl) (fun _ _ _ h => h) (Or.inl ⟨by rfl, ?_⟩) hx0 ?_
  rotate_left
  · intro wz hz; go_simp; (try with_reducible rfl)
  try simp only [Act.put, List.getElem_toArray, List.getElem_cons_zero, List.getElem_cons_succ, List.setIfInBounds_toArray, List.set_cons_zero, List.set_cons_succ]
  refine ord_take (i := 2) (v := ?_) (by kernel_rfl) rfl (by decide) (by kernel_rfl) (by kernel_rfl) (fun _ _ _ h => h) (Or.inl ⟨by rfl, ?_⟩) hx0 ?_
  rotate_left
  · intro wz hz; go_simp; (try with_reducible rfl)
  try simp only [Act.put, List.getElem_toArray, List.getElem_cons_zero, List.getElem_cons_succ, List.setIfInBounds_toArray, List.set_cons_zero, List.set_cons_succ]
  refine ord_take (i := 3) (v := ?_) (by kernel_rfl) rfl (by decide) (by kernel_rfl) (by kernel_rfl) (fun _ _ _ h => h) (Or.inl ⟨by rfl, ?_⟩) hx0 ?_
  rotate_left
  · intro wz hz; go_simp; (try with_reducible rfl)
  try simp only [Act.put, List.getElem_toArray, List.getElem_cons_zero, List.getElem_cons_succ, List.setIfInBounds_toArray, List.set_cons_zero, List.set_cons_succ]
  refine ord_take (i := 4) (v := ?_) (by kernel_rfl) rfl (by decide) (by kernel_rfl) (by kernel_rfl) (fun _ _ _ h => h) (Or.inl ⟨by rfl, ?_⟩) hx0 ?_
  rotate_left
  · intro wz hz; go_simp; (try with_reducible rfl)
  try simp only [Act.put, List.getElem_toArray, List.getElem_cons_zero, List.getElem_cons_succ, List.setIfInBounds_toArray, List.set_cons_zero, List.set_cons_succ]
  refine ord_take (i := 5) (v := ?_) (by kernel_rfl) rfl (by decide) (by kernel_rfl) (by kernel_rfl) (fun _ _ _ h => h) (Or.inl ⟨by rfl, ?_⟩) hx0 ?_
  rotate_left
  · intro wz hz; go_simp; (try with_reducible rfl)
  try simp only [Act.put, List.getElem_toArray, List.getElem_cons_zero, List.getElem_cons_succ, List.setIfInBounds_toArray, List.set_cons_zero, List.set_cons_succ]
  refine ord_take (i := 6) (v := ?_) (by kernel_rfl) rfl (by decide) (by kernel_rfl) (by kernel_rfl) (fun _ _ _ h => h) (Or.inl ⟨by rfl, ?_⟩) hx0 ?_
  rotate_left
  · intro wz hz; go_simp; (try with_reducible rfl)
  try simp only [Act.put, List.getElem_toArray, List.getElem_cons_zero, List.getElem_cons_succ, List.setIfInBounds_toArray, List.set_cons_zero, List.set_cons_succ]
  refine ord_take (i := 7) (v := ?_) (by kernel_rfl) rfl (by decide) (by kernel_rfl) (by kernel_rfl) (fun _ _ _ h => h) (Or.inl ⟨by rfl, ?_⟩) hx0 ?_
  rotate_left
  · intro wz hz; go_simp; (try with_reducible rfl)
  try simp only [Act.put, List.getElem_toArray, List.getElem_cons_zero, List.getElem_cons_succ, List.setIfInBounds_toArray, List.set_cons_zero, List.set_cons_succ]
  refine ord_take (i := 8) (v := ?_) (by kernel_rfl) rfl (by decide) (by kernel_rfl) (by kernel_rfl) (fun _ _ _ h => h) (Or.inl ⟨by rfl, ?_⟩) hx0 ?_
  rotate_left
  · intro wz hz; go_simp; (try with_reducible rfl)
  try simp only [Act.put, List.getElem_toArray, List.getElem_cons_zero, List.getElem_cons_succ, List.setIfInBounds_toArray, List.set_cons_zero, List.set_cons_succ]
  refine ord_take (i := 9) (v := ?_) (by kernel_rfl) rfl (by decide) (by kernel_rfl) (by kernel_rfl) (fun _ _ _ h => h) (Or.inl ⟨by rfl, ?_⟩) hx0 ?_
  rotate_left
  · intro wz hz; go_simp; (try with_reducible rfl)
  try simp only [Act.put, List.getElem_toArray, List.getElem_cons_zero, List.getElem_cons_succ, List.setIfInBounds_toArray, List.set_cons_zero, List.set_cons_succ]
  refine ord_take (i := 10) (v := ?_) (by kernel_rfl) rfl (by decide) (by kernel_rfl) (by kernel_rfl) (fun _ _ _ h => h) (Or.inl ⟨by rfl, ?_⟩) hx0 ?_
  rotate_left
  · intro wz hz; go_simp; (try with_reducible rfl)
  try simp only [Act.put, List.getElem_toArray, List.getElem_cons_zero, List.getElem_cons_succ, List.setIfInBounds_toArray, List.set_cons_zero, List.set_cons_succ]
  refine ord_take (i := 11) (v := ?_) (by kernel_rfl) rfl (by decide) (by kernel_rfl) (by kernel_rfl) (fun _ _ _ h => h) (Or.inl ⟨by rfl, ?_⟩) hx0 ?_
  rotate_left
  · intro wz hz; go_simp; (try with_reducible rfl)
  try simp only [Act.put, List.getElem_toArray, List.getElem_cons_zero, List.getElem_cons_succ, List.setIfInBounds_toArray, List.set_cons_zero, List.set_cons_succ]
  refine ord_take (i := 12) (v := ?_) (by kernel_rfl) rfl (by decide) (by kernel_rfl) (by kernel_rfl) (fun _ _ _ h => h) (Or.inl ⟨by rfl, ?_⟩) hx0 ?_
  rotate_left
  · intro wz hz; go_simp; (try with_reducible rfl)
  try simp only [Act.put, List.getElem_toArray, List.getElem_cons_zero, List.getElem_cons_succ, List.setIfInBounds_toArray, List.set_cons_zero, List.set_cons_succ]
  refine ord_take (i := 13) (v := ?_) (by kernel_rfl) rfl (by decide) (by kernel_rfl) (by kernel_rfl) (fun _ _ _ h => h) (Or.inl ⟨by rfl, ?_⟩) hx0 ?_
  rotate_left
  · intro wz hz; go_simp; (try with_reducible rfl)
  try simp only [Act.put, List.getElem_toArray, List.getElem_cons_zero, List.getElem_cons_succ, List.setIfInBounds_toArray, List.set_cons_zero, List.set_cons_succ]
  refine ord_take (i := 14) (v := ?_) (by kernel_rfl) rfl (by decide) (by kernel_rfl) (by kernel_rfl) (fun _ _ _ h => h) (Or.inl ⟨by rfl, ?_⟩) hx0 ?_
  rotate_left
  · intro wz hz; go_simp; (try with_reducible rfl)
  try simp only [Act.put, List.getElem_toArray, List.getElem_cons_zero, List.getElem_cons_succ, List.setIfInBounds_toArray, List.set_cons_zero, List.set_cons_succ]
  refine ord_take (i := 15) (v := ?_) (by kernel_rfl) rfl (by decide) (by kernel_rfl) (by kernel_rfl) (fun _ _ _ h => h) (Or.inl ⟨by rfl, ?_⟩) hx0 ?_
  rotate_left
  · intro wz hz; go_simp; (try with_reducible rfl)
  try simp only [Act.put, List.getElem_toArray, List.getElem_cons_zero, List.getElem_cons_succ, List.setIfInBounds_toArray, List.set_cons_zero, List.set_cons_succ]
  refine ord_take (i := 16) (v := ?_) (by kernel_rfl) rfl (by decide) (by kernel_rfl) (by kernel_rfl) (fun _ _ _ h => h) (Or.inl ⟨by rfl, ?_⟩) hx0 ?_
  rotate_left
  · intro wz hz; go_simp; (try with_reducible rfl)
  try simp only [Act.put, List.getElem_toArray, List.getElem_cons_zero, List.getElem_cons_succ, List.setIfInBounds_toArray, List.set_cons_zero, List.set_cons_succ]
  refine ord_take (i := 17) (v := ?_) (by kernel_rfl) rfl (by decide) (by kernel_rfl) (by kernel_rfl) (fun _ _ _ h => h) (Or.inl ⟨by rfl, ?_⟩) hx0 ?_
  rotate_left
  · intro wz hz; have j := k_z.below hz k_z.lt; have q0 := j.cell 0; have q1 := j.cell 1; go_simp; (try with_reducible rfl)
  try simp only [Act.put, List.getElem_toArray, List.getElem_cons_zero, List.getElem_cons_succ, List.setIfInBounds_toArray, List.set_cons_zero, List.set_cons_succ]
  refine ord_take (i := 18) (v := ?_) (by kernel_rfl) rfl (by decide) (by kernel_rfl) (by kernel_rfl) (fun _ _ _ h => h) (Or.inl ⟨by rfl, ?_⟩) hx0 ?_
  rotate_left
  · intro wz hz; have j := k_x.below hz k_x.lt; have q0 := j.cell 0; have q1 := j.cell 1; go_simp; (try with_reducible rfl)
  try simp only [Act.put, List.getElem_toArray, List.getElem_cons_zero, List.getElem_cons_succ, List.setIfInBounds_toArray, List.set_cons_zero, List.set_cons_succ]
  refine ord_take (i := 19) (v := ?_) (by kernel_rfl) rfl (by decide) (by kernel_rfl) (by kernel_rfl) (fun _ _ _ h => h) (Or.inl ⟨by rfl, ?_⟩) hx0 ?_
  rotate_left
  · intro wz hz; have j := k_y.below hz k_y.lt; have q0 := j.cell 0; have q1 := j.cell 1; go_simp; (try with_reducible rfl)
  try simp only [Act.put, List.getElem_toArray, List.getElem_cons_zero, List.getElem_cons_succ, List.setIfInBounds_toArray, List.set_cons_zero, List.set_cons_succ]
  refine ord_step (i := 20) rfl (by decide) (by kernel_rfl) (by rfl) (fun K hK => ?_)
  go_simp
  refine (fmul_v (I_x.on hx0) (I_y.on hx0) (by decide) (by decide)).mono ?_
  rintro y X13_11_1 ⟨v_p, rfl, I_p, hb⟩
  have hx1 := bltB hx0 hx0.size hb
  clear hb hx0
  refine hK _ _ hx1 ?_
  clear hK K
  try simp only [Act.put, List.getElem_toArray, List.getElem_cons_zero, List.getElem_cons_succ, List.setIfInBounds_toArray, List.set_cons_zero, List.set_cons_succ]
  refine ord_step (i := 21) rfl (by decide) (by kernel_rfl) (by rfl) (fun K hK => ?_)
  go_simp
  refine (fsame_v (I_z.on hx1) I_p (by decide)).mono ?_
  rintro y X13_11_2 ⟨rfl, hb⟩
  rw [decide_eq_true (qpow_add q_a i j)]
  clear I_p
  have hx2 := bltB hx1 hx1.size hb
  clear hb hx1
  refine hK _ _ hx2 ?_
  clear hK K
  try simp only [Act.put, List.getElem_toArray, List.getElem_cons_zero, List.getElem_cons_succ, List.setIfInBounds_toArray, List.set_cons_zero, List.set_cons_succ]
  refine ord_take (i := 22) (v := ?_) (by kernel_rfl) rfl (by decide) (by kernel_rfl) (by kernel_rfl) (fun _ _ _ h => h) (Or.inl ⟨by rfl, ?_⟩) hx2 ?_
  rotate_left
  · intro wz hz; go_simp; (try with_reducible rfl)
  try simp only [Act.put, List.getElem_toArray, List.getElem_cons_zero, List.getElem_cons_succ, List.setIfInBounds_toArray, List.set_cons_zero, List.set_cons_succ]
  refine ord_take (i := 23) (v := ?_) (by kernel_rfl) rfl (by decide) (by kernel_rfl) (by kernel_rfl) (fun _ _ _ h => h) (Or.inl ⟨by rfl, ?_⟩) hx2 ?_
  rotate_left
  · intro wz hz; go_simp; (try with_reducible rfl)
  try simp only [Act.put, List.getElem_toArray, List.getElem_cons_zero, List.getElem_cons_succ, List.setIfInBounds_toArray, List.set_cons_zero, List.set_cons_succ]
  refine ord_take (i := 24) (v := ?_) (by kernel_rfl) rfl (by decide) (by kernel_rfl) (by kernel_rfl) (fun _ _ _ h => h) (Or.inl ⟨by rfl, ?_⟩) hx2 ?_
  rotate_left
  · intro wz hz; have j := k_v.below hz k_v.lt; have q0 := j.cell 0; have q1 := j.cell 1; go_simp; (try with_reducible rfl)
  try simp only [Act.put, List.getElem_toArray, List.getElem_cons_zero, List.getElem_cons_succ, List.setIfInBounds_toArray, List.set_cons_zero, List.set_cons_succ]
  refine ord_take (i := 25) (v := ?_) (by kernel_rfl) rfl (by decide) (by kernel_rfl) (by kernel_rfl) (fun _ _ _ h => h) (Or.inl ⟨by rfl, ?_⟩) hx2 ?_
  rotate_left
  · intro wz hz; have j := k_x.below hz k_x.lt; have q0 := j.cell 0; have q1 := j.cell 1; go_simp; (try with_reducible rfl)
  try simp only [Act.put, List.getElem_toArray, List.getElem_cons_zero, List.getElem_cons_succ, List.setIfInBounds_toArray, List.set_cons_zero, List.set_cons_succ]
  refine ord_take (i := 26) (v := ?_) (by kernel_rfl) rfl (by decide) (by kernel_rfl) (by kernel_rfl) (fun _ _ _ h => h) (Or.inl ⟨by rfl, ?_⟩) hx2 ?_
  rotate_left
  · intro wz hz; have j := k_u.below hz k_u.lt; have q0 := j.cell 0; have q1 := j.cell 1; go_simp; (try with_reducible rfl)
  try simp only [Act.put, List.getElem_toArray, List.getElem_cons_zero, List.getElem_cons_succ, List.setIfInBounds_toArray, List.set_cons_zero, List.set_cons_succ]
  refine ord_step (i := 27) rfl (by decide) (by kernel_rfl) (by rfl) (fun K hK => ?_)
  go_simp
  refine (fmul_v (I_x.on hx2) (I_u.on hx2) (by decide) (by decide)).mono ?_
  rintro y X13_11_3 ⟨v_r, rfl, I_r, hb⟩
  have hx3 := bltB hx2 hx2.size hb
  clear hb hx2
  refine hK _ _ hx3 ?_
  clear hK K
  try simp only [Act.put, List.getElem_toArray, List.getElem_cons_zero, List.getElem_cons_succ, List.setIfInBounds_toArray, List.set_cons_zero, List.set_cons_succ]
  refine ord_step (i := 28) rfl (by decide) (by kernel_rfl) (by rfl) (fun K hK => ?_)
  go_simp
  refine (fsame_v (I_v.on hx3) I_r (by decide)).mono ?_
  rintro y X13_11_4 ⟨rfl, hb⟩
  rw [decide_eq_true (qmul_pow q_a q_b i)]
  clear I_r
  have hx4 := bltB hx3 hx3.size hb
  clear hb hx3
  refine hK _ _ hx4 ?_
  clear hK K
  try simp only [Act.put, List.getElem_toArray, List.getElem_cons_zero, List.getElem_cons_succ, List.setIfInBounds_toArray, List.set_cons_zero, List.set_cons_succ]
  refine ord_take (i := 29) (v := ?_) (by kernel_rfl) rfl (by decide) (by kernel_rfl) (by kernel_rfl) (fun _ _ _ h => h) (Or.inl ⟨by rfl, ?_⟩) hx4 ?_
  rotate_left
  · intro wz hz; go_simp; (try with_reducible rfl)
  try simp only [Act.put, List.getElem_toArray, List.getElem_cons_zero, List.getElem_cons_succ, List.setIfInBounds_toArray, List.set_cons_zero, List.set_cons_succ]
  refine ord_rest (by kernel_rfl) ?_
  refine any_step (i := 30) rfl (by kernel_rfl) (by rfl) (fun K hK => ?_)
  go_simp
  refine hK _ _ ?_
  clear hK K
  try simp only [Act.put, List.getElem_toArray, List.getElem_cons_zero, List.getElem_cons_succ, List.setIfInBounds_toArray, List.set_cons_zero, List.set_cons_succ]
  refine wpAny_done (by kernel_rfl) ?_ _
  refine NoPanic.normal ?_
  replace k_a := k_a.below hx4 k_a.lt
  replace k_b := k_b.below hx4 k_b.lt
  replace r_a := r_a.on hx4
  replace t_a := t_a.on hx4
  replace r_b := r_b.on hx4
  replace t_b := t_b.on hx4
  replace I_x := I_x.on hx4
  replace k_x := k_x.below hx4 k_x.lt
  replace I_y := I_y.on hx4
  replace k_y := k_y.below hx4 k_y.lt
  replace I_z := I_z.on hx4
  replace k_z := k_z.below hx4 k_z.lt
  replace I_u := I_u.on hx4
  replace k_u := k_u.below hx4 k_u.lt
  replace I_v := I_v.on hx4
  replace k_v := k_v.below hx4 k_v.lt
  have hB14 := bltB hB13 hB13.size hx4
  clear hx4 hB13
  go_wp2_with fail
  go_ret
  exact ⟨rfl, hB14⟩

end Go.Proofs.YthkgeafidbihmaaDoor
