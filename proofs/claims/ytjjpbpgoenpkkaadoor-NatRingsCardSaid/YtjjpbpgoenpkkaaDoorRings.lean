/-
  The law NatRings: what its walk answers, whatever the digits.
-/
import Derived.Test.YtjjpbpgoenpkkaaDoorBd
namespace Go.Proofs.YtjjpbpgoenpkkaaDoor
open Go.RowKit Go.Shelf
set_option linter.unusedVariables false

set_option maxRecDepth 100000 in
set_option maxHeartbeats 2000000 in
theorem rings_any (w : World) (hT : Tab w) (A1 A2 A3 : Option Addr) (n1 c1 n2 c2 n3 c3 : Nat) (l1 l2 l3 : List Nat) (r_1 : Rd w w.heap.size A1 n1 c1 l1) (r_2 : Rd w w.heap.size A2 n2 c2 l2) (r_3 : Rd w w.heap.size A3 n3 c3 l3) (hm1 : n1 ≤ 9223372036854775807) (hm2 : n2 ≤ 9223372036854775807) (hm3 : n3 ≤ 9223372036854775807) :
    Calls Tryd.prog 4 #[.slice A1 n1 c1, .slice A2 n2 c2, .slice A3 n3 c3] w fun e w' => e = .returned (.bool true) ∧ Below w.heap.size w w' := by
  have HT := Lib.hid hT
  clear hT
  by_cases hf : n1 ≤ 12 ∧ n2 ≤ 12
  · obtain ⟨n_1_le, n_2_le⟩ := hf
    have hfew : (decide (n1 ≤ 12) && decide (n2 ≤ 12)) = true := by simp [n_1_le, n_2_le]
    by_cases n_3_le : n3 ≤ 12
    · by_cases q1 : rightB l1 = true
      · by_cases q2 : rightB l2 = true
        · by_cases q3 : rightB l3 = true
          · obtain ⟨X, rfl⟩ := as_digs r_1.dig q1
            obtain ⟨Y, rfl⟩ := as_digs r_2.dig q2
            obtain ⟨Z, rfl⟩ := as_digs r_3.dig q3
            have b_1 := rd_lt r_1 n_1_le
            have b_2 := rd_lt r_2 n_2_le
            have b_3 := rd_lt r_3 n_3_le
            have g3 : ¬ (12 : Int) < (n3 : Int) := by omega
            clear q1 q2 q3
            go_enter Tryd.func4, Tryd.ntmps4
            go_wp2_with fail
            refine (small_any _ HT.out).mono ?_
            rintro e w1 ⟨rfl, hb⟩
            have r_1 := r_1.on hb
            have r_2 := r_2.on hb
            have r_3 := r_3.on hb
            have hb1 := hb
            clear hb
            go_wp2_with fail
            refine (few_any _ _ _ _ _ _ _ hm1 hm2).mono ?_
            rintro e w' ⟨rfl, rfl⟩
            rw [hfew]
            go_wp2_with fail
            refine (right_any _ _ _ _ _ _ r_1 (by omega)).mono ?_
            rintro e w' ⟨rfl, rfl⟩
            rw [rightB_digs]
            go_wp2_with fail
            refine (right_any _ _ _ _ _ _ r_2 (by omega)).mono ?_
            rintro e w' ⟨rfl, rfl⟩
            rw [rightB_digs]
            go_wp2_with fail
            refine (right_any _ _ _ _ _ _ r_3 (by omega)).mono ?_
            rintro e w' ⟨rfl, rfl⟩
            rw [rightB_digs]
            go_wp2_with fail
            refine (add_any _ _ _ _ _ _ _ _ _ r_1 r_2 (by omega) (by omega)).mono ?_
            rintro e w2 ⟨A_s, n_s, c_s, rfl, r_s, hb⟩
            have r_1 := r_1.on hb
            have r_2 := r_2.on hb
            have r_3 := r_3.on hb
            have hb2 := bltB hb1 hb1.size hb
            clear hb
            rw [tv_digs, tv_digs] at r_s
            have b_s : (X + Y) < 4294967296 ^ 13 := bd_add b_1 b_2 (by decide) (by decide)
            have n_s_le : n_s ≤ 13 := rd_le r_s b_s
            go_wp2_with fail
            refine (sub_any _ _ _ _ _ _ _ _ _ r_s r_2 (by omega) (by omega)).mono ?_
            rintro e w3 ⟨A_d, n_d, c_d, rfl, r_d, hb⟩
            have r_1 := r_1.on hb
            have r_2 := r_2.on hb
            have r_3 := r_3.on hb
            have r_s := r_s.on hb
            have hb3 := bltB hb2 hb2.size hb
            clear hb
            rw [tv_digs, tv_digs] at r_d
            rw [tv_digs, tv_digs, decide_eq_true (Nat.le_add_left Y X)]
            have b_d : ((X + Y) - Y) < 4294967296 ^ 13 := Nat.lt_of_le_of_lt (Nat.sub_le _ _) b_s
            have n_d_le : n_d ≤ 13 := rd_le r_d b_d
            go_wp2_with fail
            refine (add_any _ _ _ _ _ _ _ _ _ r_1 r_2 (by omega) (by omega)).mono ?_
            rintro e w4 ⟨A_p, n_p, c_p, rfl, r_p, hb⟩
            have r_1 := r_1.on hb
            have r_2 := r_2.on hb
            have r_3 := r_3.on hb
            have r_d := r_d.on hb
            have hb4 := bltB hb3 hb3.size hb
            clear hb
            rw [tv_digs, tv_digs] at r_p
            have b_p : (X + Y) < 4294967296 ^ 13 := bd_add b_1 b_2 (by decide) (by decide)
            have n_p_le : n_p ≤ 13 := rd_le r_p b_p
            go_wp2_with fail
            refine (add_any _ _ _ _ _ _ _ _ _ r_2 r_1 (by omega) (by omega)).mono ?_
            rintro e w5 ⟨A_q, n_q, c_q, rfl, r_q, hb⟩
            have r_1 := r_1.on hb
            have r_2 := r_2.on hb
            have r_3 := r_3.on hb
            have r_d := r_d.on hb
            have r_p := r_p.on hb
            have hb5 := bltB hb4 hb4.size hb
            clear hb
            rw [tv_digs, tv_digs] at r_q
            have b_q : (Y + X) < 4294967296 ^ 13 := bd_add b_2 b_1 (by decide) (by decide)
            have n_q_le : n_q ≤ 13 := rd_le r_q b_q
            go_wp2_with fail
            refine (same_any _ _ _ _ _ _ _ _ _ r_p r_q (by omega)).mono ?_
            rintro e w6 ⟨rfl, hb⟩
            have r_1 := r_1.on hb
            have r_2 := r_2.on hb
            have r_3 := r_3.on hb
            have r_d := r_d.on hb
            have hb6 := bltB hb5 hb5.size hb
            clear hb
            rw [dec_same (show (X + Y) = (Y + X) from Nat.add_comm X Y)]
            go_wp2_with fail
            refine (mul_any _ _ _ _ _ _ _ _ _ r_1 r_2 (by omega) (by omega)).mono ?_
            rintro e w7 ⟨A_p2, n_p2, c_p2, rfl, r_p2, hb⟩
            have r_1 := r_1.on hb
            have r_2 := r_2.on hb
            have r_3 := r_3.on hb
            have r_d := r_d.on hb
            have hb7 := bltB hb6 hb6.size hb
            clear hb
            rw [tv_digs, tv_digs] at r_p2
            have b_p2 : (X * Y) < 4294967296 ^ 24 := bd_mul b_1 b_2
            have n_p2_le : n_p2 ≤ 24 := rd_le r_p2 b_p2
            go_wp2_with fail
            refine (mul_any _ _ _ _ _ _ _ _ _ r_2 r_1 (by omega) (by omega)).mono ?_
            rintro e w8 ⟨A_q2, n_q2, c_q2, rfl, r_q2, hb⟩
            have r_1 := r_1.on hb
            have r_2 := r_2.on hb
            have r_3 := r_3.on hb
            have r_d := r_d.on hb
            have r_p2 := r_p2.on hb
            have hb8 := bltB hb7 hb7.size hb
            clear hb
            rw [tv_digs, tv_digs] at r_q2
            have b_q2 : (Y * X) < 4294967296 ^ 24 := bd_mul b_2 b_1
            have n_q2_le : n_q2 ≤ 24 := rd_le r_q2 b_q2
            go_wp2_with fail
            refine (same_any _ _ _ _ _ _ _ _ _ r_p2 r_q2 (by omega)).mono ?_
            rintro e w9 ⟨rfl, hb⟩
            have r_1 := r_1.on hb
            have r_2 := r_2.on hb
            have r_3 := r_3.on hb
            have r_d := r_d.on hb
            have hb9 := bltB hb8 hb8.size hb
            clear hb
            rw [dec_same (show (X * Y) = (Y * X) from Nat.mul_comm X Y)]
            go_wp2_with fail
            refine (add_any _ _ _ _ _ _ _ _ _ r_1 r_2 (by omega) (by omega)).mono ?_
            rintro e w10 ⟨A_p3, n_p3, c_p3, rfl, r_p3, hb⟩
            have r_1 := r_1.on hb
            have r_2 := r_2.on hb
            have r_3 := r_3.on hb
            have r_d := r_d.on hb
            have hb10 := bltB hb9 hb9.size hb
            clear hb
            rw [tv_digs, tv_digs] at r_p3
            have b_p3 : (X + Y) < 4294967296 ^ 13 := bd_add b_1 b_2 (by decide) (by decide)
            have n_p3_le : n_p3 ≤ 13 := rd_le r_p3 b_p3
            go_wp2_with fail
            refine (add_any _ _ _ _ _ _ _ _ _ r_p3 r_3 (by omega) (by omega)).mono ?_
            rintro e w11 ⟨A_p4, n_p4, c_p4, rfl, r_p4, hb⟩
            have r_1 := r_1.on hb
            have r_2 := r_2.on hb
            have r_3 := r_3.on hb
            have r_d := r_d.on hb
            have r_p3 := r_p3.on hb
            have hb11 := bltB hb10 hb10.size hb
            clear hb
            rw [tv_digs, tv_digs] at r_p4
            have b_p4 : ((X + Y) + Z) < 4294967296 ^ 14 := bd_add b_p3 b_3 (by decide) (by decide)
            have n_p4_le : n_p4 ≤ 14 := rd_le r_p4 b_p4
            go_wp2_with fail
            refine (add_any _ _ _ _ _ _ _ _ _ r_2 r_3 (by omega) (by omega)).mono ?_
            rintro e w12 ⟨A_q3, n_q3, c_q3, rfl, r_q3, hb⟩
            have r_1 := r_1.on hb
            have r_2 := r_2.on hb
            have r_3 := r_3.on hb
            have r_d := r_d.on hb
            have r_p4 := r_p4.on hb
            have hb12 := bltB hb11 hb11.size hb
            clear hb
            rw [tv_digs, tv_digs] at r_q3
            have b_q3 : (Y + Z) < 4294967296 ^ 13 := bd_add b_2 b_3 (by decide) (by decide)
            have n_q3_le : n_q3 ≤ 13 := rd_le r_q3 b_q3
            go_wp2_with fail
            refine (add_any _ _ _ _ _ _ _ _ _ r_1 r_q3 (by omega) (by omega)).mono ?_
            rintro e w13 ⟨A_q4, n_q4, c_q4, rfl, r_q4, hb⟩
            have r_1 := r_1.on hb
            have r_2 := r_2.on hb
            have r_3 := r_3.on hb
            have r_d := r_d.on hb
            have r_p4 := r_p4.on hb
            have r_q3 := r_q3.on hb
            have hb13 := bltB hb12 hb12.size hb
            clear hb
            rw [tv_digs, tv_digs] at r_q4
            have b_q4 : (X + (Y + Z)) < 4294967296 ^ 14 := bd_add b_1 b_q3 (by decide) (by decide)
            have n_q4_le : n_q4 ≤ 14 := rd_le r_q4 b_q4
            go_wp2_with fail
            refine (same_any _ _ _ _ _ _ _ _ _ r_p4 r_q4 (by omega)).mono ?_
            rintro e w14 ⟨rfl, hb⟩
            have r_1 := r_1.on hb
            have r_2 := r_2.on hb
            have r_3 := r_3.on hb
            have r_d := r_d.on hb
            have hb14 := bltB hb13 hb13.size hb
            clear hb
            rw [dec_same (show ((X + Y) + Z) = (X + (Y + Z)) from Nat.add_assoc X Y Z)]
            go_wp2_with fail
            refine (mul_any _ _ _ _ _ _ _ _ _ r_1 r_2 (by omega) (by omega)).mono ?_
            rintro e w15 ⟨A_p5, n_p5, c_p5, rfl, r_p5, hb⟩
            have r_1 := r_1.on hb
            have r_2 := r_2.on hb
            have r_3 := r_3.on hb
            have r_d := r_d.on hb
            have hb15 := bltB hb14 hb14.size hb
            clear hb
            rw [tv_digs, tv_digs] at r_p5
            have b_p5 : (X * Y) < 4294967296 ^ 24 := bd_mul b_1 b_2
            have n_p5_le : n_p5 ≤ 24 := rd_le r_p5 b_p5
            go_wp2_with fail
            refine (mul_any _ _ _ _ _ _ _ _ _ r_p5 r_3 (by omega) (by omega)).mono ?_
            rintro e w16 ⟨A_p6, n_p6, c_p6, rfl, r_p6, hb⟩
            have r_1 := r_1.on hb
            have r_2 := r_2.on hb
            have r_3 := r_3.on hb
            have r_d := r_d.on hb
            have r_p5 := r_p5.on hb
            have hb16 := bltB hb15 hb15.size hb
            clear hb
            rw [tv_digs, tv_digs] at r_p6
            have b_p6 : ((X * Y) * Z) < 4294967296 ^ 36 := bd_mul b_p5 b_3
            have n_p6_le : n_p6 ≤ 36 := rd_le r_p6 b_p6
            go_wp2_with fail
            refine (mul_any _ _ _ _ _ _ _ _ _ r_2 r_3 (by omega) (by omega)).mono ?_
            rintro e w17 ⟨A_q5, n_q5, c_q5, rfl, r_q5, hb⟩
            have r_1 := r_1.on hb
            have r_2 := r_2.on hb
            have r_3 := r_3.on hb
            have r_d := r_d.on hb
            have r_p6 := r_p6.on hb
            have hb17 := bltB hb16 hb16.size hb
            clear hb
            rw [tv_digs, tv_digs] at r_q5
            have b_q5 : (Y * Z) < 4294967296 ^ 24 := bd_mul b_2 b_3
            have n_q5_le : n_q5 ≤ 24 := rd_le r_q5 b_q5
            go_wp2_with fail
            refine (mul_any _ _ _ _ _ _ _ _ _ r_1 r_q5 (by omega) (by omega)).mono ?_
            rintro e w18 ⟨A_q6, n_q6, c_q6, rfl, r_q6, hb⟩
            have r_1 := r_1.on hb
            have r_2 := r_2.on hb
            have r_3 := r_3.on hb
            have r_d := r_d.on hb
            have r_p6 := r_p6.on hb
            have r_q5 := r_q5.on hb
            have hb18 := bltB hb17 hb17.size hb
            clear hb
            rw [tv_digs, tv_digs] at r_q6
            have b_q6 : (X * (Y * Z)) < 4294967296 ^ 36 := bd_mul b_1 b_q5
            have n_q6_le : n_q6 ≤ 36 := rd_le r_q6 b_q6
            go_wp2_with fail
            refine (same_any _ _ _ _ _ _ _ _ _ r_p6 r_q6 (by omega)).mono ?_
            rintro e w19 ⟨rfl, hb⟩
            have r_1 := r_1.on hb
            have r_2 := r_2.on hb
            have r_3 := r_3.on hb
            have r_d := r_d.on hb
            have hb19 := bltB hb18 hb18.size hb
            clear hb
            rw [dec_same (show ((X * Y) * Z) = (X * (Y * Z)) from Nat.mul_assoc X Y Z)]
            go_wp2_with fail
            refine (add_any _ _ _ _ _ _ _ _ _ r_2 r_3 (by omega) (by omega)).mono ?_
            rintro e w20 ⟨A_p7, n_p7, c_p7, rfl, r_p7, hb⟩
            have r_1 := r_1.on hb
            have r_2 := r_2.on hb
            have r_3 := r_3.on hb
            have r_d := r_d.on hb
            have hb20 := bltB hb19 hb19.size hb
            clear hb
            rw [tv_digs, tv_digs] at r_p7
            have b_p7 : (Y + Z) < 4294967296 ^ 13 := bd_add b_2 b_3 (by decide) (by decide)
            have n_p7_le : n_p7 ≤ 13 := rd_le r_p7 b_p7
            go_wp2_with fail
            refine (mul_any _ _ _ _ _ _ _ _ _ r_1 r_p7 (by omega) (by omega)).mono ?_
            rintro e w21 ⟨A_p8, n_p8, c_p8, rfl, r_p8, hb⟩
            have r_1 := r_1.on hb
            have r_2 := r_2.on hb
            have r_3 := r_3.on hb
            have r_d := r_d.on hb
            have r_p7 := r_p7.on hb
            have hb21 := bltB hb20 hb20.size hb
            clear hb
            rw [tv_digs, tv_digs] at r_p8
            have b_p8 : (X * (Y + Z)) < 4294967296 ^ 25 := bd_mul b_1 b_p7
            have n_p8_le : n_p8 ≤ 25 := rd_le r_p8 b_p8
            go_wp2_with fail
            refine (mul_any _ _ _ _ _ _ _ _ _ r_1 r_2 (by omega) (by omega)).mono ?_
            rintro e w22 ⟨A_q7, n_q7, c_q7, rfl, r_q7, hb⟩
            have r_1 := r_1.on hb
            have r_2 := r_2.on hb
            have r_3 := r_3.on hb
            have r_d := r_d.on hb
            have r_p8 := r_p8.on hb
            have hb22 := bltB hb21 hb21.size hb
            clear hb
            rw [tv_digs, tv_digs] at r_q7
            have b_q7 : (X * Y) < 4294967296 ^ 24 := bd_mul b_1 b_2
            have n_q7_le : n_q7 ≤ 24 := rd_le r_q7 b_q7
            go_wp2_with fail
            refine (mul_any _ _ _ _ _ _ _ _ _ r_1 r_3 (by omega) (by omega)).mono ?_
            rintro e w23 ⟨A_q8, n_q8, c_q8, rfl, r_q8, hb⟩
            have r_1 := r_1.on hb
            have r_2 := r_2.on hb
            have r_3 := r_3.on hb
            have r_d := r_d.on hb
            have r_p8 := r_p8.on hb
            have r_q7 := r_q7.on hb
            have hb23 := bltB hb22 hb22.size hb
            clear hb
            rw [tv_digs, tv_digs] at r_q8
            have b_q8 : (X * Z) < 4294967296 ^ 24 := bd_mul b_1 b_3
            have n_q8_le : n_q8 ≤ 24 := rd_le r_q8 b_q8
            go_wp2_with fail
            refine (add_any _ _ _ _ _ _ _ _ _ r_q7 r_q8 (by omega) (by omega)).mono ?_
            rintro e w24 ⟨A_q9, n_q9, c_q9, rfl, r_q9, hb⟩
            have r_1 := r_1.on hb
            have r_2 := r_2.on hb
            have r_3 := r_3.on hb
            have r_d := r_d.on hb
            have r_p8 := r_p8.on hb
            have r_q7 := r_q7.on hb
            have r_q8 := r_q8.on hb
            have hb24 := bltB hb23 hb23.size hb
            clear hb
            rw [tv_digs, tv_digs] at r_q9
            have b_q9 : ((X * Y) + (X * Z)) < 4294967296 ^ 25 := bd_add b_q7 b_q8 (by decide) (by decide)
            have n_q9_le : n_q9 ≤ 25 := rd_le r_q9 b_q9
            go_wp2_with fail
            refine (same_any _ _ _ _ _ _ _ _ _ r_p8 r_q9 (by omega)).mono ?_
            rintro e w25 ⟨rfl, hb⟩
            have r_1 := r_1.on hb
            have r_2 := r_2.on hb
            have r_3 := r_3.on hb
            have r_d := r_d.on hb
            have hb25 := bltB hb24 hb24.size hb
            clear hb
            rw [dec_same (show (X * (Y + Z)) = ((X * Y) + (X * Z)) from Nat.mul_add X Y Z)]
            go_wp2_with fail
            refine (same_any _ _ _ _ _ _ _ _ _ r_d r_1 (by omega)).mono ?_
            rintro e w26 ⟨rfl, hb⟩
            have r_1 := r_1.on hb
            have r_2 := r_2.on hb
            have hb26 := bltB hb25 hb25.size hb
            clear hb
            rw [dec_same (show ((X + Y) - Y) = X from Nat.add_sub_cancel X Y)]
            go_wp2_with fail
            refine (of_any w26 1 (by decide)).mono ?_
            rintro e w27 ⟨A_o, n_o, c_o, rfl, r_o, hb⟩
            have r_1 := r_1.on hb
            have r_2 := r_2.on hb
            have hb27 := bltB hb26 hb26.size hb
            clear hb
            have b_o : 1 < 4294967296 ^ 1 := by decide
            have n_o_le : n_o ≤ 1 := rd_le r_o b_o
            go_wp2_with fail
            refine (mul_any _ _ _ _ _ _ _ _ _ r_1 r_o (by omega) (by omega)).mono ?_
            rintro e w28 ⟨A_t, n_t, c_t, rfl, r_t, hb⟩
            have r_1 := r_1.on hb
            have r_2 := r_2.on hb
            have r_o := r_o.on hb
            have hb28 := bltB hb27 hb27.size hb
            clear hb
            rw [tv_digs, tv_digs] at r_t
            have b_t : (X * 1) < 4294967296 ^ 13 := bd_mul b_1 b_o
            have n_t_le : n_t ≤ 13 := rd_le r_t b_t
            go_wp2_with fail
            refine (same_any _ _ _ _ _ _ _ _ _ r_t r_1 (by omega)).mono ?_
            rintro e w29 ⟨rfl, hb⟩
            have r_1 := r_1.on hb
            have r_2 := r_2.on hb
            have hb29 := bltB hb28 hb28.size hb
            clear hb
            rw [dec_same (show (X * 1) = X from Nat.mul_one X)]
            go_wp2_with fail
            refine (mul_any _ _ _ _ _ _ _ _ _ r_1 (Rd.nil w29 _) (by omega) (by omega)).mono ?_
            rintro e w30 ⟨A_z, n_z, c_z, rfl, r_z, hb⟩
            have r_1 := r_1.on hb
            have r_2 := r_2.on hb
            have hb30 := bltB hb29 hb29.size hb
            clear hb
            rw [tv_nil, Nat.mul_zero, digs_zero] at r_z
            have hnz : n_z = 0 := r_z.len.symm
            subst hnz
            clear r_z
            go_wp2_with fail
            refine (add_any _ _ _ _ _ _ _ _ _ r_1 r_2 (by omega) (by omega)).mono ?_
            rintro e w31 ⟨A_u, n_u, c_u, rfl, r_u, hb⟩
            have r_1 := r_1.on hb
            have r_2 := r_2.on hb
            have hb31 := bltB hb30 hb30.size hb
            clear hb
            rw [tv_digs, tv_digs] at r_u
            have b_u : (X + Y) < 4294967296 ^ 13 := bd_add b_1 b_2 (by decide) (by decide)
            have n_u_le : n_u ≤ 13 := rd_le r_u b_u
            go_wp2_with fail
            refine (right_any _ _ _ _ _ _ r_u (by omega)).mono ?_
            rintro e w' ⟨rfl, rfl⟩
            rw [rightB_digs]
            go_wp2_with fail
            refine (mul_any _ _ _ _ _ _ _ _ _ r_1 r_2 (by omega) (by omega)).mono ?_
            rintro e w32 ⟨A_v, n_v, c_v, rfl, r_v, hb⟩
            have r_1 := r_1.on hb
            have r_2 := r_2.on hb
            have hb32 := bltB hb31 hb31.size hb
            clear hb
            rw [tv_digs, tv_digs] at r_v
            have b_v : (X * Y) < 4294967296 ^ 24 := bd_mul b_1 b_2
            have n_v_le : n_v ≤ 24 := rd_le r_v b_v
            go_wp2_with fail
            refine (right_any _ _ _ _ _ _ r_v (by omega)).mono ?_
            rintro e w' ⟨rfl, rfl⟩
            rw [rightB_digs]
            go_wp2_with fail
            go_ret
            exact ⟨rfl, hb32⟩
          · have q3 : rightB l3 = false := by simpa using q3
            have g3 : ¬ (12 : Int) < (n3 : Int) := by omega
            go_enter Tryd.func4, Tryd.ntmps4
            go_wp2_with fail
            refine (small_any _ HT.out).mono ?_
            rintro e w1 ⟨rfl, hb⟩
            have r_1 := r_1.on hb
            have r_2 := r_2.on hb
            have r_3 := r_3.on hb
            have hb1 := hb
            clear hb
            go_wp2_with fail
            refine (few_any _ _ _ _ _ _ _ hm1 hm2).mono ?_
            rintro e w' ⟨rfl, rfl⟩
            rw [hfew]
            go_wp2_with fail
            refine (right_any _ _ _ _ _ _ r_1 (by omega)).mono ?_
            rintro e w' ⟨rfl, rfl⟩
            rw [q1]
            go_wp2_with fail
            refine (right_any _ _ _ _ _ _ r_2 (by omega)).mono ?_
            rintro e w' ⟨rfl, rfl⟩
            rw [q2]
            go_wp2_with fail
            refine (right_any _ _ _ _ _ _ r_3 (by omega)).mono ?_
            rintro e w' ⟨rfl, rfl⟩
            rw [q3]
            go_wp2_with fail
            go_ret
            exact ⟨rfl, hb1⟩
        · have q2 : rightB l2 = false := by simpa using q2
          have g3 : ¬ (12 : Int) < (n3 : Int) := by omega
          go_enter Tryd.func4, Tryd.ntmps4
          go_wp2_with fail
          refine (small_any _ HT.out).mono ?_
          rintro e w1 ⟨rfl, hb⟩
          have r_1 := r_1.on hb
          have r_2 := r_2.on hb
          have hb1 := hb
          clear hb
          go_wp2_with fail
          refine (few_any _ _ _ _ _ _ _ hm1 hm2).mono ?_
          rintro e w' ⟨rfl, rfl⟩
          rw [hfew]
          go_wp2_with fail
          refine (right_any _ _ _ _ _ _ r_1 (by omega)).mono ?_
          rintro e w' ⟨rfl, rfl⟩
          rw [q1]
          go_wp2_with fail
          refine (right_any _ _ _ _ _ _ r_2 (by omega)).mono ?_
          rintro e w' ⟨rfl, rfl⟩
          rw [q2]
          go_wp2_with fail
          go_ret
          exact ⟨rfl, hb1⟩
      · have q1 : rightB l1 = false := by simpa using q1
        have g3 : ¬ (12 : Int) < (n3 : Int) := by omega
        go_enter Tryd.func4, Tryd.ntmps4
        go_wp2_with fail
        refine (small_any _ HT.out).mono ?_
        rintro e w1 ⟨rfl, hb⟩
        have r_1 := r_1.on hb
        have hb1 := hb
        clear hb
        go_wp2_with fail
        refine (few_any _ _ _ _ _ _ _ hm1 hm2).mono ?_
        rintro e w' ⟨rfl, rfl⟩
        rw [hfew]
        go_wp2_with fail
        refine (right_any _ _ _ _ _ _ r_1 (by omega)).mono ?_
        rintro e w' ⟨rfl, rfl⟩
        rw [q1]
        go_wp2_with fail
        go_ret
        exact ⟨rfl, hb1⟩
    · have g3 : (12 : Int) < (n3 : Int) := by omega
      clear r_1 r_2 r_3
      go_enter Tryd.func4, Tryd.ntmps4
      go_wp2_with fail
      refine (small_any _ HT.out).mono ?_
      rintro e w1 ⟨rfl, hb⟩
      have hb1 := hb
      clear hb
      go_wp2_with fail
      refine (few_any _ _ _ _ _ _ _ hm1 hm2).mono ?_
      rintro e w' ⟨rfl, rfl⟩
      rw [hfew]
      go_wp2_with fail
      go_ret
      exact ⟨rfl, hb1⟩
  · have hfew : (decide (n1 ≤ 12) && decide (n2 ≤ 12)) = false := by simp; omega
    clear r_1 r_2 r_3
    go_enter Tryd.func4, Tryd.ntmps4
    go_wp2_with fail
    refine (small_any _ HT.out).mono ?_
    rintro e w1 ⟨rfl, hb⟩
    have hb1 := hb
    clear hb
    go_wp2_with fail
    refine (few_any _ _ _ _ _ _ _ hm1 hm2).mono ?_
    rintro e w' ⟨rfl, rfl⟩
    rw [hfew]
    go_wp2_with fail
    go_ret
    exact ⟨rfl, hb1⟩

end Go.Proofs.YtjjpbpgoenpkkaaDoor
