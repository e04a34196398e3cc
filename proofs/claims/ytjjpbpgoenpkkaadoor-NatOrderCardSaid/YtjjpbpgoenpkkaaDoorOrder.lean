/-
  The law NatOrder: what its walk answers, whatever the digits.
-/
import Derived.Test.YtjjpbpgoenpkkaaDoorBd
namespace Go.Proofs.YtjjpbpgoenpkkaaDoor
open Go.RowKit Go.Shelf
set_option linter.unusedVariables false

set_option maxRecDepth 100000 in
set_option maxHeartbeats 2000000 in
theorem order_any (w : World) (hT : Tab w) (A1 A2 A3 : Option Addr) (n1 c1 n2 c2 n3 c3 : Nat) (l1 l2 l3 : List Nat) (r_1 : Rd w w.heap.size A1 n1 c1 l1) (r_2 : Rd w w.heap.size A2 n2 c2 l2) (r_3 : Rd w w.heap.size A3 n3 c3 l3) (hm1 : n1 ≤ 9223372036854775807) (hm2 : n2 ≤ 9223372036854775807) (hm3 : n3 ≤ 9223372036854775807) :
    Calls Tryd.prog 6 #[.slice A1 n1 c1, .slice A2 n2 c2, .slice A3 n3 c3] w fun e w' => e = .returned (.bool true) ∧ Below w.heap.size w w' := by
  have HT := Lib.hid hT
  clear hT
  by_cases hf : n1 ≤ 12 ∧ n2 ≤ 12
  · obtain ⟨n_1_le, n_2_le⟩ := hf
    have hfew : (decide (n1 ≤ 12) && decide (n2 ≤ 12)) = true := by simp [n_1_le, n_2_le]
    by_cases n_3_le : n3 ≤ 12
    · by_cases q1 : rightB l1 = true
      · by_cases q2 : rightB l2 = true
        · by_cases q3 : rightB l3 = true
          · obtain ⟨X, rfl⟩ := as_digs r_1.dig q1
            obtain ⟨Y, rfl⟩ := as_digs r_2.dig q2
            obtain ⟨Z, rfl⟩ := as_digs r_3.dig q3
            have b_1 := rd_lt r_1 n_1_le
            have b_2 := rd_lt r_2 n_2_le
            have b_3 := rd_lt r_3 n_3_le
            have g3 : ¬ (12 : Int) < (n3 : Int) := by omega
            clear q1 q2 q3
            rcases Nat.eq_zero_or_pos Z with hZ | hZ
            · rcases Nat.lt_trichotomy X Y with h | h | h
              · have hn3 : n3 = 0 := by have := r_3.len; rw [hZ, digs_zero] at this; exact this.symm
                subst hn3
                go_enter Tryd.func6, Tryd.ntmps6
                go_wp2_with fail
                refine (small_any _ HT.out).mono ?_
                rintro e w1 ⟨rfl, hb⟩
                have r_1 := r_1.on hb
                have r_2 := r_2.on hb
                have r_3 := r_3.on hb
                have hb1 := hb
                clear hb
                go_wp2_with fail
                refine (few_any _ _ _ _ _ _ _ hm1 hm2).mono ?_
                rintro e w' ⟨rfl, rfl⟩
                rw [hfew]
                go_wp2_with fail
                refine (right_any _ _ _ _ _ _ r_1 (by omega)).mono ?_
                rintro e w' ⟨rfl, rfl⟩
                rw [rightB_digs]
                go_wp2_with fail
                refine (right_any _ _ _ _ _ _ r_2 (by omega)).mono ?_
                rintro e w' ⟨rfl, rfl⟩
                rw [rightB_digs]
                go_wp2_with fail
                refine (right_any _ _ _ _ _ _ r_3 (by omega)).mono ?_
                rintro e w' ⟨rfl, rfl⟩
                rw [rightB_digs]
                go_wp2_with fail
                refine (cmp_any _ _ _ _ _ _ _ _ _ r_1 r_2 (by omega) (by omega)).mono ?_
                rintro e w2 ⟨rfl, hb⟩
                have r_1 := r_1.on hb
                have r_2 := r_2.on hb
                have r_3 := r_3.on hb
                have hb2 := bltB hb1 hb1.size hb
                clear hb
                rw [tv_digs, tv_digs, cmp_lt h]
                go_wp2_with fail
                refine (sub_any _ _ _ _ _ _ _ _ _ r_1 r_2 (by omega) (by omega)).mono ?_
                rintro e w3 ⟨A_d, n_d, c_d, rfl, r_d, hb⟩
                have r_1 := r_1.on hb
                have r_2 := r_2.on hb
                have r_3 := r_3.on hb
                have hb3 := bltB hb2 hb2.size hb
                clear hb
                rw [tv_digs, tv_digs] at r_d
                rw [tv_digs, tv_digs, decide_eq_false (Nat.not_le_of_lt h)]
                have b_d : (X - Y) < 4294967296 ^ 12 := Nat.lt_of_le_of_lt (Nat.sub_le _ _) b_1
                have n_d_le : n_d ≤ 12 := rd_le r_d b_d
                go_wp2_with fail
                refine (sub_any _ _ _ _ _ _ _ _ _ r_2 r_1 (by omega) (by omega)).mono ?_
                rintro e w4 ⟨A_e, n_e, c_e, rfl, r_e, hb⟩
                have r_1 := r_1.on hb
                have r_2 := r_2.on hb
                have r_3 := r_3.on hb
                have r_d := r_d.on hb
                have hb4 := bltB hb3 hb3.size hb
                clear hb
                rw [tv_digs, tv_digs] at r_e
                rw [tv_digs, tv_digs, decide_eq_true (Nat.le_of_lt h)]
                have b_e : (Y - X) < 4294967296 ^ 12 := Nat.lt_of_le_of_lt (Nat.sub_le _ _) b_2
                have n_e_le : n_e ≤ 12 := rd_le r_e b_e
                go_wp2_with fail
                refine (add_any _ _ _ _ _ _ _ _ _ r_1 r_e (by omega) (by omega)).mono ?_
                rintro e w5 ⟨A_p, n_p, c_p, rfl, r_p, hb⟩
                have r_1 := r_1.on hb
                have r_2 := r_2.on hb
                have r_3 := r_3.on hb
                have r_d := r_d.on hb
                have r_e := r_e.on hb
                have hb5 := bltB hb4 hb4.size hb
                clear hb
                rw [tv_digs, tv_digs] at r_p
                have b_p : (X + (Y - X)) < 4294967296 ^ 13 := bd_add b_1 b_e (by decide) (by decide)
                have n_p_le : n_p ≤ 13 := rd_le r_p b_p
                go_wp2_with fail
                refine (same_any _ _ _ _ _ _ _ _ _ r_p r_2 (by omega)).mono ?_
                rintro e w6 ⟨rfl, hb⟩
                have r_1 := r_1.on hb
                have r_2 := r_2.on hb
                have r_3 := r_3.on hb
                have r_d := r_d.on hb
                have r_e := r_e.on hb
                have hb6 := bltB hb5 hb5.size hb
                clear hb
                rw [dec_same (show (X + (Y - X)) = Y from Nat.add_sub_of_le (by omega))]
                go_wp2_with fail
                refine (cmp_any _ _ _ _ _ _ _ _ _ r_2 r_1 (by omega) (by omega)).mono ?_
                rintro e w7 ⟨rfl, hb⟩
                have r_1 := r_1.on hb
                have r_2 := r_2.on hb
                have r_3 := r_3.on hb
                have hb7 := bltB hb6 hb6.size hb
                clear hb
                rw [tv_digs, tv_digs, cmp_gt h]
                go_wp2_with fail
                refine (same_any _ _ _ _ _ _ _ _ _ r_1 r_2 (by omega)).mono ?_
                rintro e w8 ⟨rfl, hb⟩
                have r_1 := r_1.on hb
                have r_2 := r_2.on hb
                have r_3 := r_3.on hb
                have hb8 := bltB hb7 hb7.size hb
                clear hb
                rw [dec_diff (show X ≠ Y by omega)]
                go_wp2_with fail
                refine (add_any _ _ _ _ _ _ _ _ _ r_1 r_3 (by omega) (by omega)).mono ?_
                rintro e w9 ⟨A_p, n_p, c_p, rfl, r_p, hb⟩
                have r_1 := r_1.on hb
                have r_2 := r_2.on hb
                have r_3 := r_3.on hb
                have hb9 := bltB hb8 hb8.size hb
                clear hb
                rw [tv_digs, tv_digs] at r_p
                have b_p : (X + Z) < 4294967296 ^ 13 := bd_add b_1 b_3 (by decide) (by decide)
                have n_p_le : n_p ≤ 13 := rd_le r_p b_p
                go_wp2_with fail
                refine (add_any _ _ _ _ _ _ _ _ _ r_2 r_3 (by omega) (by omega)).mono ?_
                rintro e w10 ⟨A_q, n_q, c_q, rfl, r_q, hb⟩
                have r_1 := r_1.on hb
                have r_2 := r_2.on hb
                have r_3 := r_3.on hb
                have r_p := r_p.on hb
                have hb10 := bltB hb9 hb9.size hb
                clear hb
                rw [tv_digs, tv_digs] at r_q
                have b_q : (Y + Z) < 4294967296 ^ 13 := bd_add b_2 b_3 (by decide) (by decide)
                have n_q_le : n_q ≤ 13 := rd_le r_q b_q
                go_wp2_with fail
                refine (cmp_any _ _ _ _ _ _ _ _ _ r_p r_q (by omega) (by omega)).mono ?_
                rintro e w11 ⟨rfl, hb⟩
                have r_1 := r_1.on hb
                have r_2 := r_2.on hb
                have r_3 := r_3.on hb
                have hb11 := bltB hb10 hb10.size hb
                clear hb
                rw [tv_digs, tv_digs, cmp_lt (show X + Z < Y + Z by omega)]
                go_wp2_with fail
                refine (mul_any _ _ _ _ _ _ _ _ _ r_1 r_3 (by omega) (by omega)).mono ?_
                rintro e w12 ⟨A_p, n_p, c_p, rfl, r_p, hb⟩
                have r_1 := r_1.on hb
                have r_2 := r_2.on hb
                have r_3 := r_3.on hb
                have hb12 := bltB hb11 hb11.size hb
                clear hb
                rw [tv_digs, tv_digs] at r_p
                have b_p : (X * Z) < 4294967296 ^ 24 := bd_mul b_1 b_3
                have n_p_le : n_p ≤ 24 := rd_le r_p b_p
                go_wp2_with fail
                refine (mul_any _ _ _ _ _ _ _ _ _ r_2 r_3 (by omega) (by omega)).mono ?_
                rintro e w13 ⟨A_q, n_q, c_q, rfl, r_q, hb⟩
                have r_1 := r_1.on hb
                have r_2 := r_2.on hb
                have r_3 := r_3.on hb
                have r_p := r_p.on hb
                have hb13 := bltB hb12 hb12.size hb
                clear hb
                rw [tv_digs, tv_digs] at r_q
                have b_q : (Y * Z) < 4294967296 ^ 24 := bd_mul b_2 b_3
                have n_q_le : n_q ≤ 24 := rd_le r_q b_q
                go_wp2_with fail
                refine (cmp_any _ _ _ _ _ _ _ _ _ r_p r_q (by omega) (by omega)).mono ?_
                rintro e w14 ⟨rfl, hb⟩
                have hb14 := bltB hb13 hb13.size hb
                clear hb
                rw [tv_digs, tv_digs, cmp_eq (show X * Z = Y * Z by rw [hZ]; rfl)]
                go_wp2_with fail
                go_ret
                exact ⟨rfl, hb14⟩
              · have hn3 : n3 = 0 := by have := r_3.len; rw [hZ, digs_zero] at this; exact this.symm
                subst hn3
                go_enter Tryd.func6, Tryd.ntmps6
                go_wp2_with fail
                refine (small_any _ HT.out).mono ?_
                rintro e w1 ⟨rfl, hb⟩
                have r_1 := r_1.on hb
                have r_2 := r_2.on hb
                have r_3 := r_3.on hb
                have hb1 := hb
                clear hb
                go_wp2_with fail
                refine (few_any _ _ _ _ _ _ _ hm1 hm2).mono ?_
                rintro e w' ⟨rfl, rfl⟩
                rw [hfew]
                go_wp2_with fail
                refine (right_any _ _ _ _ _ _ r_1 (by omega)).mono ?_
                rintro e w' ⟨rfl, rfl⟩
                rw [rightB_digs]
                go_wp2_with fail
                refine (right_any _ _ _ _ _ _ r_2 (by omega)).mono ?_
                rintro e w' ⟨rfl, rfl⟩
                rw [rightB_digs]
                go_wp2_with fail
                refine (right_any _ _ _ _ _ _ r_3 (by omega)).mono ?_
                rintro e w' ⟨rfl, rfl⟩
                rw [rightB_digs]
                go_wp2_with fail
                refine (cmp_any _ _ _ _ _ _ _ _ _ r_1 r_2 (by omega) (by omega)).mono ?_
                rintro e w2 ⟨rfl, hb⟩
                have r_1 := r_1.on hb
                have r_2 := r_2.on hb
                have r_3 := r_3.on hb
                have hb2 := bltB hb1 hb1.size hb
                clear hb
                rw [tv_digs, tv_digs, cmp_eq h]
                go_wp2_with fail
                refine (sub_any _ _ _ _ _ _ _ _ _ r_1 r_2 (by omega) (by omega)).mono ?_
                rintro e w3 ⟨A_d, n_d, c_d, rfl, r_d, hb⟩
                have r_1 := r_1.on hb
                have r_2 := r_2.on hb
                have r_3 := r_3.on hb
                have hb3 := bltB hb2 hb2.size hb
                clear hb
                rw [tv_digs, tv_digs] at r_d
                rw [tv_digs, tv_digs, decide_eq_true (Nat.le_of_eq h.symm)]
                have b_d : (X - Y) < 4294967296 ^ 12 := Nat.lt_of_le_of_lt (Nat.sub_le _ _) b_1
                have n_d_le : n_d ≤ 12 := rd_le r_d b_d
                go_wp2_with fail
                refine (sub_any _ _ _ _ _ _ _ _ _ r_2 r_1 (by omega) (by omega)).mono ?_
                rintro e w4 ⟨A_e, n_e, c_e, rfl, r_e, hb⟩
                have r_1 := r_1.on hb
                have r_2 := r_2.on hb
                have r_3 := r_3.on hb
                have r_d := r_d.on hb
                have hb4 := bltB hb3 hb3.size hb
                clear hb
                rw [tv_digs, tv_digs] at r_e
                rw [tv_digs, tv_digs, decide_eq_true (Nat.le_of_eq h)]
                have b_e : (Y - X) < 4294967296 ^ 12 := Nat.lt_of_le_of_lt (Nat.sub_le _ _) b_2
                have n_e_le : n_e ≤ 12 := rd_le r_e b_e
                go_wp2_with fail
                refine (add_any _ _ _ _ _ _ _ _ _ r_2 r_d (by omega) (by omega)).mono ?_
                rintro e w5 ⟨A_p, n_p, c_p, rfl, r_p, hb⟩
                have r_1 := r_1.on hb
                have r_2 := r_2.on hb
                have r_3 := r_3.on hb
                have r_d := r_d.on hb
                have r_e := r_e.on hb
                have hb5 := bltB hb4 hb4.size hb
                clear hb
                rw [tv_digs, tv_digs] at r_p
                have b_p : (Y + (X - Y)) < 4294967296 ^ 13 := bd_add b_2 b_d (by decide) (by decide)
                have n_p_le : n_p ≤ 13 := rd_le r_p b_p
                go_wp2_with fail
                refine (same_any _ _ _ _ _ _ _ _ _ r_p r_1 (by omega)).mono ?_
                rintro e w6 ⟨rfl, hb⟩
                have r_1 := r_1.on hb
                have r_2 := r_2.on hb
                have r_3 := r_3.on hb
                have r_d := r_d.on hb
                have r_e := r_e.on hb
                have hb6 := bltB hb5 hb5.size hb
                clear hb
                rw [dec_same (show (Y + (X - Y)) = X from Nat.add_sub_of_le (by omega))]
                go_wp2_with fail
                refine (add_any _ _ _ _ _ _ _ _ _ r_1 r_e (by omega) (by omega)).mono ?_
                rintro e w7 ⟨A_p, n_p, c_p, rfl, r_p, hb⟩
                have r_1 := r_1.on hb
                have r_2 := r_2.on hb
                have r_3 := r_3.on hb
                have r_d := r_d.on hb
                have r_e := r_e.on hb
                have hb7 := bltB hb6 hb6.size hb
                clear hb
                rw [tv_digs, tv_digs] at r_p
                have b_p : (X + (Y - X)) < 4294967296 ^ 13 := bd_add b_1 b_e (by decide) (by decide)
                have n_p_le : n_p ≤ 13 := rd_le r_p b_p
                go_wp2_with fail
                refine (same_any _ _ _ _ _ _ _ _ _ r_p r_2 (by omega)).mono ?_
                rintro e w8 ⟨rfl, hb⟩
                have r_1 := r_1.on hb
                have r_2 := r_2.on hb
                have r_3 := r_3.on hb
                have r_d := r_d.on hb
                have r_e := r_e.on hb
                have hb8 := bltB hb7 hb7.size hb
                clear hb
                rw [dec_same (show (X + (Y - X)) = Y from Nat.add_sub_of_le (by omega))]
                go_wp2_with fail
                refine (cmp_any _ _ _ _ _ _ _ _ _ r_2 r_1 (by omega) (by omega)).mono ?_
                rintro e w9 ⟨rfl, hb⟩
                have r_1 := r_1.on hb
                have r_2 := r_2.on hb
                have r_3 := r_3.on hb
                have hb9 := bltB hb8 hb8.size hb
                clear hb
                rw [tv_digs, tv_digs, cmp_eq h.symm]
                go_wp2_with fail
                refine (same_any _ _ _ _ _ _ _ _ _ r_1 r_2 (by omega)).mono ?_
                rintro e w10 ⟨rfl, hb⟩
                have r_1 := r_1.on hb
                have r_2 := r_2.on hb
                have r_3 := r_3.on hb
                have hb10 := bltB hb9 hb9.size hb
                clear hb
                rw [dec_same (show X = Y from h)]
                go_wp2_with fail
                refine (add_any _ _ _ _ _ _ _ _ _ r_1 r_3 (by omega) (by omega)).mono ?_
                rintro e w11 ⟨A_p, n_p, c_p, rfl, r_p, hb⟩
                have r_1 := r_1.on hb
                have r_2 := r_2.on hb
                have r_3 := r_3.on hb
                have hb11 := bltB hb10 hb10.size hb
                clear hb
                rw [tv_digs, tv_digs] at r_p
                have b_p : (X + Z) < 4294967296 ^ 13 := bd_add b_1 b_3 (by decide) (by decide)
                have n_p_le : n_p ≤ 13 := rd_le r_p b_p
                go_wp2_with fail
                refine (add_any _ _ _ _ _ _ _ _ _ r_2 r_3 (by omega) (by omega)).mono ?_
                rintro e w12 ⟨A_q, n_q, c_q, rfl, r_q, hb⟩
                have r_1 := r_1.on hb
                have r_2 := r_2.on hb
                have r_3 := r_3.on hb
                have r_p := r_p.on hb
                have hb12 := bltB hb11 hb11.size hb
                clear hb
                rw [tv_digs, tv_digs] at r_q
                have b_q : (Y + Z) < 4294967296 ^ 13 := bd_add b_2 b_3 (by decide) (by decide)
                have n_q_le : n_q ≤ 13 := rd_le r_q b_q
                go_wp2_with fail
                refine (cmp_any _ _ _ _ _ _ _ _ _ r_p r_q (by omega) (by omega)).mono ?_
                rintro e w13 ⟨rfl, hb⟩
                have r_1 := r_1.on hb
                have r_2 := r_2.on hb
                have r_3 := r_3.on hb
                have hb13 := bltB hb12 hb12.size hb
                clear hb
                rw [tv_digs, tv_digs, cmp_eq (show X + Z = Y + Z by omega)]
                go_wp2_with fail
                refine (mul_any _ _ _ _ _ _ _ _ _ r_1 r_3 (by omega) (by omega)).mono ?_
                rintro e w14 ⟨A_p, n_p, c_p, rfl, r_p, hb⟩
                have r_1 := r_1.on hb
                have r_2 := r_2.on hb
                have r_3 := r_3.on hb
                have hb14 := bltB hb13 hb13.size hb
                clear hb
                rw [tv_digs, tv_digs] at r_p
                have b_p : (X * Z) < 4294967296 ^ 24 := bd_mul b_1 b_3
                have n_p_le : n_p ≤ 24 := rd_le r_p b_p
                go_wp2_with fail
                refine (mul_any _ _ _ _ _ _ _ _ _ r_2 r_3 (by omega) (by omega)).mono ?_
                rintro e w15 ⟨A_q, n_q, c_q, rfl, r_q, hb⟩
                have r_1 := r_1.on hb
                have r_2 := r_2.on hb
                have r_3 := r_3.on hb
                have r_p := r_p.on hb
                have hb15 := bltB hb14 hb14.size hb
                clear hb
                rw [tv_digs, tv_digs] at r_q
                have b_q : (Y * Z) < 4294967296 ^ 24 := bd_mul b_2 b_3
                have n_q_le : n_q ≤ 24 := rd_le r_q b_q
                go_wp2_with fail
                refine (cmp_any _ _ _ _ _ _ _ _ _ r_p r_q (by omega) (by omega)).mono ?_
                rintro e w16 ⟨rfl, hb⟩
                have hb16 := bltB hb15 hb15.size hb
                clear hb
                rw [tv_digs, tv_digs, cmp_eq (show X * Z = Y * Z by rw [hZ]; rfl)]
                go_wp2_with fail
                go_ret
                exact ⟨rfl, hb16⟩
              · have hn3 : n3 = 0 := by have := r_3.len; rw [hZ, digs_zero] at this; exact this.symm
                subst hn3
                go_enter Tryd.func6, Tryd.ntmps6
                go_wp2_with fail
                refine (small_any _ HT.out).mono ?_
                rintro e w1 ⟨rfl, hb⟩
                have r_1 := r_1.on hb
                have r_2 := r_2.on hb
                have r_3 := r_3.on hb
                have hb1 := hb
                clear hb
                go_wp2_with fail
                refine (few_any _ _ _ _ _ _ _ hm1 hm2).mono ?_
                rintro e w' ⟨rfl, rfl⟩
                rw [hfew]
                go_wp2_with fail
                refine (right_any _ _ _ _ _ _ r_1 (by omega)).mono ?_
                rintro e w' ⟨rfl, rfl⟩
                rw [rightB_digs]
                go_wp2_with fail
                refine (right_any _ _ _ _ _ _ r_2 (by omega)).mono ?_
                rintro e w' ⟨rfl, rfl⟩
                rw [rightB_digs]
                go_wp2_with fail
                refine (right_any _ _ _ _ _ _ r_3 (by omega)).mono ?_
                rintro e w' ⟨rfl, rfl⟩
                rw [rightB_digs]
                go_wp2_with fail
                refine (cmp_any _ _ _ _ _ _ _ _ _ r_1 r_2 (by omega) (by omega)).mono ?_
                rintro e w2 ⟨rfl, hb⟩
                have r_1 := r_1.on hb
                have r_2 := r_2.on hb
                have r_3 := r_3.on hb
                have hb2 := bltB hb1 hb1.size hb
                clear hb
                rw [tv_digs, tv_digs, cmp_gt h]
                go_wp2_with fail
                refine (sub_any _ _ _ _ _ _ _ _ _ r_1 r_2 (by omega) (by omega)).mono ?_
                rintro e w3 ⟨A_d, n_d, c_d, rfl, r_d, hb⟩
                have r_1 := r_1.on hb
                have r_2 := r_2.on hb
                have r_3 := r_3.on hb
                have hb3 := bltB hb2 hb2.size hb
                clear hb
                rw [tv_digs, tv_digs] at r_d
                rw [tv_digs, tv_digs, decide_eq_true (Nat.le_of_lt h)]
                have b_d : (X - Y) < 4294967296 ^ 12 := Nat.lt_of_le_of_lt (Nat.sub_le _ _) b_1
                have n_d_le : n_d ≤ 12 := rd_le r_d b_d
                go_wp2_with fail
                refine (sub_any _ _ _ _ _ _ _ _ _ r_2 r_1 (by omega) (by omega)).mono ?_
                rintro e w4 ⟨A_e, n_e, c_e, rfl, r_e, hb⟩
                have r_1 := r_1.on hb
                have r_2 := r_2.on hb
                have r_3 := r_3.on hb
                have r_d := r_d.on hb
                have hb4 := bltB hb3 hb3.size hb
                clear hb
                rw [tv_digs, tv_digs] at r_e
                rw [tv_digs, tv_digs, decide_eq_false (Nat.not_le_of_lt h)]
                have b_e : (Y - X) < 4294967296 ^ 12 := Nat.lt_of_le_of_lt (Nat.sub_le _ _) b_2
                have n_e_le : n_e ≤ 12 := rd_le r_e b_e
                go_wp2_with fail
                refine (add_any _ _ _ _ _ _ _ _ _ r_2 r_d (by omega) (by omega)).mono ?_
                rintro e w5 ⟨A_p, n_p, c_p, rfl, r_p, hb⟩
                have r_1 := r_1.on hb
                have r_2 := r_2.on hb
                have r_3 := r_3.on hb
                have r_d := r_d.on hb
                have r_e := r_e.on hb
                have hb5 := bltB hb4 hb4.size hb
                clear hb
                rw [tv_digs, tv_digs] at r_p
                have b_p : (Y + (X - Y)) < 4294967296 ^ 13 := bd_add b_2 b_d (by decide) (by decide)
                have n_p_le : n_p ≤ 13 := rd_le r_p b_p
                go_wp2_with fail
                refine (same_any _ _ _ _ _ _ _ _ _ r_p r_1 (by omega)).mono ?_
                rintro e w6 ⟨rfl, hb⟩
                have r_1 := r_1.on hb
                have r_2 := r_2.on hb
                have r_3 := r_3.on hb
                have r_d := r_d.on hb
                have r_e := r_e.on hb
                have hb6 := bltB hb5 hb5.size hb
                clear hb
                rw [dec_same (show (Y + (X - Y)) = X from Nat.add_sub_of_le (by omega))]
                go_wp2_with fail
                refine (cmp_any _ _ _ _ _ _ _ _ _ r_2 r_1 (by omega) (by omega)).mono ?_
                rintro e w7 ⟨rfl, hb⟩
                have r_1 := r_1.on hb
                have r_2 := r_2.on hb
                have r_3 := r_3.on hb
                have hb7 := bltB hb6 hb6.size hb
                clear hb
                rw [tv_digs, tv_digs, cmp_lt h]
                go_wp2_with fail
                refine (same_any _ _ _ _ _ _ _ _ _ r_1 r_2 (by omega)).mono ?_
                rintro e w8 ⟨rfl, hb⟩
                have r_1 := r_1.on hb
                have r_2 := r_2.on hb
                have r_3 := r_3.on hb
                have hb8 := bltB hb7 hb7.size hb
                clear hb
                rw [dec_diff (show X ≠ Y by omega)]
                go_wp2_with fail
                refine (add_any _ _ _ _ _ _ _ _ _ r_1 r_3 (by omega) (by omega)).mono ?_
                rintro e w9 ⟨A_p, n_p, c_p, rfl, r_p, hb⟩
                have r_1 := r_1.on hb
                have r_2 := r_2.on hb
                have r_3 := r_3.on hb
                have hb9 := bltB hb8 hb8.size hb
                clear hb
                rw [tv_digs, tv_digs] at r_p
                have b_p : (X + Z) < 4294967296 ^ 13 := bd_add b_1 b_3 (by decide) (by decide)
                have n_p_le : n_p ≤ 13 := rd_le r_p b_p
                go_wp2_with fail
                refine (add_any _ _ _ _ _ _ _ _ _ r_2 r_3 (by omega) (by omega)).mono ?_
                rintro e w10 ⟨A_q, n_q, c_q, rfl, r_q, hb⟩
                have r_1 := r_1.on hb
                have r_2 := r_2.on hb
                have r_3 := r_3.on hb
                have r_p := r_p.on hb
                have hb10 := bltB hb9 hb9.size hb
                clear hb
                rw [tv_digs, tv_digs] at r_q
                have b_q : (Y + Z) < 4294967296 ^ 13 := bd_add b_2 b_3 (by decide) (by decide)
                have n_q_le : n_q ≤ 13 := rd_le r_q b_q
                go_wp2_with fail
                refine (cmp_any _ _ _ _ _ _ _ _ _ r_p r_q (by omega) (by omega)).mono ?_
                rintro e w11 ⟨rfl, hb⟩
                have r_1 := r_1.on hb
                have r_2 := r_2.on hb
                have r_3 := r_3.on hb
                have hb11 := bltB hb10 hb10.size hb
                clear hb
                rw [tv_digs, tv_digs, cmp_gt (show Y + Z < X + Z by omega)]
                go_wp2_with fail
                refine (mul_any _ _ _ _ _ _ _ _ _ r_1 r_3 (by omega) (by omega)).mono ?_
                rintro e w12 ⟨A_p, n_p, c_p, rfl, r_p, hb⟩
                have r_1 := r_1.on hb
                have r_2 := r_2.on hb
                have r_3 := r_3.on hb
                have hb12 := bltB hb11 hb11.size hb
                clear hb
                rw [tv_digs, tv_digs] at r_p
                have b_p : (X * Z) < 4294967296 ^ 24 := bd_mul b_1 b_3
                have n_p_le : n_p ≤ 24 := rd_le r_p b_p
                go_wp2_with fail
                refine (mul_any _ _ _ _ _ _ _ _ _ r_2 r_3 (by omega) (by omega)).mono ?_
                rintro e w13 ⟨A_q, n_q, c_q, rfl, r_q, hb⟩
                have r_1 := r_1.on hb
                have r_2 := r_2.on hb
                have r_3 := r_3.on hb
                have r_p := r_p.on hb
                have hb13 := bltB hb12 hb12.size hb
                clear hb
                rw [tv_digs, tv_digs] at r_q
                have b_q : (Y * Z) < 4294967296 ^ 24 := bd_mul b_2 b_3
                have n_q_le : n_q ≤ 24 := rd_le r_q b_q
                go_wp2_with fail
                refine (cmp_any _ _ _ _ _ _ _ _ _ r_p r_q (by omega) (by omega)).mono ?_
                rintro e w14 ⟨rfl, hb⟩
                have hb14 := bltB hb13 hb13.size hb
                clear hb
                rw [tv_digs, tv_digs, cmp_eq (show X * Z = Y * Z by rw [hZ]; rfl)]
                go_wp2_with fail
                go_ret
                exact ⟨rfl, hb14⟩
            · rcases Nat.lt_trichotomy X Y with h | h | h
              · have gz : ((n3 : Int) == 0) = false := by
                  have : n3 ≠ 0 := fun e => by
                    subst e
                    have := digs_nil_iff.1 r_3.nil_of
                    omega
                  simp; omega
                go_enter Tryd.func6, Tryd.ntmps6
                go_wp2_with fail
                refine (small_any _ HT.out).mono ?_
                rintro e w1 ⟨rfl, hb⟩
                have r_1 := r_1.on hb
                have r_2 := r_2.on hb
                have r_3 := r_3.on hb
                have hb1 := hb
                clear hb
                go_wp2_with fail
                refine (few_any _ _ _ _ _ _ _ hm1 hm2).mono ?_
                rintro e w' ⟨rfl, rfl⟩
                rw [hfew]
                go_wp2_with fail
                refine (right_any _ _ _ _ _ _ r_1 (by omega)).mono ?_
                rintro e w' ⟨rfl, rfl⟩
                rw [rightB_digs]
                go_wp2_with fail
                refine (right_any _ _ _ _ _ _ r_2 (by omega)).mono ?_
                rintro e w' ⟨rfl, rfl⟩
                rw [rightB_digs]
                go_wp2_with fail
                refine (right_any _ _ _ _ _ _ r_3 (by omega)).mono ?_
                rintro e w' ⟨rfl, rfl⟩
                rw [rightB_digs]
                go_wp2_with fail
                refine (cmp_any _ _ _ _ _ _ _ _ _ r_1 r_2 (by omega) (by omega)).mono ?_
                rintro e w2 ⟨rfl, hb⟩
                have r_1 := r_1.on hb
                have r_2 := r_2.on hb
                have r_3 := r_3.on hb
                have hb2 := bltB hb1 hb1.size hb
                clear hb
                rw [tv_digs, tv_digs, cmp_lt h]
                go_wp2_with fail
                refine (sub_any _ _ _ _ _ _ _ _ _ r_1 r_2 (by omega) (by omega)).mono ?_
                rintro e w3 ⟨A_d, n_d, c_d, rfl, r_d, hb⟩
                have r_1 := r_1.on hb
                have r_2 := r_2.on hb
                have r_3 := r_3.on hb
                have hb3 := bltB hb2 hb2.size hb
                clear hb
                rw [tv_digs, tv_digs] at r_d
                rw [tv_digs, tv_digs, decide_eq_false (Nat.not_le_of_lt h)]
                have b_d : (X - Y) < 4294967296 ^ 12 := Nat.lt_of_le_of_lt (Nat.sub_le _ _) b_1
                have n_d_le : n_d ≤ 12 := rd_le r_d b_d
                go_wp2_with fail
                refine (sub_any _ _ _ _ _ _ _ _ _ r_2 r_1 (by omega) (by omega)).mono ?_
                rintro e w4 ⟨A_e, n_e, c_e, rfl, r_e, hb⟩
                have r_1 := r_1.on hb
                have r_2 := r_2.on hb
                have r_3 := r_3.on hb
                have r_d := r_d.on hb
                have hb4 := bltB hb3 hb3.size hb
                clear hb
                rw [tv_digs, tv_digs] at r_e
                rw [tv_digs, tv_digs, decide_eq_true (Nat.le_of_lt h)]
                have b_e : (Y - X) < 4294967296 ^ 12 := Nat.lt_of_le_of_lt (Nat.sub_le _ _) b_2
                have n_e_le : n_e ≤ 12 := rd_le r_e b_e
                go_wp2_with fail
                refine (add_any _ _ _ _ _ _ _ _ _ r_1 r_e (by omega) (by omega)).mono ?_
                rintro e w5 ⟨A_p, n_p, c_p, rfl, r_p, hb⟩
                have r_1 := r_1.on hb
                have r_2 := r_2.on hb
                have r_3 := r_3.on hb
                have r_d := r_d.on hb
                have r_e := r_e.on hb
                have hb5 := bltB hb4 hb4.size hb
                clear hb
                rw [tv_digs, tv_digs] at r_p
                have b_p : (X + (Y - X)) < 4294967296 ^ 13 := bd_add b_1 b_e (by decide) (by decide)
                have n_p_le : n_p ≤ 13 := rd_le r_p b_p
                go_wp2_with fail
                refine (same_any _ _ _ _ _ _ _ _ _ r_p r_2 (by omega)).mono ?_
                rintro e w6 ⟨rfl, hb⟩
                have r_1 := r_1.on hb
                have r_2 := r_2.on hb
                have r_3 := r_3.on hb
                have r_d := r_d.on hb
                have r_e := r_e.on hb
                have hb6 := bltB hb5 hb5.size hb
                clear hb
                rw [dec_same (show (X + (Y - X)) = Y from Nat.add_sub_of_le (by omega))]
                go_wp2_with fail
                refine (cmp_any _ _ _ _ _ _ _ _ _ r_2 r_1 (by omega) (by omega)).mono ?_
                rintro e w7 ⟨rfl, hb⟩
                have r_1 := r_1.on hb
                have r_2 := r_2.on hb
                have r_3 := r_3.on hb
                have hb7 := bltB hb6 hb6.size hb
                clear hb
                rw [tv_digs, tv_digs, cmp_gt h]
                go_wp2_with fail
                refine (same_any _ _ _ _ _ _ _ _ _ r_1 r_2 (by omega)).mono ?_
                rintro e w8 ⟨rfl, hb⟩
                have r_1 := r_1.on hb
                have r_2 := r_2.on hb
                have r_3 := r_3.on hb
                have hb8 := bltB hb7 hb7.size hb
                clear hb
                rw [dec_diff (show X ≠ Y by omega)]
                go_wp2_with fail
                refine (add_any _ _ _ _ _ _ _ _ _ r_1 r_3 (by omega) (by omega)).mono ?_
                rintro e w9 ⟨A_p, n_p, c_p, rfl, r_p, hb⟩
                have r_1 := r_1.on hb
                have r_2 := r_2.on hb
                have r_3 := r_3.on hb
                have hb9 := bltB hb8 hb8.size hb
                clear hb
                rw [tv_digs, tv_digs] at r_p
                have b_p : (X + Z) < 4294967296 ^ 13 := bd_add b_1 b_3 (by decide) (by decide)
                have n_p_le : n_p ≤ 13 := rd_le r_p b_p
                go_wp2_with fail
                refine (add_any _ _ _ _ _ _ _ _ _ r_2 r_3 (by omega) (by omega)).mono ?_
                rintro e w10 ⟨A_q, n_q, c_q, rfl, r_q, hb⟩
                have r_1 := r_1.on hb
                have r_2 := r_2.on hb
                have r_3 := r_3.on hb
                have r_p := r_p.on hb
                have hb10 := bltB hb9 hb9.size hb
                clear hb
                rw [tv_digs, tv_digs] at r_q
                have b_q : (Y + Z) < 4294967296 ^ 13 := bd_add b_2 b_3 (by decide) (by decide)
                have n_q_le : n_q ≤ 13 := rd_le r_q b_q
                go_wp2_with fail
                refine (cmp_any _ _ _ _ _ _ _ _ _ r_p r_q (by omega) (by omega)).mono ?_
                rintro e w11 ⟨rfl, hb⟩
                have r_1 := r_1.on hb
                have r_2 := r_2.on hb
                have r_3 := r_3.on hb
                have hb11 := bltB hb10 hb10.size hb
                clear hb
                rw [tv_digs, tv_digs, cmp_lt (show X + Z < Y + Z by omega)]
                go_wp2_with fail
                refine (mul_any _ _ _ _ _ _ _ _ _ r_1 r_3 (by omega) (by omega)).mono ?_
                rintro e w12 ⟨A_p, n_p, c_p, rfl, r_p, hb⟩
                have r_1 := r_1.on hb
                have r_2 := r_2.on hb
                have r_3 := r_3.on hb
                have hb12 := bltB hb11 hb11.size hb
                clear hb
                rw [tv_digs, tv_digs] at r_p
                have b_p : (X * Z) < 4294967296 ^ 24 := bd_mul b_1 b_3
                have n_p_le : n_p ≤ 24 := rd_le r_p b_p
                go_wp2_with fail
                refine (mul_any _ _ _ _ _ _ _ _ _ r_2 r_3 (by omega) (by omega)).mono ?_
                rintro e w13 ⟨A_q, n_q, c_q, rfl, r_q, hb⟩
                have r_1 := r_1.on hb
                have r_2 := r_2.on hb
                have r_3 := r_3.on hb
                have r_p := r_p.on hb
                have hb13 := bltB hb12 hb12.size hb
                clear hb
                rw [tv_digs, tv_digs] at r_q
                have b_q : (Y * Z) < 4294967296 ^ 24 := bd_mul b_2 b_3
                have n_q_le : n_q ≤ 24 := rd_le r_q b_q
                go_wp2_with fail
                refine (cmp_any _ _ _ _ _ _ _ _ _ r_p r_q (by omega) (by omega)).mono ?_
                rintro e w14 ⟨rfl, hb⟩
                have hb14 := bltB hb13 hb13.size hb
                clear hb
                rw [tv_digs, tv_digs, cmp_lt (show X * Z < Y * Z from (Nat.mul_lt_mul_right hZ).2 h)]
                go_wp2_with fail
                go_ret
                exact ⟨rfl, hb14⟩
              · have gz : ((n3 : Int) == 0) = false := by
                  have : n3 ≠ 0 := fun e => by
                    subst e
                    have := digs_nil_iff.1 r_3.nil_of
                    omega
                  simp; omega
                go_enter Tryd.func6, Tryd.ntmps6
                go_wp2_with fail
                refine (small_any _ HT.out).mono ?_
                rintro e w1 ⟨rfl, hb⟩
                have r_1 := r_1.on hb
                have r_2 := r_2.on hb
                have r_3 := r_3.on hb
                have hb1 := hb
                clear hb
                go_wp2_with fail
                refine (few_any _ _ _ _ _ _ _ hm1 hm2).mono ?_
                rintro e w' ⟨rfl, rfl⟩
                rw [hfew]
                go_wp2_with fail
                refine (right_any _ _ _ _ _ _ r_1 (by omega)).mono ?_
                rintro e w' ⟨rfl, rfl⟩
                rw [rightB_digs]
                go_wp2_with fail
                refine (right_any _ _ _ _ _ _ r_2 (by omega)).mono ?_
                rintro e w' ⟨rfl, rfl⟩
                rw [rightB_digs]
                go_wp2_with fail
                refine (right_any _ _ _ _ _ _ r_3 (by omega)).mono ?_
                rintro e w' ⟨rfl, rfl⟩
                rw [rightB_digs]
                go_wp2_with fail
                refine (cmp_any _ _ _ _ _ _ _ _ _ r_1 r_2 (by omega) (by omega)).mono ?_
                rintro e w2 ⟨rfl, hb⟩
                have r_1 := r_1.on hb
                have r_2 := r_2.on hb
                have r_3 := r_3.on hb
                have hb2 := bltB hb1 hb1.size hb
                clear hb
                rw [tv_digs, tv_digs, cmp_eq h]
                go_wp2_with fail
                refine (sub_any _ _ _ _ _ _ _ _ _ r_1 r_2 (by omega) (by omega)).mono ?_
                rintro e w3 ⟨A_d, n_d, c_d, rfl, r_d, hb⟩
                have r_1 := r_1.on hb
                have r_2 := r_2.on hb
                have r_3 := r_3.on hb
                have hb3 := bltB hb2 hb2.size hb
                clear hb
                rw [tv_digs, tv_digs] at r_d
                rw [tv_digs, tv_digs, decide_eq_true (Nat.le_of_eq h.symm)]
                have b_d : (X - Y) < 4294967296 ^ 12 := Nat.lt_of_le_of_lt (Nat.sub_le _ _) b_1
                have n_d_le : n_d ≤ 12 := rd_le r_d b_d
                go_wp2_with fail
                refine (sub_any _ _ _ _ _ _ _ _ _ r_2 r_1 (by omega) (by omega)).mono ?_
                rintro e w4 ⟨A_e, n_e, c_e, rfl, r_e, hb⟩
                have r_1 := r_1.on hb
                have r_2 := r_2.on hb
                have r_3 := r_3.on hb
                have r_d := r_d.on hb
                have hb4 := bltB hb3 hb3.size hb
                clear hb
                rw [tv_digs, tv_digs] at r_e
                rw [tv_digs, tv_digs, decide_eq_true (Nat.le_of_eq h)]
                have b_e : (Y - X) < 4294967296 ^ 12 := Nat.lt_of_le_of_lt (Nat.sub_le _ _) b_2
                have n_e_le : n_e ≤ 12 := rd_le r_e b_e
                go_wp2_with fail
                refine (add_any _ _ _ _ _ _ _ _ _ r_2 r_d (by omega) (by omega)).mono ?_
                rintro e w5 ⟨A_p, n_p, c_p, rfl, r_p, hb⟩
                have r_1 := r_1.on hb
                have r_2 := r_2.on hb
                have r_3 := r_3.on hb
                have r_d := r_d.on hb
                have r_e := r_e.on hb
                have hb5 := bltB hb4 hb4.size hb
                clear hb
                rw [tv_digs, tv_digs] at r_p
                have b_p : (Y + (X - Y)) < 4294967296 ^ 13 := bd_add b_2 b_d (by decide) (by decide)
                have n_p_le : n_p ≤ 13 := rd_le r_p b_p
                go_wp2_with fail
                refine (same_any _ _ _ _ _ _ _ _ _ r_p r_1 (by omega)).mono ?_
                rintro e w6 ⟨rfl, hb⟩
                have r_1 := r_1.on hb
                have r_2 := r_2.on hb
                have r_3 := r_3.on hb
                have r_d := r_d.on hb
                have r_e := r_e.on hb
                have hb6 := bltB hb5 hb5.size hb
                clear hb
                rw [dec_same (show (Y + (X - Y)) = X from Nat.add_sub_of_le (by omega))]
                go_wp2_with fail
                refine (add_any _ _ _ _ _ _ _ _ _ r_1 r_e (by omega) (by omega)).mono ?_
                rintro e w7 ⟨A_p, n_p, c_p, rfl, r_p, hb⟩
                have r_1 := r_1.on hb
                have r_2 := r_2.on hb
                have r_3 := r_3.on hb
                have r_d := r_d.on hb
                have r_e := r_e.on hb
                have hb7 := bltB hb6 hb6.size hb
                clear hb
                rw [tv_digs, tv_digs] at r_p
                have b_p : (X + (Y - X)) < 4294967296 ^ 13 := bd_add b_1 b_e (by decide) (by decide)
                have n_p_le : n_p ≤ 13 := rd_le r_p b_p
                go_wp2_with fail
                refine (same_any _ _ _ _ _ _ _ _ _ r_p r_2 (by omega)).mono ?_
                rintro e w8 ⟨rfl, hb⟩
                have r_1 := r_1.on hb
                have r_2 := r_2.on hb
                have r_3 := r_3.on hb
                have r_d := r_d.on hb
                have r_e := r_e.on hb
                have hb8 := bltB hb7 hb7.size hb
                clear hb
                rw [dec_same (show (X + (Y - X)) = Y from Nat.add_sub_of_le (by omega))]
                go_wp2_with fail
                refine (cmp_any _ _ _ _ _ _ _ _ _ r_2 r_1 (by omega) (by omega)).mono ?_
                rintro e w9 ⟨rfl, hb⟩
                have r_1 := r_1.on hb
                have r_2 := r_2.on hb
                have r_3 := r_3.on hb
                have hb9 := bltB hb8 hb8.size hb
                clear hb
                rw [tv_digs, tv_digs, cmp_eq h.symm]
                go_wp2_with fail
                refine (same_any _ _ _ _ _ _ _ _ _ r_1 r_2 (by omega)).mono ?_
                rintro e w10 ⟨rfl, hb⟩
                have r_1 := r_1.on hb
                have r_2 := r_2.on hb
                have r_3 := r_3.on hb
                have hb10 := bltB hb9 hb9.size hb
                clear hb
                rw [dec_same (show X = Y from h)]
                go_wp2_with fail
                refine (add_any _ _ _ _ _ _ _ _ _ r_1 r_3 (by omega) (by omega)).mono ?_
                rintro e w11 ⟨A_p, n_p, c_p, rfl, r_p, hb⟩
                have r_1 := r_1.on hb
                have r_2 := r_2.on hb
                have r_3 := r_3.on hb
                have hb11 := bltB hb10 hb10.size hb
                clear hb
                rw [tv_digs, tv_digs] at r_p
                have b_p : (X + Z) < 4294967296 ^ 13 := bd_add b_1 b_3 (by decide) (by decide)
                have n_p_le : n_p ≤ 13 := rd_le r_p b_p
                go_wp2_with fail
                refine (add_any _ _ _ _ _ _ _ _ _ r_2 r_3 (by omega) (by omega)).mono ?_
                rintro e w12 ⟨A_q, n_q, c_q, rfl, r_q, hb⟩
                have r_1 := r_1.on hb
                have r_2 := r_2.on hb
                have r_3 := r_3.on hb
                have r_p := r_p.on hb
                have hb12 := bltB hb11 hb11.size hb
                clear hb
                rw [tv_digs, tv_digs] at r_q
                have b_q : (Y + Z) < 4294967296 ^ 13 := bd_add b_2 b_3 (by decide) (by decide)
                have n_q_le : n_q ≤ 13 := rd_le r_q b_q
                go_wp2_with fail
                refine (cmp_any _ _ _ _ _ _ _ _ _ r_p r_q (by omega) (by omega)).mono ?_
                rintro e w13 ⟨rfl, hb⟩
                have r_1 := r_1.on hb
                have r_2 := r_2.on hb
                have r_3 := r_3.on hb
                have hb13 := bltB hb12 hb12.size hb
                clear hb
                rw [tv_digs, tv_digs, cmp_eq (show X + Z = Y + Z by omega)]
                go_wp2_with fail
                refine (mul_any _ _ _ _ _ _ _ _ _ r_1 r_3 (by omega) (by omega)).mono ?_
                rintro e w14 ⟨A_p, n_p, c_p, rfl, r_p, hb⟩
                have r_1 := r_1.on hb
                have r_2 := r_2.on hb
                have r_3 := r_3.on hb
                have hb14 := bltB hb13 hb13.size hb
                clear hb
                rw [tv_digs, tv_digs] at r_p
                have b_p : (X * Z) < 4294967296 ^ 24 := bd_mul b_1 b_3
                have n_p_le : n_p ≤ 24 := rd_le r_p b_p
                go_wp2_with fail
                refine (mul_any _ _ _ _ _ _ _ _ _ r_2 r_3 (by omega) (by omega)).mono ?_
                rintro e w15 ⟨A_q, n_q, c_q, rfl, r_q, hb⟩
                have r_1 := r_1.on hb
                have r_2 := r_2.on hb
                have r_3 := r_3.on hb
                have r_p := r_p.on hb
                have hb15 := bltB hb14 hb14.size hb
                clear hb
                rw [tv_digs, tv_digs] at r_q
                have b_q : (Y * Z) < 4294967296 ^ 24 := bd_mul b_2 b_3
                have n_q_le : n_q ≤ 24 := rd_le r_q b_q
                go_wp2_with fail
                refine (cmp_any _ _ _ _ _ _ _ _ _ r_p r_q (by omega) (by omega)).mono ?_
                rintro e w16 ⟨rfl, hb⟩
                have hb16 := bltB hb15 hb15.size hb
                clear hb
                rw [tv_digs, tv_digs, cmp_eq (show X * Z = Y * Z by rw [h])]
                go_wp2_with fail
                go_ret
                exact ⟨rfl, hb16⟩
              · have gz : ((n3 : Int) == 0) = false := by
                  have : n3 ≠ 0 := fun e => by
                    subst e
                    have := digs_nil_iff.1 r_3.nil_of
                    omega
                  simp; omega
                go_enter Tryd.func6, Tryd.ntmps6
                go_wp2_with fail
                refine (small_any _ HT.out).mono ?_
                rintro e w1 ⟨rfl, hb⟩
                have r_1 := r_1.on hb
                have r_2 := r_2.on hb
                have r_3 := r_3.on hb
                have hb1 := hb
                clear hb
                go_wp2_with fail
                refine (few_any _ _ _ _ _ _ _ hm1 hm2).mono ?_
                rintro e w' ⟨rfl, rfl⟩
                rw [hfew]
                go_wp2_with fail
                refine (right_any _ _ _ _ _ _ r_1 (by omega)).mono ?_
                rintro e w' ⟨rfl, rfl⟩
                rw [rightB_digs]
                go_wp2_with fail
                refine (right_any _ _ _ _ _ _ r_2 (by omega)).mono ?_
                rintro e w' ⟨rfl, rfl⟩
                rw [rightB_digs]
                go_wp2_with fail
                refine (right_any _ _ _ _ _ _ r_3 (by omega)).mono ?_
                rintro e w' ⟨rfl, rfl⟩
                rw [rightB_digs]
                go_wp2_with fail
                refine (cmp_any _ _ _ _ _ _ _ _ _ r_1 r_2 (by omega) (by omega)).mono ?_
                rintro e w2 ⟨rfl, hb⟩
                have r_1 := r_1.on hb
                have r_2 := r_2.on hb
                have r_3 := r_3.on hb
                have hb2 := bltB hb1 hb1.size hb
                clear hb
                rw [tv_digs, tv_digs, cmp_gt h]
                go_wp2_with fail
                refine (sub_any _ _ _ _ _ _ _ _ _ r_1 r_2 (by omega) (by omega)).mono ?_
                rintro e w3 ⟨A_d, n_d, c_d, rfl, r_d, hb⟩
                have r_1 := r_1.on hb
                have r_2 := r_2.on hb
                have r_3 := r_3.on hb
                have hb3 := bltB hb2 hb2.size hb
                clear hb
                rw [tv_digs, tv_digs] at r_d
                rw [tv_digs, tv_digs, decide_eq_true (Nat.le_of_lt h)]
                have b_d : (X - Y) < 4294967296 ^ 12 := Nat.lt_of_le_of_lt (Nat.sub_le _ _) b_1
                have n_d_le : n_d ≤ 12 := rd_le r_d b_d
                go_wp2_with fail
                refine (sub_any _ _ _ _ _ _ _ _ _ r_2 r_1 (by omega) (by omega)).mono ?_
                rintro e w4 ⟨A_e, n_e, c_e, rfl, r_e, hb⟩
                have r_1 := r_1.on hb
                have r_2 := r_2.on hb
                have r_3 := r_3.on hb
                have r_d := r_d.on hb
                have hb4 := bltB hb3 hb3.size hb
                clear hb
                rw [tv_digs, tv_digs] at r_e
                rw [tv_digs, tv_digs, decide_eq_false (Nat.not_le_of_lt h)]
                have b_e : (Y - X) < 4294967296 ^ 12 := Nat.lt_of_le_of_lt (Nat.sub_le _ _) b_2
                have n_e_le : n_e ≤ 12 := rd_le r_e b_e
                go_wp2_with fail
                refine (add_any _ _ _ _ _ _ _ _ _ r_2 r_d (by omega) (by omega)).mono ?_
                rintro e w5 ⟨A_p, n_p, c_p, rfl, r_p, hb⟩
                have r_1 := r_1.on hb
                have r_2 := r_2.on hb
                have r_3 := r_3.on hb
                have r_d := r_d.on hb
                have r_e := r_e.on hb
                have hb5 := bltB hb4 hb4.size hb
                clear hb
                rw [tv_digs, tv_digs] at r_p
                have b_p : (Y + (X - Y)) < 4294967296 ^ 13 := bd_add b_2 b_d (by decide) (by decide)
                have n_p_le : n_p ≤ 13 := rd_le r_p b_p
                go_wp2_with fail
                refine (same_any _ _ _ _ _ _ _ _ _ r_p r_1 (by omega)).mono ?_
                rintro e w6 ⟨rfl, hb⟩
                have r_1 := r_1.on hb
                have r_2 := r_2.on hb
                have r_3 := r_3.on hb
                have r_d := r_d.on hb
                have r_e := r_e.on hb
                have hb6 := bltB hb5 hb5.size hb
                clear hb
                rw [dec_same (show (Y + (X - Y)) = X from Nat.add_sub_of_le (by omega))]
                go_wp2_with fail
                refine (cmp_any _ _ _ _ _ _ _ _ _ r_2 r_1 (by omega) (by omega)).mono ?_
                rintro e w7 ⟨rfl, hb⟩
                have r_1 := r_1.on hb
                have r_2 := r_2.on hb
                have r_3 := r_3.on hb
                have hb7 := bltB hb6 hb6.size hb
                clear hb
                rw [tv_digs, tv_digs, cmp_lt h]
                go_wp2_with fail
                refine (same_any _ _ _ _ _ _ _ _ _ r_1 r_2 (by omega)).mono ?_
                rintro e w8 ⟨rfl, hb⟩
                have r_1 := r_1.on hb
                have r_2 := r_2.on hb
                have r_3 := r_3.on hb
                have hb8 := bltB hb7 hb7.size hb
                clear hb
                rw [dec_diff (show X ≠ Y by omega)]
                go_wp2_with fail
                refine (add_any _ _ _ _ _ _ _ _ _ r_1 r_3 (by omega) (by omega)).mono ?_
                rintro e w9 ⟨A_p, n_p, c_p, rfl, r_p, hb⟩
                have r_1 := r_1.on hb
                have r_2 := r_2.on hb
                have r_3 := r_3.on hb
                have hb9 := bltB hb8 hb8.size hb
                clear hb
                rw [tv_digs, tv_digs] at r_p
                have b_p : (X + Z) < 4294967296 ^ 13 := bd_add b_1 b_3 (by decide) (by decide)
                have n_p_le : n_p ≤ 13 := rd_le r_p b_p
                go_wp2_with fail
                refine (add_any _ _ _ _ _ _ _ _ _ r_2 r_3 (by omega) (by omega)).mono ?_
                rintro e w10 ⟨A_q, n_q, c_q, rfl, r_q, hb⟩
                have r_1 := r_1.on hb
                have r_2 := r_2.on hb
                have r_3 := r_3.on hb
                have r_p := r_p.on hb
                have hb10 := bltB hb9 hb9.size hb
                clear hb
                rw [tv_digs, tv_digs] at r_q
                have b_q : (Y + Z) < 4294967296 ^ 13 := bd_add b_2 b_3 (by decide) (by decide)
                have n_q_le : n_q ≤ 13 := rd_le r_q b_q
                go_wp2_with fail
                refine (cmp_any _ _ _ _ _ _ _ _ _ r_p r_q (by omega) (by omega)).mono ?_
                rintro e w11 ⟨rfl, hb⟩
                have r_1 := r_1.on hb
                have r_2 := r_2.on hb
                have r_3 := r_3.on hb
                have hb11 := bltB hb10 hb10.size hb
                clear hb
                rw [tv_digs, tv_digs, cmp_gt (show Y + Z < X + Z by omega)]
                go_wp2_with fail
                refine (mul_any _ _ _ _ _ _ _ _ _ r_1 r_3 (by omega) (by omega)).mono ?_
                rintro e w12 ⟨A_p, n_p, c_p, rfl, r_p, hb⟩
                have r_1 := r_1.on hb
                have r_2 := r_2.on hb
                have r_3 := r_3.on hb
                have hb12 := bltB hb11 hb11.size hb
                clear hb
                rw [tv_digs, tv_digs] at r_p
                have b_p : (X * Z) < 4294967296 ^ 24 := bd_mul b_1 b_3
                have n_p_le : n_p ≤ 24 := rd_le r_p b_p
                go_wp2_with fail
                refine (mul_any _ _ _ _ _ _ _ _ _ r_2 r_3 (by omega) (by omega)).mono ?_
                rintro e w13 ⟨A_q, n_q, c_q, rfl, r_q, hb⟩
                have r_1 := r_1.on hb
                have r_2 := r_2.on hb
                have r_3 := r_3.on hb
                have r_p := r_p.on hb
                have hb13 := bltB hb12 hb12.size hb
                clear hb
                rw [tv_digs, tv_digs] at r_q
                have b_q : (Y * Z) < 4294967296 ^ 24 := bd_mul b_2 b_3
                have n_q_le : n_q ≤ 24 := rd_le r_q b_q
                go_wp2_with fail
                refine (cmp_any _ _ _ _ _ _ _ _ _ r_p r_q (by omega) (by omega)).mono ?_
                rintro e w14 ⟨rfl, hb⟩
                have hb14 := bltB hb13 hb13.size hb
                clear hb
                rw [tv_digs, tv_digs, cmp_gt (show Y * Z < X * Z from (Nat.mul_lt_mul_right hZ).2 h)]
                go_wp2_with fail
                go_ret
                exact ⟨rfl, hb14⟩
          · have q3 : rightB l3 = false := by simpa using q3
            have g3 : ¬ (12 : Int) < (n3 : Int) := by omega
            go_enter Tryd.func6, Tryd.ntmps6
            go_wp2_with fail
            refine (small_any _ HT.out).mono ?_
            rintro e w1 ⟨rfl, hb⟩
            have r_1 := r_1.on hb
            have r_2 := r_2.on hb
            have r_3 := r_3.on hb
            have hb1 := hb
            clear hb
            go_wp2_with fail
            refine (few_any _ _ _ _ _ _ _ hm1 hm2).mono ?_
            rintro e w' ⟨rfl, rfl⟩
            rw [hfew]
            go_wp2_with fail
            refine (right_any _ _ _ _ _ _ r_1 (by omega)).mono ?_
            rintro e w' ⟨rfl, rfl⟩
            rw [q1]
            go_wp2_with fail
            refine (right_any _ _ _ _ _ _ r_2 (by omega)).mono ?_
            rintro e w' ⟨rfl, rfl⟩
            rw [q2]
            go_wp2_with fail
            refine (right_any _ _ _ _ _ _ r_3 (by omega)).mono ?_
            rintro e w' ⟨rfl, rfl⟩
            rw [q3]
            go_wp2_with fail
            go_ret
            exact ⟨rfl, hb1⟩
        · have q2 : rightB l2 = false := by simpa using q2
          have g3 : ¬ (12 : Int) < (n3 : Int) := by omega
          go_enter Tryd.func6, Tryd.ntmps6
          go_wp2_with fail
          refine (small_any _ HT.out).mono ?_
          rintro e w1 ⟨rfl, hb⟩
          have r_1 := r_1.on hb
          have r_2 := r_2.on hb
          have hb1 := hb
          clear hb
          go_wp2_with fail
          refine (few_any _ _ _ _ _ _ _ hm1 hm2).mono ?_
          rintro e w' ⟨rfl, rfl⟩
          rw [hfew]
          go_wp2_with fail
          refine (right_any _ _ _ _ _ _ r_1 (by omega)).mono ?_
          rintro e w' ⟨rfl, rfl⟩
          rw [q1]
          go_wp2_with fail
          refine (right_any _ _ _ _ _ _ r_2 (by omega)).mono ?_
          rintro e w' ⟨rfl, rfl⟩
          rw [q2]
          go_wp2_with fail
          go_ret
          exact ⟨rfl, hb1⟩
      · have q1 : rightB l1 = false := by simpa using q1
        have g3 : ¬ (12 : Int) < (n3 : Int) := by omega
        go_enter Tryd.func6, Tryd.ntmps6
        go_wp2_with fail
        refine (small_any _ HT.out).mono ?_
        rintro e w1 ⟨rfl, hb⟩
        have r_1 := r_1.on hb
        have hb1 := hb
        clear hb
        go_wp2_with fail
        refine (few_any _ _ _ _ _ _ _ hm1 hm2).mono ?_
        rintro e w' ⟨rfl, rfl⟩
        rw [hfew]
        go_wp2_with fail
        refine (right_any _ _ _ _ _ _ r_1 (by omega)).mono ?_
        rintro e w' ⟨rfl, rfl⟩
        rw [q1]
        go_wp2_with fail
        go_ret
        exact ⟨rfl, hb1⟩
    · have g3 : (12 : Int) < (n3 : Int) := by omega
      clear r_1 r_2 r_3
      go_enter Tryd.func6, Tryd.ntmps6
      go_wp2_with fail
      refine (small_any _ HT.out).mono ?_
      rintro e w1 ⟨rfl, hb⟩
      have hb1 := hb
      clear hb
      go_wp2_with fail
      refine (few_any _ _ _ _ _ _ _ hm1 hm2).mono ?_
      rintro e w' ⟨rfl, rfl⟩
      rw [hfew]
      go_wp2_with fail
      go_ret
      exact ⟨rfl, hb1⟩
  · have hfew : (decide (n1 ≤ 12) && decide (n2 ≤ 12)) = false := by simp; omega
    clear r_1 r_2 r_3
    go_enter Tryd.func6, Tryd.ntmps6
    go_wp2_with fail
    refine (small_any _ HT.out).mono ?_
    rintro e w1 ⟨rfl, hb⟩
    have hb1 := hb
    clear hb
    go_wp2_with fail
    refine (few_any _ _ _ _ _ _ _ hm1 hm2).mono ?_
    rintro e w' ⟨rfl, rfl⟩
    rw [hfew]
    go_wp2_with fail
    go_ret
    exact ⟨rfl, hb1⟩

end Go.Proofs.YtjjpbpgoenpkkaaDoor
