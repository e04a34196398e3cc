/-
  The law NatDivides: what its walk answers, whatever the digits.
-/
import Derived.Test.YtjjpbpgoenpkkaaDoorBd
namespace Go.Proofs.YtjjpbpgoenpkkaaDoor
open Go.RowKit Go.Shelf
set_option linter.unusedVariables false

theorem gcd_parts {X Y : Nat} (h : 0 < Nat.gcd X Y) : Nat.gcd (X / Nat.gcd X Y) (Y / Nat.gcd X Y) = 1 := by
  have h1 := Nat.gcd_div (Nat.gcd_dvd_left X Y) (Nat.gcd_dvd_right X Y)
  rw [h1, Nat.div_self h]

theorem gcd_none {X Y : Nat} (h : Nat.gcd X Y = 0) : X = 0 ∧ Y = 0 := Nat.gcd_eq_zero_iff.1 h

set_option maxRecDepth 100000 in
set_option maxHeartbeats 2000000 in
theorem divides_any (w : World) (hT : Tab w) (A1 A2 A3 : Option Addr) (n1 c1 n2 c2 n3 c3 : Nat) (l1 l2 l3 : List Nat) (r_1 : Rd w w.heap.size A1 n1 c1 l1) (r_2 : Rd w w.heap.size A2 n2 c2 l2) (r_3 : Rd w w.heap.size A3 n3 c3 l3) (hm1 : n1 ≤ 9223372036854775807) (hm2 : n2 ≤ 9223372036854775807) (hm3 : n3 ≤ 9223372036854775807) :
    Calls Tryd.prog 8 #[.slice A1 n1 c1, .slice A2 n2 c2, .slice A3 n3 c3] w fun e w' => e = .returned (.bool true) ∧ Below w.heap.size w w' := by
  have HT := Lib.hid hT
  clear hT
  by_cases n_1_le : n1 ≤ 6
  · by_cases n_2_le : n2 ≤ 6
    · by_cases n_3_le : n3 ≤ 6
      · by_cases q1 : rightB l1 = true
        · by_cases q2 : rightB l2 = true
          · by_cases q3 : rightB l3 = true
            · obtain ⟨X, rfl⟩ := as_digs r_1.dig q1
              obtain ⟨Y, rfl⟩ := as_digs r_2.dig q2
              obtain ⟨Z, rfl⟩ := as_digs r_3.dig q3
              have b_1 := rd_lt r_1 n_1_le
              have b_2 := rd_lt r_2 n_2_le
              have b_3 := rd_lt r_3 n_3_le
              have g1 : ¬ (6 : Int) < (n1 : Int) := by omega
              have g2 : ¬ (6 : Int) < (n2 : Int) := by omega
              have g3 : ¬ (6 : Int) < (n3 : Int) := by omega
              clear q1 q2 q3
              rcases Nat.eq_zero_or_pos (Nat.gcd X Y) with hG | hG
              · obtain ⟨hX, hY⟩ := gcd_none hG
                have hn1 : n1 = 0 := by have := r_1.len; rw [hX, digs_zero] at this; exact this.symm
                subst hn1
                have hn2 : n2 = 0 := by have := r_2.len; rw [hY, digs_zero] at this; exact this.symm
                subst hn2
                go_enter Tryd.func8, Tryd.ntmps8
                go_wp2_with fail
                refine (small_any _ HT.out).mono ?_
                rintro e w1 ⟨rfl, hb⟩
                have r_1 := r_1.on hb
                have r_2 := r_2.on hb
                have r_3 := r_3.on hb
                have hb1 := hb
                clear hb
                go_wp2_with fail
                refine (right_any _ _ _ _ _ _ r_1 (by omega)).mono ?_
                rintro e w' ⟨rfl, rfl⟩
                rw [rightB_digs]
                go_wp2_with fail
                refine (right_any _ _ _ _ _ _ r_2 (by omega)).mono ?_
                rintro e w' ⟨rfl, rfl⟩
                rw [rightB_digs]
                go_wp2_with fail
                refine (right_any _ _ _ _ _ _ r_3 (by omega)).mono ?_
                rintro e w' ⟨rfl, rfl⟩
                rw [rightB_digs]
                go_wp2_with fail
                refine (gcd_any _ _ _ _ _ _ _ _ _ r_1 r_2 (by omega) (by omega)).mono ?_
                rintro e w2 ⟨A_g, n_g, c_g, rfl, r_g, hb⟩
                have r_1 := r_1.on hb
                have r_2 := r_2.on hb
                have r_3 := r_3.on hb
                have hb2 := bltB hb1 hb1.size hb
                clear hb
                rw [tv_digs, tv_digs] at r_g
                have b_g : (Nat.gcd X Y) < 4294967296 ^ 6 := bd_gcd b_1 b_2 (by decide) (by decide) (by decide)
                have n_g_le : n_g ≤ 6 := rd_le r_g b_g
                have hng : n_g = 0 := by have := r_g.len; rw [hG, digs_zero] at this; exact this.symm
                subst hng
                go_wp2_with fail
                go_ret
                exact ⟨rfl, hb2⟩
              · go_enter Tryd.func8, Tryd.ntmps8
                go_wp2_with fail
                refine (small_any _ HT.out).mono ?_
                rintro e w1 ⟨rfl, hb⟩
                have r_1 := r_1.on hb
                have r_2 := r_2.on hb
                have r_3 := r_3.on hb
                have hb1 := hb
                clear hb
                go_wp2_with fail
                refine (right_any _ _ _ _ _ _ r_1 (by omega)).mono ?_
                rintro e w' ⟨rfl, rfl⟩
                rw [rightB_digs]
                go_wp2_with fail
                refine (right_any _ _ _ _ _ _ r_2 (by omega)).mono ?_
                rintro e w' ⟨rfl, rfl⟩
                rw [rightB_digs]
                go_wp2_with fail
                refine (right_any _ _ _ _ _ _ r_3 (by omega)).mono ?_
                rintro e w' ⟨rfl, rfl⟩
                rw [rightB_digs]
                go_wp2_with fail
                refine (gcd_any _ _ _ _ _ _ _ _ _ r_1 r_2 (by omega) (by omega)).mono ?_
                rintro e w2 ⟨A_g, n_g, c_g, rfl, r_g, hb⟩
                have r_1 := r_1.on hb
                have r_2 := r_2.on hb
                have r_3 := r_3.on hb
                have hb2 := bltB hb1 hb1.size hb
                clear hb
                rw [tv_digs, tv_digs] at r_g
                have b_g : (Nat.gcd X Y) < 4294967296 ^ 6 := bd_gcd b_1 b_2 (by decide) (by decide) (by decide)
                have n_g_le : n_g ≤ 6 := rd_le r_g b_g
                have gg : ((n_g : Int) == 0) = false := by
                  have : n_g ≠ 0 := fun e => by
                    rw [e] at r_g
                    have := digs_nil_iff.1 r_g.nil_of
                    omega
                  simp; omega
                go_wp2_with fail
                refine (divmod_any _ _ _ _ _ _ _ _ _ r_1 r_g (by omega) (by omega)).mono ?_
                rintro e w3 ⟨A_x, n_x, c_x, A_r, n_r, c_r, rfl, r_x, r_r, hb⟩
                have r_1 := r_1.on hb
                have r_2 := r_2.on hb
                have r_3 := r_3.on hb
                have r_g := r_g.on hb
                have hb3 := bltB hb2 hb2.size hb
                clear hb
                rw [tv_digs, tv_digs] at r_x
                rw [tv_digs, tv_digs, if_neg (Nat.pos_iff_ne_zero.1 hG)] at r_r
                rw [tv_digs, decide_eq_true hG]
                have b_x : X / (Nat.gcd X Y) < 4294967296 ^ 6 := Nat.lt_of_le_of_lt (Nat.div_le_self _ _) b_1
                have n_x_le := rd_le r_x b_x
                have b_r : X % (Nat.gcd X Y) < 4294967296 ^ 6 := Nat.lt_trans (Nat.mod_lt _ hG) b_g
                have n_r_le := rd_le r_r b_r
                have hnr : n_r = 0 := by have := r_r.len; rw [Nat.mod_eq_zero_of_dvd (Nat.gcd_dvd_left X Y), digs_zero] at this; exact this.symm
                subst hnr
                go_wp2_with fail
                refine (divmod_any _ _ _ _ _ _ _ _ _ r_2 r_g (by omega) (by omega)).mono ?_
                rintro e w4 ⟨A_y, n_y, c_y, A_s, n_s, c_s, rfl, r_y, r_s, hb⟩
                have r_1 := r_1.on hb
                have r_2 := r_2.on hb
                have r_3 := r_3.on hb
                have r_g := r_g.on hb
                have r_x := r_x.on hb
                have hb4 := bltB hb3 hb3.size hb
                clear hb
                rw [tv_digs, tv_digs] at r_y
                rw [tv_digs, tv_digs, if_neg (Nat.pos_iff_ne_zero.1 hG)] at r_s
                rw [tv_digs, decide_eq_true hG]
                have b_y : Y / (Nat.gcd X Y) < 4294967296 ^ 6 := Nat.lt_of_le_of_lt (Nat.div_le_self _ _) b_2
                have n_y_le := rd_le r_y b_y
                have b_s : Y % (Nat.gcd X Y) < 4294967296 ^ 6 := Nat.lt_trans (Nat.mod_lt _ hG) b_g
                have n_s_le := rd_le r_s b_s
                have hns : n_s = 0 := by have := r_s.len; rw [Nat.mod_eq_zero_of_dvd (Nat.gcd_dvd_right X Y), digs_zero] at this; exact this.symm
                subst hns
                go_wp2_with fail
                refine (gcd_any _ _ _ _ _ _ _ _ _ r_x r_y (by omega) (by omega)).mono ?_
                rintro e w5 ⟨A_u, n_u, c_u, rfl, r_u, hb⟩
                have r_1 := r_1.on hb
                have r_2 := r_2.on hb
                have r_3 := r_3.on hb
                have r_g := r_g.on hb
                have r_x := r_x.on hb
                have r_y := r_y.on hb
                have hb5 := bltB hb4 hb4.size hb
                clear hb
                rw [tv_digs, tv_digs] at r_u
                have b_u : (Nat.gcd (X / (Nat.gcd X Y)) (Y / (Nat.gcd X Y))) < 4294967296 ^ 6 := bd_gcd b_x b_y (by decide) (by decide) (by decide)
                have n_u_le : n_u ≤ 6 := rd_le r_u b_u
                go_wp2_with fail
                have ba := bel_alloc w5 (.cells #[.int .u32 (1 : Nat)] 41)
                have r_i : Rd (w5.alloc (.cells #[.int .u32 (1 : Nat)] 41)) (w5.alloc (.cells #[.int .u32 (1 : Nat)] 41)).heap.size (some ⟨w5.heap.size, 0, none⟩) 1 1 (digs 1) := by rw [digs_lt (by decide) (by decide)]; exact rd_at rfl (by decide)
                have r_1 := r_1.on ba
                have r_2 := r_2.on ba
                have r_3 := r_3.on ba
                have r_g := r_g.on ba
                have r_u := r_u.on ba
                have hb5 := bltB hb5 hb5.size ba
                clear ba
                have b_i : 1 < 4294967296 ^ 1 := by decide
                have n_i_le : 1 ≤ 1 := Nat.le_refl _
                refine (same_any _ _ _ _ _ _ _ _ _ r_u r_i (by omega)).mono ?_
                rintro e w6 ⟨rfl, hb⟩
                have r_1 := r_1.on hb
                have r_2 := r_2.on hb
                have r_3 := r_3.on hb
                have r_g := r_g.on hb
                have hb6 := bltB hb5 hb5.size hb
                clear hb
                rw [dec_same (show (Nat.gcd (X / (Nat.gcd X Y)) (Y / (Nat.gcd X Y))) = 1 from gcd_parts hG)]
                go_wp2_with fail
                refine (gcd_any _ _ _ _ _ _ _ _ _ r_2 r_1 (by omega) (by omega)).mono ?_
                rintro e w7 ⟨A_u, n_u, c_u, rfl, r_u, hb⟩
                have r_1 := r_1.on hb
                have r_2 := r_2.on hb
                have r_3 := r_3.on hb
                have r_g := r_g.on hb
                have hb7 := bltB hb6 hb6.size hb
                clear hb
                rw [tv_digs, tv_digs] at r_u
                have b_u : (Nat.gcd Y X) < 4294967296 ^ 6 := bd_gcd b_2 b_1 (by decide) (by decide) (by decide)
                have n_u_le : n_u ≤ 6 := rd_le r_u b_u
                go_wp2_with fail
                refine (same_any _ _ _ _ _ _ _ _ _ r_u r_g (by omega)).mono ?_
                rintro e w8 ⟨rfl, hb⟩
                have r_1 := r_1.on hb
                have r_2 := r_2.on hb
                have r_3 := r_3.on hb
                have r_g := r_g.on hb
                have hb8 := bltB hb7 hb7.size hb
                clear hb
                rw [dec_same (show (Nat.gcd Y X) = (Nat.gcd X Y) from Nat.gcd_comm Y X)]
                go_wp2_with fail
                refine (mul_any _ _ _ _ _ _ _ _ _ r_1 r_3 (by omega) (by omega)).mono ?_
                rintro e w9 ⟨A_p, n_p, c_p, rfl, r_p, hb⟩
                have r_1 := r_1.on hb
                have r_2 := r_2.on hb
                have r_3 := r_3.on hb
                have r_g := r_g.on hb
                have hb9 := bltB hb8 hb8.size hb
                clear hb
                rw [tv_digs, tv_digs] at r_p
                have b_p : (X * Z) < 4294967296 ^ 12 := bd_mul b_1 b_3
                have n_p_le : n_p ≤ 12 := rd_le r_p b_p
                go_wp2_with fail
                refine (mul_any _ _ _ _ _ _ _ _ _ r_2 r_3 (by omega) (by omega)).mono ?_
                rintro e w10 ⟨A_q, n_q, c_q, rfl, r_q, hb⟩
                have r_1 := r_1.on hb
                have r_2 := r_2.on hb
                have r_3 := r_3.on hb
                have r_g := r_g.on hb
                have r_p := r_p.on hb
                have hb10 := bltB hb9 hb9.size hb
                clear hb
                rw [tv_digs, tv_digs] at r_q
                have b_q : (Y * Z) < 4294967296 ^ 12 := bd_mul b_2 b_3
                have n_q_le : n_q ≤ 12 := rd_le r_q b_q
                go_wp2_with fail
                refine (gcd_any _ _ _ _ _ _ _ _ _ r_p r_q (by omega) (by omega)).mono ?_
                rintro e w11 ⟨A_u, n_u, c_u, rfl, r_u, hb⟩
                have r_1 := r_1.on hb
                have r_2 := r_2.on hb
                have r_3 := r_3.on hb
                have r_g := r_g.on hb
                have r_p := r_p.on hb
                have r_q := r_q.on hb
                have hb11 := bltB hb10 hb10.size hb
                clear hb
                rw [tv_digs, tv_digs] at r_u
                have b_u : (Nat.gcd (X * Z) (Y * Z)) < 4294967296 ^ 12 := bd_gcd b_p b_q (by decide) (by decide) (by decide)
                have n_u_le : n_u ≤ 12 := rd_le r_u b_u
                go_wp2_with fail
                refine (mul_any _ _ _ _ _ _ _ _ _ r_g r_3 (by omega) (by omega)).mono ?_
                rintro e w12 ⟨A_v, n_v, c_v, rfl, r_v, hb⟩
                have r_1 := r_1.on hb
                have r_2 := r_2.on hb
                have r_3 := r_3.on hb
                have r_g := r_g.on hb
                have r_u := r_u.on hb
                have hb12 := bltB hb11 hb11.size hb
                clear hb
                rw [tv_digs, tv_digs] at r_v
                have b_v : ((Nat.gcd X Y) * Z) < 4294967296 ^ 12 := bd_mul b_g b_3
                have n_v_le : n_v ≤ 12 := rd_le r_v b_v
                go_wp2_with fail
                refine (same_any _ _ _ _ _ _ _ _ _ r_u r_v (by omega)).mono ?_
                rintro e w13 ⟨rfl, hb⟩
                have hb13 := bltB hb12 hb12.size hb
                clear hb
                rw [dec_same (show (Nat.gcd (X * Z) (Y * Z)) = ((Nat.gcd X Y) * Z) from Nat.gcd_mul_right X Z Y)]
                go_wp2_with fail
                go_ret
                exact ⟨rfl, hb13⟩
            · have q3 : rightB l3 = false := by simpa using q3
              have g1 : ¬ (6 : Int) < (n1 : Int) := by omega
              have g2 : ¬ (6 : Int) < (n2 : Int) := by omega
              have g3 : ¬ (6 : Int) < (n3 : Int) := by omega
              go_enter Tryd.func8, Tryd.ntmps8
              go_wp2_with fail
              refine (small_any _ HT.out).mono ?_
              rintro e w1 ⟨rfl, hb⟩
              have r_1 := r_1.on hb
              have r_2 := r_2.on hb
              have r_3 := r_3.on hb
              have hb1 := hb
              clear hb
              go_wp2_with fail
              refine (right_any _ _ _ _ _ _ r_1 (by omega)).mono ?_
              rintro e w' ⟨rfl, rfl⟩
              rw [q1]
              go_wp2_with fail
              refine (right_any _ _ _ _ _ _ r_2 (by omega)).mono ?_
              rintro e w' ⟨rfl, rfl⟩
              rw [q2]
              go_wp2_with fail
              refine (right_any _ _ _ _ _ _ r_3 (by omega)).mono ?_
              rintro e w' ⟨rfl, rfl⟩
              rw [q3]
              go_wp2_with fail
              go_ret
              exact ⟨rfl, hb1⟩
          · have q2 : rightB l2 = false := by simpa using q2
            have g1 : ¬ (6 : Int) < (n1 : Int) := by omega
            have g2 : ¬ (6 : Int) < (n2 : Int) := by omega
            have g3 : ¬ (6 : Int) < (n3 : Int) := by omega
            go_enter Tryd.func8, Tryd.ntmps8
            go_wp2_with fail
            refine (small_any _ HT.out).mono ?_
            rintro e w1 ⟨rfl, hb⟩
            have r_1 := r_1.on hb
            have r_2 := r_2.on hb
            have hb1 := hb
            clear hb
            go_wp2_with fail
            refine (right_any _ _ _ _ _ _ r_1 (by omega)).mono ?_
            rintro e w' ⟨rfl, rfl⟩
            rw [q1]
            go_wp2_with fail
            refine (right_any _ _ _ _ _ _ r_2 (by omega)).mono ?_
            rintro e w' ⟨rfl, rfl⟩
            rw [q2]
            go_wp2_with fail
            go_ret
            exact ⟨rfl, hb1⟩
        · have q1 : rightB l1 = false := by simpa using q1
          have g1 : ¬ (6 : Int) < (n1 : Int) := by omega
          have g2 : ¬ (6 : Int) < (n2 : Int) := by omega
          have g3 : ¬ (6 : Int) < (n3 : Int) := by omega
          go_enter Tryd.func8, Tryd.ntmps8
          go_wp2_with fail
          refine (small_any _ HT.out).mono ?_
          rintro e w1 ⟨rfl, hb⟩
          have r_1 := r_1.on hb
          have hb1 := hb
          clear hb
          go_wp2_with fail
          refine (right_any _ _ _ _ _ _ r_1 (by omega)).mono ?_
          rintro e w' ⟨rfl, rfl⟩
          rw [q1]
          go_wp2_with fail
          go_ret
          exact ⟨rfl, hb1⟩
      · have g1 : ¬ (6 : Int) < (n1 : Int) := by omega
        have g2 : ¬ (6 : Int) < (n2 : Int) := by omega
        have g3 : (6 : Int) < (n3 : Int) := by omega
        clear r_1 r_2 r_3
        go_enter Tryd.func8, Tryd.ntmps8
        go_wp2_with fail
        refine (small_any _ HT.out).mono ?_
        rintro e w1 ⟨rfl, hb⟩
        have hb1 := hb
        clear hb
        go_wp2_with fail
        go_ret
        exact ⟨rfl, hb1⟩
    · have g1 : ¬ (6 : Int) < (n1 : Int) := by omega
      have g2 : (6 : Int) < (n2 : Int) := by omega
      clear r_1 r_2 r_3
      go_enter Tryd.func8, Tryd.ntmps8
      go_wp2_with fail
      refine (small_any _ HT.out).mono ?_
      rintro e w1 ⟨rfl, hb⟩
      have hb1 := hb
      clear hb
      go_wp2_with fail
      go_ret
      exact ⟨rfl, hb1⟩
  · have g1 : (6 : Int) < (n1 : Int) := by omega
    clear r_1 r_2 r_3
    go_enter Tryd.func8, Tryd.ntmps8
    go_wp2_with fail
    refine (small_any _ HT.out).mono ?_
    rintro e w1 ⟨rfl, hb⟩
    have hb1 := hb
    clear hb
    go_wp2_with fail
    go_ret
    exact ⟨rfl, hb1⟩

end Go.Proofs.YtjjpbpgoenpkkaaDoor
