/-
  The law NatParts: what its walk answers, whatever the digits.
-/
import Derived.Test.YtjjpbpgoenpkkaaDoorBd
namespace Go.Proofs.YtjjpbpgoenpkkaaDoor
open Go.RowKit Go.Shelf
set_option linter.unusedVariables false

set_option maxRecDepth 100000 in
set_option maxHeartbeats 1000000 in
theorem parts_any (w : World) (hT : Tab w) (A1 A2 : Option Addr) (n1 c1 n2 c2 : Nat) (l1 l2 : List Nat) (r_1 : Rd w w.heap.size A1 n1 c1 l1) (r_2 : Rd w w.heap.size A2 n2 c2 l2) (hm1 : n1 ≤ 9223372036854775807) (hm2 : n2 ≤ 9223372036854775807) :
    Calls Tryd.prog 5 #[.slice A1 n1 c1, .slice A2 n2 c2] w fun e w' => e = .returned (.bool true) ∧ Below w.heap.size w w' := by
  have HT := Lib.hid hT
  clear hT
  by_cases hf : n1 ≤ 12 ∧ n2 ≤ 12
  · obtain ⟨n_1_le, n_2_le⟩ := hf
    by_cases q1 : rightB l1 = true
    · by_cases q2 : rightB l2 = true
      · obtain ⟨X, rfl⟩ := as_digs r_1.dig q1
        obtain ⟨Y, rfl⟩ := as_digs r_2.dig q2
        have b_1 := rd_lt r_1 n_1_le
        have b_2 := rd_lt r_2 n_2_le
        have hfew : (decide (n1 ≤ 12) && decide (n2 ≤ 12)) = true := by simp [n_1_le, n_2_le]
        clear q1 q2
        rcases Nat.eq_zero_or_pos Y with hY | hY
        · go_enter Tryd.func5, Tryd.ntmps5
          go_wp2_with fail
          refine (small_any _ HT.out).mono ?_
          rintro e w1 ⟨rfl, hb⟩
          have r_1 := r_1.on hb
          have r_2 := r_2.on hb
          have hb1 := hb
          clear hb
          go_wp2_with fail
          refine (few_any _ _ _ _ _ _ _ hm1 hm2).mono ?_
          rintro e w' ⟨rfl, rfl⟩
          rw [hfew]
          go_wp2_with fail
          refine (right_any _ _ _ _ _ _ r_1 (by omega)).mono ?_
          rintro e w' ⟨rfl, rfl⟩
          rw [rightB_digs]
          go_wp2_with fail
          refine (right_any _ _ _ _ _ _ r_2 (by omega)).mono ?_
          rintro e w' ⟨rfl, rfl⟩
          rw [rightB_digs]
          go_wp2_with fail
          have hn2 : n2 = 0 := by have := r_2.len; rw [hY, digs_zero] at this; exact this.symm
          subst hn2
          refine (divmod_any _ _ _ _ _ _ _ _ _ r_1 r_2 (by omega) (by omega)).mono ?_
          rintro e w2 ⟨A_q, n_q, c_q, A_r, n_r, c_r, rfl, r_q, r_r, hb⟩
          have hb2 := bltB hb1 hb1.size hb
          clear hb
          rw [tv_digs, tv_digs, hY, Nat.div_zero, digs_zero] at r_q
          rw [tv_digs, tv_digs, if_pos hY, digs_zero] at r_r
          rw [tv_digs, hY, show decide (0 < 0) = false by decide]
          have hnq : n_q = 0 := r_q.len.symm
          have hnr : n_r = 0 := r_r.len.symm
          subst hnq hnr
          go_wp2_with fail
          go_ret
          exact ⟨rfl, hb2⟩
        · go_enter Tryd.func5, Tryd.ntmps5
          go_wp2_with fail
          refine (small_any _ HT.out).mono ?_
          rintro e w1 ⟨rfl, hb⟩
          have r_1 := r_1.on hb
          have r_2 := r_2.on hb
          have hb1 := hb
          clear hb
          go_wp2_with fail
          refine (few_any _ _ _ _ _ _ _ hm1 hm2).mono ?_
          rintro e w' ⟨rfl, rfl⟩
          rw [hfew]
          go_wp2_with fail
          refine (right_any _ _ _ _ _ _ r_1 (by omega)).mono ?_
          rintro e w' ⟨rfl, rfl⟩
          rw [rightB_digs]
          go_wp2_with fail
          refine (right_any _ _ _ _ _ _ r_2 (by omega)).mono ?_
          rintro e w' ⟨rfl, rfl⟩
          rw [rightB_digs]
          go_wp2_with fail
          have hn2 : 0 < n2 := by
            rcases Nat.eq_zero_or_pos n2 with h | h
            · subst h; have := digs_nil_iff.1 r_2.nil_of; omega
            · exact h
          have hn2e : ((n2 : Int) == 0) = false := by simp; omega
          refine (divmod_any _ _ _ _ _ _ _ _ _ r_1 r_2 (by omega) (by omega)).mono ?_
          rintro e w2 ⟨A_q, n_q, c_q, A_r, n_r, c_r, rfl, r_q, r_r, hb⟩
          have r_1 := r_1.on hb
          have r_2 := r_2.on hb
          have hb2 := bltB hb1 hb1.size hb
          clear hb
          rw [tv_digs, tv_digs] at r_q
          rw [tv_digs, tv_digs, if_neg (Nat.pos_iff_ne_zero.1 hY)] at r_r
          rw [tv_digs, decide_eq_true hY]
          have b_q : X / Y < 4294967296 ^ 12 := Nat.lt_of_le_of_lt (Nat.div_le_self _ _) b_1
          have n_q_le := rd_le r_q b_q
          have b_r : X % Y < 4294967296 ^ 12 := Nat.lt_trans (Nat.mod_lt _ hY) b_2
          have n_r_le := rd_le r_r b_r
          go_wp2_with fail
          refine (right_any _ _ _ _ _ _ r_q (by omega)).mono ?_
          rintro e w' ⟨rfl, rfl⟩
          rw [rightB_digs]
          go_wp2_with fail
          refine (right_any _ _ _ _ _ _ r_r (by omega)).mono ?_
          rintro e w' ⟨rfl, rfl⟩
          rw [rightB_digs]
          go_wp2_with fail
          refine (cmp_any _ _ _ _ _ _ _ _ _ r_r r_2 (by omega) (by omega)).mono ?_
          rintro e w3 ⟨rfl, hb⟩
          have r_1 := r_1.on hb
          have r_2 := r_2.on hb
          have r_q := r_q.on hb
          have r_r := r_r.on hb
          have hb3 := bltB hb2 hb2.size hb
          clear hb
          rw [tv_digs, tv_digs, cmp_lt (Nat.mod_lt X hY)]
          go_wp2_with fail
          refine (mul_any _ _ _ _ _ _ _ _ _ r_q r_2 (by omega) (by omega)).mono ?_
          rintro e w4 ⟨A_p, n_p, c_p, rfl, r_p, hb⟩
          have r_1 := r_1.on hb
          have r_2 := r_2.on hb
          have r_q := r_q.on hb
          have r_r := r_r.on hb
          have hb4 := bltB hb3 hb3.size hb
          clear hb
          rw [tv_digs, tv_digs] at r_p
          have b_p : ((X / Y) * Y) < 4294967296 ^ 24 := bd_mul b_q b_2
          have n_p_le : n_p ≤ 24 := rd_le r_p b_p
          go_wp2_with fail
          refine (add_any _ _ _ _ _ _ _ _ _ r_p r_r (by omega) (by omega)).mono ?_
          rintro e w5 ⟨A_s, n_s, c_s, rfl, r_s, hb⟩
          have r_1 := r_1.on hb
          have r_2 := r_2.on hb
          have r_q := r_q.on hb
          have r_r := r_r.on hb
          have r_p := r_p.on hb
          have hb5 := bltB hb4 hb4.size hb
          clear hb
          rw [tv_digs, tv_digs] at r_s
          have b_s : (((X / Y) * Y) + (X % Y)) < 4294967296 ^ 25 := bd_add b_p b_r (by decide) (by decide)
          have n_s_le : n_s ≤ 25 := rd_le r_s b_s
          go_wp2_with fail
          refine (same_any _ _ _ _ _ _ _ _ _ r_s r_1 (by omega)).mono ?_
          rintro e w6 ⟨rfl, hb⟩
          have hb6 := bltB hb5 hb5.size hb
          clear hb
          rw [dec_same (show (((X / Y) * Y) + (X % Y)) = X from by rw [Nat.mul_comm]; exact Nat.div_add_mod X Y)]
          go_wp2_with fail
          go_ret
          exact ⟨rfl, hb6⟩
      · have hfew : (decide (n1 ≤ 12) && decide (n2 ≤ 12)) = true := by simp [n_1_le, n_2_le]
        have q2 : rightB l2 = false := by simpa using q2
        go_enter Tryd.func5, Tryd.ntmps5
        go_wp2_with fail
        refine (small_any _ HT.out).mono ?_
        rintro e w1 ⟨rfl, hb⟩
        have r_1 := r_1.on hb
        have r_2 := r_2.on hb
        have hb1 := hb
        clear hb
        go_wp2_with fail
        refine (few_any _ _ _ _ _ _ _ hm1 hm2).mono ?_
        rintro e w' ⟨rfl, rfl⟩
        rw [hfew]
        go_wp2_with fail
        refine (right_any _ _ _ _ _ _ r_1 (by omega)).mono ?_
        rintro e w' ⟨rfl, rfl⟩
        rw [q1]
        go_wp2_with fail
        refine (right_any _ _ _ _ _ _ r_2 (by omega)).mono ?_
        rintro e w' ⟨rfl, rfl⟩
        rw [q2]
        go_wp2_with fail
        go_ret
        exact ⟨rfl, hb1⟩
    · have hfew : (decide (n1 ≤ 12) && decide (n2 ≤ 12)) = true := by simp [n_1_le, n_2_le]
      have q1 : rightB l1 = false := by simpa using q1
      go_enter Tryd.func5, Tryd.ntmps5
      go_wp2_with fail
      refine (small_any _ HT.out).mono ?_
      rintro e w1 ⟨rfl, hb⟩
      have r_1 := r_1.on hb
      have hb1 := hb
      clear hb
      go_wp2_with fail
      refine (few_any _ _ _ _ _ _ _ hm1 hm2).mono ?_
      rintro e w' ⟨rfl, rfl⟩
      rw [hfew]
      go_wp2_with fail
      refine (right_any _ _ _ _ _ _ r_1 (by omega)).mono ?_
      rintro e w' ⟨rfl, rfl⟩
      rw [q1]
      go_wp2_with fail
      go_ret
      exact ⟨rfl, hb1⟩
  · have hfew : (decide (n1 ≤ 12) && decide (n2 ≤ 12)) = false := by simp; omega
    clear r_1 r_2
    go_enter Tryd.func5, Tryd.ntmps5
    go_wp2_with fail
    refine (small_any _ HT.out).mono ?_
    rintro e w1 ⟨rfl, hb⟩
    have hb1 := hb
    clear hb
    go_wp2_with fail
    refine (few_any _ _ _ _ _ _ _ hm1 hm2).mono ?_
    rintro e w' ⟨rfl, rfl⟩
    rw [hfew]
    go_wp2_with fail
    go_ret
    exact ⟨rfl, hb1⟩

end Go.Proofs.YtjjpbpgoenpkkaaDoor
