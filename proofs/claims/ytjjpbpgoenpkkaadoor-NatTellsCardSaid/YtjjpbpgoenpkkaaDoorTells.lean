/-
  The law NatTells: what its walk answers, whatever the digits, the number, the text.
-/
import Derived.Test.YtjjpbpgoenpkkaaDoorRefG
import Derived.Test.YtjjpbpgoenpkkaaDoorRefP
import Derived.Test.YtjjpbpgoenpkkaaDoorRefI
import Derived.Test.YtjjpbpgoenpkkaaDoorBd
import Derived.Test.YtjjpbpgoenpkkaaDoorSmll
namespace Go.Proofs.YtjjpbpgoenpkkaaDoor
open Go.RowKit Go.Shelf
set_option linter.unusedVariables false

theorem tv_bd {w : World} {B : Nat} {A : Option Addr} {n c k : Nat} {l : List Nat} (h : Rd w B A n c l) (hn : n ≤ k) : tv l < 4294967296 ^ k := by
  have h1 := val_lt (tk_dig h.dig)
  have h2 := tk_len l
  rw [h.len] at h2
  exact Nat.lt_of_lt_of_le h1 (pow_mono (by omega))

/-- What Parse hands back, as a list of digits. -/
def plist (l : List UInt8) : List Nat := if pok l then digs (pval l) else []
theorem RetP.as {w w' : World} {l : List UInt8} {e : Ending} {L : List Nat} {b : Bool} (h : RetP w l e w') (hL : plist l = L) (hb : pok l = b) : ∃ A n c, e = .returned (.tuple #[.slice A n c, .bool b]) ∧ Rd w' w'.heap.size A n c L ∧ Below w.heap.size w w' := by
  subst hL hb
  exact h
theorem plist_len {l : List UInt8} {k : Nat} (hk : l.length ≤ k) : (plist l).length ≤ k := by
  unfold plist
  split
  · rename_i hp
    have ha : l.all digB = true := by
      unfold pok at hp
      simp only [Bool.and_eq_true] at hp
      exact hp.2
    have h1 := pval_lt (l := l) l.length (Nat.le_refl _) (fun j hj _ => List.all_eq_true.1 ha _ (List.getElem_mem hj))
    rw [List.take_length] at h1
    have := digs_len_le h1
    omega
  · simp

theorem same_self {L : List Nat} : decide (L = L) = true := decide_eq_true rfl

set_option maxRecDepth 100000 in
set_option maxHeartbeats 4000000 in
theorem tells_any (w : World) (hT : Tab w) (A1 A2 : Option Addr) (n1 c1 n2 c2 : Nat) (l1 l2 : List Nat) (r_1 : Rd w w.heap.size A1 n1 c1 l1) (r_2 : Rd w w.heap.size A2 n2 c2 l2) (hm1 : n1 ≤ 9223372036854775807) (hm2 : n2 ≤ 9223372036854775807) (k : Nat) (hk : k < 18446744073709551616) (s : ByteArray) :
    Calls Tryd.prog 3 #[.slice A1 n1 c1, .slice A2 n2 c2, .int .u64 k, .string s] w fun e w' => e = .returned (.bool true) ∧ Below w.heap.size w w' := by
  have HT := Lib.hid hT
  clear hT
  obtain ⟨l, rfl⟩ : ∃ l : List UInt8, s = ⟨l.toArray⟩ := ⟨s.data.toList, by cases s; simp⟩
  by_cases hf : n1 ≤ 12 ∧ n2 ≤ 12
  · obtain ⟨n_1_le, n_2_le⟩ := hf
    have hfew : (decide (n1 ≤ 12) && decide (n2 ≤ 12)) = true := by simp [n_1_le, n_2_le]
    by_cases hs : l.length ≤ 60
    · have g2 : ¬ (60 : Int) < (l.length : Int) := by omega
      have b_1 := tv_bd r_1 n_1_le
      have b_2 := tv_bd r_2 n_2_le
      obtain ⟨X, hX⟩ : ∃ X, tv l1 = X := ⟨_, rfl⟩
      obtain ⟨Y, hY⟩ : ∃ Y, tv l2 = Y := ⟨_, rfl⟩
      rw [hX] at b_1
      rw [hY] at b_2
      have HXY := Lib.hid (And.intro hX hY)
      obtain ⟨BS, hBS⟩ : ∃ b, decide (Y ≤ X) = b := ⟨_, rfl⟩
      obtain ⟨BD, hBD⟩ : ∃ b, decide (0 < Y) = b := ⟨_, rfl⟩
      obtain ⟨R, hR⟩ : ∃ r, (if Y = 0 then 0 else X % Y) = r := ⟨_, rfl⟩
      obtain ⟨L, hL⟩ : ∃ L, plist l = L := ⟨_, rfl⟩
      obtain ⟨BP, hBP⟩ : ∃ b, pok l = b := ⟨_, rfl⟩
      have hLl : L.length ≤ 60 := by rw [← hL]; exact plist_len hs
      have hRl : R < 4294967296 ^ 12 := by
        rw [← hR]
        split
        · exact Nat.pow_pos (by decide)
        · exact Nat.lt_of_le_of_lt (Nat.mod_le _ _) b_1
      have HB := Lib.hid (And.intro hBS (And.intro hBD (And.intro hR (And.intro hL hBP))))
      clear hX hY hBS hBD hR hL hBP
      go_enter Tryd.func3, Tryd.ntmps3
      go_wp2_with fail
      refine (small_any _ HT.out).mono ?_
      rintro e w1 ⟨rfl, hb⟩
      have r_1 := r_1.on hb
      have r_2 := r_2.on hb
      have hb1 := hb
      clear hb
      go_wp2_with fail
      refine (few_any _ _ _ _ _ _ _ hm1 hm2).mono ?_
      rintro e w' ⟨rfl, rfl⟩
      rw [hfew]
      go_wp2_with fail
      refine (sub_any _ _ _ _ _ _ _ _ _ r_1 r_2 (by omega) (by omega)).mono ?_
      rintro e w2 ⟨A_c, n_c, c_c, rfl, r_c, hb⟩
      have r_1 := r_1.on hb
      have r_2 := r_2.on hb
      have hb2 := bltB hb1 hb1.size hb
      clear hb
      rw [HXY.out.1, HXY.out.2] at r_c
      rw [HXY.out.1, HXY.out.2, HB.out.1]
      have b_c : (X - Y) < 4294967296 ^ 12 := Nat.lt_of_le_of_lt (Nat.sub_le _ _) b_1
      have n_c_le := rd_le r_c b_c
      go_wp2_with fail
      refine (rsub_any _ _ _ _ _ _ _ _ _ r_1 r_2 (by omega) (by omega)).mono ?_
      rintro e w3 ⟨A_e, n_e, c_e, rfl, r_e, hb⟩
      have r_1 := r_1.on hb
      have r_2 := r_2.on hb
      have r_c := r_c.on hb
      have hb3 := bltB hb2 hb2.size hb
      clear hb
      rw [HXY.out.1, HXY.out.2] at r_e
      rw [HXY.out.1, HXY.out.2, HB.out.1]
      have b_e : (X - Y) < 4294967296 ^ 12 := Nat.lt_of_le_of_lt (Nat.sub_le _ _) b_1
      have n_e_le := rd_le r_e b_e
      go_wp2_with fail
      refine (divmod_any _ _ _ _ _ _ _ _ _ r_1 r_2 (by omega) (by omega)).mono ?_
      rintro e w4 ⟨A_g, n_g, c_g, A_h, n_h, c_h, rfl, r_g, r_h, hb⟩
      have r_1 := r_1.on hb
      have r_2 := r_2.on hb
      have r_c := r_c.on hb
      have r_e := r_e.on hb
      have hb4 := bltB hb3 hb3.size hb
      clear hb
      rw [HXY.out.1, HXY.out.2] at r_g r_h
      rw [HB.out.2.2.1] at r_h
      rw [HXY.out.2, HB.out.2.1]
      have b_g : X / Y < 4294967296 ^ 12 := Nat.lt_of_le_of_lt (Nat.div_le_self _ _) b_1
      have n_g_le := rd_le r_g b_g
      have n_h_le := rd_le r_h hRl
      go_wp2_with fail
      refine (rdivmod_any _ _ _ _ _ _ _ _ _ r_1 r_2 (by omega) (by omega)).mono ?_
      rintro e w5 ⟨A_j, n_j, c_j, A_k, n_k, c_k, rfl, r_j, r_k, hb⟩
      have r_1 := r_1.on hb
      have r_2 := r_2.on hb
      have r_c := r_c.on hb
      have r_e := r_e.on hb
      have r_g := r_g.on hb
      have r_h := r_h.on hb
      have hb5 := bltB hb4 hb4.size hb
      clear hb
      rw [HXY.out.1, HXY.out.2] at r_j r_k
      rw [HB.out.2.2.1] at r_k
      rw [HXY.out.2, HB.out.2.1]
      have b_j : X / Y < 4294967296 ^ 12 := Nat.lt_of_le_of_lt (Nat.div_le_self _ _) b_1
      have n_j_le := rd_le r_j b_j
      have n_k_le := rd_le r_k hRl
      go_wp2_with fail
      refine (int_any _ _ _ _ _ r_1 (by omega)).mono ?_
      rintro e w6 ⟨rfl, hb⟩
      have r_1 := r_1.on hb
      have r_2 := r_2.on hb
      have r_c := r_c.on hb
      have r_e := r_e.on hb
      have r_g := r_g.on hb
      have r_h := r_h.on hb
      have r_j := r_j.on hb
      have r_k := r_k.on hb
      have hb6 := bltB hb5 hb5.size hb
      clear hb
      rw [HXY.out.1]
      go_wp2_with fail
      refine (rint_any _ _ _ _ _ r_1 (by omega)).mono ?_
      rintro e w7 ⟨rfl, hb⟩
      have r_1 := r_1.on hb
      have r_2 := r_2.on hb
      have r_c := r_c.on hb
      have r_e := r_e.on hb
      have r_g := r_g.on hb
      have r_h := r_h.on hb
      have r_j := r_j.on hb
      have r_k := r_k.on hb
      have hb7 := bltB hb6 hb6.size hb
      clear hb
      rw [HXY.out.1]
      go_wp2_with fail
      refine ((parse_any w7 ⟨l.toArray⟩ (by show l.length ≤ 4096; omega)).mono (fun _ _ h => RetP.as h (by simpa using HB.out.2.2.2.1) (by simpa using HB.out.2.2.2.2))).mono ?_
      rintro e w8 ⟨A_r, n_r, c_r, rfl, r_r, hb⟩
      have r_1 := r_1.on hb
      have r_2 := r_2.on hb
      have r_c := r_c.on hb
      have r_e := r_e.on hb
      have r_g := r_g.on hb
      have r_h := r_h.on hb
      have r_j := r_j.on hb
      have r_k := r_k.on hb
      have hb8 := bltB hb7 hb7.size hb
      clear hb
      have n_r_le : n_r ≤ 60 := by have := r_r.len; omega
      go_wp2_with fail
      refine ((rparse_any w8 ⟨l.toArray⟩ (by show l.length ≤ 4096; omega)).mono (fun _ _ h => RetP.as h (by simpa using HB.out.2.2.2.1) (by simpa using HB.out.2.2.2.2))).mono ?_
      rintro e w9 ⟨A_u, n_u, c_u, rfl, r_u, hb⟩
      have r_1 := r_1.on hb
      have r_2 := r_2.on hb
      have r_c := r_c.on hb
      have r_e := r_e.on hb
      have r_g := r_g.on hb
      have r_h := r_h.on hb
      have r_j := r_j.on hb
      have r_k := r_k.on hb
      have r_r := r_r.on hb
      have hb9 := bltB hb8 hb8.size hb
      clear hb
      have n_u_le : n_u ≤ 60 := by have := r_u.len; omega
      go_wp2_with fail
      refine (same_any _ _ _ _ _ _ _ _ _ r_c r_e (by omega)).mono ?_
      rintro e w10 ⟨rfl, hb⟩
      have r_1 := r_1.on hb
      have r_2 := r_2.on hb
      have r_c := r_c.on hb
      have r_e := r_e.on hb
      have r_g := r_g.on hb
      have r_h := r_h.on hb
      have r_j := r_j.on hb
      have r_k := r_k.on hb
      have r_r := r_r.on hb
      have r_u := r_u.on hb
      have hb10 := bltB hb9 hb9.size hb
      clear hb
      rw [same_self]
      go_wp2_with fail
      refine (same_any _ _ _ _ _ _ _ _ _ r_g r_j (by omega)).mono ?_
      rintro e w11 ⟨rfl, hb⟩
      have r_1 := r_1.on hb
      have r_2 := r_2.on hb
      have r_g := r_g.on hb
      have r_h := r_h.on hb
      have r_j := r_j.on hb
      have r_k := r_k.on hb
      have r_r := r_r.on hb
      have r_u := r_u.on hb
      have hb11 := bltB hb10 hb10.size hb
      clear hb
      rw [same_self]
      go_wp2_with fail
      refine (same_any _ _ _ _ _ _ _ _ _ r_h r_k (by omega)).mono ?_
      rintro e w12 ⟨rfl, hb⟩
      have r_1 := r_1.on hb
      have r_2 := r_2.on hb
      have r_h := r_h.on hb
      have r_k := r_k.on hb
      have r_r := r_r.on hb
      have r_u := r_u.on hb
      have hb12 := bltB hb11 hb11.size hb
      clear hb
      rw [same_self]
      go_wp2_with fail
      refine (same_any _ _ _ _ _ _ _ _ _ r_r r_u (by omega)).mono ?_
      rintro e w13 ⟨rfl, hb⟩
      have r_1 := r_1.on hb
      have r_2 := r_2.on hb
      have hb13 := bltB hb12 hb12.size hb
      clear hb
      rw [same_self]
      go_wp2_with fail
      refine (right_any _ _ _ _ _ _ r_1 (by omega)).mono ?_
      rintro e w' ⟨rfl, rfl⟩
      go_wp2_with fail
      refine (rright_any _ _ _ _ _ _ r_1 (by omega)).mono ?_
      rintro e w' ⟨rfl, rfl⟩
      generalize rightB l1 = BR at *
      go_wp2_with fail
      refine (of_any w13 k hk).mono ?_
      rintro e w14 ⟨A_o, n_o, c_o, rfl, r_o, hb⟩
      have r_1 := r_1.on hb
      have r_2 := r_2.on hb
      have hb14 := bltB hb13 hb13.size hb
      clear hb
      have b_o : k < 4294967296 ^ 2 := by omega
      have n_o_le := rd_le r_o b_o
      go_wp2_with fail
      refine (rof_any w14 k hk).mono ?_
      rintro e w15 ⟨A_q, n_q, c_q, rfl, r_q, hb⟩
      have r_1 := r_1.on hb
      have r_2 := r_2.on hb
      have r_o := r_o.on hb
      have hb15 := bltB hb14 hb14.size hb
      clear hb
      have b_q : k < 4294967296 ^ 2 := by omega
      have n_q_le := rd_le r_q b_q
      go_wp2_with fail
      refine (same_any _ _ _ _ _ _ _ _ _ r_o r_q (by omega)).mono ?_
      rintro e w16 ⟨rfl, hb⟩
      have r_1 := r_1.on hb
      have r_2 := r_2.on hb
      have hb16 := bltB hb15 hb15.size hb
      clear hb
      rw [same_self]
      go_wp2_with fail
      refine (cmp_any _ _ _ _ _ _ _ _ _ r_1 r_2 (by omega) (by omega)).mono ?_
      rintro e w17 ⟨rfl, hb⟩
      have r_1 := r_1.on hb
      have r_2 := r_2.on hb
      have hb17 := bltB hb16 hb16.size hb
      clear hb
      rw [HXY.out.1, HXY.out.2]
      go_wp2_with fail
      refine (rcmp_any _ _ _ _ _ _ _ _ _ r_1 r_2 (by omega) (by omega)).mono ?_
      rintro e w' ⟨rfl, rfl⟩
      rw [HXY.out.1, HXY.out.2]
      generalize cmpI (X : Int) (Y : Int) = CZ at *
      go_wp2_with fail
      refine (add_any _ _ _ _ _ _ _ _ _ r_1 r_2 (by omega) (by omega)).mono ?_
      rintro e w18 ⟨A_m, n_m, c_m, rfl, r_m, hb⟩
      have r_1 := r_1.on hb
      have r_2 := r_2.on hb
      have hb18 := bltB hb17 hb17.size hb
      clear hb
      rw [HXY.out.1, HXY.out.2] at r_m
      have b_m : (X + Y) < 4294967296 ^ 13 := bd_add b_1 b_2 (by decide) (by decide)
      have n_m_le := rd_le r_m b_m
      go_wp2_with fail
      refine (radd_any _ _ _ _ _ _ _ _ _ r_1 r_2 (by omega) (by omega)).mono ?_
      rintro e w19 ⟨A_n, n_n, c_n, rfl, r_n, hb⟩
      have r_1 := r_1.on hb
      have r_2 := r_2.on hb
      have r_m := r_m.on hb
      have hb19 := bltB hb18 hb18.size hb
      clear hb
      rw [HXY.out.1, HXY.out.2] at r_n
      have b_n : (X + Y) < 4294967296 ^ 13 := bd_add b_1 b_2 (by decide) (by decide)
      have n_n_le := rd_le r_n b_n
      go_wp2_with fail
      refine (same_any _ _ _ _ _ _ _ _ _ r_m r_n (by omega)).mono ?_
      rintro e w20 ⟨rfl, hb⟩
      have r_1 := r_1.on hb
      have r_2 := r_2.on hb
      have hb20 := bltB hb19 hb19.size hb
      clear hb
      rw [same_self]
      go_wp2_with fail
      refine (mul_any _ _ _ _ _ _ _ _ _ r_1 r_2 (by omega) (by omega)).mono ?_
      rintro e w21 ⟨A_m, n_m, c_m, rfl, r_m, hb⟩
      have r_1 := r_1.on hb
      have r_2 := r_2.on hb
      have hb21 := bltB hb20 hb20.size hb
      clear hb
      rw [HXY.out.1, HXY.out.2] at r_m
      have b_m : (X * Y) < 4294967296 ^ 24 := bd_mul b_1 b_2
      have n_m_le := rd_le r_m b_m
      go_wp2_with fail
      refine (rmul_any _ _ _ _ _ _ _ _ _ r_1 r_2 (by omega) (by omega)).mono ?_
      rintro e w22 ⟨A_n, n_n, c_n, rfl, r_n, hb⟩
      have r_1 := r_1.on hb
      have r_2 := r_2.on hb
      have r_m := r_m.on hb
      have hb22 := bltB hb21 hb21.size hb
      clear hb
      rw [HXY.out.1, HXY.out.2] at r_n
      have b_n : (X * Y) < 4294967296 ^ 24 := bd_mul b_1 b_2
      have n_n_le := rd_le r_n b_n
      go_wp2_with fail
      refine (same_any _ _ _ _ _ _ _ _ _ r_m r_n (by omega)).mono ?_
      rintro e w23 ⟨rfl, hb⟩
      have r_1 := r_1.on hb
      have r_2 := r_2.on hb
      have hb23 := bltB hb22 hb22.size hb
      clear hb
      rw [same_self]
      go_wp2_with fail
      refine (gcd_any _ _ _ _ _ _ _ _ _ r_1 r_2 (by omega) (by omega)).mono ?_
      rintro e w24 ⟨A_m, n_m, c_m, rfl, r_m, hb⟩
      have r_1 := r_1.on hb
      have r_2 := r_2.on hb
      have hb24 := bltB hb23 hb23.size hb
      clear hb
      rw [HXY.out.1, HXY.out.2] at r_m
      have b_m : (Nat.gcd X Y) < 4294967296 ^ 12 := bd_gcd b_1 b_2 (by decide) (by decide) (by decide)
      have n_m_le := rd_le r_m b_m
      go_wp2_with fail
      refine (rgcd_any _ _ _ _ _ _ _ _ _ r_1 r_2 (by omega) (by omega)).mono ?_
      rintro e w25 ⟨A_n, n_n, c_n, rfl, r_n, hb⟩
      have r_1 := r_1.on hb
      have r_2 := r_2.on hb
      have r_m := r_m.on hb
      have hb25 := bltB hb24 hb24.size hb
      clear hb
      rw [HXY.out.1, HXY.out.2] at r_n
      have b_n : (Nat.gcd X Y) < 4294967296 ^ 12 := bd_gcd b_1 b_2 (by decide) (by decide) (by decide)
      have n_n_le := rd_le r_n b_n
      go_wp2_with fail
      refine (same_any _ _ _ _ _ _ _ _ _ r_m r_n (by omega)).mono ?_
      rintro e w26 ⟨rfl, hb⟩
      have r_1 := r_1.on hb
      have r_2 := r_2.on hb
      have hb26 := bltB hb25 hb25.size hb
      clear hb
      rw [same_self]
      go_wp2_with fail
      refine (text_any _ (HT.out.on hb26) _ _ _ _ r_1 (by omega)).mono ?_
      rintro e w27 ⟨rfl, hb⟩
      have r_1 := r_1.on hb
      have r_2 := r_2.on hb
      have hb27 := bltB hb26 hb26.size hb
      clear hb
      rw [HXY.out.1, txt]
      go_wp2_with fail
      refine (rtext_any _ _ _ _ _ r_1 (by omega)).mono ?_
      rintro e w28 ⟨rfl, hb⟩
      have hb28 := bltB hb27 hb27.size hb
      clear hb
      rw [HXY.out.1, txt]
      go_wp2_with fail
      go_ret
      exact ⟨rfl, hb28⟩
    · have g2 : (60 : Int) < (l.length : Int) := by omega
      clear r_1 r_2
      go_enter Tryd.func3, Tryd.ntmps3
      go_wp2_with fail
      refine (small_any _ HT.out).mono ?_
      rintro e w1 ⟨rfl, hb⟩
      have hb1 := hb
      clear hb
      go_wp2_with fail
      refine (few_any _ _ _ _ _ _ _ hm1 hm2).mono ?_
      rintro e w' ⟨rfl, rfl⟩
      rw [hfew]
      go_wp2_with fail
      go_ret
      exact ⟨rfl, hb1⟩
  · have hfew : (decide (n1 ≤ 12) && decide (n2 ≤ 12)) = false := by simp; omega
    clear r_1 r_2
    go_enter Tryd.func3, Tryd.ntmps3
    go_wp2_with fail
    refine (small_any _ HT.out).mono ?_
    rintro e w1 ⟨rfl, hb⟩
    have hb1 := hb
    clear hb
    go_wp2_with fail
    refine (few_any _ _ _ _ _ _ _ hm1 hm2).mono ?_
    rintro e w' ⟨rfl, rfl⟩
    rw [hfew]
    go_wp2_with fail
    go_ret
    exact ⟨rfl, hb1⟩

end Go.Proofs.YtjjpbpgoenpkkaaDoor
