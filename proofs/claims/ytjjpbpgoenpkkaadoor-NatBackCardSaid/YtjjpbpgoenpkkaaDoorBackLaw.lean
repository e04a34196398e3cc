/-
  The law NatBack: what its walk answers, whatever the digits, the number, the text.
-/
import Derived.Test.YtjjpbpgoenpkkaaDoorBd
import Derived.Test.YtjjpbpgoenpkkaaDoorSmll
import Derived.Test.YtjjpbpgoenpkkaaDoorTextLaw
namespace Go.Proofs.YtjjpbpgoenpkkaaDoor
open Go.RowKit Go.Shelf
set_option linter.unusedVariables false

theorem RetP.good {w w' : World} {l : List UInt8} {e : Ending} (h : RetP w l e w') (hp : pok l = true) : ∃ A n c, e = .returned (.tuple #[.slice A n c, .bool true]) ∧ Rd w' w'.heap.size A n c (digs (pval l)) ∧ Below w.heap.size w w' := by
  obtain ⟨A, n, c, he, hr, hb⟩ := h
  rw [hp] at he hr
  rw [if_pos rfl] at hr
  exact ⟨A, n, c, he, hr, hb⟩
theorem RetP.bad' {w w' : World} {l : List UInt8} {e : Ending} (h : RetP w l e w') (hp : pok l = false) : ∃ A c, e = .returned (.tuple #[.slice A 0 c, .bool false]) ∧ Below w.heap.size w w' := by
  obtain ⟨A, n, c, he, hr, hb⟩ := h
  rw [hp] at he hr
  rw [if_neg (by simp)] at hr
  have hn : n = 0 := hr.len.symm
  subst hn
  exact ⟨A, c, he, hb⟩

theorem pval_bd {l : List UInt8} (hp : pok l = true) {k : Nat} (hk : l.length ≤ k) : pval l < 4294967296 ^ k := by
  have ha : l.all digB = true := by
    unfold pok at hp
    simp only [Bool.and_eq_true] at hp
    exact hp.2
  have h1 := pval_lt (l := l) l.length (Nat.le_refl _) (fun j hj _ => List.all_eq_true.1 ha _ (List.getElem_mem hj))
  rw [List.take_length] at h1
  exact Nat.lt_of_lt_of_le h1 (pow_mono hk)

theorem txt_bytes (l : List UInt8) : (⟨l.toArray⟩ : ByteArray).data.toList = l := by simp

set_option maxRecDepth 100000 in
set_option maxHeartbeats 2000000 in
theorem back_any' (w : World) (hT : Tab w) (A1 : Option Addr) (n1 c1 : Nat) (l1 : List Nat) (r_1 : Rd w w.heap.size A1 n1 c1 l1) (hm1 : n1 ≤ 9223372036854775807) (k : Nat) (hk : k < 18446744073709551616) (s : ByteArray) :
    Calls Tryd.prog 7 #[.slice A1 n1 c1, .int .u64 k, .string s] w fun e w' => e = .returned (.bool true) ∧ Below w.heap.size w w' := by
  have HT := Lib.hid hT
  clear hT
  obtain ⟨l, rfl⟩ : ∃ l : List UInt8, s = ⟨l.toArray⟩ := ⟨s.data.toList, by cases s; simp⟩
  by_cases n_1_le : n1 ≤ 12
  · have g1 : ¬ (12 : Int) < (n1 : Int) := by omega
    by_cases hs : l.length ≤ 60
    · have g2 : ¬ (60 : Int) < (l.length : Int) := by omega
      by_cases q1 : rightB l1 = true
      · obtain ⟨X, rfl⟩ := as_digs r_1.dig q1
        have b_1 := rd_lt r_1 n_1_le
        clear q1
        by_cases hks : k < 9223372036854775808
        · have gk : (k : Int) ≤ 9223372036854775807 := by omega
          cases hp : pok l with
          | true =>
            go_enter Tryd.func7, Tryd.ntmps7
            go_wp2_with fail
            refine (small_any _ HT.out).mono ?_
            rintro e w1 ⟨rfl, hb⟩
            have r_1 := r_1.on hb
            have hb1 := hb
            clear hb
            go_wp2_with fail
            refine (right_any _ _ _ _ _ _ r_1 (by omega)).mono ?_
            rintro e w' ⟨rfl, rfl⟩
            rw [rightB_digs]
            go_wp2_with fail
            refine (text_any _ (HT.out.on hb1) _ _ _ _ r_1 (by omega)).mono ?_
            rintro e w2 ⟨rfl, hb⟩
            have r_1 := r_1.on hb
            have hb2 := bltB hb1 hb1.size hb
            clear hb
            rw [tv_digs]
            have hdl := dec_len_digs (X := X) (m := n1) r_1.len
            obtain ⟨hdp, hdv⟩ := dec_pok X
            rw [txt]
            go_wp2_with fail
            refine ((parse_any w2 ⟨(Lib.decDigits X).toArray⟩ (by show (Lib.decDigits X).length ≤ 4096; omega)).mono (fun _ _ h => RetP.good h (by rw [txt_bytes]; exact hdp))).mono ?_
            rintro e w3 ⟨A_t, n_t, c_t, rfl, r_t, hb⟩
            have r_1 := r_1.on hb
            have hb3 := bltB hb2 hb2.size hb
            clear hb
            rw [txt_bytes, hdv] at r_t
            have b_t := b_1
            have n_t_le := rd_le r_t b_t
            clear hdp hdv hdl
            go_wp2_with fail
            refine (of_any w3 k hk).mono ?_
            rintro e w4 ⟨A_o, n_o, c_o, rfl, r_o, hb⟩
            have r_1 := r_1.on hb
            have r_t := r_t.on hb
            have hb4 := bltB hb3 hb3.size hb
            clear hb
            have b_o : k < 4294967296 ^ 2 := by omega
            have n_o_le := rd_le r_o b_o
            go_wp2_with fail
            refine (int_any _ _ _ _ _ r_o (by omega)).mono ?_
            rintro e w5 ⟨rfl, hb⟩
            have r_1 := r_1.on hb
            have r_t := r_t.on hb
            have hb5 := bltB hb4 hb4.size hb
            clear hb
            rw [tv_digs, show intV k = k by unfold intV; rw [if_pos hks], show intB k = true by unfold intB; exact decide_eq_true hks]
            go_wp2_with fail
            refine ((parse_any w5 ⟨l.toArray⟩ (by show l.length ≤ 4096; omega)).mono (fun _ _ h => RetP.good h (by rw [txt_bytes]; exact hp))).mono ?_
            rintro e w6 ⟨A_c, n_c, c_c, rfl, r_c, hb⟩
            have r_1 := r_1.on hb
            have r_t := r_t.on hb
            have hb6 := bltB hb5 hb5.size hb
            clear hb
            rw [txt_bytes] at r_c
            have b_c := pval_bd hp hs
            have n_c_le := rd_le r_c b_c
            go_wp2_with fail
            refine (text_any _ (HT.out.on hb6) _ _ _ _ r_c (by omega)).mono ?_
            rintro e w7 ⟨rfl, hb⟩
            have r_1 := r_1.on hb
            have r_t := r_t.on hb
            have r_c := r_c.on hb
            have hb7 := bltB hb6 hb6.size hb
            clear hb
            rw [tv_digs, pok_dec hp, txt]
            go_wp2_with fail
            refine (right_any _ _ _ _ _ _ r_c (by omega)).mono ?_
            rintro e w' ⟨rfl, rfl⟩
            rw [rightB_digs]
            go_wp2_with fail
            refine (same_any _ _ _ _ _ _ _ _ _ r_1 r_t (by omega)).mono ?_
            rintro e w8 ⟨rfl, hb⟩
            have hb8 := bltB hb7 hb7.size hb
            clear hb
            rw [dec_same (show X = X from rfl)]
            go_wp2_with fail
            go_ret
            exact ⟨rfl, hb8⟩
          | false =>
            go_enter Tryd.func7, Tryd.ntmps7
            go_wp2_with fail
            refine (small_any _ HT.out).mono ?_
            rintro e w1 ⟨rfl, hb⟩
            have r_1 := r_1.on hb
            have hb1 := hb
            clear hb
            go_wp2_with fail
            refine (right_any _ _ _ _ _ _ r_1 (by omega)).mono ?_
            rintro e w' ⟨rfl, rfl⟩
            rw [rightB_digs]
            go_wp2_with fail
            refine (text_any _ (HT.out.on hb1) _ _ _ _ r_1 (by omega)).mono ?_
            rintro e w2 ⟨rfl, hb⟩
            have r_1 := r_1.on hb
            have hb2 := bltB hb1 hb1.size hb
            clear hb
            rw [tv_digs]
            have hdl := dec_len_digs (X := X) (m := n1) r_1.len
            obtain ⟨hdp, hdv⟩ := dec_pok X
            rw [txt]
            go_wp2_with fail
            refine ((parse_any w2 ⟨(Lib.decDigits X).toArray⟩ (by show (Lib.decDigits X).length ≤ 4096; omega)).mono (fun _ _ h => RetP.good h (by rw [txt_bytes]; exact hdp))).mono ?_
            rintro e w3 ⟨A_t, n_t, c_t, rfl, r_t, hb⟩
            have r_1 := r_1.on hb
            have hb3 := bltB hb2 hb2.size hb
            clear hb
            rw [txt_bytes, hdv] at r_t
            have b_t := b_1
            have n_t_le := rd_le r_t b_t
            clear hdp hdv hdl
            go_wp2_with fail
            refine (of_any w3 k hk).mono ?_
            rintro e w4 ⟨A_o, n_o, c_o, rfl, r_o, hb⟩
            have r_1 := r_1.on hb
            have r_t := r_t.on hb
            have hb4 := bltB hb3 hb3.size hb
            clear hb
            have b_o : k < 4294967296 ^ 2 := by omega
            have n_o_le := rd_le r_o b_o
            go_wp2_with fail
            refine (int_any _ _ _ _ _ r_o (by omega)).mono ?_
            rintro e w5 ⟨rfl, hb⟩
            have r_1 := r_1.on hb
            have r_t := r_t.on hb
            have hb5 := bltB hb4 hb4.size hb
            clear hb
            rw [tv_digs, show intV k = k by unfold intV; rw [if_pos hks], show intB k = true by unfold intB; exact decide_eq_true hks]
            go_wp2_with fail
            refine ((parse_any w5 ⟨l.toArray⟩ (by show l.length ≤ 4096; omega)).mono (fun _ _ h => RetP.bad' h (by rw [txt_bytes]; exact hp))).mono ?_
            rintro e w6 ⟨A_c, c_c, rfl, hb⟩
            have r_1 := r_1.on hb
            have r_t := r_t.on hb
            have hb6 := bltB hb5 hb5.size hb
            clear hb
            go_wp2_with fail
            refine (same_any _ _ _ _ _ _ _ _ _ r_1 r_t (by omega)).mono ?_
            rintro e w7 ⟨rfl, hb⟩
            have hb7 := bltB hb6 hb6.size hb
            clear hb
            rw [dec_same (show X = X from rfl)]
            go_wp2_with fail
            go_ret
            exact ⟨rfl, hb7⟩
        · have gk : ¬ (k : Int) ≤ 9223372036854775807 := by omega
          cases hp : pok l with
          | true =>
            go_enter Tryd.func7, Tryd.ntmps7
            go_wp2_with fail
            refine (small_any _ HT.out).mono ?_
            rintro e w1 ⟨rfl, hb⟩
            have r_1 := r_1.on hb
            have hb1 := hb
            clear hb
            go_wp2_with fail
            refine (right_any _ _ _ _ _ _ r_1 (by omega)).mono ?_
            rintro e w' ⟨rfl, rfl⟩
            rw [rightB_digs]
            go_wp2_with fail
            refine (text_any _ (HT.out.on hb1) _ _ _ _ r_1 (by omega)).mono ?_
            rintro e w2 ⟨rfl, hb⟩
            have r_1 := r_1.on hb
            have hb2 := bltB hb1 hb1.size hb
            clear hb
            rw [tv_digs]
            have hdl := dec_len_digs (X := X) (m := n1) r_1.len
            obtain ⟨hdp, hdv⟩ := dec_pok X
            rw [txt]
            go_wp2_with fail
            refine ((parse_any w2 ⟨(Lib.decDigits X).toArray⟩ (by show (Lib.decDigits X).length ≤ 4096; omega)).mono (fun _ _ h => RetP.good h (by rw [txt_bytes]; exact hdp))).mono ?_
            rintro e w3 ⟨A_t, n_t, c_t, rfl, r_t, hb⟩
            have r_1 := r_1.on hb
            have hb3 := bltB hb2 hb2.size hb
            clear hb
            rw [txt_bytes, hdv] at r_t
            have b_t := b_1
            have n_t_le := rd_le r_t b_t
            clear hdp hdv hdl
            go_wp2_with fail
            refine (of_any w3 k hk).mono ?_
            rintro e w4 ⟨A_o, n_o, c_o, rfl, r_o, hb⟩
            have r_1 := r_1.on hb
            have r_t := r_t.on hb
            have hb4 := bltB hb3 hb3.size hb
            clear hb
            have b_o : k < 4294967296 ^ 2 := by omega
            have n_o_le := rd_le r_o b_o
            go_wp2_with fail
            refine (int_any _ _ _ _ _ r_o (by omega)).mono ?_
            rintro e w5 ⟨rfl, hb⟩
            have r_1 := r_1.on hb
            have r_t := r_t.on hb
            have hb5 := bltB hb4 hb4.size hb
            clear hb
            rw [tv_digs, show intV k = 0 by unfold intV; rw [if_neg (by omega)], show intB k = false by unfold intB; exact decide_eq_false (by omega)]
            go_wp2_with fail
            refine ((parse_any w5 ⟨l.toArray⟩ (by show l.length ≤ 4096; omega)).mono (fun _ _ h => RetP.good h (by rw [txt_bytes]; exact hp))).mono ?_
            rintro e w6 ⟨A_c, n_c, c_c, rfl, r_c, hb⟩
            have r_1 := r_1.on hb
            have r_t := r_t.on hb
            have hb6 := bltB hb5 hb5.size hb
            clear hb
            rw [txt_bytes] at r_c
            have b_c := pval_bd hp hs
            have n_c_le := rd_le r_c b_c
            go_wp2_with fail
            refine (text_any _ (HT.out.on hb6) _ _ _ _ r_c (by omega)).mono ?_
            rintro e w7 ⟨rfl, hb⟩
            have r_1 := r_1.on hb
            have r_t := r_t.on hb
            have r_c := r_c.on hb
            have hb7 := bltB hb6 hb6.size hb
            clear hb
            rw [tv_digs, pok_dec hp, txt]
            go_wp2_with fail
            refine (right_any _ _ _ _ _ _ r_c (by omega)).mono ?_
            rintro e w' ⟨rfl, rfl⟩
            rw [rightB_digs]
            go_wp2_with fail
            refine (same_any _ _ _ _ _ _ _ _ _ r_1 r_t (by omega)).mono ?_
            rintro e w8 ⟨rfl, hb⟩
            have hb8 := bltB hb7 hb7.size hb
            clear hb
            rw [dec_same (show X = X from rfl)]
            go_wp2_with fail
            go_ret
            exact ⟨rfl, hb8⟩
          | false =>
            go_enter Tryd.func7, Tryd.ntmps7
            go_wp2_with fail
            refine (small_any _ HT.out).mono ?_
            rintro e w1 ⟨rfl, hb⟩
            have r_1 := r_1.on hb
            have hb1 := hb
            clear hb
            go_wp2_with fail
            refine (right_any _ _ _ _ _ _ r_1 (by omega)).mono ?_
            rintro e w' ⟨rfl, rfl⟩
            rw [rightB_digs]
            go_wp2_with fail
            refine (text_any _ (HT.out.on hb1) _ _ _ _ r_1 (by omega)).mono ?_
            rintro e w2 ⟨rfl, hb⟩
            have r_1 := r_1.on hb
            have hb2 := bltB hb1 hb1.size hb
            clear hb
            rw [tv_digs]
            have hdl := dec_len_digs (X := X) (m := n1) r_1.len
            obtain ⟨hdp, hdv⟩ := dec_pok X
            rw [txt]
            go_wp2_with fail
            refine ((parse_any w2 ⟨(Lib.decDigits X).toArray⟩ (by show (Lib.decDigits X).length ≤ 4096; omega)).mono (fun _ _ h => RetP.good h (by rw [txt_bytes]; exact hdp))).mono ?_
            rintro e w3 ⟨A_t, n_t, c_t, rfl, r_t, hb⟩
            have r_1 := r_1.on hb
            have hb3 := bltB hb2 hb2.size hb
            clear hb
            rw [txt_bytes, hdv] at r_t
            have b_t := b_1
            have n_t_le := rd_le r_t b_t
            clear hdp hdv hdl
            go_wp2_with fail
            refine (of_any w3 k hk).mono ?_
            rintro e w4 ⟨A_o, n_o, c_o, rfl, r_o, hb⟩
            have r_1 := r_1.on hb
            have r_t := r_t.on hb
            have hb4 := bltB hb3 hb3.size hb
            clear hb
            have b_o : k < 4294967296 ^ 2 := by omega
            have n_o_le := rd_le r_o b_o
            go_wp2_with fail
            refine (int_any _ _ _ _ _ r_o (by omega)).mono ?_
            rintro e w5 ⟨rfl, hb⟩
            have r_1 := r_1.on hb
            have r_t := r_t.on hb
            have hb5 := bltB hb4 hb4.size hb
            clear hb
            rw [tv_digs, show intV k = 0 by unfold intV; rw [if_neg (by omega)], show intB k = false by unfold intB; exact decide_eq_false (by omega)]
            go_wp2_with fail
            refine ((parse_any w5 ⟨l.toArray⟩ (by show l.length ≤ 4096; omega)).mono (fun _ _ h => RetP.bad' h (by rw [txt_bytes]; exact hp))).mono ?_
            rintro e w6 ⟨A_c, c_c, rfl, hb⟩
            have r_1 := r_1.on hb
            have r_t := r_t.on hb
            have hb6 := bltB hb5 hb5.size hb
            clear hb
            go_wp2_with fail
            refine (same_any _ _ _ _ _ _ _ _ _ r_1 r_t (by omega)).mono ?_
            rintro e w7 ⟨rfl, hb⟩
            have hb7 := bltB hb6 hb6.size hb
            clear hb
            rw [dec_same (show X = X from rfl)]
            go_wp2_with fail
            go_ret
            exact ⟨rfl, hb7⟩
      · have q1 : rightB l1 = false := by simpa using q1
        go_enter Tryd.func7, Tryd.ntmps7
        go_wp2_with fail
        refine (small_any _ HT.out).mono ?_
        rintro e w1 ⟨rfl, hb⟩
        have r_1 := r_1.on hb
        have hb1 := hb
        clear hb
        go_wp2_with fail
        refine (right_any _ _ _ _ _ _ r_1 (by omega)).mono ?_
        rintro e w' ⟨rfl, rfl⟩
        rw [q1]
        go_wp2_with fail
        go_ret
        exact ⟨rfl, hb1⟩
    · have g2 : (60 : Int) < (l.length : Int) := by omega
      clear r_1
      go_enter Tryd.func7, Tryd.ntmps7
      go_wp2_with fail
      refine (small_any _ HT.out).mono ?_
      rintro e w1 ⟨rfl, hb⟩
      have hb1 := hb
      clear hb
      go_wp2_with fail
      go_ret
      exact ⟨rfl, hb1⟩
  · have g1 : (12 : Int) < (n1 : Int) := by omega
    clear r_1
    go_enter Tryd.func7, Tryd.ntmps7
    go_wp2_with fail
    refine (small_any _ HT.out).mono ?_
    rintro e w1 ⟨rfl, hb⟩
    have hb1 := hb
    clear hb
    go_wp2_with fail
    go_ret
    exact ⟨rfl, hb1⟩

end Go.Proofs.YtjjpbpgoenpkkaaDoor
