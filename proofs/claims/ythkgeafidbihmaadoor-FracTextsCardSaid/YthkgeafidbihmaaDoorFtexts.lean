/-
  The law FracTexts: what its walk answers, whatever the digits and the text.
-/
import Derived.Test.YthkgeafidbihmaaDoorFsml
import Derived.Test.YthkgeafidbihmaaDoorFtxt
namespace Go.Proofs.YthkgeafidbihmaaDoor
open Go.RowKit Go.Shelf
set_option linter.unusedVariables false
set_option linter.unusedSimpArgs false
attribute [local go_sem] Oper.semAt_some

theorem qtxt_len {q : Rat} {n m : Nat} (h1 : (digs (rn q)).length ≤ n) (h2 : (digs (rd q)).length ≤ m) : (qTxt q).length ≤ 10 * n + 10 * m + 3 := by
  have g1 := dec_len_digs (X := rn q) rfl
  have g2 := dec_len_digs (X := rd q) rfl
  unfold qTxt fTxt
  split
  · omega
  · simp only [List.length_append, List.length_cons]; omega

set_option maxRecDepth 100000 in
set_option maxHeartbeats 4000000 in
theorem ftexts_any (w : World) (hT : Tab w) (A_a B_a : Option Addr) (n_a c_a m_a d_a : Nat) (l_a j_a : List Nat) (r_a : Rd w w.heap.size A_a n_a c_a l_a) (t_a : Rd w w.heap.size B_a m_a d_a j_a) (g_a : n_a ≤ 9223372036854775807) (h_a : m_a ≤ 9223372036854775807) (s : ByteArray) :
    Calls Tryd.prog 3 #[.agg #[.slice A_a n_a c_a, .slice B_a m_a d_a], .string s] w fun e w' => e = .returned (.bool true) ∧ Below w.heap.size w w' := by
  have HT := Lib.hid hT
  clear hT
  obtain ⟨w0, hw0⟩ : ∃ W, W = (w.alloc (.cells #[.slice A_a n_a c_a, .slice B_a m_a d_a] 24)) := ⟨_, rfl⟩
  have hB0 : Below w.heap.size w w0 := by rw [hw0]; exact ((Below.refl _ _).alloc (Nat.le_refl _) _)
  have k_a : Blk w0 w.heap.size 24 #[.slice A_a n_a c_a, .slice B_a m_a d_a] := by
    rw [hw0]
    have := Blk.new w 24 #[.slice A_a n_a c_a, .slice B_a m_a d_a]
    exact this
  replace r_a := r_a.on hB0
  replace t_a := t_a.on hB0
  go_enter Tryd.func3, Tryd.ntmps3
  go_wp2_with fail
  rw [← hw0]
  clear hw0
  refine (small_any w0 (HT.out.on hB0)).mono ?_
  rintro y w1 ⟨rfl, hb⟩
  replace k_a := k_a.below hb k_a.lt
  replace r_a := r_a.on hb
  replace t_a := t_a.on hb
  have hB1 := bltB hB0 hB0.size hb
  clear hb hB0
  have q_k_a_0 := k_a.cell 0
  have q_k_a_1 := k_a.cell 1
  have q_k_a_l := k_a.lt
  go_wp2_with fail
  clear q_k_a_0 q_k_a_1 q_k_a_l
  refine (few_any w1 _ _ _ _ _ _ _ _ _ _ _ _ g_a h_a g_a h_a).mono ?_
  rintro y w2 ⟨rfl, hb⟩
  replace k_a := k_a.below hb k_a.lt
  replace r_a := r_a.on hb
  replace t_a := t_a.on hb
  have hB2 := bltB hB1 hB1.size hb
  clear hb hB1
  rcases hf : (fewB n_a m_a && fewB n_a m_a) with _ | _
  · clear hf
    go_wp2_with fail
    go_ret
    exact ⟨rfl, hB2⟩
  have hle := few_le2 hf
  clear hf
  have le_a : n_a ≤ 12 ∧ m_a ≤ 12 := hle.1
  clear hle
  by_cases hs : s.size ≤ 40
  · have g40 : ¬ (40 : Int) < (s.size : Int) := by omega
    have q_k_a_0 := k_a.cell 0
    have q_k_a_1 := k_a.cell 1
    have q_k_a_l := k_a.lt
    go_wp2_with fail
    clear q_k_a_0 q_k_a_1 q_k_a_l
    have I0 : 0 ≤ frQ l_a j_a := frQ_ge0 _ _
    have hql : (qTxt (frQ l_a j_a)).length ≤ 400 := by
      have h1 := frN_len (k := j_a) r_a.dig
      have h2 := frD_len (l := l_a) t_a.dig
      rw [frN_rn] at h1
      rw [frD_rd] at h2
      have h3 := r_a.len
      have h4 := t_a.len
      have := qtxt_len (q := frQ l_a j_a) (n := 12) (m := 13) (by omega) (by omega)
      omega
    obtain ⟨hp1, hp2⟩ := parse_text I0
    refine (ftext_g r_a t_a (HT.out.on hB2) (by omega) (by omega)).mono ?_
    rintro y w3 ⟨rfl, hb⟩
    replace k_a := k_a.below hb k_a.lt
    replace r_a := r_a.on hb
    replace t_a := t_a.on hb
    have hB3 := bltB hB2 hB2.size hb
    clear hb hB2
    rw [txt]
    go_wp2_with fail
    refine (fparse_v w3 (HT.out.on hB3) ⟨(qTxt (frQ l_a j_a)).toArray⟩ (by show (qTxt (frQ l_a j_a)).length ≤ 4000; omega)).mono ?_
    rintro y w4 ⟨v_b, rfl, I_b, hb⟩
    replace k_a := k_a.below hb k_a.lt
    replace r_a := r_a.on hb
    replace t_a := t_a.on hb
    have hB4 := bltB hB3 hB3.size hb
    clear hb hB3
    rw [show (⟨(qTxt (frQ l_a j_a)).toArray⟩ : ByteArray).data.toList = qTxt (frQ l_a j_a) by simp, hp1]
    rw [show (⟨(qTxt (frQ l_a j_a)).toArray⟩ : ByteArray).data.toList = qTxt (frQ l_a j_a) by simp, hp2] at I_b
    replace I_b := I_b.more (show _ ≤ 401 from Nat.succ_le_succ hql)
    have HQ := Lib.hid hp1
    clear hp1 hp2
    obtain ⟨A_b, n_b, c_b, B_b, m_b, d_b, rfl, hI⟩ := I_b
    have I_b : IsQ w4 (.agg #[.slice A_b n_b c_b, .slice B_b m_b d_b]) _ _ := ⟨_, _, _, _, _, _, rfl, hI⟩
    clear hI
    go_wp2_with fail
    obtain ⟨w5, hw5⟩ : ∃ W, W = w4.alloc (.cells #[.slice A_b n_b c_b, .slice B_b m_b d_b] 24) := ⟨_, rfl⟩
    obtain ⟨G_b, hG_b⟩ : ∃ G, w4.heap.size = G := ⟨_, rfl⟩
    have ha : Below w4.heap.size w4 w5 := by rw [hw5]; exact (Below.refl _ _).alloc (Nat.le_refl _) _
    have k_b : Blk w5 G_b 24 #[.slice A_b n_b c_b, .slice B_b m_b d_b] := by rw [hw5, ← hG_b]; exact Blk.new w4 _ _
    rw [← hw5]
    simp only [hG_b]
    clear hw5 hG_b
    replace k_a := k_a.below ha k_a.lt
    replace r_a := r_a.on ha
    replace t_a := t_a.on ha
    replace I_b := I_b.on ha
    have hB5 := bltB hB4 hB4.size ha
    clear ha hB4
    obtain ⟨qc, hqc⟩ : ∃ q, fpq s.data.toList = q := ⟨_, rfl⟩
    obtain ⟨oc, hoc⟩ : ∃ z, fpok s.data.toList = z := ⟨_, rfl⟩
    refine (fparse_v w5 (HT.out.on hB5) s (by omega)).mono ?_
    rintro y w6 ⟨v_c, rfl, I_c, hb⟩
    rw [hoc]
    replace k_a := k_a.below hb k_a.lt
    replace r_a := r_a.on hb
    replace t_a := t_a.on hb
    replace I_b := I_b.on hb
    replace k_b := k_b.below hb k_b.lt
    have hB6 := bltB hB5 hB5.size hb
    clear hb hB5
    rw [hqc] at I_c
    have HC : Hid (fpok s.data.toList = oc ∧ fpq s.data.toList = qc) := Lib.hid ⟨hoc, hqc⟩
    clear hqc hoc
    obtain ⟨A_c, n_c, c_c, B_c, m_c, d_c, rfl, hI⟩ := I_c
    have I_c : IsQ w6 (.agg #[.slice A_c n_c c_c, .slice B_c m_c d_c]) _ _ := ⟨_, _, _, _, _, _, rfl, hI⟩
    clear hI
    have q_k_a_0 := k_a.cell 0
    have q_k_a_1 := k_a.cell 1
    have q_k_a_l := k_a.lt
    go_wp2_with fail
    clear q_k_a_0 q_k_a_1 q_k_a_l
    obtain ⟨w7, hw7⟩ : ∃ W, W = w6.alloc (.cells #[.slice A_c n_c c_c, .slice B_c m_c d_c] 24) := ⟨_, rfl⟩
    obtain ⟨G_c, hG_c⟩ : ∃ G, w6.heap.size = G := ⟨_, rfl⟩
    have ha : Below w6.heap.size w6 w7 := by rw [hw7]; exact (Below.refl _ _).alloc (Nat.le_refl _) _
    have k_c : Blk w7 G_c 24 #[.slice A_c n_c c_c, .slice B_c m_c d_c] := by rw [hw7, ← hG_c]; exact Blk.new w6 _ _
    rw [← hw7]
    simp only [hG_c]
    clear hw7 hG_c
    replace k_a := k_a.below ha k_a.lt
    replace r_a := r_a.on ha
    replace t_a := t_a.on ha
    replace I_b := I_b.on ha
    replace k_b := k_b.below ha k_b.lt
    replace I_c := I_c.on ha
    have hB7 := bltB hB6 hB6.size ha
    clear ha hB6
    refine (fright_any w7 _ _ _ _ _ _ _ _ r_a t_a (by omega) (by omega)).mono ?_
    rintro y w8 ⟨rfl, hb⟩
    replace k_a := k_a.below hb k_a.lt
    replace r_a := r_a.on hb
    replace t_a := t_a.on hb
    replace I_b := I_b.on hb
    replace k_b := k_b.below hb k_b.lt
    replace I_c := I_c.on hb
    replace k_c := k_c.below hb k_c.lt
    have hB8 := bltB hB7 hB7.size hb
    clear hb hB7
    rcases hr : frR l_a j_a with _ | _
    · clear hr
      have q_k_b_0 := k_b.cell 0
      have q_k_b_1 := k_b.cell 1
      have q_k_b_l := k_b.lt
      go_wp2_with fail
      clear q_k_b_0 q_k_b_1 q_k_b_l
      refine (fright_v I_b (by decide)).mono ?_
      rintro y w9 ⟨rfl, hb⟩
      replace k_a := k_a.below hb k_a.lt
      replace r_a := r_a.on hb
      replace t_a := t_a.on hb
      replace I_b := I_b.on hb
      replace k_b := k_b.below hb k_b.lt
      replace I_c := I_c.on hb
      replace k_c := k_c.below hb k_c.lt
      have hB9 := bltB hB8 hB8.size hb
      clear hb hB8
      have q_k_c_0 := k_c.cell 0
      have q_k_c_1 := k_c.cell 1
      have q_k_c_l := k_c.lt
      go_wp2_with fail
      clear q_k_c_0 q_k_c_1 q_k_c_l
      refine (fright_v I_c (by omega)).mono ?_
      rintro y w10 ⟨rfl, hb⟩
      replace k_a := k_a.below hb k_a.lt
      replace r_a := r_a.on hb
      replace t_a := t_a.on hb
      replace I_b := I_b.on hb
      replace k_b := k_b.below hb k_b.lt
      replace I_c := I_c.on hb
      replace k_c := k_c.below hb k_c.lt
      have hB10 := bltB hB9 hB9.size hb
      clear hb hB9
      rcases oc with _ | _
      · go_wp2_with fail
        go_ret
        exact ⟨rfl, hB10⟩
      · have hc : qTxt qc = s.data.toList := by rw [← HC.out.2]; exact text_parse HC.out.1
        have q_k_c_0 := k_c.cell 0
        have q_k_c_1 := k_c.cell 1
        have q_k_c_l := k_c.lt
        go_wp2_with fail
        clear q_k_c_0 q_k_c_1 q_k_c_l
        refine (ftext_v I_c (HT.out.on hB10) (by omega)).mono ?_
        rintro y w11 ⟨rfl, hb⟩
        replace k_a := k_a.below hb k_a.lt
        replace r_a := r_a.on hb
        replace t_a := t_a.on hb
        replace I_b := I_b.on hb
        replace k_b := k_b.below hb k_b.lt
        replace I_c := I_c.on hb
        replace k_c := k_c.below hb k_c.lt
        have hB11 := bltB hB10 hB10.size hb
        clear hb hB10
        rw [txt, hc]
        clear hc
        have hbeq : (s.data.toList == s.toList) = true := by rw [Lib.toList_data]; simp
        go_wp2_with fail
        go_ret
        exact ⟨rfl, hB11⟩
    · obtain ⟨q_a, rfl, rfl, F_a⟩ := as_q r_a t_a le_a.1 le_a.2 hr
      clear hr
      have I_a := IsQ.mk r_a t_a F_a
      replace I_b := I_b.as (frQ_q F_a.ge0)
      have q_k_a_0 := k_a.cell 0
      have q_k_a_1 := k_a.cell 1
      have q_k_a_l := k_a.lt
      have q_k_b_0 := k_b.cell 0
      have q_k_b_1 := k_b.cell 1
      have q_k_b_l := k_b.lt
      go_wp2_with fail
      clear q_k_a_0 q_k_a_1 q_k_a_l q_k_b_0 q_k_b_1 q_k_b_l
      refine (fsame_v I_a I_b (by decide)).mono ?_
      rintro y w9 ⟨rfl, hb⟩
      replace k_a := k_a.below hb k_a.lt
      replace I_b := I_b.on hb
      replace k_b := k_b.below hb k_b.lt
      replace I_c := I_c.on hb
      replace k_c := k_c.below hb k_c.lt
      replace I_a := I_a.on hb
      have hB9 := bltB hB8 hB8.size hb
      clear hb hB8
      rw [decide_eq_true (show q_a = q_a from rfl)]
      have q_k_b_0 := k_b.cell 0
      have q_k_b_1 := k_b.cell 1
      have q_k_b_l := k_b.lt
      go_wp2_with fail
      clear q_k_b_0 q_k_b_1 q_k_b_l
      refine (fright_v I_b (by decide)).mono ?_
      rintro y w10 ⟨rfl, hb⟩
      replace k_a := k_a.below hb k_a.lt
      replace I_b := I_b.on hb
      replace k_b := k_b.below hb k_b.lt
      replace I_c := I_c.on hb
      replace k_c := k_c.below hb k_c.lt
      replace I_a := I_a.on hb
      have hB10 := bltB hB9 hB9.size hb
      clear hb hB9
      have q_k_c_0 := k_c.cell 0
      have q_k_c_1 := k_c.cell 1
      have q_k_c_l := k_c.lt
      go_wp2_with fail
      clear q_k_c_0 q_k_c_1 q_k_c_l
      refine (fright_v I_c (by omega)).mono ?_
      rintro y w11 ⟨rfl, hb⟩
      replace k_a := k_a.below hb k_a.lt
      replace I_b := I_b.on hb
      replace k_b := k_b.below hb k_b.lt
      replace I_c := I_c.on hb
      replace k_c := k_c.below hb k_c.lt
      replace I_a := I_a.on hb
      have hB11 := bltB hB10 hB10.size hb
      clear hb hB10
      rcases oc with _ | _
      · go_wp2_with fail
        go_ret
        exact ⟨rfl, hB11⟩
      · have hc : qTxt qc = s.data.toList := by rw [← HC.out.2]; exact text_parse HC.out.1
        have q_k_c_0 := k_c.cell 0
        have q_k_c_1 := k_c.cell 1
        have q_k_c_l := k_c.lt
        go_wp2_with fail
        clear q_k_c_0 q_k_c_1 q_k_c_l
        refine (ftext_v I_c (HT.out.on hB11) (by omega)).mono ?_
        rintro y w12 ⟨rfl, hb⟩
        replace k_a := k_a.below hb k_a.lt
        replace I_b := I_b.on hb
        replace k_b := k_b.below hb k_b.lt
        replace I_c := I_c.on hb
        replace k_c := k_c.below hb k_c.lt
        replace I_a := I_a.on hb
        have hB12 := bltB hB11 hB11.size hb
        clear hb hB11
        rw [txt, hc]
        clear hc
        have hbeq : (s.data.toList == s.toList) = true := by rw [Lib.toList_data]; simp
        go_wp2_with fail
        go_ret
        exact ⟨rfl, hB12⟩
  · have g40 : (40 : Int) < (s.size : Int) := by omega
    go_wp2_with fail
    go_ret
    exact ⟨rfl, hB2⟩

end Go.Proofs.YthkgeafidbihmaaDoor
