/-
  The law LearnTrue: what its walk answers, whatever the acts.
-/
import Derived.Test.YtdobpicamibgpaaTrueP
namespace Go.Proofs.Ytdobpicamibgpaa
open Go.RowKit Go.Maps Go.Shelf
set_option linter.unusedVariables false
set_option linter.unusedSimpArgs false
attribute [local go_sem] Oper.semAt_some

set_option maxRecDepth 100000 in
set_option maxHeartbeats 16000000 in
theorem ltrue_any (w : World) (room has : Int) (A : Option Addr) (n cp : Nat) (l : List Av) (hl : Acts w w.heap.size A n l) : Calls Try.prog 4 #[.int .i64 room, .int .i64 has, .slice A n cp] w fun e w' => e = .returned (.bool true) ∧ Below w.heap.size w w' := by
  have HL := Lib.hid hl
  have hn0 := hl.small
  clear hl
  go_enter Try.func4, Try.ntmps4
  go_wp2_with fail
  refine (lsmall_any w).mono ?_
  rintro y w1 ⟨rfl, hb⟩
  have hB1 := hb
  clear hb
  go_wp2_with fail
  refine (lnew_any w1).mono ?_
  rintro y w2 ⟨p, b, rfl, M, hp_M, hb_M, hb⟩
  have hb_M := Nat.le_trans hB1.size hb_M
  have hB2 := bltB hB1 hB1.size hb
  clear hb hB1
  by_cases h60 : n ≤ 60
  · have g60 : ¬ (60 : Int) < (n : Int) := by omega
    by_cases hr : 1 ≤ room
    · skip
      by_cases hr2 : room ≤ 1125899906842624
      · skip
        by_cases h0 : 0 ≤ has
        · skip
          by_cases h1 : has ≤ room
          · skip
            go_wp2_with fail
            refine (ledge_any room w2).mono ?_
            rintro y w3 ⟨rfl, hb⟩
            have M := M.on hb
            have hB3 := bltB hB2 hB2.size hb
            clear hb hB2
            simp only [Ed.v, Ed.cs]
            go_wp2_with fail
            obtain ⟨w4, hw4⟩ : ∃ W, W = w3.alloc (.cells #[.int .i64 1, .int .i64 2, .int .i64 3, .int .i64 room, .int .i64 0, .int .i64 0, .int .i64 0, .int .i64 0, .int .i64 0] 26) := ⟨_, rfl⟩
            obtain ⟨Ge, hGe⟩ : ∃ G, w3.heap.size = G := ⟨_, rfl⟩
            have ha : Below w3.heap.size w3 w4 := by rw [hw4]; exact (Below.refl _ _).alloc (Nat.le_refl _) _
            have je : Blk w4 Ge 26 #[.int .i64 1, .int .i64 2, .int .i64 3, .int .i64 room, .int .i64 0, .int .i64 0, .int .i64 0, .int .i64 0, .int .i64 0] := by rw [hw4, ← hGe]; exact Blk.new w3 _ _
            rw [← hw4]
            simp only [hGe]
            have hz4 : w4.heap.size = Ge + 1 := by rw [hw4, ← hGe]; simp
            have M := M.on ha
            have hB4 := bltB hB3 hB3.size ha
            clear ha hB3
            clear hw4 hGe
            obtain ⟨w5, hw5⟩ : ∃ W, W = w4.alloc (.cells #[.int .i64 2, .int .i64 1, .int .i64 3, .int .i64 room, .int .i64 0, .int .i64 0, .int .i64 0, .int .i64 0, .int .i64 0] 26) := ⟨_, rfl⟩
            obtain ⟨Gb, hGb⟩ : ∃ G, Ge + 1 = G := ⟨_, rfl⟩
            have ha : Below w4.heap.size w4 w5 := by rw [hw5]; exact (Below.refl _ _).alloc (Nat.le_refl _) _
            have jb : Blk w5 Gb 26 #[.int .i64 2, .int .i64 1, .int .i64 3, .int .i64 room, .int .i64 0, .int .i64 0, .int .i64 0, .int .i64 0, .int .i64 0] := by rw [hw5, ← hGb, ← hz4]; exact Blk.new w4 _ _
            rw [← hw5]
            simp only [hGb]
            clear hw5 hGb hz4
            have M := M.on ha
            have je := je.below ha je.lt
            have hB5 := bltB hB4 hB4.size ha
            clear ha hB4
            go_loopw [1, 11] (fun h i wr => ∃ k : Nat, k ≤ n ∧ i = .int .i64 k ∧ h = .int .i64 (Ft room has (l.take k)).2 ∧ MindAt wr p b (2 * k) (Ft room has (l.take k)).1 ∧ w5.grownBy wr (some b)) (fun _ i _ => n - (intOf i).toNat)
            case atStart => exact ⟨0, Nat.zero_le _, rfl, rfl, M, below_grown (Below.refl _ _) _⟩
            case round =>
              obtain ⟨k, hk, rfl, rfl, hM, hgr⟩ := hrel
              have hBr := Below.grownM hB5 hgr hB5.size hb_M
              have je := je.grownM M hgr
              have jb := jb.grownM M hgr
              have HI := Lib.hid (Ft_ok (show 0 < room by omega) hr2 h0 h1 (l.take k))
              obtain ⟨⟨L, hv⟩, hs⟩ : ∃ s, Ft room has (l.take k) = s := ⟨_, rfl⟩
              rw [hs] at hM HI
              simp only [hs]
              simp only at hM
              have M := hM
              clear hM
              have hv0 := HI.out.has0
              have hv1 := HI.out.has1
              simp only at hv0 hv1
              by_cases hlt : k < n
              · obtain ⟨bb, off, hA, hbB, hat⟩ := HL.out.at_ (by omega)
                subst hA
                have hx : l[k]? = some (l[k]'(by rw [HL.out.len]; exact hlt)) := List.getElem?_eq_getElem _
                generalize l[k]'(by rw [HL.out.len]; exact hlt) = ak at hx
                obtain ⟨d1, e1, x1⟩ := ak
                have hc := hat k _ hx
                have a0 : wr.cell? ⟨bb, off + k * 11, none⟩ = some (.int .i64 d1) := (hBr.cell (p := ⟨bb, _, none⟩) hbB).trans (hc 0 _ rfl)
                have a10 : wr.cell? ⟨bb, off + k * 11 + 10, none⟩ = some (.int .i64 x1) := (hBr.cell (p := ⟨bb, _, none⟩) hbB).trans (hc 10 _ rfl)
                have HST : Hid (Ft room has (l.take (k + 1)) = trueS room (L, hv) (d1, x1)) := Lib.hid (by rw [Ft_step room has l k _ hx, hs])
                have HI2 := Lib.hid (HI.out.step (show 0 < room by omega) hr2 (d1, x1))
                clear hc hat hx hs
                by_cases q1 : d1 = 1
                · subst q1
                  by_cases q5 : x1 ≤ hv
                  · have HT : Hid (trueS room (L, hv) (1, x1) = ((passL L (eT room) x1), hv)) := Lib.hid (by rw [trueS_12 (Or.inl rfl), if_pos q5])
                    have HI3 : Hid (TrueI room ((passL L (eT room) x1), hv)) := Lib.hid (by rw [← HT.out]; exact HI2.out)
                    obtain ⟨lo, hi, lob, hib, H1, H2, hf, hbk, _, H3, H4⟩ := true_facts (show 0 < room by omega) hr2 HI3.out
                    have n1 : ¬ hv < lo := by omega
                    have n2 : ¬ hi ≤ hv := by omega
                    have n3 : ¬ room - hv < lob := by omega
                    have n4 : ¬ hib ≤ room - hv := by omega
                    have hwr : IntKind.i64.wrap (room - hv) = room - hv := IntWalk.i64_in _ (by omega)
                    have K1 := Lib.hid H1
                    have K2 := Lib.hid H2
                    have K3 := Lib.hid H3
                    have K4 := Lib.hid H4
                    have K5 := Lib.hid (odd_small HI3.out.good H3)
                    clear H1 H2 H3 H4 hf hbk
                    have q_je_0 := je.cell 0
                    have q_je_1 := je.cell 1
                    have q_je_2 := je.cell 2
                    have q_je_3 := je.cell 3
                    have q_je_4 := je.cell 4
                    have q_je_5 := je.cell 5
                    have q_je_6 := je.cell 6
                    have q_je_7 := je.cell 7
                    have q_je_8 := je.cell 8
                    have q_je_l := je.lt
                    go_wp2_with fail
                    clear q_je_0 q_je_1 q_je_2 q_je_3 q_je_4 q_je_5 q_je_6 q_je_7 q_je_8 q_je_l
                    refine (passed_any wr p b (2 * k) L M HI.out.good (by omega) ⟨1, 2, 3, room, 0, 0, 0, 0, 0⟩ x1).mono ?_
                    rintro y w21 ⟨rfl, hM1, hg⟩
                    have je := je.grownM M hg
                    have jb := jb.grownM M hg
                    have hG21 := hgr.andThen hg (fun j hj => .inr (by rw [← hj]))
                    clear hgr
                    have hB21 := Below.grownM hBr hg hBr.size hb_M
                    have M := hM1
                    clear hg hM1 hBr
                    have q_je_0 := je.cell 0
                    have q_je_1 := je.cell 1
                    have q_je_2 := je.cell 2
                    have q_je_3 := je.cell 3
                    have q_je_4 := je.cell 4
                    have q_je_5 := je.cell 5
                    have q_je_6 := je.cell 6
                    have q_je_7 := je.cell 7
                    have q_je_8 := je.cell 8
                    have q_je_l := je.lt
                    clear a0 a10
                    go_wp2_with fail
                    clear q_je_0 q_je_1 q_je_2 q_je_3 q_je_4 q_je_5 q_je_6 q_je_7 q_je_8 q_je_l
                    refine (bounds_any w21 p b ((2 * k) + 1) (passL L (eT room) x1) M (HI3.out.good : Good (passL L (eT room) x1)) ⟨1, 2, 3, room, 0, 0, 0, 0, 0⟩).mono ?_
                    rintro y w22 ⟨rfl, hb⟩
                    have je := je.below hb je.lt
                    have jb := jb.below hb jb.lt
                    have M := M.on hb
                    have hG22 := hG21.andThen (below_grown hb none) (fun j hj => by cases hj)
                    clear hG21
                    have hB22 := bltB hB21 hB21.size hb
                    clear hb hB21
                    rw [show bnd (passL L (eT room) x1) (Ed.e4 ⟨1, 2, 3, room, 0, 0, 0, 0, 0⟩) = (lo, hi) from K1.out]
                    have q_jb_0 := jb.cell 0
                    have q_jb_1 := jb.cell 1
                    have q_jb_2 := jb.cell 2
                    have q_jb_3 := jb.cell 3
                    have q_jb_4 := jb.cell 4
                    have q_jb_5 := jb.cell 5
                    have q_jb_6 := jb.cell 6
                    have q_jb_7 := jb.cell 7
                    have q_jb_8 := jb.cell 8
                    have q_jb_l := jb.lt
                    go_wp2_with fail
                    clear q_jb_0 q_jb_1 q_jb_2 q_jb_3 q_jb_4 q_jb_5 q_jb_6 q_jb_7 q_jb_8 q_jb_l
                    refine (bounds_any w22 p b ((2 * k) + 1) (passL L (eT room) x1) M (HI3.out.good : Good (passL L (eT room) x1)) ⟨2, 1, 3, room, 0, 0, 0, 0, 0⟩).mono ?_
                    rintro y w23 ⟨rfl, hb⟩
                    have je := je.below hb je.lt
                    have jb := jb.below hb jb.lt
                    have M := M.on hb
                    have hG23 := hG22.andThen (below_grown hb none) (fun j hj => by cases hj)
                    clear hG22
                    have hB23 := bltB hB22 hB22.size hb
                    clear hb hB22
                    rw [show bnd (passL L (eT room) x1) (Ed.e4 ⟨2, 1, 3, room, 0, 0, 0, 0, 0⟩) = (lob, hib) from K2.out]
                    have q_je_0 := je.cell 0
                    have q_je_1 := je.cell 1
                    have q_je_2 := je.cell 2
                    have q_je_3 := je.cell 3
                    have q_je_4 := je.cell 4
                    have q_je_5 := je.cell 5
                    have q_je_6 := je.cell 6
                    have q_je_7 := je.cell 7
                    have q_je_8 := je.cell 8
                    have q_je_l := je.lt
                    go_wp2_with fail
                    clear q_je_0 q_je_1 q_je_2 q_je_3 q_je_4 q_je_5 q_je_6 q_je_7 q_je_8 q_je_l
                    refine (odds_ok w23 p b ((2 * k) + 1) (passL L (eT room) x1) M (HI3.out.good : Good (passL L (eT room) x1)) ⟨1, 2, 3, room, 0, 0, 0, 0, 0⟩ hv K3.out).mono ?_
                    rintro y w24 ⟨A_q, n_q, c_q, B_q, m_q, d_q, rfl, r_q, t_q, l_q, hb⟩
                    have je := je.below hb je.lt
                    have jb := jb.below hb jb.lt
                    have M := M.on hb
                    have hG24 := hG23.andThen (below_grown hb none) (fun j hj => by cases hj)
                    clear hG23
                    have hB24 := bltB hB23 hB23.size hb
                    clear hb hB23
                    go_wp2_with fail
                    obtain ⟨w25, hw25⟩ : ∃ W, W = w24.alloc (.cells #[.slice A_q n_q c_q, .slice B_q m_q d_q] 42) := ⟨_, rfl⟩
                    obtain ⟨G_q, hG_q⟩ : ∃ G, w24.heap.size = G := ⟨_, rfl⟩
                    have ha : Below w24.heap.size w24 w25 := by rw [hw25]; exact (Below.refl _ _).alloc (Nat.le_refl _) _
                    have k_q : Blk w25 G_q 42 #[.slice A_q n_q c_q, .slice B_q m_q d_q] := by rw [hw25, ← hG_q]; exact Blk.new w24 _ _
                    rw [← hw25]
                    simp only [hG_q]
                    clear hw25 hG_q
                    have je := je.below ha je.lt
                    have jb := jb.below ha jb.lt
                    have M := M.on ha
                    have r_q := r_q.on ha
                    have t_q := t_q.on ha
                    have hG25 := hG24.andThen (below_grown ha none) (fun j hj => by cases hj)
                    clear hG24
                    have hB25 := bltB hB24 hB24.size ha
                    clear ha hB24
                    refine (is_any w25 _ _ _ _ _ _ (oN (passL L (eT room) x1) (eT room) hv) (oD (passL L (eT room) x1) (eT room)) r_q t_q K5.out.2.1 (by omega) (by omega) 0 1 (by decide) (by decide) (by decide)).mono ?_
                    rintro y w26 ⟨rfl, hb⟩
                    have je := je.below hb je.lt
                    have jb := jb.below hb jb.lt
                    have M := M.on hb
                    have r_q := r_q.on hb
                    have t_q := t_q.on hb
                    have k_q := k_q.below hb k_q.lt
                    have hG26 := hG25.andThen (below_grown hb none) (fun j hj => by cases hj)
                    clear hG25
                    have hB26 := bltB hB25 hB25.size hb
                    clear hb hB25
                    rw [show decide ((oN (passL L (eT room) x1) (eT room) hv) * 1 = 0 * (oD (passL L (eT room) x1) (eT room))) = false from decide_eq_false (by rw [Nat.mul_one, Nat.zero_mul]; exact K4.out)]
                    have HR : Hid ((MindAt w26 p b (2 * (k + 1)) (Ft room has (l.take (k + 1))).1 ∧ w5.grownBy w26 (some b)) ∧ (Ft room has (l.take (k + 1))).2 = hv) := Lib.hid ⟨⟨by rw [HST.out, HT.out]; exact M.more (by omega), hG26⟩, by rw [HST.out, HT.out]⟩
                    clear M je jb k_q r_q t_q hG26 hB26
                    go_wp2_with fail
                    go_roundw
                    case rel => exact ⟨k + 1, by omega, by go_num, by rw [HR.out.2], HR.out.1.1, HR.out.1.2⟩
                    case measure => simp [intOf]; omega
                  · have HT : Hid (trueS room (L, hv) (1, x1) = ((failL L (eT room) x1), hv)) := Lib.hid (by rw [trueS_12 (Or.inl rfl), if_neg q5])
                    have HI3 : Hid (TrueI room ((failL L (eT room) x1), hv)) := Lib.hid (by rw [← HT.out]; exact HI2.out)
                    obtain ⟨lo, hi, lob, hib, H1, H2, hf, hbk, _, H3, H4⟩ := true_facts (show 0 < room by omega) hr2 HI3.out
                    have n1 : ¬ hv < lo := by omega
                    have n2 : ¬ hi ≤ hv := by omega
                    have n3 : ¬ room - hv < lob := by omega
                    have n4 : ¬ hib ≤ room - hv := by omega
                    have hwr : IntKind.i64.wrap (room - hv) = room - hv := IntWalk.i64_in _ (by omega)
                    have K1 := Lib.hid H1
                    have K2 := Lib.hid H2
                    have K3 := Lib.hid H3
                    have K4 := Lib.hid H4
                    have K5 := Lib.hid (odd_small HI3.out.good H3)
                    clear H1 H2 H3 H4 hf hbk
                    have q_je_0 := je.cell 0
                    have q_je_1 := je.cell 1
                    have q_je_2 := je.cell 2
                    have q_je_3 := je.cell 3
                    have q_je_4 := je.cell 4
                    have q_je_5 := je.cell 5
                    have q_je_6 := je.cell 6
                    have q_je_7 := je.cell 7
                    have q_je_8 := je.cell 8
                    have q_je_l := je.lt
                    go_wp2_with fail
                    clear q_je_0 q_je_1 q_je_2 q_je_3 q_je_4 q_je_5 q_je_6 q_je_7 q_je_8 q_je_l
                    refine (failed_any wr p b (2 * k) L M HI.out.good (by omega) ⟨1, 2, 3, room, 0, 0, 0, 0, 0⟩ x1).mono ?_
                    rintro y w21 ⟨rfl, hM1, hg⟩
                    have je := je.grownM M hg
                    have jb := jb.grownM M hg
                    have hG21 := hgr.andThen hg (fun j hj => .inr (by rw [← hj]))
                    clear hgr
                    have hB21 := Below.grownM hBr hg hBr.size hb_M
                    have M := hM1
                    clear hg hM1 hBr
                    have q_je_0 := je.cell 0
                    have q_je_1 := je.cell 1
                    have q_je_2 := je.cell 2
                    have q_je_3 := je.cell 3
                    have q_je_4 := je.cell 4
                    have q_je_5 := je.cell 5
                    have q_je_6 := je.cell 6
                    have q_je_7 := je.cell 7
                    have q_je_8 := je.cell 8
                    have q_je_l := je.lt
                    clear a0 a10
                    go_wp2_with fail
                    clear q_je_0 q_je_1 q_je_2 q_je_3 q_je_4 q_je_5 q_je_6 q_je_7 q_je_8 q_je_l
                    refine (bounds_any w21 p b ((2 * k) + 1) (failL L (eT room) x1) M (HI3.out.good : Good (failL L (eT room) x1)) ⟨1, 2, 3, room, 0, 0, 0, 0, 0⟩).mono ?_
                    rintro y w22 ⟨rfl, hb⟩
                    have je := je.below hb je.lt
                    have jb := jb.below hb jb.lt
                    have M := M.on hb
                    have hG22 := hG21.andThen (below_grown hb none) (fun j hj => by cases hj)
                    clear hG21
                    have hB22 := bltB hB21 hB21.size hb
                    clear hb hB21
                    rw [show bnd (failL L (eT room) x1) (Ed.e4 ⟨1, 2, 3, room, 0, 0, 0, 0, 0⟩) = (lo, hi) from K1.out]
                    have q_jb_0 := jb.cell 0
                    have q_jb_1 := jb.cell 1
                    have q_jb_2 := jb.cell 2
                    have q_jb_3 := jb.cell 3
                    have q_jb_4 := jb.cell 4
                    have q_jb_5 := jb.cell 5
                    have q_jb_6 := jb.cell 6
                    have q_jb_7 := jb.cell 7
                    have q_jb_8 := jb.cell 8
                    have q_jb_l := jb.lt
                    go_wp2_with fail
                    clear q_jb_0 q_jb_1 q_jb_2 q_jb_3 q_jb_4 q_jb_5 q_jb_6 q_jb_7 q_jb_8 q_jb_l
                    refine (bounds_any w22 p b ((2 * k) + 1) (failL L (eT room) x1) M (HI3.out.good : Good (failL L (eT room) x1)) ⟨2, 1, 3, room, 0, 0, 0, 0, 0⟩).mono ?_
                    rintro y w23 ⟨rfl, hb⟩
                    have je := je.below hb je.lt
                    have jb := jb.below hb jb.lt
                    have M := M.on hb
                    have hG23 := hG22.andThen (below_grown hb none) (fun j hj => by cases hj)
                    clear hG22
                    have hB23 := bltB hB22 hB22.size hb
                    clear hb hB22
                    rw [show bnd (failL L (eT room) x1) (Ed.e4 ⟨2, 1, 3, room, 0, 0, 0, 0, 0⟩) = (lob, hib) from K2.out]
                    have q_je_0 := je.cell 0
                    have q_je_1 := je.cell 1
                    have q_je_2 := je.cell 2
                    have q_je_3 := je.cell 3
                    have q_je_4 := je.cell 4
                    have q_je_5 := je.cell 5
                    have q_je_6 := je.cell 6
                    have q_je_7 := je.cell 7
                    have q_je_8 := je.cell 8
                    have q_je_l := je.lt
                    go_wp2_with fail
                    clear q_je_0 q_je_1 q_je_2 q_je_3 q_je_4 q_je_5 q_je_6 q_je_7 q_je_8 q_je_l
                    refine (odds_ok w23 p b ((2 * k) + 1) (failL L (eT room) x1) M (HI3.out.good : Good (failL L (eT room) x1)) ⟨1, 2, 3, room, 0, 0, 0, 0, 0⟩ hv K3.out).mono ?_
                    rintro y w24 ⟨A_q, n_q, c_q, B_q, m_q, d_q, rfl, r_q, t_q, l_q, hb⟩
                    have je := je.below hb je.lt
                    have jb := jb.below hb jb.lt
                    have M := M.on hb
                    have hG24 := hG23.andThen (below_grown hb none) (fun j hj => by cases hj)
                    clear hG23
                    have hB24 := bltB hB23 hB23.size hb
                    clear hb hB23
                    go_wp2_with fail
                    obtain ⟨w25, hw25⟩ : ∃ W, W = w24.alloc (.cells #[.slice A_q n_q c_q, .slice B_q m_q d_q] 42) := ⟨_, rfl⟩
                    obtain ⟨G_q, hG_q⟩ : ∃ G, w24.heap.size = G := ⟨_, rfl⟩
                    have ha : Below w24.heap.size w24 w25 := by rw [hw25]; exact (Below.refl _ _).alloc (Nat.le_refl _) _
                    have k_q : Blk w25 G_q 42 #[.slice A_q n_q c_q, .slice B_q m_q d_q] := by rw [hw25, ← hG_q]; exact Blk.new w24 _ _
                    rw [← hw25]
                    simp only [hG_q]
                    clear hw25 hG_q
                    have je := je.below ha je.lt
                    have jb := jb.below ha jb.lt
                    have M := M.on ha
                    have r_q := r_q.on ha
                    have t_q := t_q.on ha
                    have hG25 := hG24.andThen (below_grown ha none) (fun j hj => by cases hj)
                    clear hG24
                    have hB25 := bltB hB24 hB24.size ha
                    clear ha hB24
                    refine (is_any w25 _ _ _ _ _ _ (oN (failL L (eT room) x1) (eT room) hv) (oD (failL L (eT room) x1) (eT room)) r_q t_q K5.out.2.1 (by omega) (by omega) 0 1 (by decide) (by decide) (by decide)).mono ?_
                    rintro y w26 ⟨rfl, hb⟩
                    have je := je.below hb je.lt
                    have jb := jb.below hb jb.lt
                    have M := M.on hb
                    have r_q := r_q.on hb
                    have t_q := t_q.on hb
                    have k_q := k_q.below hb k_q.lt
                    have hG26 := hG25.andThen (below_grown hb none) (fun j hj => by cases hj)
                    clear hG25
                    have hB26 := bltB hB25 hB25.size hb
                    clear hb hB25
                    rw [show decide ((oN (failL L (eT room) x1) (eT room) hv) * 1 = 0 * (oD (failL L (eT room) x1) (eT room))) = false from decide_eq_false (by rw [Nat.mul_one, Nat.zero_mul]; exact K4.out)]
                    have HR : Hid ((MindAt w26 p b (2 * (k + 1)) (Ft room has (l.take (k + 1))).1 ∧ w5.grownBy w26 (some b)) ∧ (Ft room has (l.take (k + 1))).2 = hv) := Lib.hid ⟨⟨by rw [HST.out, HT.out]; exact M.more (by omega), hG26⟩, by rw [HST.out, HT.out]⟩
                    clear M je jb k_q r_q t_q hG26 hB26
                    go_wp2_with fail
                    go_roundw
                    case rel => exact ⟨k + 1, by omega, by go_num, by rw [HR.out.2], HR.out.1.1, HR.out.1.2⟩
                    case measure => simp [intOf]; omega
                · by_cases q2 : d1 = 2
                  · subst q2
                    clear q1
                    by_cases q5 : x1 ≤ hv
                    · have HT : Hid (trueS room (L, hv) (2, x1) = ((passL L (eT room) x1), hv)) := Lib.hid (by rw [trueS_12 (Or.inr rfl), if_pos q5])
                      have HI3 : Hid (TrueI room ((passL L (eT room) x1), hv)) := Lib.hid (by rw [← HT.out]; exact HI2.out)
                      obtain ⟨lo, hi, lob, hib, H1, H2, hf, hbk, _, H3, H4⟩ := true_facts (show 0 < room by omega) hr2 HI3.out
                      have n1 : ¬ hv < lo := by omega
                      have n2 : ¬ hi ≤ hv := by omega
                      have n3 : ¬ room - hv < lob := by omega
                      have n4 : ¬ hib ≤ room - hv := by omega
                      have hwr : IntKind.i64.wrap (room - hv) = room - hv := IntWalk.i64_in _ (by omega)
                      have K1 := Lib.hid H1
                      have K2 := Lib.hid H2
                      have K3 := Lib.hid H3
                      have K4 := Lib.hid H4
                      have K5 := Lib.hid (odd_small HI3.out.good H3)
                      clear H1 H2 H3 H4 hf hbk
                      have q_je_0 := je.cell 0
                      have q_je_1 := je.cell 1
                      have q_je_2 := je.cell 2
                      have q_je_3 := je.cell 3
                      have q_je_4 := je.cell 4
                      have q_je_5 := je.cell 5
                      have q_je_6 := je.cell 6
                      have q_je_7 := je.cell 7
                      have q_je_8 := je.cell 8
                      have q_je_l := je.lt
                      go_wp2_with fail
                      clear q_je_0 q_je_1 q_je_2 q_je_3 q_je_4 q_je_5 q_je_6 q_je_7 q_je_8 q_je_l
                      refine (passed_any wr p b (2 * k) L M HI.out.good (by omega) ⟨1, 2, 3, room, 0, 0, 0, 0, 0⟩ x1).mono ?_
                      rintro y w21 ⟨rfl, hM1, hg⟩
                      have je := je.grownM M hg
                      have jb := jb.grownM M hg
                      have hG21 := hgr.andThen hg (fun j hj => .inr (by rw [← hj]))
                      clear hgr
                      have hB21 := Below.grownM hBr hg hBr.size hb_M
                      have M := hM1
                      clear hg hM1 hBr
                      have q_je_0 := je.cell 0
                      have q_je_1 := je.cell 1
                      have q_je_2 := je.cell 2
                      have q_je_3 := je.cell 3
                      have q_je_4 := je.cell 4
                      have q_je_5 := je.cell 5
                      have q_je_6 := je.cell 6
                      have q_je_7 := je.cell 7
                      have q_je_8 := je.cell 8
                      have q_je_l := je.lt
                      clear a0 a10
                      go_wp2_with fail
                      clear q_je_0 q_je_1 q_je_2 q_je_3 q_je_4 q_je_5 q_je_6 q_je_7 q_je_8 q_je_l
                      refine (bounds_any w21 p b ((2 * k) + 1) (passL L (eT room) x1) M (HI3.out.good : Good (passL L (eT room) x1)) ⟨1, 2, 3, room, 0, 0, 0, 0, 0⟩).mono ?_
                      rintro y w22 ⟨rfl, hb⟩
                      have je := je.below hb je.lt
                      have jb := jb.below hb jb.lt
                      have M := M.on hb
                      have hG22 := hG21.andThen (below_grown hb none) (fun j hj => by cases hj)
                      clear hG21
                      have hB22 := bltB hB21 hB21.size hb
                      clear hb hB21
                      rw [show bnd (passL L (eT room) x1) (Ed.e4 ⟨1, 2, 3, room, 0, 0, 0, 0, 0⟩) = (lo, hi) from K1.out]
                      have q_jb_0 := jb.cell 0
                      have q_jb_1 := jb.cell 1
                      have q_jb_2 := jb.cell 2
                      have q_jb_3 := jb.cell 3
                      have q_jb_4 := jb.cell 4
                      have q_jb_5 := jb.cell 5
                      have q_jb_6 := jb.cell 6
                      have q_jb_7 := jb.cell 7
                      have q_jb_8 := jb.cell 8
                      have q_jb_l := jb.lt
                      go_wp2_with fail
                      clear q_jb_0 q_jb_1 q_jb_2 q_jb_3 q_jb_4 q_jb_5 q_jb_6 q_jb_7 q_jb_8 q_jb_l
                      refine (bounds_any w22 p b ((2 * k) + 1) (passL L (eT room) x1) M (HI3.out.good : Good (passL L (eT room) x1)) ⟨2, 1, 3, room, 0, 0, 0, 0, 0⟩).mono ?_
                      rintro y w23 ⟨rfl, hb⟩
                      have je := je.below hb je.lt
                      have jb := jb.below hb jb.lt
                      have M := M.on hb
                      have hG23 := hG22.andThen (below_grown hb none) (fun j hj => by cases hj)
                      clear hG22
                      have hB23 := bltB hB22 hB22.size hb
                      clear hb hB22
                      rw [show bnd (passL L (eT room) x1) (Ed.e4 ⟨2, 1, 3, room, 0, 0, 0, 0, 0⟩) = (lob, hib) from K2.out]
                      have q_je_0 := je.cell 0
                      have q_je_1 := je.cell 1
                      have q_je_2 := je.cell 2
                      have q_je_3 := je.cell 3
                      have q_je_4 := je.cell 4
                      have q_je_5 := je.cell 5
                      have q_je_6 := je.cell 6
                      have q_je_7 := je.cell 7
                      have q_je_8 := je.cell 8
                      have q_je_l := je.lt
                      go_wp2_with fail
                      clear q_je_0 q_je_1 q_je_2 q_je_3 q_je_4 q_je_5 q_je_6 q_je_7 q_je_8 q_je_l
                      refine (odds_ok w23 p b ((2 * k) + 1) (passL L (eT room) x1) M (HI3.out.good : Good (passL L (eT room) x1)) ⟨1, 2, 3, room, 0, 0, 0, 0, 0⟩ hv K3.out).mono ?_
                      rintro y w24 ⟨A_q, n_q, c_q, B_q, m_q, d_q, rfl, r_q, t_q, l_q, hb⟩
                      have je := je.below hb je.lt
                      have jb := jb.below hb jb.lt
                      have M := M.on hb
                      have hG24 := hG23.andThen (below_grown hb none) (fun j hj => by cases hj)
                      clear hG23
                      have hB24 := bltB hB23 hB23.size hb
                      clear hb hB23
                      go_wp2_with fail
                      obtain ⟨w25, hw25⟩ : ∃ W, W = w24.alloc (.cells #[.slice A_q n_q c_q, .slice B_q m_q d_q] 42) := ⟨_, rfl⟩
                      obtain ⟨G_q, hG_q⟩ : ∃ G, w24.heap.size = G := ⟨_, rfl⟩
                      have ha : Below w24.heap.size w24 w25 := by rw [hw25]; exact (Below.refl _ _).alloc (Nat.le_refl _) _
                      have k_q : Blk w25 G_q 42 #[.slice A_q n_q c_q, .slice B_q m_q d_q] := by rw [hw25, ← hG_q]; exact Blk.new w24 _ _
                      rw [← hw25]
                      simp only [hG_q]
                      clear hw25 hG_q
                      have je := je.below ha je.lt
                      have jb := jb.below ha jb.lt
                      have M := M.on ha
                      have r_q := r_q.on ha
                      have t_q := t_q.on ha
                      have hG25 := hG24.andThen (below_grown ha none) (fun j hj => by cases hj)
                      clear hG24
                      have hB25 := bltB hB24 hB24.size ha
                      clear ha hB24
                      refine (is_any w25 _ _ _ _ _ _ (oN (passL L (eT room) x1) (eT room) hv) (oD (passL L (eT room) x1) (eT room)) r_q t_q K5.out.2.1 (by omega) (by omega) 0 1 (by decide) (by decide) (by decide)).mono ?_
                      rintro y w26 ⟨rfl, hb⟩
                      have je := je.below hb je.lt
                      have jb := jb.below hb jb.lt
                      have M := M.on hb
                      have r_q := r_q.on hb
                      have t_q := t_q.on hb
                      have k_q := k_q.below hb k_q.lt
                      have hG26 := hG25.andThen (below_grown hb none) (fun j hj => by cases hj)
                      clear hG25
                      have hB26 := bltB hB25 hB25.size hb
                      clear hb hB25
                      rw [show decide ((oN (passL L (eT room) x1) (eT room) hv) * 1 = 0 * (oD (passL L (eT room) x1) (eT room))) = false from decide_eq_false (by rw [Nat.mul_one, Nat.zero_mul]; exact K4.out)]
                      have HR : Hid ((MindAt w26 p b (2 * (k + 1)) (Ft room has (l.take (k + 1))).1 ∧ w5.grownBy w26 (some b)) ∧ (Ft room has (l.take (k + 1))).2 = hv) := Lib.hid ⟨⟨by rw [HST.out, HT.out]; exact M.more (by omega), hG26⟩, by rw [HST.out, HT.out]⟩
                      clear M je jb k_q r_q t_q hG26 hB26
                      go_wp2_with fail
                      go_roundw
                      case rel => exact ⟨k + 1, by omega, by go_num, by rw [HR.out.2], HR.out.1.1, HR.out.1.2⟩
                      case measure => simp [intOf]; omega
                    · have HT : Hid (trueS room (L, hv) (2, x1) = ((failL L (eT room) x1), hv)) := Lib.hid (by rw [trueS_12 (Or.inr rfl), if_neg q5])
                      have HI3 : Hid (TrueI room ((failL L (eT room) x1), hv)) := Lib.hid (by rw [← HT.out]; exact HI2.out)
                      obtain ⟨lo, hi, lob, hib, H1, H2, hf, hbk, _, H3, H4⟩ := true_facts (show 0 < room by omega) hr2 HI3.out
                      have n1 : ¬ hv < lo := by omega
                      have n2 : ¬ hi ≤ hv := by omega
                      have n3 : ¬ room - hv < lob := by omega
                      have n4 : ¬ hib ≤ room - hv := by omega
                      have hwr : IntKind.i64.wrap (room - hv) = room - hv := IntWalk.i64_in _ (by omega)
                      have K1 := Lib.hid H1
                      have K2 := Lib.hid H2
                      have K3 := Lib.hid H3
                      have K4 := Lib.hid H4
                      have K5 := Lib.hid (odd_small HI3.out.good H3)
                      clear H1 H2 H3 H4 hf hbk
                      have q_je_0 := je.cell 0
                      have q_je_1 := je.cell 1
                      have q_je_2 := je.cell 2
                      have q_je_3 := je.cell 3
                      have q_je_4 := je.cell 4
                      have q_je_5 := je.cell 5
                      have q_je_6 := je.cell 6
                      have q_je_7 := je.cell 7
                      have q_je_8 := je.cell 8
                      have q_je_l := je.lt
                      go_wp2_with fail
                      clear q_je_0 q_je_1 q_je_2 q_je_3 q_je_4 q_je_5 q_je_6 q_je_7 q_je_8 q_je_l
                      refine (failed_any wr p b (2 * k) L M HI.out.good (by omega) ⟨1, 2, 3, room, 0, 0, 0, 0, 0⟩ x1).mono ?_
                      rintro y w21 ⟨rfl, hM1, hg⟩
                      have je := je.grownM M hg
                      have jb := jb.grownM M hg
                      have hG21 := hgr.andThen hg (fun j hj => .inr (by rw [← hj]))
                      clear hgr
                      have hB21 := Below.grownM hBr hg hBr.size hb_M
                      have M := hM1
                      clear hg hM1 hBr
                      have q_je_0 := je.cell 0
                      have q_je_1 := je.cell 1
                      have q_je_2 := je.cell 2
                      have q_je_3 := je.cell 3
                      have q_je_4 := je.cell 4
                      have q_je_5 := je.cell 5
                      have q_je_6 := je.cell 6
                      have q_je_7 := je.cell 7
                      have q_je_8 := je.cell 8
                      have q_je_l := je.lt
                      clear a0 a10
                      go_wp2_with fail
                      clear q_je_0 q_je_1 q_je_2 q_je_3 q_je_4 q_je_5 q_je_6 q_je_7 q_je_8 q_je_l
                      refine (bounds_any w21 p b ((2 * k) + 1) (failL L (eT room) x1) M (HI3.out.good : Good (failL L (eT room) x1)) ⟨1, 2, 3, room, 0, 0, 0, 0, 0⟩).mono ?_
                      rintro y w22 ⟨rfl, hb⟩
                      have je := je.below hb je.lt
                      have jb := jb.below hb jb.lt
                      have M := M.on hb
                      have hG22 := hG21.andThen (below_grown hb none) (fun j hj => by cases hj)
                      clear hG21
                      have hB22 := bltB hB21 hB21.size hb
                      clear hb hB21
                      rw [show bnd (failL L (eT room) x1) (Ed.e4 ⟨1, 2, 3, room, 0, 0, 0, 0, 0⟩) = (lo, hi) from K1.out]
                      have q_jb_0 := jb.cell 0
                      have q_jb_1 := jb.cell 1
                      have q_jb_2 := jb.cell 2
                      have q_jb_3 := jb.cell 3
                      have q_jb_4 := jb.cell 4
                      have q_jb_5 := jb.cell 5
                      have q_jb_6 := jb.cell 6
                      have q_jb_7 := jb.cell 7
                      have q_jb_8 := jb.cell 8
                      have q_jb_l := jb.lt
                      go_wp2_with fail
                      clear q_jb_0 q_jb_1 q_jb_2 q_jb_3 q_jb_4 q_jb_5 q_jb_6 q_jb_7 q_jb_8 q_jb_l
                      refine (bounds_any w22 p b ((2 * k) + 1) (failL L (eT room) x1) M (HI3.out.good : Good (failL L (eT room) x1)) ⟨2, 1, 3, room, 0, 0, 0, 0, 0⟩).mono ?_
                      rintro y w23 ⟨rfl, hb⟩
                      have je := je.below hb je.lt
                      have jb := jb.below hb jb.lt
                      have M := M.on hb
                      have hG23 := hG22.andThen (below_grown hb none) (fun j hj => by cases hj)
                      clear hG22
                      have hB23 := bltB hB22 hB22.size hb
                      clear hb hB22
                      rw [show bnd (failL L (eT room) x1) (Ed.e4 ⟨2, 1, 3, room, 0, 0, 0, 0, 0⟩) = (lob, hib) from K2.out]
                      have q_je_0 := je.cell 0
                      have q_je_1 := je.cell 1
                      have q_je_2 := je.cell 2
                      have q_je_3 := je.cell 3
                      have q_je_4 := je.cell 4
                      have q_je_5 := je.cell 5
                      have q_je_6 := je.cell 6
                      have q_je_7 := je.cell 7
                      have q_je_8 := je.cell 8
                      have q_je_l := je.lt
                      go_wp2_with fail
                      clear q_je_0 q_je_1 q_je_2 q_je_3 q_je_4 q_je_5 q_je_6 q_je_7 q_je_8 q_je_l
                      refine (odds_ok w23 p b ((2 * k) + 1) (failL L (eT room) x1) M (HI3.out.good : Good (failL L (eT room) x1)) ⟨1, 2, 3, room, 0, 0, 0, 0, 0⟩ hv K3.out).mono ?_
                      rintro y w24 ⟨A_q, n_q, c_q, B_q, m_q, d_q, rfl, r_q, t_q, l_q, hb⟩
                      have je := je.below hb je.lt
                      have jb := jb.below hb jb.lt
                      have M := M.on hb
                      have hG24 := hG23.andThen (below_grown hb none) (fun j hj => by cases hj)
                      clear hG23
                      have hB24 := bltB hB23 hB23.size hb
                      clear hb hB23
                      go_wp2_with fail
                      obtain ⟨w25, hw25⟩ : ∃ W, W = w24.alloc (.cells #[.slice A_q n_q c_q, .slice B_q m_q d_q] 42) := ⟨_, rfl⟩
                      obtain ⟨G_q, hG_q⟩ : ∃ G, w24.heap.size = G := ⟨_, rfl⟩
                      have ha : Below w24.heap.size w24 w25 := by rw [hw25]; exact (Below.refl _ _).alloc (Nat.le_refl _) _
                      have k_q : Blk w25 G_q 42 #[.slice A_q n_q c_q, .slice B_q m_q d_q] := by rw [hw25, ← hG_q]; exact Blk.new w24 _ _
                      rw [← hw25]
                      simp only [hG_q]
                      clear hw25 hG_q
                      have je := je.below ha je.lt
                      have jb := jb.below ha jb.lt
                      have M := M.on ha
                      have r_q := r_q.on ha
                      have t_q := t_q.on ha
                      have hG25 := hG24.andThen (below_grown ha none) (fun j hj => by cases hj)
                      clear hG24
                      have hB25 := bltB hB24 hB24.size ha
                      clear ha hB24
                      refine (is_any w25 _ _ _ _ _ _ (oN (failL L (eT room) x1) (eT room) hv) (oD (failL L (eT room) x1) (eT room)) r_q t_q K5.out.2.1 (by omega) (by omega) 0 1 (by decide) (by decide) (by decide)).mono ?_
                      rintro y w26 ⟨rfl, hb⟩
                      have je := je.below hb je.lt
                      have jb := jb.below hb jb.lt
                      have M := M.on hb
                      have r_q := r_q.on hb
                      have t_q := t_q.on hb
                      have k_q := k_q.below hb k_q.lt
                      have hG26 := hG25.andThen (below_grown hb none) (fun j hj => by cases hj)
                      clear hG25
                      have hB26 := bltB hB25 hB25.size hb
                      clear hb hB25
                      rw [show decide ((oN (failL L (eT room) x1) (eT room) hv) * 1 = 0 * (oD (failL L (eT room) x1) (eT room))) = false from decide_eq_false (by rw [Nat.mul_one, Nat.zero_mul]; exact K4.out)]
                      have HR : Hid ((MindAt w26 p b (2 * (k + 1)) (Ft room has (l.take (k + 1))).1 ∧ w5.grownBy w26 (some b)) ∧ (Ft room has (l.take (k + 1))).2 = hv) := Lib.hid ⟨⟨by rw [HST.out, HT.out]; exact M.more (by omega), hG26⟩, by rw [HST.out, HT.out]⟩
                      clear M je jb k_q r_q t_q hG26 hB26
                      go_wp2_with fail
                      go_roundw
                      case rel => exact ⟨k + 1, by omega, by go_num, by rw [HR.out.2], HR.out.1.1, HR.out.1.2⟩
                      case measure => simp [intOf]; omega
                  · by_cases q3 : d1 = 3
                    · subst q3
                      clear q1 q2
                      by_cases q5 : 1 ≤ x1
                      · by_cases q6 : x1 ≤ hv
                        · have HT : Hid (trueS room (L, hv) (3, x1) = ((moveL L (eT room) x1), hv - x1)) := Lib.hid (by rw [trueS_3, if_pos ⟨q5, q6⟩])
                          have HI3 : Hid (TrueI room ((moveL L (eT room) x1), hv - x1)) := Lib.hid (by rw [← HT.out]; exact HI2.out)
                          obtain ⟨h2, hh2⟩ : ∃ z, hv - x1 = z := ⟨_, rfl⟩
                          rw [hh2] at HI3 HT
                          have hb2 := HI3.out.has0
                          have hb3 := HI3.out.has1
                          simp only at hb2 hb3
                          have hw0 : IntKind.i64.wrap (hv - x1) = h2 := by rw [IntWalk.i64_in _ (by omega), hh2]
                          obtain ⟨lo, hi, lob, hib, H1, H2, hf, hbk, _, H3, H4⟩ := true_facts (show 0 < room by omega) hr2 HI3.out
                          have n1 : ¬ h2 < lo := by omega
                          have n2 : ¬ hi ≤ h2 := by omega
                          have n3 : ¬ room - h2 < lob := by omega
                          have n4 : ¬ hib ≤ room - h2 := by omega
                          have hwr : IntKind.i64.wrap (room - h2) = room - h2 := IntWalk.i64_in _ (by omega)
                          have hwv : IntKind.i64.wrap (room - hv) = room - hv := IntWalk.i64_in _ (by omega)
                          have K1 := Lib.hid H1
                          have K2 := Lib.hid H2
                          have K3 := Lib.hid H3
                          have K4 := Lib.hid H4
                          have K5 := Lib.hid (odd_small HI3.out.good H3)
                          clear H1 H2 H3 H4 hf hbk hh2 hb2 hb3
                          have q_je_0 := je.cell 0
                          have q_je_1 := je.cell 1
                          have q_je_2 := je.cell 2
                          have q_je_3 := je.cell 3
                          have q_je_4 := je.cell 4
                          have q_je_5 := je.cell 5
                          have q_je_6 := je.cell 6
                          have q_je_7 := je.cell 7
                          have q_je_8 := je.cell 8
                          have q_je_l := je.lt
                          go_wp2_with fail
                          clear q_je_0 q_je_1 q_je_2 q_je_3 q_je_4 q_je_5 q_je_6 q_je_7 q_je_8 q_je_l
                          refine (moved_any wr p b (2 * k) L M HI.out.good (by omega) ⟨1, 2, 3, room, 0, 0, 0, 0, 0⟩ x1).mono ?_
                          rintro y w21 ⟨rfl, hM1, hg⟩
                          have je := je.grownM M hg
                          have jb := jb.grownM M hg
                          have hG21 := hgr.andThen hg (fun j hj => .inr (by rw [← hj]))
                          clear hgr
                          have hB21 := Below.grownM hBr hg hBr.size hb_M
                          have M := hM1
                          clear hg hM1 hBr
                          have q_je_0 := je.cell 0
                          have q_je_1 := je.cell 1
                          have q_je_2 := je.cell 2
                          have q_je_3 := je.cell 3
                          have q_je_4 := je.cell 4
                          have q_je_5 := je.cell 5
                          have q_je_6 := je.cell 6
                          have q_je_7 := je.cell 7
                          have q_je_8 := je.cell 8
                          have q_je_l := je.lt
                          clear a0 a10
                          go_wp2_with fail
                          clear q_je_0 q_je_1 q_je_2 q_je_3 q_je_4 q_je_5 q_je_6 q_je_7 q_je_8 q_je_l
                          refine (bounds_any w21 p b ((2 * k) + 2) (moveL L (eT room) x1) M (HI3.out.good : Good (moveL L (eT room) x1)) ⟨1, 2, 3, room, 0, 0, 0, 0, 0⟩).mono ?_
                          rintro y w22 ⟨rfl, hb⟩
                          have je := je.below hb je.lt
                          have jb := jb.below hb jb.lt
                          have M := M.on hb
                          have hG22 := hG21.andThen (below_grown hb none) (fun j hj => by cases hj)
                          clear hG21
                          have hB22 := bltB hB21 hB21.size hb
                          clear hb hB21
                          rw [show bnd (moveL L (eT room) x1) (Ed.e4 ⟨1, 2, 3, room, 0, 0, 0, 0, 0⟩) = (lo, hi) from K1.out]
                          have q_jb_0 := jb.cell 0
                          have q_jb_1 := jb.cell 1
                          have q_jb_2 := jb.cell 2
                          have q_jb_3 := jb.cell 3
                          have q_jb_4 := jb.cell 4
                          have q_jb_5 := jb.cell 5
                          have q_jb_6 := jb.cell 6
                          have q_jb_7 := jb.cell 7
                          have q_jb_8 := jb.cell 8
                          have q_jb_l := jb.lt
                          go_wp2_with fail
                          clear q_jb_0 q_jb_1 q_jb_2 q_jb_3 q_jb_4 q_jb_5 q_jb_6 q_jb_7 q_jb_8 q_jb_l
                          refine (bounds_any w22 p b ((2 * k) + 2) (moveL L (eT room) x1) M (HI3.out.good : Good (moveL L (eT room) x1)) ⟨2, 1, 3, room, 0, 0, 0, 0, 0⟩).mono ?_
                          rintro y w23 ⟨rfl, hb⟩
                          have je := je.below hb je.lt
                          have jb := jb.below hb jb.lt
                          have M := M.on hb
                          have hG23 := hG22.andThen (below_grown hb none) (fun j hj => by cases hj)
                          clear hG22
                          have hB23 := bltB hB22 hB22.size hb
                          clear hb hB22
                          rw [show bnd (moveL L (eT room) x1) (Ed.e4 ⟨2, 1, 3, room, 0, 0, 0, 0, 0⟩) = (lob, hib) from K2.out]
                          have q_je_0 := je.cell 0
                          have q_je_1 := je.cell 1
                          have q_je_2 := je.cell 2
                          have q_je_3 := je.cell 3
                          have q_je_4 := je.cell 4
                          have q_je_5 := je.cell 5
                          have q_je_6 := je.cell 6
                          have q_je_7 := je.cell 7
                          have q_je_8 := je.cell 8
                          have q_je_l := je.lt
                          go_wp2_with fail
                          clear q_je_0 q_je_1 q_je_2 q_je_3 q_je_4 q_je_5 q_je_6 q_je_7 q_je_8 q_je_l
                          refine (odds_ok w23 p b ((2 * k) + 2) (moveL L (eT room) x1) M (HI3.out.good : Good (moveL L (eT room) x1)) ⟨1, 2, 3, room, 0, 0, 0, 0, 0⟩ h2 K3.out).mono ?_
                          rintro y w24 ⟨A_q, n_q, c_q, B_q, m_q, d_q, rfl, r_q, t_q, l_q, hb⟩
                          have je := je.below hb je.lt
                          have jb := jb.below hb jb.lt
                          have M := M.on hb
                          have hG24 := hG23.andThen (below_grown hb none) (fun j hj => by cases hj)
                          clear hG23
                          have hB24 := bltB hB23 hB23.size hb
                          clear hb hB23
                          go_wp2_with fail
                          obtain ⟨w25, hw25⟩ : ∃ W, W = w24.alloc (.cells #[.slice A_q n_q c_q, .slice B_q m_q d_q] 42) := ⟨_, rfl⟩
                          obtain ⟨G_q, hG_q⟩ : ∃ G, w24.heap.size = G := ⟨_, rfl⟩
                          have ha : Below w24.heap.size w24 w25 := by rw [hw25]; exact (Below.refl _ _).alloc (Nat.le_refl _) _
                          have k_q : Blk w25 G_q 42 #[.slice A_q n_q c_q, .slice B_q m_q d_q] := by rw [hw25, ← hG_q]; exact Blk.new w24 _ _
                          rw [← hw25]
                          simp only [hG_q]
                          clear hw25 hG_q
                          have je := je.below ha je.lt
                          have jb := jb.below ha jb.lt
                          have M := M.on ha
                          have r_q := r_q.on ha
                          have t_q := t_q.on ha
                          have hG25 := hG24.andThen (below_grown ha none) (fun j hj => by cases hj)
                          clear hG24
                          have hB25 := bltB hB24 hB24.size ha
                          clear ha hB24
                          refine (is_any w25 _ _ _ _ _ _ (oN (moveL L (eT room) x1) (eT room) h2) (oD (moveL L (eT room) x1) (eT room)) r_q t_q K5.out.2.1 (by omega) (by omega) 0 1 (by decide) (by decide) (by decide)).mono ?_
                          rintro y w26 ⟨rfl, hb⟩
                          have je := je.below hb je.lt
                          have jb := jb.below hb jb.lt
                          have M := M.on hb
                          have r_q := r_q.on hb
                          have t_q := t_q.on hb
                          have k_q := k_q.below hb k_q.lt
                          have hG26 := hG25.andThen (below_grown hb none) (fun j hj => by cases hj)
                          clear hG25
                          have hB26 := bltB hB25 hB25.size hb
                          clear hb hB25
                          rw [show decide ((oN (moveL L (eT room) x1) (eT room) h2) * 1 = 0 * (oD (moveL L (eT room) x1) (eT room))) = false from decide_eq_false (by rw [Nat.mul_one, Nat.zero_mul]; exact K4.out)]
                          have HR : Hid ((MindAt w26 p b (2 * (k + 1)) (Ft room has (l.take (k + 1))).1 ∧ w5.grownBy w26 (some b)) ∧ (Ft room has (l.take (k + 1))).2 = h2) := Lib.hid ⟨⟨by rw [HST.out, HT.out]; exact M.more (by omega), hG26⟩, by rw [HST.out, HT.out]⟩
                          clear M je jb k_q r_q t_q hG26 hB26
                          go_wp2_with fail
                          go_roundw
                          case rel => exact ⟨k + 1, by omega, by go_num, by rw [HR.out.2], HR.out.1.1, HR.out.1.2⟩
                          case measure => simp [intOf]; omega
                        · have HT : Hid (trueS room (L, hv) (3, x1) = (L, hv)) := Lib.hid (by rw [trueS_3, if_neg (fun h => q6 h.2)])
                          have HI3 : Hid (TrueI room (L, hv)) := Lib.hid (by rw [← HT.out]; exact HI2.out)
                          obtain ⟨lo, hi, lob, hib, H1, H2, hf, hbk, _, H3, H4⟩ := true_facts (show 0 < room by omega) hr2 HI3.out
                          have n1 : ¬ hv < lo := by omega
                          have n2 : ¬ hi ≤ hv := by omega
                          have n3 : ¬ room - hv < lob := by omega
                          have n4 : ¬ hib ≤ room - hv := by omega
                          have hwr : IntKind.i64.wrap (room - hv) = room - hv := IntWalk.i64_in _ (by omega)
                          have K1 := Lib.hid H1
                          have K2 := Lib.hid H2
                          have K3 := Lib.hid H3
                          have K4 := Lib.hid H4
                          have K5 := Lib.hid (odd_small HI3.out.good H3)
                          clear H1 H2 H3 H4 hf hbk
                          have q_je_0 := je.cell 0
                          have q_je_1 := je.cell 1
                          have q_je_2 := je.cell 2
                          have q_je_3 := je.cell 3
                          have q_je_4 := je.cell 4
                          have q_je_5 := je.cell 5
                          have q_je_6 := je.cell 6
                          have q_je_7 := je.cell 7
                          have q_je_8 := je.cell 8
                          have q_je_l := je.lt
                          go_wp2_with fail
                          clear q_je_0 q_je_1 q_je_2 q_je_3 q_je_4 q_je_5 q_je_6 q_je_7 q_je_8 q_je_l
                          refine (bounds_any wr p b (2 * k) L M (HI3.out.good : Good L) ⟨1, 2, 3, room, 0, 0, 0, 0, 0⟩).mono ?_
                          rintro y w21 ⟨rfl, hb⟩
                          have je := je.below hb je.lt
                          have jb := jb.below hb jb.lt
                          have M := M.on hb
                          have hG21 := hgr.andThen (below_grown hb none) (fun j hj => by cases hj)
                          clear hgr
                          have hB21 := bltB hBr hBr.size hb
                          clear hb hBr
                          rw [show bnd L (Ed.e4 ⟨1, 2, 3, room, 0, 0, 0, 0, 0⟩) = (lo, hi) from K1.out]
                          have q_jb_0 := jb.cell 0
                          have q_jb_1 := jb.cell 1
                          have q_jb_2 := jb.cell 2
                          have q_jb_3 := jb.cell 3
                          have q_jb_4 := jb.cell 4
                          have q_jb_5 := jb.cell 5
                          have q_jb_6 := jb.cell 6
                          have q_jb_7 := jb.cell 7
                          have q_jb_8 := jb.cell 8
                          have q_jb_l := jb.lt
                          clear a0 a10
                          go_wp2_with fail
                          clear q_jb_0 q_jb_1 q_jb_2 q_jb_3 q_jb_4 q_jb_5 q_jb_6 q_jb_7 q_jb_8 q_jb_l
                          refine (bounds_any w21 p b (2 * k) L M (HI3.out.good : Good L) ⟨2, 1, 3, room, 0, 0, 0, 0, 0⟩).mono ?_
                          rintro y w22 ⟨rfl, hb⟩
                          have je := je.below hb je.lt
                          have jb := jb.below hb jb.lt
                          have M := M.on hb
                          have hG22 := hG21.andThen (below_grown hb none) (fun j hj => by cases hj)
                          clear hG21
                          have hB22 := bltB hB21 hB21.size hb
                          clear hb hB21
                          rw [show bnd L (Ed.e4 ⟨2, 1, 3, room, 0, 0, 0, 0, 0⟩) = (lob, hib) from K2.out]
                          have q_je_0 := je.cell 0
                          have q_je_1 := je.cell 1
                          have q_je_2 := je.cell 2
                          have q_je_3 := je.cell 3
                          have q_je_4 := je.cell 4
                          have q_je_5 := je.cell 5
                          have q_je_6 := je.cell 6
                          have q_je_7 := je.cell 7
                          have q_je_8 := je.cell 8
                          have q_je_l := je.lt
                          go_wp2_with fail
                          clear q_je_0 q_je_1 q_je_2 q_je_3 q_je_4 q_je_5 q_je_6 q_je_7 q_je_8 q_je_l
                          refine (odds_ok w22 p b (2 * k) L M (HI3.out.good : Good L) ⟨1, 2, 3, room, 0, 0, 0, 0, 0⟩ hv K3.out).mono ?_
                          rintro y w23 ⟨A_q, n_q, c_q, B_q, m_q, d_q, rfl, r_q, t_q, l_q, hb⟩
                          have je := je.below hb je.lt
                          have jb := jb.below hb jb.lt
                          have M := M.on hb
                          have hG23 := hG22.andThen (below_grown hb none) (fun j hj => by cases hj)
                          clear hG22
                          have hB23 := bltB hB22 hB22.size hb
                          clear hb hB22
                          go_wp2_with fail
                          obtain ⟨w24, hw24⟩ : ∃ W, W = w23.alloc (.cells #[.slice A_q n_q c_q, .slice B_q m_q d_q] 42) := ⟨_, rfl⟩
                          obtain ⟨G_q, hG_q⟩ : ∃ G, w23.heap.size = G := ⟨_, rfl⟩
                          have ha : Below w23.heap.size w23 w24 := by rw [hw24]; exact (Below.refl _ _).alloc (Nat.le_refl _) _
                          have k_q : Blk w24 G_q 42 #[.slice A_q n_q c_q, .slice B_q m_q d_q] := by rw [hw24, ← hG_q]; exact Blk.new w23 _ _
                          rw [← hw24]
                          simp only [hG_q]
                          clear hw24 hG_q
                          have je := je.below ha je.lt
                          have jb := jb.below ha jb.lt
                          have M := M.on ha
                          have r_q := r_q.on ha
                          have t_q := t_q.on ha
                          have hG24 := hG23.andThen (below_grown ha none) (fun j hj => by cases hj)
                          clear hG23
                          have hB24 := bltB hB23 hB23.size ha
                          clear ha hB23
                          refine (is_any w24 _ _ _ _ _ _ (oN L (eT room) hv) (oD L (eT room)) r_q t_q K5.out.2.1 (by omega) (by omega) 0 1 (by decide) (by decide) (by decide)).mono ?_
                          rintro y w25 ⟨rfl, hb⟩
                          have je := je.below hb je.lt
                          have jb := jb.below hb jb.lt
                          have M := M.on hb
                          have r_q := r_q.on hb
                          have t_q := t_q.on hb
                          have k_q := k_q.below hb k_q.lt
                          have hG25 := hG24.andThen (below_grown hb none) (fun j hj => by cases hj)
                          clear hG24
                          have hB25 := bltB hB24 hB24.size hb
                          clear hb hB24
                          rw [show decide ((oN L (eT room) hv) * 1 = 0 * (oD L (eT room))) = false from decide_eq_false (by rw [Nat.mul_one, Nat.zero_mul]; exact K4.out)]
                          have HR : Hid ((MindAt w25 p b (2 * (k + 1)) (Ft room has (l.take (k + 1))).1 ∧ w5.grownBy w25 (some b)) ∧ (Ft room has (l.take (k + 1))).2 = hv) := Lib.hid ⟨⟨by rw [HST.out, HT.out]; exact M.more (by omega), hG25⟩, by rw [HST.out, HT.out]⟩
                          clear M je jb k_q r_q t_q hG25 hB25
                          go_wp2_with fail
                          go_roundw
                          case rel => exact ⟨k + 1, by omega, by go_num, by rw [HR.out.2], HR.out.1.1, HR.out.1.2⟩
                          case measure => simp [intOf]; omega
                      · have HT : Hid (trueS room (L, hv) (3, x1) = (L, hv)) := Lib.hid (by rw [trueS_3, if_neg (fun h => q5 h.1)])
                        have HI3 : Hid (TrueI room (L, hv)) := Lib.hid (by rw [← HT.out]; exact HI2.out)
                        obtain ⟨lo, hi, lob, hib, H1, H2, hf, hbk, _, H3, H4⟩ := true_facts (show 0 < room by omega) hr2 HI3.out
                        have n1 : ¬ hv < lo := by omega
                        have n2 : ¬ hi ≤ hv := by omega
                        have n3 : ¬ room - hv < lob := by omega
                        have n4 : ¬ hib ≤ room - hv := by omega
                        have hwr : IntKind.i64.wrap (room - hv) = room - hv := IntWalk.i64_in _ (by omega)
                        have K1 := Lib.hid H1
                        have K2 := Lib.hid H2
                        have K3 := Lib.hid H3
                        have K4 := Lib.hid H4
                        have K5 := Lib.hid (odd_small HI3.out.good H3)
                        clear H1 H2 H3 H4 hf hbk
                        have q_je_0 := je.cell 0
                        have q_je_1 := je.cell 1
                        have q_je_2 := je.cell 2
                        have q_je_3 := je.cell 3
                        have q_je_4 := je.cell 4
                        have q_je_5 := je.cell 5
                        have q_je_6 := je.cell 6
                        have q_je_7 := je.cell 7
                        have q_je_8 := je.cell 8
                        have q_je_l := je.lt
                        go_wp2_with fail
                        clear q_je_0 q_je_1 q_je_2 q_je_3 q_je_4 q_je_5 q_je_6 q_je_7 q_je_8 q_je_l
                        refine (bounds_any wr p b (2 * k) L M (HI3.out.good : Good L) ⟨1, 2, 3, room, 0, 0, 0, 0, 0⟩).mono ?_
                        rintro y w21 ⟨rfl, hb⟩
                        have je := je.below hb je.lt
                        have jb := jb.below hb jb.lt
                        have M := M.on hb
                        have hG21 := hgr.andThen (below_grown hb none) (fun j hj => by cases hj)
                        clear hgr
                        have hB21 := bltB hBr hBr.size hb
                        clear hb hBr
                        rw [show bnd L (Ed.e4 ⟨1, 2, 3, room, 0, 0, 0, 0, 0⟩) = (lo, hi) from K1.out]
                        have q_jb_0 := jb.cell 0
                        have q_jb_1 := jb.cell 1
                        have q_jb_2 := jb.cell 2
                        have q_jb_3 := jb.cell 3
                        have q_jb_4 := jb.cell 4
                        have q_jb_5 := jb.cell 5
                        have q_jb_6 := jb.cell 6
                        have q_jb_7 := jb.cell 7
                        have q_jb_8 := jb.cell 8
                        have q_jb_l := jb.lt
                        clear a0 a10
                        go_wp2_with fail
                        clear q_jb_0 q_jb_1 q_jb_2 q_jb_3 q_jb_4 q_jb_5 q_jb_6 q_jb_7 q_jb_8 q_jb_l
                        refine (bounds_any w21 p b (2 * k) L M (HI3.out.good : Good L) ⟨2, 1, 3, room, 0, 0, 0, 0, 0⟩).mono ?_
                        rintro y w22 ⟨rfl, hb⟩
                        have je := je.below hb je.lt
                        have jb := jb.below hb jb.lt
                        have M := M.on hb
                        have hG22 := hG21.andThen (below_grown hb none) (fun j hj => by cases hj)
                        clear hG21
                        have hB22 := bltB hB21 hB21.size hb
                        clear hb hB21
                        rw [show bnd L (Ed.e4 ⟨2, 1, 3, room, 0, 0, 0, 0, 0⟩) = (lob, hib) from K2.out]
                        have q_je_0 := je.cell 0
                        have q_je_1 := je.cell 1
                        have q_je_2 := je.cell 2
                        have q_je_3 := je.cell 3
                        have q_je_4 := je.cell 4
                        have q_je_5 := je.cell 5
                        have q_je_6 := je.cell 6
                        have q_je_7 := je.cell 7
                        have q_je_8 := je.cell 8
                        have q_je_l := je.lt
                        go_wp2_with fail
                        clear q_je_0 q_je_1 q_je_2 q_je_3 q_je_4 q_je_5 q_je_6 q_je_7 q_je_8 q_je_l
                        refine (odds_ok w22 p b (2 * k) L M (HI3.out.good : Good L) ⟨1, 2, 3, room, 0, 0, 0, 0, 0⟩ hv K3.out).mono ?_
                        rintro y w23 ⟨A_q, n_q, c_q, B_q, m_q, d_q, rfl, r_q, t_q, l_q, hb⟩
                        have je := je.below hb je.lt
                        have jb := jb.below hb jb.lt
                        have M := M.on hb
                        have hG23 := hG22.andThen (below_grown hb none) (fun j hj => by cases hj)
                        clear hG22
                        have hB23 := bltB hB22 hB22.size hb
                        clear hb hB22
                        go_wp2_with fail
                        obtain ⟨w24, hw24⟩ : ∃ W, W = w23.alloc (.cells #[.slice A_q n_q c_q, .slice B_q m_q d_q] 42) := ⟨_, rfl⟩
                        obtain ⟨G_q, hG_q⟩ : ∃ G, w23.heap.size = G := ⟨_, rfl⟩
                        have ha : Below w23.heap.size w23 w24 := by rw [hw24]; exact (Below.refl _ _).alloc (Nat.le_refl _) _
                        have k_q : Blk w24 G_q 42 #[.slice A_q n_q c_q, .slice B_q m_q d_q] := by rw [hw24, ← hG_q]; exact Blk.new w23 _ _
                        rw [← hw24]
                        simp only [hG_q]
                        clear hw24 hG_q
                        have je := je.below ha je.lt
                        have jb := jb.below ha jb.lt
                        have M := M.on ha
                        have r_q := r_q.on ha
                        have t_q := t_q.on ha
                        have hG24 := hG23.andThen (below_grown ha none) (fun j hj => by cases hj)
                        clear hG23
                        have hB24 := bltB hB23 hB23.size ha
                        clear ha hB23
                        refine (is_any w24 _ _ _ _ _ _ (oN L (eT room) hv) (oD L (eT room)) r_q t_q K5.out.2.1 (by omega) (by omega) 0 1 (by decide) (by decide) (by decide)).mono ?_
                        rintro y w25 ⟨rfl, hb⟩
                        have je := je.below hb je.lt
                        have jb := jb.below hb jb.lt
                        have M := M.on hb
                        have r_q := r_q.on hb
                        have t_q := t_q.on hb
                        have k_q := k_q.below hb k_q.lt
                        have hG25 := hG24.andThen (below_grown hb none) (fun j hj => by cases hj)
                        clear hG24
                        have hB25 := bltB hB24 hB24.size hb
                        clear hb hB24
                        rw [show decide ((oN L (eT room) hv) * 1 = 0 * (oD L (eT room))) = false from decide_eq_false (by rw [Nat.mul_one, Nat.zero_mul]; exact K4.out)]
                        have HR : Hid ((MindAt w25 p b (2 * (k + 1)) (Ft room has (l.take (k + 1))).1 ∧ w5.grownBy w25 (some b)) ∧ (Ft room has (l.take (k + 1))).2 = hv) := Lib.hid ⟨⟨by rw [HST.out, HT.out]; exact M.more (by omega), hG25⟩, by rw [HST.out, HT.out]⟩
                        clear M je jb k_q r_q t_q hG25 hB25
                        go_wp2_with fail
                        go_roundw
                        case rel => exact ⟨k + 1, by omega, by go_num, by rw [HR.out.2], HR.out.1.1, HR.out.1.2⟩
                        case measure => simp [intOf]; omega
                    · by_cases q4 : d1 = 4
                      · subst q4
                        clear q1 q2 q3
                        by_cases q5 : 1 ≤ x1
                        · by_cases q6 : x1 ≤ room - hv
                          · have HT : Hid (trueS room (L, hv) (4, x1) = ((moveL L (bT room) x1), hv + x1)) := Lib.hid (by rw [trueS_4, if_pos ⟨q5, q6⟩])
                            have HI3 : Hid (TrueI room ((moveL L (bT room) x1), hv + x1)) := Lib.hid (by rw [← HT.out]; exact HI2.out)
                            obtain ⟨h2, hh2⟩ : ∃ z, hv + x1 = z := ⟨_, rfl⟩
                            rw [hh2] at HI3 HT
                            have hb2 := HI3.out.has0
                            have hb3 := HI3.out.has1
                            simp only at hb2 hb3
                            have hw0 : IntKind.i64.wrap (hv + x1) = h2 := by rw [IntWalk.i64_in _ (by omega), hh2]
                            obtain ⟨lo, hi, lob, hib, H1, H2, hf, hbk, _, H3, H4⟩ := true_facts (show 0 < room by omega) hr2 HI3.out
                            have n1 : ¬ h2 < lo := by omega
                            have n2 : ¬ hi ≤ h2 := by omega
                            have n3 : ¬ room - h2 < lob := by omega
                            have n4 : ¬ hib ≤ room - h2 := by omega
                            have hwr : IntKind.i64.wrap (room - h2) = room - h2 := IntWalk.i64_in _ (by omega)
                            have hwv : IntKind.i64.wrap (room - hv) = room - hv := IntWalk.i64_in _ (by omega)
                            have K1 := Lib.hid H1
                            have K2 := Lib.hid H2
                            have K3 := Lib.hid H3
                            have K4 := Lib.hid H4
                            have K5 := Lib.hid (odd_small HI3.out.good H3)
                            clear H1 H2 H3 H4 hf hbk hh2 hb2 hb3
                            have q_jb_0 := jb.cell 0
                            have q_jb_1 := jb.cell 1
                            have q_jb_2 := jb.cell 2
                            have q_jb_3 := jb.cell 3
                            have q_jb_4 := jb.cell 4
                            have q_jb_5 := jb.cell 5
                            have q_jb_6 := jb.cell 6
                            have q_jb_7 := jb.cell 7
                            have q_jb_8 := jb.cell 8
                            have q_jb_l := jb.lt
                            go_wp2_with fail
                            clear q_jb_0 q_jb_1 q_jb_2 q_jb_3 q_jb_4 q_jb_5 q_jb_6 q_jb_7 q_jb_8 q_jb_l
                            refine (moved_any wr p b (2 * k) L M HI.out.good (by omega) ⟨2, 1, 3, room, 0, 0, 0, 0, 0⟩ x1).mono ?_
                            rintro y w21 ⟨rfl, hM1, hg⟩
                            have je := je.grownM M hg
                            have jb := jb.grownM M hg
                            have hG21 := hgr.andThen hg (fun j hj => .inr (by rw [← hj]))
                            clear hgr
                            have hB21 := Below.grownM hBr hg hBr.size hb_M
                            have M := hM1
                            clear hg hM1 hBr
                            have q_je_0 := je.cell 0
                            have q_je_1 := je.cell 1
                            have q_je_2 := je.cell 2
                            have q_je_3 := je.cell 3
                            have q_je_4 := je.cell 4
                            have q_je_5 := je.cell 5
                            have q_je_6 := je.cell 6
                            have q_je_7 := je.cell 7
                            have q_je_8 := je.cell 8
                            have q_je_l := je.lt
                            clear a0 a10
                            go_wp2_with fail
                            clear q_je_0 q_je_1 q_je_2 q_je_3 q_je_4 q_je_5 q_je_6 q_je_7 q_je_8 q_je_l
                            refine (bounds_any w21 p b ((2 * k) + 2) (moveL L (bT room) x1) M (HI3.out.good : Good (moveL L (bT room) x1)) ⟨1, 2, 3, room, 0, 0, 0, 0, 0⟩).mono ?_
                            rintro y w22 ⟨rfl, hb⟩
                            have je := je.below hb je.lt
                            have jb := jb.below hb jb.lt
                            have M := M.on hb
                            have hG22 := hG21.andThen (below_grown hb none) (fun j hj => by cases hj)
                            clear hG21
                            have hB22 := bltB hB21 hB21.size hb
                            clear hb hB21
                            rw [show bnd (moveL L (bT room) x1) (Ed.e4 ⟨1, 2, 3, room, 0, 0, 0, 0, 0⟩) = (lo, hi) from K1.out]
                            have q_jb_0 := jb.cell 0
                            have q_jb_1 := jb.cell 1
                            have q_jb_2 := jb.cell 2
                            have q_jb_3 := jb.cell 3
                            have q_jb_4 := jb.cell 4
                            have q_jb_5 := jb.cell 5
                            have q_jb_6 := jb.cell 6
                            have q_jb_7 := jb.cell 7
                            have q_jb_8 := jb.cell 8
                            have q_jb_l := jb.lt
                            go_wp2_with fail
                            clear q_jb_0 q_jb_1 q_jb_2 q_jb_3 q_jb_4 q_jb_5 q_jb_6 q_jb_7 q_jb_8 q_jb_l
                            refine (bounds_any w22 p b ((2 * k) + 2) (moveL L (bT room) x1) M (HI3.out.good : Good (moveL L (bT room) x1)) ⟨2, 1, 3, room, 0, 0, 0, 0, 0⟩).mono ?_
                            rintro y w23 ⟨rfl, hb⟩
                            have je := je.below hb je.lt
                            have jb := jb.below hb jb.lt
                            have M := M.on hb
                            have hG23 := hG22.andThen (below_grown hb none) (fun j hj => by cases hj)
                            clear hG22
                            have hB23 := bltB hB22 hB22.size hb
                            clear hb hB22
                            rw [show bnd (moveL L (bT room) x1) (Ed.e4 ⟨2, 1, 3, room, 0, 0, 0, 0, 0⟩) = (lob, hib) from K2.out]
                            have q_je_0 := je.cell 0
                            have q_je_1 := je.cell 1
                            have q_je_2 := je.cell 2
                            have q_je_3 := je.cell 3
                            have q_je_4 := je.cell 4
                            have q_je_5 := je.cell 5
                            have q_je_6 := je.cell 6
                            have q_je_7 := je.cell 7
                            have q_je_8 := je.cell 8
                            have q_je_l := je.lt
                            go_wp2_with fail
                            clear q_je_0 q_je_1 q_je_2 q_je_3 q_je_4 q_je_5 q_je_6 q_je_7 q_je_8 q_je_l
                            refine (odds_ok w23 p b ((2 * k) + 2) (moveL L (bT room) x1) M (HI3.out.good : Good (moveL L (bT room) x1)) ⟨1, 2, 3, room, 0, 0, 0, 0, 0⟩ h2 K3.out).mono ?_
                            rintro y w24 ⟨A_q, n_q, c_q, B_q, m_q, d_q, rfl, r_q, t_q, l_q, hb⟩
                            have je := je.below hb je.lt
                            have jb := jb.below hb jb.lt
                            have M := M.on hb
                            have hG24 := hG23.andThen (below_grown hb none) (fun j hj => by cases hj)
                            clear hG23
                            have hB24 := bltB hB23 hB23.size hb
                            clear hb hB23
                            go_wp2_with fail
                            obtain ⟨w25, hw25⟩ : ∃ W, W = w24.alloc (.cells #[.slice A_q n_q c_q, .slice B_q m_q d_q] 42) := ⟨_, rfl⟩
                            obtain ⟨G_q, hG_q⟩ : ∃ G, w24.heap.size = G := ⟨_, rfl⟩
                            have ha : Below w24.heap.size w24 w25 := by rw [hw25]; exact (Below.refl _ _).alloc (Nat.le_refl _) _
                            have k_q : Blk w25 G_q 42 #[.slice A_q n_q c_q, .slice B_q m_q d_q] := by rw [hw25, ← hG_q]; exact Blk.new w24 _ _
                            rw [← hw25]
                            simp only [hG_q]
                            clear hw25 hG_q
                            have je := je.below ha je.lt
                            have jb := jb.below ha jb.lt
                            have M := M.on ha
                            have r_q := r_q.on ha
                            have t_q := t_q.on ha
                            have hG25 := hG24.andThen (below_grown ha none) (fun j hj => by cases hj)
                            clear hG24
                            have hB25 := bltB hB24 hB24.size ha
                            clear ha hB24
                            refine (is_any w25 _ _ _ _ _ _ (oN (moveL L (bT room) x1) (eT room) h2) (oD (moveL L (bT room) x1) (eT room)) r_q t_q K5.out.2.1 (by omega) (by omega) 0 1 (by decide) (by decide) (by decide)).mono ?_
                            rintro y w26 ⟨rfl, hb⟩
                            have je := je.below hb je.lt
                            have jb := jb.below hb jb.lt
                            have M := M.on hb
                            have r_q := r_q.on hb
                            have t_q := t_q.on hb
                            have k_q := k_q.below hb k_q.lt
                            have hG26 := hG25.andThen (below_grown hb none) (fun j hj => by cases hj)
                            clear hG25
                            have hB26 := bltB hB25 hB25.size hb
                            clear hb hB25
                            rw [show decide ((oN (moveL L (bT room) x1) (eT room) h2) * 1 = 0 * (oD (moveL L (bT room) x1) (eT room))) = false from decide_eq_false (by rw [Nat.mul_one, Nat.zero_mul]; exact K4.out)]
                            have HR : Hid ((MindAt w26 p b (2 * (k + 1)) (Ft room has (l.take (k + 1))).1 ∧ w5.grownBy w26 (some b)) ∧ (Ft room has (l.take (k + 1))).2 = h2) := Lib.hid ⟨⟨by rw [HST.out, HT.out]; exact M.more (by omega), hG26⟩, by rw [HST.out, HT.out]⟩
                            clear M je jb k_q r_q t_q hG26 hB26
                            go_wp2_with fail
                            go_roundw
                            case rel => exact ⟨k + 1, by omega, by go_num, by rw [HR.out.2], HR.out.1.1, HR.out.1.2⟩
                            case measure => simp [intOf]; omega
                          · have HT : Hid (trueS room (L, hv) (4, x1) = (L, hv)) := Lib.hid (by rw [trueS_4, if_neg (fun h => q6 h.2)])
                            have HI3 : Hid (TrueI room (L, hv)) := Lib.hid (by rw [← HT.out]; exact HI2.out)
                            obtain ⟨lo, hi, lob, hib, H1, H2, hf, hbk, _, H3, H4⟩ := true_facts (show 0 < room by omega) hr2 HI3.out
                            have n1 : ¬ hv < lo := by omega
                            have n2 : ¬ hi ≤ hv := by omega
                            have n3 : ¬ room - hv < lob := by omega
                            have n4 : ¬ hib ≤ room - hv := by omega
                            have hwr : IntKind.i64.wrap (room - hv) = room - hv := IntWalk.i64_in _ (by omega)
                            have K1 := Lib.hid H1
                            have K2 := Lib.hid H2
                            have K3 := Lib.hid H3
                            have K4 := Lib.hid H4
                            have K5 := Lib.hid (odd_small HI3.out.good H3)
                            clear H1 H2 H3 H4 hf hbk
                            have q_je_0 := je.cell 0
                            have q_je_1 := je.cell 1
                            have q_je_2 := je.cell 2
                            have q_je_3 := je.cell 3
                            have q_je_4 := je.cell 4
                            have q_je_5 := je.cell 5
                            have q_je_6 := je.cell 6
                            have q_je_7 := je.cell 7
                            have q_je_8 := je.cell 8
                            have q_je_l := je.lt
                            go_wp2_with fail
                            clear q_je_0 q_je_1 q_je_2 q_je_3 q_je_4 q_je_5 q_je_6 q_je_7 q_je_8 q_je_l
                            refine (bounds_any wr p b (2 * k) L M (HI3.out.good : Good L) ⟨1, 2, 3, room, 0, 0, 0, 0, 0⟩).mono ?_
                            rintro y w21 ⟨rfl, hb⟩
                            have je := je.below hb je.lt
                            have jb := jb.below hb jb.lt
                            have M := M.on hb
                            have hG21 := hgr.andThen (below_grown hb none) (fun j hj => by cases hj)
                            clear hgr
                            have hB21 := bltB hBr hBr.size hb
                            clear hb hBr
                            rw [show bnd L (Ed.e4 ⟨1, 2, 3, room, 0, 0, 0, 0, 0⟩) = (lo, hi) from K1.out]
                            have q_jb_0 := jb.cell 0
                            have q_jb_1 := jb.cell 1
                            have q_jb_2 := jb.cell 2
                            have q_jb_3 := jb.cell 3
                            have q_jb_4 := jb.cell 4
                            have q_jb_5 := jb.cell 5
                            have q_jb_6 := jb.cell 6
                            have q_jb_7 := jb.cell 7
                            have q_jb_8 := jb.cell 8
                            have q_jb_l := jb.lt
                            clear a0 a10
                            go_wp2_with fail
                            clear q_jb_0 q_jb_1 q_jb_2 q_jb_3 q_jb_4 q_jb_5 q_jb_6 q_jb_7 q_jb_8 q_jb_l
                            refine (bounds_any w21 p b (2 * k) L M (HI3.out.good : Good L) ⟨2, 1, 3, room, 0, 0, 0, 0, 0⟩).mono ?_
                            rintro y w22 ⟨rfl, hb⟩
                            have je := je.below hb je.lt
                            have jb := jb.below hb jb.lt
                            have M := M.on hb
                            have hG22 := hG21.andThen (below_grown hb none) (fun j hj => by cases hj)
                            clear hG21
                            have hB22 := bltB hB21 hB21.size hb
                            clear hb hB21
                            rw [show bnd L (Ed.e4 ⟨2, 1, 3, room, 0, 0, 0, 0, 0⟩) = (lob, hib) from K2.out]
                            have q_je_0 := je.cell 0
                            have q_je_1 := je.cell 1
                            have q_je_2 := je.cell 2
                            have q_je_3 := je.cell 3
                            have q_je_4 := je.cell 4
                            have q_je_5 := je.cell 5
                            have q_je_6 := je.cell 6
                            have q_je_7 := je.cell 7
                            have q_je_8 := je.cell 8
                            have q_je_l := je.lt
                            go_wp2_with fail
                            clear q_je_0 q_je_1 q_je_2 q_je_3 q_je_4 q_je_5 q_je_6 q_je_7 q_je_8 q_je_l
                            refine (odds_ok w22 p b (2 * k) L M (HI3.out.good : Good L) ⟨1, 2, 3, room, 0, 0, 0, 0, 0⟩ hv K3.out).mono ?_
                            rintro y w23 ⟨A_q, n_q, c_q, B_q, m_q, d_q, rfl, r_q, t_q, l_q, hb⟩
                            have je := je.below hb je.lt
                            have jb := jb.below hb jb.lt
                            have M := M.on hb
                            have hG23 := hG22.andThen (below_grown hb none) (fun j hj => by cases hj)
                            clear hG22
                            have hB23 := bltB hB22 hB22.size hb
                            clear hb hB22
                            go_wp2_with fail
                            obtain ⟨w24, hw24⟩ : ∃ W, W = w23.alloc (.cells #[.slice A_q n_q c_q, .slice B_q m_q d_q] 42) := ⟨_, rfl⟩
                            obtain ⟨G_q, hG_q⟩ : ∃ G, w23.heap.size = G := ⟨_, rfl⟩
                            have ha : Below w23.heap.size w23 w24 := by rw [hw24]; exact (Below.refl _ _).alloc (Nat.le_refl _) _
                            have k_q : Blk w24 G_q 42 #[.slice A_q n_q c_q, .slice B_q m_q d_q] := by rw [hw24, ← hG_q]; exact Blk.new w23 _ _
                            rw [← hw24]
                            simp only [hG_q]
                            clear hw24 hG_q
                            have je := je.below ha je.lt
                            have jb := jb.below ha jb.lt
                            have M := M.on ha
                            have r_q := r_q.on ha
                            have t_q := t_q.on ha
                            have hG24 := hG23.andThen (below_grown ha none) (fun j hj => by cases hj)
                            clear hG23
                            have hB24 := bltB hB23 hB23.size ha
                            clear ha hB23
                            refine (is_any w24 _ _ _ _ _ _ (oN L (eT room) hv) (oD L (eT room)) r_q t_q K5.out.2.1 (by omega) (by omega) 0 1 (by decide) (by decide) (by decide)).mono ?_
                            rintro y w25 ⟨rfl, hb⟩
                            have je := je.below hb je.lt
                            have jb := jb.below hb jb.lt
                            have M := M.on hb
                            have r_q := r_q.on hb
                            have t_q := t_q.on hb
                            have k_q := k_q.below hb k_q.lt
                            have hG25 := hG24.andThen (below_grown hb none) (fun j hj => by cases hj)
                            clear hG24
                            have hB25 := bltB hB24 hB24.size hb
                            clear hb hB24
                            rw [show decide ((oN L (eT room) hv) * 1 = 0 * (oD L (eT room))) = false from decide_eq_false (by rw [Nat.mul_one, Nat.zero_mul]; exact K4.out)]
                            have HR : Hid ((MindAt w25 p b (2 * (k + 1)) (Ft room has (l.take (k + 1))).1 ∧ w5.grownBy w25 (some b)) ∧ (Ft room has (l.take (k + 1))).2 = hv) := Lib.hid ⟨⟨by rw [HST.out, HT.out]; exact M.more (by omega), hG25⟩, by rw [HST.out, HT.out]⟩
                            clear M je jb k_q r_q t_q hG25 hB25
                            go_wp2_with fail
                            go_roundw
                            case rel => exact ⟨k + 1, by omega, by go_num, by rw [HR.out.2], HR.out.1.1, HR.out.1.2⟩
                            case measure => simp [intOf]; omega
                        · have HT : Hid (trueS room (L, hv) (4, x1) = (L, hv)) := Lib.hid (by rw [trueS_4, if_neg (fun h => q5 h.1)])
                          have HI3 : Hid (TrueI room (L, hv)) := Lib.hid (by rw [← HT.out]; exact HI2.out)
                          obtain ⟨lo, hi, lob, hib, H1, H2, hf, hbk, _, H3, H4⟩ := true_facts (show 0 < room by omega) hr2 HI3.out
                          have n1 : ¬ hv < lo := by omega
                          have n2 : ¬ hi ≤ hv := by omega
                          have n3 : ¬ room - hv < lob := by omega
                          have n4 : ¬ hib ≤ room - hv := by omega
                          have hwr : IntKind.i64.wrap (room - hv) = room - hv := IntWalk.i64_in _ (by omega)
                          have K1 := Lib.hid H1
                          have K2 := Lib.hid H2
                          have K3 := Lib.hid H3
                          have K4 := Lib.hid H4
                          have K5 := Lib.hid (odd_small HI3.out.good H3)
                          clear H1 H2 H3 H4 hf hbk
                          have q_je_0 := je.cell 0
                          have q_je_1 := je.cell 1
                          have q_je_2 := je.cell 2
                          have q_je_3 := je.cell 3
                          have q_je_4 := je.cell 4
                          have q_je_5 := je.cell 5
                          have q_je_6 := je.cell 6
                          have q_je_7 := je.cell 7
                          have q_je_8 := je.cell 8
                          have q_je_l := je.lt
                          go_wp2_with fail
                          clear q_je_0 q_je_1 q_je_2 q_je_3 q_je_4 q_je_5 q_je_6 q_je_7 q_je_8 q_je_l
                          refine (bounds_any wr p b (2 * k) L M (HI3.out.good : Good L) ⟨1, 2, 3, room, 0, 0, 0, 0, 0⟩).mono ?_
                          rintro y w21 ⟨rfl, hb⟩
                          have je := je.below hb je.lt
                          have jb := jb.below hb jb.lt
                          have M := M.on hb
                          have hG21 := hgr.andThen (below_grown hb none) (fun j hj => by cases hj)
                          clear hgr
                          have hB21 := bltB hBr hBr.size hb
                          clear hb hBr
                          rw [show bnd L (Ed.e4 ⟨1, 2, 3, room, 0, 0, 0, 0, 0⟩) = (lo, hi) from K1.out]
                          have q_jb_0 := jb.cell 0
                          have q_jb_1 := jb.cell 1
                          have q_jb_2 := jb.cell 2
                          have q_jb_3 := jb.cell 3
                          have q_jb_4 := jb.cell 4
                          have q_jb_5 := jb.cell 5
                          have q_jb_6 := jb.cell 6
                          have q_jb_7 := jb.cell 7
                          have q_jb_8 := jb.cell 8
                          have q_jb_l := jb.lt
                          clear a0 a10
                          go_wp2_with fail
                          clear q_jb_0 q_jb_1 q_jb_2 q_jb_3 q_jb_4 q_jb_5 q_jb_6 q_jb_7 q_jb_8 q_jb_l
                          refine (bounds_any w21 p b (2 * k) L M (HI3.out.good : Good L) ⟨2, 1, 3, room, 0, 0, 0, 0, 0⟩).mono ?_
                          rintro y w22 ⟨rfl, hb⟩
                          have je := je.below hb je.lt
                          have jb := jb.below hb jb.lt
                          have M := M.on hb
                          have hG22 := hG21.andThen (below_grown hb none) (fun j hj => by cases hj)
                          clear hG21
                          have hB22 := bltB hB21 hB21.size hb
                          clear hb hB21
                          rw [show bnd L (Ed.e4 ⟨2, 1, 3, room, 0, 0, 0, 0, 0⟩) = (lob, hib) from K2.out]
                          have q_je_0 := je.cell 0
                          have q_je_1 := je.cell 1
                          have q_je_2 := je.cell 2
                          have q_je_3 := je.cell 3
                          have q_je_4 := je.cell 4
                          have q_je_5 := je.cell 5
                          have q_je_6 := je.cell 6
                          have q_je_7 := je.cell 7
                          have q_je_8 := je.cell 8
                          have q_je_l := je.lt
                          go_wp2_with fail
                          clear q_je_0 q_je_1 q_je_2 q_je_3 q_je_4 q_je_5 q_je_6 q_je_7 q_je_8 q_je_l
                          refine (odds_ok w22 p b (2 * k) L M (HI3.out.good : Good L) ⟨1, 2, 3, room, 0, 0, 0, 0, 0⟩ hv K3.out).mono ?_
                          rintro y w23 ⟨A_q, n_q, c_q, B_q, m_q, d_q, rfl, r_q, t_q, l_q, hb⟩
                          have je := je.below hb je.lt
                          have jb := jb.below hb jb.lt
                          have M := M.on hb
                          have hG23 := hG22.andThen (below_grown hb none) (fun j hj => by cases hj)
                          clear hG22
                          have hB23 := bltB hB22 hB22.size hb
                          clear hb hB22
                          go_wp2_with fail
                          obtain ⟨w24, hw24⟩ : ∃ W, W = w23.alloc (.cells #[.slice A_q n_q c_q, .slice B_q m_q d_q] 42) := ⟨_, rfl⟩
                          obtain ⟨G_q, hG_q⟩ : ∃ G, w23.heap.size = G := ⟨_, rfl⟩
                          have ha : Below w23.heap.size w23 w24 := by rw [hw24]; exact (Below.refl _ _).alloc (Nat.le_refl _) _
                          have k_q : Blk w24 G_q 42 #[.slice A_q n_q c_q, .slice B_q m_q d_q] := by rw [hw24, ← hG_q]; exact Blk.new w23 _ _
                          rw [← hw24]
                          simp only [hG_q]
                          clear hw24 hG_q
                          have je := je.below ha je.lt
                          have jb := jb.below ha jb.lt
                          have M := M.on ha
                          have r_q := r_q.on ha
                          have t_q := t_q.on ha
                          have hG24 := hG23.andThen (below_grown ha none) (fun j hj => by cases hj)
                          clear hG23
                          have hB24 := bltB hB23 hB23.size ha
                          clear ha hB23
                          refine (is_any w24 _ _ _ _ _ _ (oN L (eT room) hv) (oD L (eT room)) r_q t_q K5.out.2.1 (by omega) (by omega) 0 1 (by decide) (by decide) (by decide)).mono ?_
                          rintro y w25 ⟨rfl, hb⟩
                          have je := je.below hb je.lt
                          have jb := jb.below hb jb.lt
                          have M := M.on hb
                          have r_q := r_q.on hb
                          have t_q := t_q.on hb
                          have k_q := k_q.below hb k_q.lt
                          have hG25 := hG24.andThen (below_grown hb none) (fun j hj => by cases hj)
                          clear hG24
                          have hB25 := bltB hB24 hB24.size hb
                          clear hb hB24
                          rw [show decide ((oN L (eT room) hv) * 1 = 0 * (oD L (eT room))) = false from decide_eq_false (by rw [Nat.mul_one, Nat.zero_mul]; exact K4.out)]
                          have HR : Hid ((MindAt w25 p b (2 * (k + 1)) (Ft room has (l.take (k + 1))).1 ∧ w5.grownBy w25 (some b)) ∧ (Ft room has (l.take (k + 1))).2 = hv) := Lib.hid ⟨⟨by rw [HST.out, HT.out]; exact M.more (by omega), hG25⟩, by rw [HST.out, HT.out]⟩
                          clear M je jb k_q r_q t_q hG25 hB25
                          go_wp2_with fail
                          go_roundw
                          case rel => exact ⟨k + 1, by omega, by go_num, by rw [HR.out.2], HR.out.1.1, HR.out.1.2⟩
                          case measure => simp [intOf]; omega
                      · have HT : Hid (trueS room (L, hv) (d1, x1) = ((oldL L x1), hv)) := Lib.hid (by exact trueS_o q1 q2 q3 q4)
                        have HI3 : Hid (TrueI room ((oldL L x1), hv)) := Lib.hid (by rw [← HT.out]; exact HI2.out)
                        obtain ⟨lo, hi, lob, hib, H1, H2, hf, hbk, _, H3, H4⟩ := true_facts (show 0 < room by omega) hr2 HI3.out
                        have n1 : ¬ hv < lo := by omega
                        have n2 : ¬ hi ≤ hv := by omega
                        have n3 : ¬ room - hv < lob := by omega
                        have n4 : ¬ hib ≤ room - hv := by omega
                        have hwr : IntKind.i64.wrap (room - hv) = room - hv := IntWalk.i64_in _ (by omega)
                        have K1 := Lib.hid H1
                        have K2 := Lib.hid H2
                        have K3 := Lib.hid H3
                        have K4 := Lib.hid H4
                        have K5 := Lib.hid (odd_small HI3.out.good H3)
                        clear H1 H2 H3 H4 hf hbk
                        have q_je_0 := je.cell 0
                        have q_je_1 := je.cell 1
                        have q_je_2 := je.cell 2
                        have q_je_3 := je.cell 3
                        have q_je_4 := je.cell 4
                        have q_je_5 := je.cell 5
                        have q_je_6 := je.cell 6
                        have q_je_7 := je.cell 7
                        have q_je_8 := je.cell 8
                        have q_je_l := je.lt
                        go_wp2_with fail
                        clear q_je_0 q_je_1 q_je_2 q_je_3 q_je_4 q_je_5 q_je_6 q_je_7 q_je_8 q_je_l
                        refine (older_any wr p b (2 * k) L M HI.out.good (by omega) x1).mono ?_
                        rintro y w21 ⟨rfl, hM1, hg⟩
                        have je := je.grownM M hg
                        have jb := jb.grownM M hg
                        have hG21 := hgr.andThen hg (fun j hj => .inr (by rw [← hj]))
                        clear hgr
                        have hB21 := Below.grownM hBr hg hBr.size hb_M
                        have M := hM1
                        clear hg hM1 hBr
                        have q_je_0 := je.cell 0
                        have q_je_1 := je.cell 1
                        have q_je_2 := je.cell 2
                        have q_je_3 := je.cell 3
                        have q_je_4 := je.cell 4
                        have q_je_5 := je.cell 5
                        have q_je_6 := je.cell 6
                        have q_je_7 := je.cell 7
                        have q_je_8 := je.cell 8
                        have q_je_l := je.lt
                        clear a0 a10
                        go_wp2_with fail
                        clear q_je_0 q_je_1 q_je_2 q_je_3 q_je_4 q_je_5 q_je_6 q_je_7 q_je_8 q_je_l
                        refine (bounds_any w21 p b (2 * k) (oldL L x1) M (HI3.out.good : Good (oldL L x1)) ⟨1, 2, 3, room, 0, 0, 0, 0, 0⟩).mono ?_
                        rintro y w22 ⟨rfl, hb⟩
                        have je := je.below hb je.lt
                        have jb := jb.below hb jb.lt
                        have M := M.on hb
                        have hG22 := hG21.andThen (below_grown hb none) (fun j hj => by cases hj)
                        clear hG21
                        have hB22 := bltB hB21 hB21.size hb
                        clear hb hB21
                        rw [show bnd (oldL L x1) (Ed.e4 ⟨1, 2, 3, room, 0, 0, 0, 0, 0⟩) = (lo, hi) from K1.out]
                        have q_jb_0 := jb.cell 0
                        have q_jb_1 := jb.cell 1
                        have q_jb_2 := jb.cell 2
                        have q_jb_3 := jb.cell 3
                        have q_jb_4 := jb.cell 4
                        have q_jb_5 := jb.cell 5
                        have q_jb_6 := jb.cell 6
                        have q_jb_7 := jb.cell 7
                        have q_jb_8 := jb.cell 8
                        have q_jb_l := jb.lt
                        go_wp2_with fail
                        clear q_jb_0 q_jb_1 q_jb_2 q_jb_3 q_jb_4 q_jb_5 q_jb_6 q_jb_7 q_jb_8 q_jb_l
                        refine (bounds_any w22 p b (2 * k) (oldL L x1) M (HI3.out.good : Good (oldL L x1)) ⟨2, 1, 3, room, 0, 0, 0, 0, 0⟩).mono ?_
                        rintro y w23 ⟨rfl, hb⟩
                        have je := je.below hb je.lt
                        have jb := jb.below hb jb.lt
                        have M := M.on hb
                        have hG23 := hG22.andThen (below_grown hb none) (fun j hj => by cases hj)
                        clear hG22
                        have hB23 := bltB hB22 hB22.size hb
                        clear hb hB22
                        rw [show bnd (oldL L x1) (Ed.e4 ⟨2, 1, 3, room, 0, 0, 0, 0, 0⟩) = (lob, hib) from K2.out]
                        have q_je_0 := je.cell 0
                        have q_je_1 := je.cell 1
                        have q_je_2 := je.cell 2
                        have q_je_3 := je.cell 3
                        have q_je_4 := je.cell 4
                        have q_je_5 := je.cell 5
                        have q_je_6 := je.cell 6
                        have q_je_7 := je.cell 7
                        have q_je_8 := je.cell 8
                        have q_je_l := je.lt
                        go_wp2_with fail
                        clear q_je_0 q_je_1 q_je_2 q_je_3 q_je_4 q_je_5 q_je_6 q_je_7 q_je_8 q_je_l
                        refine (odds_ok w23 p b (2 * k) (oldL L x1) M (HI3.out.good : Good (oldL L x1)) ⟨1, 2, 3, room, 0, 0, 0, 0, 0⟩ hv K3.out).mono ?_
                        rintro y w24 ⟨A_q, n_q, c_q, B_q, m_q, d_q, rfl, r_q, t_q, l_q, hb⟩
                        have je := je.below hb je.lt
                        have jb := jb.below hb jb.lt
                        have M := M.on hb
                        have hG24 := hG23.andThen (below_grown hb none) (fun j hj => by cases hj)
                        clear hG23
                        have hB24 := bltB hB23 hB23.size hb
                        clear hb hB23
                        go_wp2_with fail
                        obtain ⟨w25, hw25⟩ : ∃ W, W = w24.alloc (.cells #[.slice A_q n_q c_q, .slice B_q m_q d_q] 42) := ⟨_, rfl⟩
                        obtain ⟨G_q, hG_q⟩ : ∃ G, w24.heap.size = G := ⟨_, rfl⟩
                        have ha : Below w24.heap.size w24 w25 := by rw [hw25]; exact (Below.refl _ _).alloc (Nat.le_refl _) _
                        have k_q : Blk w25 G_q 42 #[.slice A_q n_q c_q, .slice B_q m_q d_q] := by rw [hw25, ← hG_q]; exact Blk.new w24 _ _
                        rw [← hw25]
                        simp only [hG_q]
                        clear hw25 hG_q
                        have je := je.below ha je.lt
                        have jb := jb.below ha jb.lt
                        have M := M.on ha
                        have r_q := r_q.on ha
                        have t_q := t_q.on ha
                        have hG25 := hG24.andThen (below_grown ha none) (fun j hj => by cases hj)
                        clear hG24
                        have hB25 := bltB hB24 hB24.size ha
                        clear ha hB24
                        refine (is_any w25 _ _ _ _ _ _ (oN (oldL L x1) (eT room) hv) (oD (oldL L x1) (eT room)) r_q t_q K5.out.2.1 (by omega) (by omega) 0 1 (by decide) (by decide) (by decide)).mono ?_
                        rintro y w26 ⟨rfl, hb⟩
                        have je := je.below hb je.lt
                        have jb := jb.below hb jb.lt
                        have M := M.on hb
                        have r_q := r_q.on hb
                        have t_q := t_q.on hb
                        have k_q := k_q.below hb k_q.lt
                        have hG26 := hG25.andThen (below_grown hb none) (fun j hj => by cases hj)
                        clear hG25
                        have hB26 := bltB hB25 hB25.size hb
                        clear hb hB25
                        rw [show decide ((oN (oldL L x1) (eT room) hv) * 1 = 0 * (oD (oldL L x1) (eT room))) = false from decide_eq_false (by rw [Nat.mul_one, Nat.zero_mul]; exact K4.out)]
                        have HR : Hid ((MindAt w26 p b (2 * (k + 1)) (Ft room has (l.take (k + 1))).1 ∧ w5.grownBy w26 (some b)) ∧ (Ft room has (l.take (k + 1))).2 = hv) := Lib.hid ⟨⟨by rw [HST.out, HT.out]; exact M.more (by omega), hG26⟩, by rw [HST.out, HT.out]⟩
                        clear M je jb k_q r_q t_q hG26 hB26
                        go_wp2_with fail
                        go_roundw
                        case rel => exact ⟨k + 1, by omega, by go_num, by rw [HR.out.2], HR.out.1.1, HR.out.1.2⟩
                        case measure => simp [intOf]; omega
              · have hkn : k = n := by omega
                subst hkn
                clear hs HI je jb M
                go_wp2_with fail
                go_ret
                exact ⟨rfl, hBr⟩
          · go_wp2_with fail
            go_ret
            exact ⟨rfl, hB2⟩
        · go_wp2_with fail
          go_ret
          exact ⟨rfl, hB2⟩
      · go_wp2_with fail
        go_ret
        exact ⟨rfl, hB2⟩
    · go_wp2_with fail
      go_ret
      exact ⟨rfl, hB2⟩
  · have g60 : (60 : Int) < (n : Int) := by omega
    go_wp2_with fail
    go_ret
    exact ⟨rfl, hB2⟩

end Go.Proofs.Ytdobpicamibgpaa
