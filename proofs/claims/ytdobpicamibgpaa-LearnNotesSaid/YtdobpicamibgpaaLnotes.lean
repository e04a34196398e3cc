/-
  The law LearnNotes: what its walk answers, whatever the acts.
-/
import Derived.Test.YtdobpicamibgpaaActs2
namespace Go.Proofs.Ytdobpicamibgpaa
open Go.RowKit Go.Maps Go.Shelf
set_option linter.unusedVariables false
set_option linter.unusedSimpArgs false
attribute [local go_sem] Oper.semAt_some

set_option maxRecDepth 100000 in
set_option maxHeartbeats 16000000 in
theorem lnotes_any (w : World) (A : Option Addr) (n cp : Nat) (l : List Av) (hl : Acts w w.heap.size A n l) (e : Ed) (x : Int) (ot : Ed) : Calls Try.prog 5 #[.slice A n cp, e.v, .int .i64 x, ot.v] w fun e w' => e = .returned (.bool true) ∧ Below w.heap.size w w' := by
  obtain ⟨f, t, c, r, p0, p1, p2, p3, p4⟩ := e
  obtain ⟨f2, t2, c2, r2, v0, v1, v2, v3, v4⟩ := ot
  obtain ⟨w0, hw0⟩ : ∃ w0, w0 = (w.alloc (.cells #[.int .i64 f, .int .i64 t, .int .i64 c, .int .i64 r, .int .i64 p0, .int .i64 p1, .int .i64 p2, .int .i64 p3, .int .i64 p4] 26)).alloc (.cells #[.int .i64 f2, .int .i64 t2, .int .i64 c2, .int .i64 r2, .int .i64 v0, .int .i64 v1, .int .i64 v2, .int .i64 v3, .int .i64 v4] 26) := ⟨_, rfl⟩
  have hB0 : Below w.heap.size w w0 := by rw [hw0]; exact ((Below.refl _ _).alloc (Nat.le_refl _) _).alloc (by simp) _
  have je : Blk w0 w.heap.size 26 #[.int .i64 f, .int .i64 t, .int .i64 c, .int .i64 r, .int .i64 p0, .int .i64 p1, .int .i64 p2, .int .i64 p3, .int .i64 p4] := by rw [hw0]; exact (Blk.new w _ _).alloc _
  have jo : Blk w0 (w.heap.size + 1) 26 #[.int .i64 f2, .int .i64 t2, .int .i64 c2, .int .i64 r2, .int .i64 v0, .int .i64 v1, .int .i64 v2, .int .i64 v3, .int .i64 v4] := by
    rw [hw0]
    have := Blk.new (w.alloc (.cells #[.int .i64 f, .int .i64 t, .int .i64 c, .int .i64 r, .int .i64 p0, .int .i64 p1, .int .i64 p2, .int .i64 p3, .int .i64 p4] 26)) 26 #[.int .i64 f2, .int .i64 t2, .int .i64 c2, .int .i64 r2, .int .i64 v0, .int .i64 v1, .int .i64 v2, .int .i64 v3, .int .i64 v4]
    rw [World.size_alloc] at this
    exact this
  have HL := Lib.hid hl
  have hn0 := hl.small
  clear hl
  simp only [Ed.v, Ed.cs]
  go_enter Try.func5, Try.ntmps5
  go_wp2_with fail
  rw [← hw0]
  clear hw0
  go_wp2_with fail
  refine (lsmall_any w0).mono ?_
  rintro y w1 ⟨rfl, hb⟩
  have je := je.below hb je.lt
  have jo := jo.below hb jo.lt
  have hB1 := bltB hB0 hB0.size hb
  clear hb hB0
  go_wp2_with fail
  refine (lnew_any w1).mono ?_
  rintro y w2 ⟨p, b, rfl, M, hp_M, hb_M, hb⟩
  have hb_M := Nat.le_trans hB1.size hb_M
  have je := je.below hb je.lt
  have jo := jo.below hb jo.lt
  have hB2 := bltB hB1 hB1.size hb
  clear hb hB1
  by_cases h30 : n ≤ 30
  · have g30 : ¬ (30 : Int) < (n : Int) := by omega
    go_wp2_with fail
    go_loopw [11] (fun i wr => ∃ k : Nat, k ≤ n ∧ i = .int .i64 k ∧ MindAt wr p b (2 * k) (Fa (l.take k)) ∧ w2.grownBy wr (some b)) (fun i _ => n - (intOf i).toNat)
    case atStart => exact ⟨0, Nat.zero_le _, rfl, M, below_grown (Below.refl _ _) _⟩
    case round =>
      obtain ⟨k, hk, rfl, hM, hg⟩ := hrel
      have hBr := Below.grownM hB2 hg hB2.size hb_M
      by_cases hlt : k < n
      · obtain ⟨bb, off, hA, hbB, hat⟩ := HL.out.at_ (by omega)
        subst hA
        have hx : l[k]? = some (l[k]'(by rw [HL.out.len]; exact hlt)) := List.getElem?_eq_getElem _
        generalize l[k]'(by rw [HL.out.len]; exact hlt) = ak at hx
        obtain ⟨d1, ⟨f1, t1, c1, r1, u0, u1, u2, u3, u4⟩, x1⟩ := ak
        have hc := hat k _ hx
        have a0 : wr.cell? ⟨bb, off + k * 11, none⟩ = some (.int .i64 d1) := (hBr.cell (p := ⟨bb, _, none⟩) hbB).trans (hc 0 _ rfl)
        have a1 : wr.cell? ⟨bb, off + k * 11 + 1, none⟩ = some (.int .i64 f1) := (hBr.cell (p := ⟨bb, _, none⟩) hbB).trans (hc 1 _ rfl)
        have a2 : wr.cell? ⟨bb, off + k * 11 + 2, none⟩ = some (.int .i64 t1) := (hBr.cell (p := ⟨bb, _, none⟩) hbB).trans (hc 2 _ rfl)
        have a3 : wr.cell? ⟨bb, off + k * 11 + 3, none⟩ = some (.int .i64 c1) := (hBr.cell (p := ⟨bb, _, none⟩) hbB).trans (hc 3 _ rfl)
        have a4 : wr.cell? ⟨bb, off + k * 11 + 4, none⟩ = some (.int .i64 r1) := (hBr.cell (p := ⟨bb, _, none⟩) hbB).trans (hc 4 _ rfl)
        have a5 : wr.cell? ⟨bb, off + k * 11 + 5, none⟩ = some (.int .i64 u0) := (hBr.cell (p := ⟨bb, _, none⟩) hbB).trans (hc 5 _ rfl)
        have a6 : wr.cell? ⟨bb, off + k * 11 + 6, none⟩ = some (.int .i64 u1) := (hBr.cell (p := ⟨bb, _, none⟩) hbB).trans (hc 6 _ rfl)
        have a7 : wr.cell? ⟨bb, off + k * 11 + 7, none⟩ = some (.int .i64 u2) := (hBr.cell (p := ⟨bb, _, none⟩) hbB).trans (hc 7 _ rfl)
        have a8 : wr.cell? ⟨bb, off + k * 11 + 8, none⟩ = some (.int .i64 u3) := (hBr.cell (p := ⟨bb, _, none⟩) hbB).trans (hc 8 _ rfl)
        have a9 : wr.cell? ⟨bb, off + k * 11 + 9, none⟩ = some (.int .i64 u4) := (hBr.cell (p := ⟨bb, _, none⟩) hbB).trans (hc 9 _ rfl)
        have a10 : wr.cell? ⟨bb, off + k * 11 + 10, none⟩ = some (.int .i64 x1) := (hBr.cell (p := ⟨bb, _, none⟩) hbB).trans (hc 10 _ rfl)
        have hst := Lib.hid (Fa_step l k _ hx)
        clear hc hat hx
        go_wp2_with fail
        refine (done_any wr p b (2 * k) _ hM (Fa_good _) (by omega) ⟨d1, ⟨f1, t1, c1, r1, u0, u1, u2, u3, u4⟩, x1⟩).mono ?_
        rintro y wr2 ⟨rfl, hM1, hg1⟩
        have HR : Hid (MindAt wr2 p b (2 * (k + 1)) (Fa (l.take (k + 1))) ∧ w2.grownBy wr2 (some b)) := Lib.hid ⟨by rw [hst.out]; exact hM1.more (by omega), hg.andThen hg1 (fun j hj => .inr (by rw [← hj]))⟩
        clear hM hM1 hg hg1 hst hBr a0 a1 a2 a3 a4 a5 a6 a7 a8 a9 a10
        go_wp2_with fail
        go_roundw
        case rel => exact ⟨k + 1, by omega, by go_num, HR.out⟩
        case measure => simp [intOf]; omega
      · have hkn : k = n := by omega
        subst hkn
        rw [List.take_of_length_le (Nat.le_of_eq HL.out.len)] at hM
        have je := je.grownM M hg
        have jo := jo.grownM M hg
        have M := hM
        clear hg hM hB2
        by_cases hf : f2 = f
        · obtain rfl := hf.symm
          by_cases hc : c2 = c
          · obtain rfl := hc.symm
            rcases hok : oddOk (Ed.e4 ⟨f, t, c, r, p0, p1, p2, p3, p4⟩) x with _ | _
            · go_wp2_with fail
              refine (copy_any wr p b (2 * k) (Fa l) M).mono ?_
              rintro y w11 ⟨q2, b2, rfl, P, hp_P, hb_P, hb⟩
              have hne_P_M : b2 ≠ b := by have := M.lt; omega
              have hne_M_P : b ≠ b2 := fun e => hne_P_M e.symm
              have hb_P := Nat.le_trans hBr.size hb_P
              have je := je.below hb je.lt
              have jo := jo.below hb jo.lt
              have M := M.on hb
              have hB11 := bltB hBr hBr.size hb
              clear hb hBr
              go_wp2_with fail
              refine (copy_any w11 p b (2 * k) (Fa l) M).mono ?_
              rintro y w12 ⟨q3, b3, rfl, Q, hp_Q, hb_Q, hb⟩
              have hne_Q_M : b3 ≠ b := by have := M.lt; omega
              have hne_M_Q : b ≠ b3 := fun e => hne_Q_M e.symm
              have hne_Q_P : b3 ≠ b2 := by have := P.lt; omega
              have hne_P_Q : b2 ≠ b3 := fun e => hne_Q_P e.symm
              have hb_Q := Nat.le_trans hB11.size hb_Q
              have je := je.below hb je.lt
              have jo := jo.below hb jo.lt
              have M := M.on hb
              have P := P.on hb
              have hB12 := bltB hB11 hB11.size hb
              clear hb hB11
              have q_je_0 := je.cell 0
              have q_je_1 := je.cell 1
              have q_je_2 := je.cell 2
              have q_je_3 := je.cell 3
              have q_je_4 := je.cell 4
              have q_je_5 := je.cell 5
              have q_je_6 := je.cell 6
              have q_je_7 := je.cell 7
              have q_je_8 := je.cell 8
              have q_je_l := je.lt
              go_wp2_with fail
              clear q_je_0 q_je_1 q_je_2 q_je_3 q_je_4 q_je_5 q_je_6 q_je_7 q_je_8 q_je_l
              refine (failed_any w12 q2 b2 (2 * k) (Fa l) P (Fa_good l) (by omega) ⟨f, t, c, r, p0, p1, p2, p3, p4⟩ x).mono ?_
              rintro y w13 ⟨rfl, hM1, hg⟩
              have je := je.grownM P hg
              have jo := jo.grownM P hg
              have M := M.grownM P hg hne_M_P
              have Q := Q.grownM P hg hne_Q_P
              have hB13 := Below.grownM hB12 hg hB12.size hb_P
              have P := hM1
              clear hg hM1 hB12
              have q_je_0 := je.cell 0
              have q_je_1 := je.cell 1
              have q_je_2 := je.cell 2
              have q_je_3 := je.cell 3
              have q_je_4 := je.cell 4
              have q_je_5 := je.cell 5
              have q_je_6 := je.cell 6
              have q_je_7 := je.cell 7
              have q_je_8 := je.cell 8
              have q_je_l := je.lt
              go_wp2_with fail
              clear q_je_0 q_je_1 q_je_2 q_je_3 q_je_4 q_je_5 q_je_6 q_je_7 q_je_8 q_je_l
              refine (passed_any w13 q3 b3 (2 * k) (Fa l) Q (Fa_good l) (by omega) ⟨f, t, c, r, p0, p1, p2, p3, p4⟩ x).mono ?_
              rintro y w14 ⟨rfl, hM1, hg⟩
              have je := je.grownM Q hg
              have jo := jo.grownM Q hg
              have M := M.grownM Q hg hne_M_Q
              have P := P.grownM Q hg hne_P_Q
              have hB14 := Below.grownM hB13 hg hB13.size hb_Q
              have Q := hM1
              clear hg hM1 hB13
              have q_jo_0 := jo.cell 0
              have q_jo_1 := jo.cell 1
              have q_jo_2 := jo.cell 2
              have q_jo_3 := jo.cell 3
              have q_jo_4 := jo.cell 4
              have q_jo_5 := jo.cell 5
              have q_jo_6 := jo.cell 6
              have q_jo_7 := jo.cell 7
              have q_jo_8 := jo.cell 8
              have q_jo_l := jo.lt
              go_wp2_with fail
              clear q_jo_0 q_jo_1 q_jo_2 q_jo_3 q_jo_4 q_jo_5 q_jo_6 q_jo_7 q_jo_8 q_jo_l
              refine (bounds_any w14 p b (2 * k) (Fa l) M (Fa_good l) ⟨f, t2, c, r2, v0, v1, v2, v3, v4⟩).mono ?_
              rintro y w15 ⟨rfl, hb⟩
              have je := je.below hb je.lt
              have jo := jo.below hb jo.lt
              have M := M.on hb
              have P := P.on hb
              have Q := Q.on hb
              have hB15 := bltB hB14 hB14.size hb
              clear hb hB14
              obtain ⟨lo, hi, h1⟩ : ∃ y1 y2, bnd (Fa l) (Ed.e4 ⟨f, t2, c, r2, v0, v1, v2, v3, v4⟩) = (y1, y2) := ⟨_, _, rfl⟩
              rw [h1]
              have H1 := Lib.hid h1
              clear h1
              have q_jo_0 := jo.cell 0
              have q_jo_1 := jo.cell 1
              have q_jo_2 := jo.cell 2
              have q_jo_3 := jo.cell 3
              have q_jo_4 := jo.cell 4
              have q_jo_5 := jo.cell 5
              have q_jo_6 := jo.cell 6
              have q_jo_7 := jo.cell 7
              have q_jo_8 := jo.cell 8
              have q_jo_l := jo.lt
              go_wp2_with fail
              clear q_jo_0 q_jo_1 q_jo_2 q_jo_3 q_jo_4 q_jo_5 q_jo_6 q_jo_7 q_jo_8 q_jo_l
              refine (bounds_any w15 q2 b2 ((2 * k) + 1) (failL (Fa l) (Ed.e4 ⟨f, t, c, r, p0, p1, p2, p3, p4⟩) x) P (((Fa_good l) : Good (Fa l)).fail (Ed.e4 ⟨f, t, c, r, p0, p1, p2, p3, p4⟩) x) ⟨f, t2, c, r2, v0, v1, v2, v3, v4⟩).mono ?_
              rintro y w16 ⟨rfl, hb⟩
              have je := je.below hb je.lt
              have jo := jo.below hb jo.lt
              have M := M.on hb
              have P := P.on hb
              have Q := Q.on hb
              have hB16 := bltB hB15 hB15.size hb
              clear hb hB15
              obtain ⟨lo2, hi2, h2⟩ : ∃ y1 y2, bnd (failL (Fa l) (Ed.e4 ⟨f, t, c, r, p0, p1, p2, p3, p4⟩) x) (Ed.e4 ⟨f, t2, c, r2, v0, v1, v2, v3, v4⟩) = (y1, y2) := ⟨_, _, rfl⟩
              rw [h2]
              clear h2
              have q_jo_0 := jo.cell 0
              have q_jo_1 := jo.cell 1
              have q_jo_2 := jo.cell 2
              have q_jo_3 := jo.cell 3
              have q_jo_4 := jo.cell 4
              have q_jo_5 := jo.cell 5
              have q_jo_6 := jo.cell 6
              have q_jo_7 := jo.cell 7
              have q_jo_8 := jo.cell 8
              have q_jo_l := jo.lt
              go_wp2_with fail
              clear q_jo_0 q_jo_1 q_jo_2 q_jo_3 q_jo_4 q_jo_5 q_jo_6 q_jo_7 q_jo_8 q_jo_l
              refine (bounds_any w16 q3 b3 ((2 * k) + 1) (passL (Fa l) (Ed.e4 ⟨f, t, c, r, p0, p1, p2, p3, p4⟩) x) Q (((Fa_good l) : Good (Fa l)).pass (Ed.e4 ⟨f, t, c, r, p0, p1, p2, p3, p4⟩) x) ⟨f, t2, c, r2, v0, v1, v2, v3, v4⟩).mono ?_
              rintro y w17 ⟨rfl, hb⟩
              have je := je.below hb je.lt
              have jo := jo.below hb jo.lt
              have M := M.on hb
              have P := P.on hb
              have Q := Q.on hb
              have hB17 := bltB hB16 hB16.size hb
              clear hb hB16
              obtain ⟨lo3, hi3, h3⟩ : ∃ y1 y2, bnd (passL (Fa l) (Ed.e4 ⟨f, t, c, r, p0, p1, p2, p3, p4⟩) x) (Ed.e4 ⟨f, t2, c, r2, v0, v1, v2, v3, v4⟩) = (y1, y2) := ⟨_, _, rfl⟩
              rw [h3]
              clear h3
              have q_je_0 := je.cell 0
              have q_je_1 := je.cell 1
              have q_je_2 := je.cell 2
              have q_je_3 := je.cell 3
              have q_je_4 := je.cell 4
              have q_je_5 := je.cell 5
              have q_je_6 := je.cell 6
              have q_je_7 := je.cell 7
              have q_je_8 := je.cell 8
              have q_je_l := je.lt
              have q_jo_0 := jo.cell 0
              have q_jo_1 := jo.cell 1
              have q_jo_2 := jo.cell 2
              have q_jo_3 := jo.cell 3
              have q_jo_4 := jo.cell 4
              have q_jo_5 := jo.cell 5
              have q_jo_6 := jo.cell 6
              have q_jo_7 := jo.cell 7
              have q_jo_8 := jo.cell 8
              have q_jo_l := jo.lt
              go_wp2_with fail
              clear q_je_0 q_je_1 q_je_2 q_je_3 q_je_4 q_je_5 q_je_6 q_je_7 q_je_8 q_je_l q_jo_0 q_jo_1 q_jo_2 q_jo_3 q_jo_4 q_jo_5 q_jo_6 q_jo_7 q_jo_8 q_jo_l
              refine (odds_no w17 q2 b2 ((2 * k) + 1) (failL (Fa l) (Ed.e4 ⟨f, t, c, r, p0, p1, p2, p3, p4⟩) x) P (((Fa_good l) : Good (Fa l)).fail (Ed.e4 ⟨f, t, c, r, p0, p1, p2, p3, p4⟩) x) ⟨f, t, c, r, p0, p1, p2, p3, p4⟩ x hok).mono ?_
              rintro y w18 ⟨A_a, n_a, c_a, B_a, m_a, d_a, rfl, r_a, t_a, l_a, hb⟩
              have je := je.below hb je.lt
              have jo := jo.below hb jo.lt
              have M := M.on hb
              have P := P.on hb
              have Q := Q.on hb
              have hB18 := bltB hB17 hB17.size hb
              clear hb hB17
              have q_je_0 := je.cell 0
              have q_je_1 := je.cell 1
              have q_je_2 := je.cell 2
              have q_je_3 := je.cell 3
              have q_je_4 := je.cell 4
              have q_je_5 := je.cell 5
              have q_je_6 := je.cell 6
              have q_je_7 := je.cell 7
              have q_je_8 := je.cell 8
              have q_je_l := je.lt
              go_wp2_with fail
              clear q_je_0 q_je_1 q_je_2 q_je_3 q_je_4 q_je_5 q_je_6 q_je_7 q_je_8 q_je_l
              obtain ⟨w19, hw19⟩ : ∃ W, W = w18.alloc (.cells #[.slice A_a n_a c_a, .slice B_a m_a d_a] 42) := ⟨_, rfl⟩
              obtain ⟨G_a, hG_a⟩ : ∃ G, w18.heap.size = G := ⟨_, rfl⟩
              have ha : Below w18.heap.size w18 w19 := by rw [hw19]; exact (Below.refl _ _).alloc (Nat.le_refl _) _
              have k_a : Blk w19 G_a 42 #[.slice A_a n_a c_a, .slice B_a m_a d_a] := by rw [hw19, ← hG_a]; exact Blk.new w18 _ _
              rw [← hw19]
              simp only [hG_a]
              clear hw19 hG_a
              have je := je.below ha je.lt
              have jo := jo.below ha jo.lt
              have M := M.on ha
              have P := P.on ha
              have Q := Q.on ha
              have r_a := r_a.on ha
              have t_a := t_a.on ha
              have hB19 := bltB hB18 hB18.size ha
              clear ha hB18
              refine (odds_no w19 q3 b3 ((2 * k) + 1) (passL (Fa l) (Ed.e4 ⟨f, t, c, r, p0, p1, p2, p3, p4⟩) x) Q (((Fa_good l) : Good (Fa l)).pass (Ed.e4 ⟨f, t, c, r, p0, p1, p2, p3, p4⟩) x) ⟨f, t, c, r, p0, p1, p2, p3, p4⟩ x hok).mono ?_
              rintro y w20 ⟨A_b, n_b, c_b, B_b, m_b, d_b, rfl, r_b, t_b, l_b, hb⟩
              have je := je.below hb je.lt
              have jo := jo.below hb jo.lt
              have M := M.on hb
              have P := P.on hb
              have Q := Q.on hb
              have r_a := r_a.on hb
              have t_a := t_a.on hb
              have k_a := k_a.below hb k_a.lt
              have hB20 := bltB hB19 hB19.size hb
              clear hb hB19
              go_wp2_with fail
              go_ret
              exact ⟨rfl, hB20.alloc hB20.size _⟩
            · by_cases hx : x < 1
              · go_wp2_with fail
                refine (copy_any wr p b (2 * k) (Fa l) M).mono ?_
                rintro y w11 ⟨q2, b2, rfl, P, hp_P, hb_P, hb⟩
                have hne_P_M : b2 ≠ b := by have := M.lt; omega
                have hne_M_P : b ≠ b2 := fun e => hne_P_M e.symm
                have hb_P := Nat.le_trans hBr.size hb_P
                have je := je.below hb je.lt
                have jo := jo.below hb jo.lt
                have M := M.on hb
                have hB11 := bltB hBr hBr.size hb
                clear hb hBr
                go_wp2_with fail
                refine (copy_any w11 p b (2 * k) (Fa l) M).mono ?_
                rintro y w12 ⟨q3, b3, rfl, Q, hp_Q, hb_Q, hb⟩
                have hne_Q_M : b3 ≠ b := by have := M.lt; omega
                have hne_M_Q : b ≠ b3 := fun e => hne_Q_M e.symm
                have hne_Q_P : b3 ≠ b2 := by have := P.lt; omega
                have hne_P_Q : b2 ≠ b3 := fun e => hne_Q_P e.symm
                have hb_Q := Nat.le_trans hB11.size hb_Q
                have je := je.below hb je.lt
                have jo := jo.below hb jo.lt
                have M := M.on hb
                have P := P.on hb
                have hB12 := bltB hB11 hB11.size hb
                clear hb hB11
                have q_je_0 := je.cell 0
                have q_je_1 := je.cell 1
                have q_je_2 := je.cell 2
                have q_je_3 := je.cell 3
                have q_je_4 := je.cell 4
                have q_je_5 := je.cell 5
                have q_je_6 := je.cell 6
                have q_je_7 := je.cell 7
                have q_je_8 := je.cell 8
                have q_je_l := je.lt
                go_wp2_with fail
                clear q_je_0 q_je_1 q_je_2 q_je_3 q_je_4 q_je_5 q_je_6 q_je_7 q_je_8 q_je_l
                refine (failed_any w12 q2 b2 (2 * k) (Fa l) P (Fa_good l) (by omega) ⟨f, t, c, r, p0, p1, p2, p3, p4⟩ x).mono ?_
                rintro y w13 ⟨rfl, hM1, hg⟩
                have je := je.grownM P hg
                have jo := jo.grownM P hg
                have M := M.grownM P hg hne_M_P
                have Q := Q.grownM P hg hne_Q_P
                have hB13 := Below.grownM hB12 hg hB12.size hb_P
                have P := hM1
                clear hg hM1 hB12
                have q_je_0 := je.cell 0
                have q_je_1 := je.cell 1
                have q_je_2 := je.cell 2
                have q_je_3 := je.cell 3
                have q_je_4 := je.cell 4
                have q_je_5 := je.cell 5
                have q_je_6 := je.cell 6
                have q_je_7 := je.cell 7
                have q_je_8 := je.cell 8
                have q_je_l := je.lt
                go_wp2_with fail
                clear q_je_0 q_je_1 q_je_2 q_je_3 q_je_4 q_je_5 q_je_6 q_je_7 q_je_8 q_je_l
                refine (passed_any w13 q3 b3 (2 * k) (Fa l) Q (Fa_good l) (by omega) ⟨f, t, c, r, p0, p1, p2, p3, p4⟩ x).mono ?_
                rintro y w14 ⟨rfl, hM1, hg⟩
                have je := je.grownM Q hg
                have jo := jo.grownM Q hg
                have M := M.grownM Q hg hne_M_Q
                have P := P.grownM Q hg hne_P_Q
                have hB14 := Below.grownM hB13 hg hB13.size hb_Q
                have Q := hM1
                clear hg hM1 hB13
                have q_jo_0 := jo.cell 0
                have q_jo_1 := jo.cell 1
                have q_jo_2 := jo.cell 2
                have q_jo_3 := jo.cell 3
                have q_jo_4 := jo.cell 4
                have q_jo_5 := jo.cell 5
                have q_jo_6 := jo.cell 6
                have q_jo_7 := jo.cell 7
                have q_jo_8 := jo.cell 8
                have q_jo_l := jo.lt
                go_wp2_with fail
                clear q_jo_0 q_jo_1 q_jo_2 q_jo_3 q_jo_4 q_jo_5 q_jo_6 q_jo_7 q_jo_8 q_jo_l
                refine (bounds_any w14 p b (2 * k) (Fa l) M (Fa_good l) ⟨f, t2, c, r2, v0, v1, v2, v3, v4⟩).mono ?_
                rintro y w15 ⟨rfl, hb⟩
                have je := je.below hb je.lt
                have jo := jo.below hb jo.lt
                have M := M.on hb
                have P := P.on hb
                have Q := Q.on hb
                have hB15 := bltB hB14 hB14.size hb
                clear hb hB14
                obtain ⟨lo, hi, h1⟩ : ∃ y1 y2, bnd (Fa l) (Ed.e4 ⟨f, t2, c, r2, v0, v1, v2, v3, v4⟩) = (y1, y2) := ⟨_, _, rfl⟩
                rw [h1]
                have H1 := Lib.hid h1
                clear h1
                have q_jo_0 := jo.cell 0
                have q_jo_1 := jo.cell 1
                have q_jo_2 := jo.cell 2
                have q_jo_3 := jo.cell 3
                have q_jo_4 := jo.cell 4
                have q_jo_5 := jo.cell 5
                have q_jo_6 := jo.cell 6
                have q_jo_7 := jo.cell 7
                have q_jo_8 := jo.cell 8
                have q_jo_l := jo.lt
                go_wp2_with fail
                clear q_jo_0 q_jo_1 q_jo_2 q_jo_3 q_jo_4 q_jo_5 q_jo_6 q_jo_7 q_jo_8 q_jo_l
                refine (bounds_any w15 q2 b2 ((2 * k) + 1) (failL (Fa l) (Ed.e4 ⟨f, t, c, r, p0, p1, p2, p3, p4⟩) x) P (((Fa_good l) : Good (Fa l)).fail (Ed.e4 ⟨f, t, c, r, p0, p1, p2, p3, p4⟩) x) ⟨f, t2, c, r2, v0, v1, v2, v3, v4⟩).mono ?_
                rintro y w16 ⟨rfl, hb⟩
                have je := je.below hb je.lt
                have jo := jo.below hb jo.lt
                have M := M.on hb
                have P := P.on hb
                have Q := Q.on hb
                have hB16 := bltB hB15 hB15.size hb
                clear hb hB15
                obtain ⟨lo2, hi2, h2⟩ : ∃ y1 y2, bnd (failL (Fa l) (Ed.e4 ⟨f, t, c, r, p0, p1, p2, p3, p4⟩) x) (Ed.e4 ⟨f, t2, c, r2, v0, v1, v2, v3, v4⟩) = (y1, y2) := ⟨_, _, rfl⟩
                rw [h2]
                clear h2
                have q_jo_0 := jo.cell 0
                have q_jo_1 := jo.cell 1
                have q_jo_2 := jo.cell 2
                have q_jo_3 := jo.cell 3
                have q_jo_4 := jo.cell 4
                have q_jo_5 := jo.cell 5
                have q_jo_6 := jo.cell 6
                have q_jo_7 := jo.cell 7
                have q_jo_8 := jo.cell 8
                have q_jo_l := jo.lt
                go_wp2_with fail
                clear q_jo_0 q_jo_1 q_jo_2 q_jo_3 q_jo_4 q_jo_5 q_jo_6 q_jo_7 q_jo_8 q_jo_l
                refine (bounds_any w16 q3 b3 ((2 * k) + 1) (passL (Fa l) (Ed.e4 ⟨f, t, c, r, p0, p1, p2, p3, p4⟩) x) Q (((Fa_good l) : Good (Fa l)).pass (Ed.e4 ⟨f, t, c, r, p0, p1, p2, p3, p4⟩) x) ⟨f, t2, c, r2, v0, v1, v2, v3, v4⟩).mono ?_
                rintro y w17 ⟨rfl, hb⟩
                have je := je.below hb je.lt
                have jo := jo.below hb jo.lt
                have M := M.on hb
                have P := P.on hb
                have Q := Q.on hb
                have hB17 := bltB hB16 hB16.size hb
                clear hb hB16
                obtain ⟨lo3, hi3, h3⟩ : ∃ y1 y2, bnd (passL (Fa l) (Ed.e4 ⟨f, t, c, r, p0, p1, p2, p3, p4⟩) x) (Ed.e4 ⟨f, t2, c, r2, v0, v1, v2, v3, v4⟩) = (y1, y2) := ⟨_, _, rfl⟩
                rw [h3]
                clear h3
                have q_je_0 := je.cell 0
                have q_je_1 := je.cell 1
                have q_je_2 := je.cell 2
                have q_je_3 := je.cell 3
                have q_je_4 := je.cell 4
                have q_je_5 := je.cell 5
                have q_je_6 := je.cell 6
                have q_je_7 := je.cell 7
                have q_je_8 := je.cell 8
                have q_je_l := je.lt
                have q_jo_0 := jo.cell 0
                have q_jo_1 := jo.cell 1
                have q_jo_2 := jo.cell 2
                have q_jo_3 := jo.cell 3
                have q_jo_4 := jo.cell 4
                have q_jo_5 := jo.cell 5
                have q_jo_6 := jo.cell 6
                have q_jo_7 := jo.cell 7
                have q_jo_8 := jo.cell 8
                have q_jo_l := jo.lt
                go_wp2_with fail
                clear q_je_0 q_je_1 q_je_2 q_je_3 q_je_4 q_je_5 q_je_6 q_je_7 q_je_8 q_je_l q_jo_0 q_jo_1 q_jo_2 q_jo_3 q_jo_4 q_jo_5 q_jo_6 q_jo_7 q_jo_8 q_jo_l
                refine (odds_ok w17 q2 b2 ((2 * k) + 1) (failL (Fa l) (Ed.e4 ⟨f, t, c, r, p0, p1, p2, p3, p4⟩) x) P (((Fa_good l) : Good (Fa l)).fail (Ed.e4 ⟨f, t, c, r, p0, p1, p2, p3, p4⟩) x) ⟨f, t, c, r, p0, p1, p2, p3, p4⟩ x hok).mono ?_
                rintro y w18 ⟨A_a, n_a, c_a, B_a, m_a, d_a, rfl, r_a, t_a, l_a, hb⟩
                have je := je.below hb je.lt
                have jo := jo.below hb jo.lt
                have M := M.on hb
                have P := P.on hb
                have Q := Q.on hb
                have hB18 := bltB hB17 hB17.size hb
                clear hb hB17
                have q_je_0 := je.cell 0
                have q_je_1 := je.cell 1
                have q_je_2 := je.cell 2
                have q_je_3 := je.cell 3
                have q_je_4 := je.cell 4
                have q_je_5 := je.cell 5
                have q_je_6 := je.cell 6
                have q_je_7 := je.cell 7
                have q_je_8 := je.cell 8
                have q_je_l := je.lt
                go_wp2_with fail
                clear q_je_0 q_je_1 q_je_2 q_je_3 q_je_4 q_je_5 q_je_6 q_je_7 q_je_8 q_je_l
                obtain ⟨w19, hw19⟩ : ∃ W, W = w18.alloc (.cells #[.slice A_a n_a c_a, .slice B_a m_a d_a] 42) := ⟨_, rfl⟩
                obtain ⟨G_a, hG_a⟩ : ∃ G, w18.heap.size = G := ⟨_, rfl⟩
                have ha : Below w18.heap.size w18 w19 := by rw [hw19]; exact (Below.refl _ _).alloc (Nat.le_refl _) _
                have k_a : Blk w19 G_a 42 #[.slice A_a n_a c_a, .slice B_a m_a d_a] := by rw [hw19, ← hG_a]; exact Blk.new w18 _ _
                rw [← hw19]
                simp only [hG_a]
                clear hw19 hG_a
                have je := je.below ha je.lt
                have jo := jo.below ha jo.lt
                have M := M.on ha
                have P := P.on ha
                have Q := Q.on ha
                have r_a := r_a.on ha
                have t_a := t_a.on ha
                have hB19 := bltB hB18 hB18.size ha
                clear ha hB18
                refine (odds_ok w19 q3 b3 ((2 * k) + 1) (passL (Fa l) (Ed.e4 ⟨f, t, c, r, p0, p1, p2, p3, p4⟩) x) Q (((Fa_good l) : Good (Fa l)).pass (Ed.e4 ⟨f, t, c, r, p0, p1, p2, p3, p4⟩) x) ⟨f, t, c, r, p0, p1, p2, p3, p4⟩ x hok).mono ?_
                rintro y w20 ⟨A_b, n_b, c_b, B_b, m_b, d_b, rfl, r_b, t_b, l_b, hb⟩
                have je := je.below hb je.lt
                have jo := jo.below hb jo.lt
                have M := M.on hb
                have P := P.on hb
                have Q := Q.on hb
                have r_a := r_a.on hb
                have t_a := t_a.on hb
                have k_a := k_a.below hb k_a.lt
                have hB20 := bltB hB19 hB19.size hb
                clear hb hB19
                have hsF := odd_small ((Fa_good l).fail (Ed.e4 ⟨f, t, c, r, p0, p1, p2, p3, p4⟩) x) hok
                have hsP := odd_small ((Fa_good l).pass (Ed.e4 ⟨f, t, c, r, p0, p1, p2, p3, p4⟩) x) hok
                have HSF := Lib.hid hsF
                have HSP := Lib.hid hsP
                clear hsF hsP
                have q_k_a_0 := k_a.cell 0
                have q_k_a_1 := k_a.cell 1
                have q_k_a_l := k_a.lt
                go_wp2_with fail
                clear q_k_a_0 q_k_a_1 q_k_a_l
                obtain ⟨w21, hw21⟩ : ∃ W, W = w20.alloc (.cells #[.slice A_b n_b c_b, .slice B_b m_b d_b] 42) := ⟨_, rfl⟩
                obtain ⟨G_b, hG_b⟩ : ∃ G, w20.heap.size = G := ⟨_, rfl⟩
                have ha : Below w20.heap.size w20 w21 := by rw [hw21]; exact (Below.refl _ _).alloc (Nat.le_refl _) _
                have k_b : Blk w21 G_b 42 #[.slice A_b n_b c_b, .slice B_b m_b d_b] := by rw [hw21, ← hG_b]; exact Blk.new w20 _ _
                rw [← hw21]
                simp only [hG_b]
                clear hw21 hG_b
                have je := je.below ha je.lt
                have jo := jo.below ha jo.lt
                have M := M.on ha
                have P := P.on ha
                have Q := Q.on ha
                have r_a := r_a.on ha
                have t_a := t_a.on ha
                have k_a := k_a.below ha k_a.lt
                have r_b := r_b.on ha
                have t_b := t_b.on ha
                have hB21 := bltB hB20 hB20.size ha
                clear ha hB20
                refine (is_any w21 _ _ _ _ _ _ (oN (failL (Fa l) (Ed.e4 ⟨f, t, c, r, p0, p1, p2, p3, p4⟩) x) (Ed.e4 ⟨f, t, c, r, p0, p1, p2, p3, p4⟩) x) (oD (failL (Fa l) (Ed.e4 ⟨f, t, c, r, p0, p1, p2, p3, p4⟩) x) (Ed.e4 ⟨f, t, c, r, p0, p1, p2, p3, p4⟩)) r_a t_a HSF.out.2.1 (by omega) (by omega) 1 1 (by decide) (by decide) (by decide)).mono ?_
                rintro y w22 ⟨rfl, hb⟩
                have je := je.below hb je.lt
                have jo := jo.below hb jo.lt
                have M := M.on hb
                have P := P.on hb
                have Q := Q.on hb
                have r_a := r_a.on hb
                have t_a := t_a.on hb
                have k_a := k_a.below hb k_a.lt
                have r_b := r_b.on hb
                have t_b := t_b.on hb
                have k_b := k_b.below hb k_b.lt
                have hB22 := bltB hB21 hB21.size hb
                clear hb hB21
                rw [show decide ((oN (failL (Fa l) (Ed.e4 ⟨f, t, c, r, p0, p1, p2, p3, p4⟩) x) (Ed.e4 ⟨f, t, c, r, p0, p1, p2, p3, p4⟩) x) * 1 = 1 * (oD (failL (Fa l) (Ed.e4 ⟨f, t, c, r, p0, p1, p2, p3, p4⟩) x) (Ed.e4 ⟨f, t, c, r, p0, p1, p2, p3, p4⟩))) = true from decide_eq_true (by rw [Nat.mul_one, Nat.one_mul]; exact nought_nat ((Fa_good l).fail (Ed.e4 ⟨f, t, c, r, p0, p1, p2, p3, p4⟩) x) hok hx)]
                have q_k_b_0 := k_b.cell 0
                have q_k_b_1 := k_b.cell 1
                have q_k_b_l := k_b.lt
                go_wp2_with fail
                clear q_k_b_0 q_k_b_1 q_k_b_l
                refine (is_any w22 _ _ _ _ _ _ (oN (passL (Fa l) (Ed.e4 ⟨f, t, c, r, p0, p1, p2, p3, p4⟩) x) (Ed.e4 ⟨f, t, c, r, p0, p1, p2, p3, p4⟩) x) (oD (passL (Fa l) (Ed.e4 ⟨f, t, c, r, p0, p1, p2, p3, p4⟩) x) (Ed.e4 ⟨f, t, c, r, p0, p1, p2, p3, p4⟩)) r_b t_b HSP.out.2.1 (by omega) (by omega) 1 1 (by decide) (by decide) (by decide)).mono ?_
                rintro y w23 ⟨rfl, hb⟩
                have je := je.below hb je.lt
                have jo := jo.below hb jo.lt
                have M := M.on hb
                have P := P.on hb
                have Q := Q.on hb
                have r_a := r_a.on hb
                have t_a := t_a.on hb
                have k_a := k_a.below hb k_a.lt
                have r_b := r_b.on hb
                have t_b := t_b.on hb
                have k_b := k_b.below hb k_b.lt
                have hB23 := bltB hB22 hB22.size hb
                clear hb hB22
                rw [show decide ((oN (passL (Fa l) (Ed.e4 ⟨f, t, c, r, p0, p1, p2, p3, p4⟩) x) (Ed.e4 ⟨f, t, c, r, p0, p1, p2, p3, p4⟩) x) * 1 = 1 * (oD (passL (Fa l) (Ed.e4 ⟨f, t, c, r, p0, p1, p2, p3, p4⟩) x) (Ed.e4 ⟨f, t, c, r, p0, p1, p2, p3, p4⟩))) = true from decide_eq_true (by rw [Nat.mul_one, Nat.one_mul]; exact nought_nat ((Fa_good l).pass (Ed.e4 ⟨f, t, c, r, p0, p1, p2, p3, p4⟩) x) hok hx)]
                go_wp2_with fail
                go_ret
                exact ⟨rfl, hB23⟩
              · go_wp2_with fail
                refine (copy_any wr p b (2 * k) (Fa l) M).mono ?_
                rintro y w11 ⟨q2, b2, rfl, P, hp_P, hb_P, hb⟩
                have hne_P_M : b2 ≠ b := by have := M.lt; omega
                have hne_M_P : b ≠ b2 := fun e => hne_P_M e.symm
                have hb_P := Nat.le_trans hBr.size hb_P
                have je := je.below hb je.lt
                have jo := jo.below hb jo.lt
                have M := M.on hb
                have hB11 := bltB hBr hBr.size hb
                clear hb hBr
                go_wp2_with fail
                refine (copy_any w11 p b (2 * k) (Fa l) M).mono ?_
                rintro y w12 ⟨q3, b3, rfl, Q, hp_Q, hb_Q, hb⟩
                have hne_Q_M : b3 ≠ b := by have := M.lt; omega
                have hne_M_Q : b ≠ b3 := fun e => hne_Q_M e.symm
                have hne_Q_P : b3 ≠ b2 := by have := P.lt; omega
                have hne_P_Q : b2 ≠ b3 := fun e => hne_Q_P e.symm
                have hb_Q := Nat.le_trans hB11.size hb_Q
                have je := je.below hb je.lt
                have jo := jo.below hb jo.lt
                have M := M.on hb
                have P := P.on hb
                have hB12 := bltB hB11 hB11.size hb
                clear hb hB11
                have q_je_0 := je.cell 0
                have q_je_1 := je.cell 1
                have q_je_2 := je.cell 2
                have q_je_3 := je.cell 3
                have q_je_4 := je.cell 4
                have q_je_5 := je.cell 5
                have q_je_6 := je.cell 6
                have q_je_7 := je.cell 7
                have q_je_8 := je.cell 8
                have q_je_l := je.lt
                go_wp2_with fail
                clear q_je_0 q_je_1 q_je_2 q_je_3 q_je_4 q_je_5 q_je_6 q_je_7 q_je_8 q_je_l
                refine (failed_any w12 q2 b2 (2 * k) (Fa l) P (Fa_good l) (by omega) ⟨f, t, c, r, p0, p1, p2, p3, p4⟩ x).mono ?_
                rintro y w13 ⟨rfl, hM1, hg⟩
                have je := je.grownM P hg
                have jo := jo.grownM P hg
                have M := M.grownM P hg hne_M_P
                have Q := Q.grownM P hg hne_Q_P
                have hB13 := Below.grownM hB12 hg hB12.size hb_P
                have P := hM1
                clear hg hM1 hB12
                have q_je_0 := je.cell 0
                have q_je_1 := je.cell 1
                have q_je_2 := je.cell 2
                have q_je_3 := je.cell 3
                have q_je_4 := je.cell 4
                have q_je_5 := je.cell 5
                have q_je_6 := je.cell 6
                have q_je_7 := je.cell 7
                have q_je_8 := je.cell 8
                have q_je_l := je.lt
                go_wp2_with fail
                clear q_je_0 q_je_1 q_je_2 q_je_3 q_je_4 q_je_5 q_je_6 q_je_7 q_je_8 q_je_l
                refine (passed_any w13 q3 b3 (2 * k) (Fa l) Q (Fa_good l) (by omega) ⟨f, t, c, r, p0, p1, p2, p3, p4⟩ x).mono ?_
                rintro y w14 ⟨rfl, hM1, hg⟩
                have je := je.grownM Q hg
                have jo := jo.grownM Q hg
                have M := M.grownM Q hg hne_M_Q
                have P := P.grownM Q hg hne_P_Q
                have hB14 := Below.grownM hB13 hg hB13.size hb_Q
                have Q := hM1
                clear hg hM1 hB13
                have q_jo_0 := jo.cell 0
                have q_jo_1 := jo.cell 1
                have q_jo_2 := jo.cell 2
                have q_jo_3 := jo.cell 3
                have q_jo_4 := jo.cell 4
                have q_jo_5 := jo.cell 5
                have q_jo_6 := jo.cell 6
                have q_jo_7 := jo.cell 7
                have q_jo_8 := jo.cell 8
                have q_jo_l := jo.lt
                go_wp2_with fail
                clear q_jo_0 q_jo_1 q_jo_2 q_jo_3 q_jo_4 q_jo_5 q_jo_6 q_jo_7 q_jo_8 q_jo_l
                refine (bounds_any w14 p b (2 * k) (Fa l) M (Fa_good l) ⟨f, t2, c, r2, v0, v1, v2, v3, v4⟩).mono ?_
                rintro y w15 ⟨rfl, hb⟩
                have je := je.below hb je.lt
                have jo := jo.below hb jo.lt
                have M := M.on hb
                have P := P.on hb
                have Q := Q.on hb
                have hB15 := bltB hB14 hB14.size hb
                clear hb hB14
                obtain ⟨lo, hi, h1⟩ : ∃ y1 y2, bnd (Fa l) (Ed.e4 ⟨f, t2, c, r2, v0, v1, v2, v3, v4⟩) = (y1, y2) := ⟨_, _, rfl⟩
                rw [h1]
                have H1 := Lib.hid h1
                clear h1
                have q_jo_0 := jo.cell 0
                have q_jo_1 := jo.cell 1
                have q_jo_2 := jo.cell 2
                have q_jo_3 := jo.cell 3
                have q_jo_4 := jo.cell 4
                have q_jo_5 := jo.cell 5
                have q_jo_6 := jo.cell 6
                have q_jo_7 := jo.cell 7
                have q_jo_8 := jo.cell 8
                have q_jo_l := jo.lt
                go_wp2_with fail
                clear q_jo_0 q_jo_1 q_jo_2 q_jo_3 q_jo_4 q_jo_5 q_jo_6 q_jo_7 q_jo_8 q_jo_l
                refine (bounds_any w15 q2 b2 ((2 * k) + 1) (failL (Fa l) (Ed.e4 ⟨f, t, c, r, p0, p1, p2, p3, p4⟩) x) P (((Fa_good l) : Good (Fa l)).fail (Ed.e4 ⟨f, t, c, r, p0, p1, p2, p3, p4⟩) x) ⟨f, t2, c, r2, v0, v1, v2, v3, v4⟩).mono ?_
                rintro y w16 ⟨rfl, hb⟩
                have je := je.below hb je.lt
                have jo := jo.below hb jo.lt
                have M := M.on hb
                have P := P.on hb
                have Q := Q.on hb
                have hB16 := bltB hB15 hB15.size hb
                clear hb hB15
                obtain ⟨lo2, hi2, h2⟩ : ∃ y1 y2, bnd (failL (Fa l) (Ed.e4 ⟨f, t, c, r, p0, p1, p2, p3, p4⟩) x) (Ed.e4 ⟨f, t2, c, r2, v0, v1, v2, v3, v4⟩) = (y1, y2) := ⟨_, _, rfl⟩
                rw [h2]
                clear h2
                have q_jo_0 := jo.cell 0
                have q_jo_1 := jo.cell 1
                have q_jo_2 := jo.cell 2
                have q_jo_3 := jo.cell 3
                have q_jo_4 := jo.cell 4
                have q_jo_5 := jo.cell 5
                have q_jo_6 := jo.cell 6
                have q_jo_7 := jo.cell 7
                have q_jo_8 := jo.cell 8
                have q_jo_l := jo.lt
                go_wp2_with fail
                clear q_jo_0 q_jo_1 q_jo_2 q_jo_3 q_jo_4 q_jo_5 q_jo_6 q_jo_7 q_jo_8 q_jo_l
                refine (bounds_any w16 q3 b3 ((2 * k) + 1) (passL (Fa l) (Ed.e4 ⟨f, t, c, r, p0, p1, p2, p3, p4⟩) x) Q (((Fa_good l) : Good (Fa l)).pass (Ed.e4 ⟨f, t, c, r, p0, p1, p2, p3, p4⟩) x) ⟨f, t2, c, r2, v0, v1, v2, v3, v4⟩).mono ?_
                rintro y w17 ⟨rfl, hb⟩
                have je := je.below hb je.lt
                have jo := jo.below hb jo.lt
                have M := M.on hb
                have P := P.on hb
                have Q := Q.on hb
                have hB17 := bltB hB16 hB16.size hb
                clear hb hB16
                obtain ⟨lo3, hi3, h3⟩ : ∃ y1 y2, bnd (passL (Fa l) (Ed.e4 ⟨f, t, c, r, p0, p1, p2, p3, p4⟩) x) (Ed.e4 ⟨f, t2, c, r2, v0, v1, v2, v3, v4⟩) = (y1, y2) := ⟨_, _, rfl⟩
                rw [h3]
                clear h3
                have q_je_0 := je.cell 0
                have q_je_1 := je.cell 1
                have q_je_2 := je.cell 2
                have q_je_3 := je.cell 3
                have q_je_4 := je.cell 4
                have q_je_5 := je.cell 5
                have q_je_6 := je.cell 6
                have q_je_7 := je.cell 7
                have q_je_8 := je.cell 8
                have q_je_l := je.lt
                have q_jo_0 := jo.cell 0
                have q_jo_1 := jo.cell 1
                have q_jo_2 := jo.cell 2
                have q_jo_3 := jo.cell 3
                have q_jo_4 := jo.cell 4
                have q_jo_5 := jo.cell 5
                have q_jo_6 := jo.cell 6
                have q_jo_7 := jo.cell 7
                have q_jo_8 := jo.cell 8
                have q_jo_l := jo.lt
                go_wp2_with fail
                clear q_je_0 q_je_1 q_je_2 q_je_3 q_je_4 q_je_5 q_je_6 q_je_7 q_je_8 q_je_l q_jo_0 q_jo_1 q_jo_2 q_jo_3 q_jo_4 q_jo_5 q_jo_6 q_jo_7 q_jo_8 q_jo_l
                refine (odds_ok w17 q2 b2 ((2 * k) + 1) (failL (Fa l) (Ed.e4 ⟨f, t, c, r, p0, p1, p2, p3, p4⟩) x) P (((Fa_good l) : Good (Fa l)).fail (Ed.e4 ⟨f, t, c, r, p0, p1, p2, p3, p4⟩) x) ⟨f, t, c, r, p0, p1, p2, p3, p4⟩ x hok).mono ?_
                rintro y w18 ⟨A_a, n_a, c_a, B_a, m_a, d_a, rfl, r_a, t_a, l_a, hb⟩
                have je := je.below hb je.lt
                have jo := jo.below hb jo.lt
                have M := M.on hb
                have P := P.on hb
                have Q := Q.on hb
                have hB18 := bltB hB17 hB17.size hb
                clear hb hB17
                have q_je_0 := je.cell 0
                have q_je_1 := je.cell 1
                have q_je_2 := je.cell 2
                have q_je_3 := je.cell 3
                have q_je_4 := je.cell 4
                have q_je_5 := je.cell 5
                have q_je_6 := je.cell 6
                have q_je_7 := je.cell 7
                have q_je_8 := je.cell 8
                have q_je_l := je.lt
                go_wp2_with fail
                clear q_je_0 q_je_1 q_je_2 q_je_3 q_je_4 q_je_5 q_je_6 q_je_7 q_je_8 q_je_l
                obtain ⟨w19, hw19⟩ : ∃ W, W = w18.alloc (.cells #[.slice A_a n_a c_a, .slice B_a m_a d_a] 42) := ⟨_, rfl⟩
                obtain ⟨G_a, hG_a⟩ : ∃ G, w18.heap.size = G := ⟨_, rfl⟩
                have ha : Below w18.heap.size w18 w19 := by rw [hw19]; exact (Below.refl _ _).alloc (Nat.le_refl _) _
                have k_a : Blk w19 G_a 42 #[.slice A_a n_a c_a, .slice B_a m_a d_a] := by rw [hw19, ← hG_a]; exact Blk.new w18 _ _
                rw [← hw19]
                simp only [hG_a]
                clear hw19 hG_a
                have je := je.below ha je.lt
                have jo := jo.below ha jo.lt
                have M := M.on ha
                have P := P.on ha
                have Q := Q.on ha
                have r_a := r_a.on ha
                have t_a := t_a.on ha
                have hB19 := bltB hB18 hB18.size ha
                clear ha hB18
                refine (odds_ok w19 q3 b3 ((2 * k) + 1) (passL (Fa l) (Ed.e4 ⟨f, t, c, r, p0, p1, p2, p3, p4⟩) x) Q (((Fa_good l) : Good (Fa l)).pass (Ed.e4 ⟨f, t, c, r, p0, p1, p2, p3, p4⟩) x) ⟨f, t, c, r, p0, p1, p2, p3, p4⟩ x hok).mono ?_
                rintro y w20 ⟨A_b, n_b, c_b, B_b, m_b, d_b, rfl, r_b, t_b, l_b, hb⟩
                have je := je.below hb je.lt
                have jo := jo.below hb jo.lt
                have M := M.on hb
                have P := P.on hb
                have Q := Q.on hb
                have r_a := r_a.on hb
                have t_a := t_a.on hb
                have k_a := k_a.below hb k_a.lt
                have hB20 := bltB hB19 hB19.size hb
                clear hb hB19
                have hsF := odd_small ((Fa_good l).fail (Ed.e4 ⟨f, t, c, r, p0, p1, p2, p3, p4⟩) x) hok
                have hsP := odd_small ((Fa_good l).pass (Ed.e4 ⟨f, t, c, r, p0, p1, p2, p3, p4⟩) x) hok
                have HSF := Lib.hid hsF
                have HSP := Lib.hid hsP
                clear hsF hsP
                have q_je_0 := je.cell 0
                have q_je_1 := je.cell 1
                have q_je_2 := je.cell 2
                have q_je_3 := je.cell 3
                have q_je_4 := je.cell 4
                have q_je_5 := je.cell 5
                have q_je_6 := je.cell 6
                have q_je_7 := je.cell 7
                have q_je_8 := je.cell 8
                have q_je_l := je.lt
                go_wp2_with fail
                clear q_je_0 q_je_1 q_je_2 q_je_3 q_je_4 q_je_5 q_je_6 q_je_7 q_je_8 q_je_l
                obtain ⟨w21, hw21⟩ : ∃ W, W = w20.alloc (.cells #[.slice A_b n_b c_b, .slice B_b m_b d_b] 42) := ⟨_, rfl⟩
                obtain ⟨G_b, hG_b⟩ : ∃ G, w20.heap.size = G := ⟨_, rfl⟩
                have ha : Below w20.heap.size w20 w21 := by rw [hw21]; exact (Below.refl _ _).alloc (Nat.le_refl _) _
                have k_b : Blk w21 G_b 42 #[.slice A_b n_b c_b, .slice B_b m_b d_b] := by rw [hw21, ← hG_b]; exact Blk.new w20 _ _
                rw [← hw21]
                simp only [hG_b]
                clear hw21 hG_b
                have je := je.below ha je.lt
                have jo := jo.below ha jo.lt
                have M := M.on ha
                have P := P.on ha
                have Q := Q.on ha
                have r_a := r_a.on ha
                have t_a := t_a.on ha
                have k_a := k_a.below ha k_a.lt
                have r_b := r_b.on ha
                have t_b := t_b.on ha
                have hB21 := bltB hB20 hB20.size ha
                clear ha hB20
                have HS0 := Lib.hid (odd_small (Fa_good l) hok)
                refine (odds_ok w21 p b (2 * k) (Fa l) M (Fa_good l) ⟨f, t, c, r, p0, p1, p2, p3, p4⟩ x hok).mono ?_
                rintro y w22 ⟨A_d, n_d, c_d, B_d, m_d, d_d, rfl, r_d, t_d, l_d, hb⟩
                have je := je.below hb je.lt
                have jo := jo.below hb jo.lt
                have M := M.on hb
                have P := P.on hb
                have Q := Q.on hb
                have r_a := r_a.on hb
                have t_a := t_a.on hb
                have k_a := k_a.below hb k_a.lt
                have r_b := r_b.on hb
                have t_b := t_b.on hb
                have k_b := k_b.below hb k_b.lt
                have hB22 := bltB hB21 hB21.size hb
                clear hb hB21
                go_wp2_with fail
                obtain ⟨w23, hw23⟩ : ∃ W, W = w22.alloc (.cells #[.slice A_d n_d c_d, .slice B_d m_d d_d] 42) := ⟨_, rfl⟩
                obtain ⟨G_d, hG_d⟩ : ∃ G, w22.heap.size = G := ⟨_, rfl⟩
                have ha : Below w22.heap.size w22 w23 := by rw [hw23]; exact (Below.refl _ _).alloc (Nat.le_refl _) _
                have k_d : Blk w23 G_d 42 #[.slice A_d n_d c_d, .slice B_d m_d d_d] := by rw [hw23, ← hG_d]; exact Blk.new w22 _ _
                rw [← hw23]
                simp only [hG_d]
                clear hw23 hG_d
                have je := je.below ha je.lt
                have jo := jo.below ha jo.lt
                have M := M.on ha
                have P := P.on ha
                have Q := Q.on ha
                have r_a := r_a.on ha
                have t_a := t_a.on ha
                have k_a := k_a.below ha k_a.lt
                have r_b := r_b.on ha
                have t_b := t_b.on ha
                have k_b := k_b.below ha k_b.lt
                have r_d := r_d.on ha
                have t_d := t_d.on ha
                have hB23 := bltB hB22 hB22.size ha
                clear ha hB22
                refine (fof_any w23 1 1 (by decide) (by decide)).mono ?_
                rintro y w24 ⟨A_u, n_u, c_u, B_u, m_u, d_u, rfl, r_u, t_u, hb⟩
                have je := je.below hb je.lt
                have jo := jo.below hb jo.lt
                have M := M.on hb
                have P := P.on hb
                have Q := Q.on hb
                have r_a := r_a.on hb
                have t_a := t_a.on hb
                have k_a := k_a.below hb k_a.lt
                have r_b := r_b.on hb
                have t_b := t_b.on hb
                have k_b := k_b.below hb k_b.lt
                have r_d := r_d.on hb
                have t_d := t_d.on hb
                have k_d := k_d.below hb k_d.lt
                have hB24 := bltB hB23 hB23.size hb
                clear hb hB23
                rw [if_neg (by decide)] at r_u t_u
                have l_u : n_u ≤ 2 := rd_two r_u (by decide)
                have l_v : m_u ≤ 2 := rd_two t_u (by decide)
                have q_k_a_0 := k_a.cell 0
                have q_k_a_1 := k_a.cell 1
                have q_k_a_l := k_a.lt
                go_wp2_with fail
                clear q_k_a_0 q_k_a_1 q_k_a_l
                obtain ⟨w25, hw25⟩ : ∃ W, W = w24.alloc (.cells #[.slice A_u n_u c_u, .slice B_u m_u d_u] 42) := ⟨_, rfl⟩
                obtain ⟨G_u, hG_u⟩ : ∃ G, w24.heap.size = G := ⟨_, rfl⟩
                have ha : Below w24.heap.size w24 w25 := by rw [hw25]; exact (Below.refl _ _).alloc (Nat.le_refl _) _
                have k_u : Blk w25 G_u 42 #[.slice A_u n_u c_u, .slice B_u m_u d_u] := by rw [hw25, ← hG_u]; exact Blk.new w24 _ _
                rw [← hw25]
                simp only [hG_u]
                clear hw25 hG_u
                have je := je.below ha je.lt
                have jo := jo.below ha jo.lt
                have M := M.on ha
                have P := P.on ha
                have Q := Q.on ha
                have r_a := r_a.on ha
                have t_a := t_a.on ha
                have k_a := k_a.below ha k_a.lt
                have r_b := r_b.on ha
                have t_b := t_b.on ha
                have k_b := k_b.below ha k_b.lt
                have r_d := r_d.on ha
                have t_d := t_d.on ha
                have k_d := k_d.below ha k_d.lt
                have r_u := r_u.on ha
                have t_u := t_u.on ha
                have hB25 := bltB hB24 hB24.size ha
                clear ha hB24
                refine (is_any w25 _ _ _ _ _ _ (oN (failL (Fa l) (Ed.e4 ⟨f, t, c, r, p0, p1, p2, p3, p4⟩) x) (Ed.e4 ⟨f, t, c, r, p0, p1, p2, p3, p4⟩) x) (oD (failL (Fa l) (Ed.e4 ⟨f, t, c, r, p0, p1, p2, p3, p4⟩) x) (Ed.e4 ⟨f, t, c, r, p0, p1, p2, p3, p4⟩)) r_a t_a HSF.out.2.1 (by omega) (by omega) 0 1 (by decide) (by decide) (by decide)).mono ?_
                rintro y w26 ⟨rfl, hb⟩
                have je := je.below hb je.lt
                have jo := jo.below hb jo.lt
                have M := M.on hb
                have P := P.on hb
                have Q := Q.on hb
                have r_a := r_a.on hb
                have t_a := t_a.on hb
                have k_a := k_a.below hb k_a.lt
                have r_b := r_b.on hb
                have t_b := t_b.on hb
                have k_b := k_b.below hb k_b.lt
                have r_d := r_d.on hb
                have t_d := t_d.on hb
                have k_d := k_d.below hb k_d.lt
                have r_u := r_u.on hb
                have t_u := t_u.on hb
                have k_u := k_u.below hb k_u.lt
                have hB26 := bltB hB25 hB25.size hb
                clear hb hB25
                rw [show decide ((oN (failL (Fa l) (Ed.e4 ⟨f, t, c, r, p0, p1, p2, p3, p4⟩) x) (Ed.e4 ⟨f, t, c, r, p0, p1, p2, p3, p4⟩) x) * 1 = 0 * (oD (failL (Fa l) (Ed.e4 ⟨f, t, c, r, p0, p1, p2, p3, p4⟩) x) (Ed.e4 ⟨f, t, c, r, p0, p1, p2, p3, p4⟩))) = true from decide_eq_true (by rw [fail_nat (Fa_good l) hok (by omega)]; simp)]
                have q_k_b_0 := k_b.cell 0
                have q_k_b_1 := k_b.cell 1
                have q_k_b_l := k_b.lt
                go_wp2_with fail
                clear q_k_b_0 q_k_b_1 q_k_b_l
                refine (is_any w26 _ _ _ _ _ _ (oN (passL (Fa l) (Ed.e4 ⟨f, t, c, r, p0, p1, p2, p3, p4⟩) x) (Ed.e4 ⟨f, t, c, r, p0, p1, p2, p3, p4⟩) x) (oD (passL (Fa l) (Ed.e4 ⟨f, t, c, r, p0, p1, p2, p3, p4⟩) x) (Ed.e4 ⟨f, t, c, r, p0, p1, p2, p3, p4⟩)) r_b t_b HSP.out.2.1 (by omega) (by omega) 1 1 (by decide) (by decide) (by decide)).mono ?_
                rintro y w27 ⟨rfl, hb⟩
                have je := je.below hb je.lt
                have jo := jo.below hb jo.lt
                have M := M.on hb
                have P := P.on hb
                have Q := Q.on hb
                have r_a := r_a.on hb
                have t_a := t_a.on hb
                have k_a := k_a.below hb k_a.lt
                have r_b := r_b.on hb
                have t_b := t_b.on hb
                have k_b := k_b.below hb k_b.lt
                have r_d := r_d.on hb
                have t_d := t_d.on hb
                have k_d := k_d.below hb k_d.lt
                have r_u := r_u.on hb
                have t_u := t_u.on hb
                have k_u := k_u.below hb k_u.lt
                have hB27 := bltB hB26 hB26.size hb
                clear hb hB26
                rw [show decide ((oN (passL (Fa l) (Ed.e4 ⟨f, t, c, r, p0, p1, p2, p3, p4⟩) x) (Ed.e4 ⟨f, t, c, r, p0, p1, p2, p3, p4⟩) x) * 1 = 1 * (oD (passL (Fa l) (Ed.e4 ⟨f, t, c, r, p0, p1, p2, p3, p4⟩) x) (Ed.e4 ⟨f, t, c, r, p0, p1, p2, p3, p4⟩))) = true from decide_eq_true (by rw [Nat.mul_one, Nat.one_mul]; exact pass_nat (Fa_good l) hok (by omega))]
                have q_k_d_0 := k_d.cell 0
                have q_k_d_1 := k_d.cell 1
                have q_k_d_l := k_d.lt
                go_wp2_with fail
                clear q_k_d_0 q_k_d_1 q_k_d_l
                refine (fright_any _ _ _ _ _ _ _ _ _ r_d t_d (by omega) (by omega)).mono ?_
                rintro y w28 ⟨rfl, hb⟩
                have je := je.below hb je.lt
                have jo := jo.below hb jo.lt
                have M := M.on hb
                have P := P.on hb
                have Q := Q.on hb
                have r_a := r_a.on hb
                have t_a := t_a.on hb
                have k_a := k_a.below hb k_a.lt
                have r_b := r_b.on hb
                have t_b := t_b.on hb
                have k_b := k_b.below hb k_b.lt
                have r_d := r_d.on hb
                have t_d := t_d.on hb
                have k_d := k_d.below hb k_d.lt
                have r_u := r_u.on hb
                have t_u := t_u.on hb
                have k_u := k_u.below hb k_u.lt
                have hB28 := bltB hB27 hB27.size hb
                clear hb hB27
                rw [frR_low HS0.out.2.1]
                have q_k_d_0 := k_d.cell 0
                have q_k_d_1 := k_d.cell 1
                have q_k_d_l := k_d.lt
                have q_k_u_0 := k_u.cell 0
                have q_k_u_1 := k_u.cell 1
                have q_k_u_l := k_u.lt
                go_wp2_with fail
                clear q_k_d_0 q_k_d_1 q_k_d_l q_k_u_0 q_k_u_1 q_k_u_l
                refine (fcmp_any _ _ _ _ _ _ _ _ _ _ _ _ _ _ _ _ _ r_d t_d r_u t_u (by omega) (by omega) (by omega) (by omega)).mono ?_
                rintro y w29 ⟨rfl, hb⟩
                have je := je.below hb je.lt
                have jo := jo.below hb jo.lt
                have M := M.on hb
                have P := P.on hb
                have Q := Q.on hb
                have r_a := r_a.on hb
                have t_a := t_a.on hb
                have k_a := k_a.below hb k_a.lt
                have r_b := r_b.on hb
                have t_b := t_b.on hb
                have k_b := k_b.below hb k_b.lt
                have r_d := r_d.on hb
                have t_d := t_d.on hb
                have k_d := k_d.below hb k_d.lt
                have r_u := r_u.on hb
                have t_u := t_u.on hb
                have k_u := k_u.below hb k_u.lt
                have hB29 := bltB hB28 hB28.size hb
                clear hb hB28
                rw [cmp_low HS0.out.2.1 (by decide)]
                obtain ⟨z1, hz1⟩ : ∃ z, cmpI (((oN (Fa l) (Ed.e4 ⟨f, t, c, r, p0, p1, p2, p3, p4⟩) x) * 1 : Nat) : Int) ((1 * (oD (Fa l) (Ed.e4 ⟨f, t, c, r, p0, p1, p2, p3, p4⟩)) : Nat) : Int) = z := ⟨_, rfl⟩
                have hz0 : z1 ≤ 0 := by
                  have h1 := HS0.out.1
                  rw [← hz1, cmpI_nat]
                  split
                  · omega
                  · split <;> omega
                rw [hz1]
                clear hz1
                go_wp2_with fail
                go_ret
                exact ⟨rfl, hB29⟩
          · have hne : Hid (¬ ((Ed.e4 ⟨f, t2, c2, r2, v0, v1, v2, v3, v4⟩).f = (Ed.e4 ⟨f, t, c, r, p0, p1, p2, p3, p4⟩).f ∧ (Ed.e4 ⟨f, t2, c2, r2, v0, v1, v2, v3, v4⟩).c = (Ed.e4 ⟨f, t, c, r, p0, p1, p2, p3, p4⟩).c)) := Lib.hid (fun h => hc h.2)
            rcases hok : oddOk (Ed.e4 ⟨f, t, c, r, p0, p1, p2, p3, p4⟩) x with _ | _
            · go_wp2_with fail
              refine (copy_any wr p b (2 * k) (Fa l) M).mono ?_
              rintro y w11 ⟨q2, b2, rfl, P, hp_P, hb_P, hb⟩
              have hne_P_M : b2 ≠ b := by have := M.lt; omega
              have hne_M_P : b ≠ b2 := fun e => hne_P_M e.symm
              have hb_P := Nat.le_trans hBr.size hb_P
              have je := je.below hb je.lt
              have jo := jo.below hb jo.lt
              have M := M.on hb
              have hB11 := bltB hBr hBr.size hb
              clear hb hBr
              go_wp2_with fail
              refine (copy_any w11 p b (2 * k) (Fa l) M).mono ?_
              rintro y w12 ⟨q3, b3, rfl, Q, hp_Q, hb_Q, hb⟩
              have hne_Q_M : b3 ≠ b := by have := M.lt; omega
              have hne_M_Q : b ≠ b3 := fun e => hne_Q_M e.symm
              have hne_Q_P : b3 ≠ b2 := by have := P.lt; omega
              have hne_P_Q : b2 ≠ b3 := fun e => hne_Q_P e.symm
              have hb_Q := Nat.le_trans hB11.size hb_Q
              have je := je.below hb je.lt
              have jo := jo.below hb jo.lt
              have M := M.on hb
              have P := P.on hb
              have hB12 := bltB hB11 hB11.size hb
              clear hb hB11
              have q_je_0 := je.cell 0
              have q_je_1 := je.cell 1
              have q_je_2 := je.cell 2
              have q_je_3 := je.cell 3
              have q_je_4 := je.cell 4
              have q_je_5 := je.cell 5
              have q_je_6 := je.cell 6
              have q_je_7 := je.cell 7
              have q_je_8 := je.cell 8
              have q_je_l := je.lt
              go_wp2_with fail
              clear q_je_0 q_je_1 q_je_2 q_je_3 q_je_4 q_je_5 q_je_6 q_je_7 q_je_8 q_je_l
              refine (failed_any w12 q2 b2 (2 * k) (Fa l) P (Fa_good l) (by omega) ⟨f, t, c, r, p0, p1, p2, p3, p4⟩ x).mono ?_
              rintro y w13 ⟨rfl, hM1, hg⟩
              have je := je.grownM P hg
              have jo := jo.grownM P hg
              have M := M.grownM P hg hne_M_P
              have Q := Q.grownM P hg hne_Q_P
              have hB13 := Below.grownM hB12 hg hB12.size hb_P
              have P := hM1
              clear hg hM1 hB12
              have q_je_0 := je.cell 0
              have q_je_1 := je.cell 1
              have q_je_2 := je.cell 2
              have q_je_3 := je.cell 3
              have q_je_4 := je.cell 4
              have q_je_5 := je.cell 5
              have q_je_6 := je.cell 6
              have q_je_7 := je.cell 7
              have q_je_8 := je.cell 8
              have q_je_l := je.lt
              go_wp2_with fail
              clear q_je_0 q_je_1 q_je_2 q_je_3 q_je_4 q_je_5 q_je_6 q_je_7 q_je_8 q_je_l
              refine (passed_any w13 q3 b3 (2 * k) (Fa l) Q (Fa_good l) (by omega) ⟨f, t, c, r, p0, p1, p2, p3, p4⟩ x).mono ?_
              rintro y w14 ⟨rfl, hM1, hg⟩
              have je := je.grownM Q hg
              have jo := jo.grownM Q hg
              have M := M.grownM Q hg hne_M_Q
              have P := P.grownM Q hg hne_P_Q
              have hB14 := Below.grownM hB13 hg hB13.size hb_Q
              have Q := hM1
              clear hg hM1 hB13
              have q_jo_0 := jo.cell 0
              have q_jo_1 := jo.cell 1
              have q_jo_2 := jo.cell 2
              have q_jo_3 := jo.cell 3
              have q_jo_4 := jo.cell 4
              have q_jo_5 := jo.cell 5
              have q_jo_6 := jo.cell 6
              have q_jo_7 := jo.cell 7
              have q_jo_8 := jo.cell 8
              have q_jo_l := jo.lt
              go_wp2_with fail
              clear q_jo_0 q_jo_1 q_jo_2 q_jo_3 q_jo_4 q_jo_5 q_jo_6 q_jo_7 q_jo_8 q_jo_l
              refine (bounds_any w14 p b (2 * k) (Fa l) M (Fa_good l) ⟨f, t2, c2, r2, v0, v1, v2, v3, v4⟩).mono ?_
              rintro y w15 ⟨rfl, hb⟩
              have je := je.below hb je.lt
              have jo := jo.below hb jo.lt
              have M := M.on hb
              have P := P.on hb
              have Q := Q.on hb
              have hB15 := bltB hB14 hB14.size hb
              clear hb hB14
              obtain ⟨lo, hi, h1⟩ : ∃ y1 y2, bnd (Fa l) (Ed.e4 ⟨f, t2, c2, r2, v0, v1, v2, v3, v4⟩) = (y1, y2) := ⟨_, _, rfl⟩
              rw [h1]
              have H1 := Lib.hid h1
              clear h1
              have q_jo_0 := jo.cell 0
              have q_jo_1 := jo.cell 1
              have q_jo_2 := jo.cell 2
              have q_jo_3 := jo.cell 3
              have q_jo_4 := jo.cell 4
              have q_jo_5 := jo.cell 5
              have q_jo_6 := jo.cell 6
              have q_jo_7 := jo.cell 7
              have q_jo_8 := jo.cell 8
              have q_jo_l := jo.lt
              go_wp2_with fail
              clear q_jo_0 q_jo_1 q_jo_2 q_jo_3 q_jo_4 q_jo_5 q_jo_6 q_jo_7 q_jo_8 q_jo_l
              refine (bounds_any w15 q2 b2 ((2 * k) + 1) (failL (Fa l) (Ed.e4 ⟨f, t, c, r, p0, p1, p2, p3, p4⟩) x) P (((Fa_good l) : Good (Fa l)).fail (Ed.e4 ⟨f, t, c, r, p0, p1, p2, p3, p4⟩) x) ⟨f, t2, c2, r2, v0, v1, v2, v3, v4⟩).mono ?_
              rintro y w16 ⟨rfl, hb⟩
              have je := je.below hb je.lt
              have jo := jo.below hb jo.lt
              have M := M.on hb
              have P := P.on hb
              have Q := Q.on hb
              have hB16 := bltB hB15 hB15.size hb
              clear hb hB15
              rw [bnd_fail hne.out, H1.out]
              have q_jo_0 := jo.cell 0
              have q_jo_1 := jo.cell 1
              have q_jo_2 := jo.cell 2
              have q_jo_3 := jo.cell 3
              have q_jo_4 := jo.cell 4
              have q_jo_5 := jo.cell 5
              have q_jo_6 := jo.cell 6
              have q_jo_7 := jo.cell 7
              have q_jo_8 := jo.cell 8
              have q_jo_l := jo.lt
              go_wp2_with fail
              clear q_jo_0 q_jo_1 q_jo_2 q_jo_3 q_jo_4 q_jo_5 q_jo_6 q_jo_7 q_jo_8 q_jo_l
              refine (bounds_any w16 q3 b3 ((2 * k) + 1) (passL (Fa l) (Ed.e4 ⟨f, t, c, r, p0, p1, p2, p3, p4⟩) x) Q (((Fa_good l) : Good (Fa l)).pass (Ed.e4 ⟨f, t, c, r, p0, p1, p2, p3, p4⟩) x) ⟨f, t2, c2, r2, v0, v1, v2, v3, v4⟩).mono ?_
              rintro y w17 ⟨rfl, hb⟩
              have je := je.below hb je.lt
              have jo := jo.below hb jo.lt
              have M := M.on hb
              have P := P.on hb
              have Q := Q.on hb
              have hB17 := bltB hB16 hB16.size hb
              clear hb hB16
              rw [bnd_pass hne.out, H1.out]
              have q_je_0 := je.cell 0
              have q_je_1 := je.cell 1
              have q_je_2 := je.cell 2
              have q_je_3 := je.cell 3
              have q_je_4 := je.cell 4
              have q_je_5 := je.cell 5
              have q_je_6 := je.cell 6
              have q_je_7 := je.cell 7
              have q_je_8 := je.cell 8
              have q_je_l := je.lt
              have q_jo_0 := jo.cell 0
              have q_jo_1 := jo.cell 1
              have q_jo_2 := jo.cell 2
              have q_jo_3 := jo.cell 3
              have q_jo_4 := jo.cell 4
              have q_jo_5 := jo.cell 5
              have q_jo_6 := jo.cell 6
              have q_jo_7 := jo.cell 7
              have q_jo_8 := jo.cell 8
              have q_jo_l := jo.lt
              go_wp2_with fail
              clear q_je_0 q_je_1 q_je_2 q_je_3 q_je_4 q_je_5 q_je_6 q_je_7 q_je_8 q_je_l q_jo_0 q_jo_1 q_jo_2 q_jo_3 q_jo_4 q_jo_5 q_jo_6 q_jo_7 q_jo_8 q_jo_l
              refine (odds_no w17 q2 b2 ((2 * k) + 1) (failL (Fa l) (Ed.e4 ⟨f, t, c, r, p0, p1, p2, p3, p4⟩) x) P (((Fa_good l) : Good (Fa l)).fail (Ed.e4 ⟨f, t, c, r, p0, p1, p2, p3, p4⟩) x) ⟨f, t, c, r, p0, p1, p2, p3, p4⟩ x hok).mono ?_
              rintro y w18 ⟨A_a, n_a, c_a, B_a, m_a, d_a, rfl, r_a, t_a, l_a, hb⟩
              have je := je.below hb je.lt
              have jo := jo.below hb jo.lt
              have M := M.on hb
              have P := P.on hb
              have Q := Q.on hb
              have hB18 := bltB hB17 hB17.size hb
              clear hb hB17
              have q_je_0 := je.cell 0
              have q_je_1 := je.cell 1
              have q_je_2 := je.cell 2
              have q_je_3 := je.cell 3
              have q_je_4 := je.cell 4
              have q_je_5 := je.cell 5
              have q_je_6 := je.cell 6
              have q_je_7 := je.cell 7
              have q_je_8 := je.cell 8
              have q_je_l := je.lt
              go_wp2_with fail
              clear q_je_0 q_je_1 q_je_2 q_je_3 q_je_4 q_je_5 q_je_6 q_je_7 q_je_8 q_je_l
              obtain ⟨w19, hw19⟩ : ∃ W, W = w18.alloc (.cells #[.slice A_a n_a c_a, .slice B_a m_a d_a] 42) := ⟨_, rfl⟩
              obtain ⟨G_a, hG_a⟩ : ∃ G, w18.heap.size = G := ⟨_, rfl⟩
              have ha : Below w18.heap.size w18 w19 := by rw [hw19]; exact (Below.refl _ _).alloc (Nat.le_refl _) _
              have k_a : Blk w19 G_a 42 #[.slice A_a n_a c_a, .slice B_a m_a d_a] := by rw [hw19, ← hG_a]; exact Blk.new w18 _ _
              rw [← hw19]
              simp only [hG_a]
              clear hw19 hG_a
              have je := je.below ha je.lt
              have jo := jo.below ha jo.lt
              have M := M.on ha
              have P := P.on ha
              have Q := Q.on ha
              have r_a := r_a.on ha
              have t_a := t_a.on ha
              have hB19 := bltB hB18 hB18.size ha
              clear ha hB18
              refine (odds_no w19 q3 b3 ((2 * k) + 1) (passL (Fa l) (Ed.e4 ⟨f, t, c, r, p0, p1, p2, p3, p4⟩) x) Q (((Fa_good l) : Good (Fa l)).pass (Ed.e4 ⟨f, t, c, r, p0, p1, p2, p3, p4⟩) x) ⟨f, t, c, r, p0, p1, p2, p3, p4⟩ x hok).mono ?_
              rintro y w20 ⟨A_b, n_b, c_b, B_b, m_b, d_b, rfl, r_b, t_b, l_b, hb⟩
              have je := je.below hb je.lt
              have jo := jo.below hb jo.lt
              have M := M.on hb
              have P := P.on hb
              have Q := Q.on hb
              have r_a := r_a.on hb
              have t_a := t_a.on hb
              have k_a := k_a.below hb k_a.lt
              have hB20 := bltB hB19 hB19.size hb
              clear hb hB19
              go_wp2_with fail
              go_ret
              exact ⟨rfl, hB20.alloc hB20.size _⟩
            · by_cases hx : x < 1
              · go_wp2_with fail
                refine (copy_any wr p b (2 * k) (Fa l) M).mono ?_
                rintro y w11 ⟨q2, b2, rfl, P, hp_P, hb_P, hb⟩
                have hne_P_M : b2 ≠ b := by have := M.lt; omega
                have hne_M_P : b ≠ b2 := fun e => hne_P_M e.symm
                have hb_P := Nat.le_trans hBr.size hb_P
                have je := je.below hb je.lt
                have jo := jo.below hb jo.lt
                have M := M.on hb
                have hB11 := bltB hBr hBr.size hb
                clear hb hBr
                go_wp2_with fail
                refine (copy_any w11 p b (2 * k) (Fa l) M).mono ?_
                rintro y w12 ⟨q3, b3, rfl, Q, hp_Q, hb_Q, hb⟩
                have hne_Q_M : b3 ≠ b := by have := M.lt; omega
                have hne_M_Q : b ≠ b3 := fun e => hne_Q_M e.symm
                have hne_Q_P : b3 ≠ b2 := by have := P.lt; omega
                have hne_P_Q : b2 ≠ b3 := fun e => hne_Q_P e.symm
                have hb_Q := Nat.le_trans hB11.size hb_Q
                have je := je.below hb je.lt
                have jo := jo.below hb jo.lt
                have M := M.on hb
                have P := P.on hb
                have hB12 := bltB hB11 hB11.size hb
                clear hb hB11
                have q_je_0 := je.cell 0
                have q_je_1 := je.cell 1
                have q_je_2 := je.cell 2
                have q_je_3 := je.cell 3
                have q_je_4 := je.cell 4
                have q_je_5 := je.cell 5
                have q_je_6 := je.cell 6
                have q_je_7 := je.cell 7
                have q_je_8 := je.cell 8
                have q_je_l := je.lt
                go_wp2_with fail
                clear q_je_0 q_je_1 q_je_2 q_je_3 q_je_4 q_je_5 q_je_6 q_je_7 q_je_8 q_je_l
                refine (failed_any w12 q2 b2 (2 * k) (Fa l) P (Fa_good l) (by omega) ⟨f, t, c, r, p0, p1, p2, p3, p4⟩ x).mono ?_
                rintro y w13 ⟨rfl, hM1, hg⟩
                have je := je.grownM P hg
                have jo := jo.grownM P hg
                have M := M.grownM P hg hne_M_P
                have Q := Q.grownM P hg hne_Q_P
                have hB13 := Below.grownM hB12 hg hB12.size hb_P
                have P := hM1
                clear hg hM1 hB12
                have q_je_0 := je.cell 0
                have q_je_1 := je.cell 1
                have q_je_2 := je.cell 2
                have q_je_3 := je.cell 3
                have q_je_4 := je.cell 4
                have q_je_5 := je.cell 5
                have q_je_6 := je.cell 6
                have q_je_7 := je.cell 7
                have q_je_8 := je.cell 8
                have q_je_l := je.lt
                go_wp2_with fail
                clear q_je_0 q_je_1 q_je_2 q_je_3 q_je_4 q_je_5 q_je_6 q_je_7 q_je_8 q_je_l
                refine (passed_any w13 q3 b3 (2 * k) (Fa l) Q (Fa_good l) (by omega) ⟨f, t, c, r, p0, p1, p2, p3, p4⟩ x).mono ?_
                rintro y w14 ⟨rfl, hM1, hg⟩
                have je := je.grownM Q hg
                have jo := jo.grownM Q hg
                have M := M.grownM Q hg hne_M_Q
                have P := P.grownM Q hg hne_P_Q
                have hB14 := Below.grownM hB13 hg hB13.size hb_Q
                have Q := hM1
                clear hg hM1 hB13
                have q_jo_0 := jo.cell 0
                have q_jo_1 := jo.cell 1
                have q_jo_2 := jo.cell 2
                have q_jo_3 := jo.cell 3
                have q_jo_4 := jo.cell 4
                have q_jo_5 := jo.cell 5
                have q_jo_6 := jo.cell 6
                have q_jo_7 := jo.cell 7
                have q_jo_8 := jo.cell 8
                have q_jo_l := jo.lt
                go_wp2_with fail
                clear q_jo_0 q_jo_1 q_jo_2 q_jo_3 q_jo_4 q_jo_5 q_jo_6 q_jo_7 q_jo_8 q_jo_l
                refine (bounds_any w14 p b (2 * k) (Fa l) M (Fa_good l) ⟨f, t2, c2, r2, v0, v1, v2, v3, v4⟩).mono ?_
                rintro y w15 ⟨rfl, hb⟩
                have je := je.below hb je.lt
                have jo := jo.below hb jo.lt
                have M := M.on hb
                have P := P.on hb
                have Q := Q.on hb
                have hB15 := bltB hB14 hB14.size hb
                clear hb hB14
                obtain ⟨lo, hi, h1⟩ : ∃ y1 y2, bnd (Fa l) (Ed.e4 ⟨f, t2, c2, r2, v0, v1, v2, v3, v4⟩) = (y1, y2) := ⟨_, _, rfl⟩
                rw [h1]
                have H1 := Lib.hid h1
                clear h1
                have q_jo_0 := jo.cell 0
                have q_jo_1 := jo.cell 1
                have q_jo_2 := jo.cell 2
                have q_jo_3 := jo.cell 3
                have q_jo_4 := jo.cell 4
                have q_jo_5 := jo.cell 5
                have q_jo_6 := jo.cell 6
                have q_jo_7 := jo.cell 7
                have q_jo_8 := jo.cell 8
                have q_jo_l := jo.lt
                go_wp2_with fail
                clear q_jo_0 q_jo_1 q_jo_2 q_jo_3 q_jo_4 q_jo_5 q_jo_6 q_jo_7 q_jo_8 q_jo_l
                refine (bounds_any w15 q2 b2 ((2 * k) + 1) (failL (Fa l) (Ed.e4 ⟨f, t, c, r, p0, p1, p2, p3, p4⟩) x) P (((Fa_good l) : Good (Fa l)).fail (Ed.e4 ⟨f, t, c, r, p0, p1, p2, p3, p4⟩) x) ⟨f, t2, c2, r2, v0, v1, v2, v3, v4⟩).mono ?_
                rintro y w16 ⟨rfl, hb⟩
                have je := je.below hb je.lt
                have jo := jo.below hb jo.lt
                have M := M.on hb
                have P := P.on hb
                have Q := Q.on hb
                have hB16 := bltB hB15 hB15.size hb
                clear hb hB15
                rw [bnd_fail hne.out, H1.out]
                have q_jo_0 := jo.cell 0
                have q_jo_1 := jo.cell 1
                have q_jo_2 := jo.cell 2
                have q_jo_3 := jo.cell 3
                have q_jo_4 := jo.cell 4
                have q_jo_5 := jo.cell 5
                have q_jo_6 := jo.cell 6
                have q_jo_7 := jo.cell 7
                have q_jo_8 := jo.cell 8
                have q_jo_l := jo.lt
                go_wp2_with fail
                clear q_jo_0 q_jo_1 q_jo_2 q_jo_3 q_jo_4 q_jo_5 q_jo_6 q_jo_7 q_jo_8 q_jo_l
                refine (bounds_any w16 q3 b3 ((2 * k) + 1) (passL (Fa l) (Ed.e4 ⟨f, t, c, r, p0, p1, p2, p3, p4⟩) x) Q (((Fa_good l) : Good (Fa l)).pass (Ed.e4 ⟨f, t, c, r, p0, p1, p2, p3, p4⟩) x) ⟨f, t2, c2, r2, v0, v1, v2, v3, v4⟩).mono ?_
                rintro y w17 ⟨rfl, hb⟩
                have je := je.below hb je.lt
                have jo := jo.below hb jo.lt
                have M := M.on hb
                have P := P.on hb
                have Q := Q.on hb
                have hB17 := bltB hB16 hB16.size hb
                clear hb hB16
                rw [bnd_pass hne.out, H1.out]
                have q_je_0 := je.cell 0
                have q_je_1 := je.cell 1
                have q_je_2 := je.cell 2
                have q_je_3 := je.cell 3
                have q_je_4 := je.cell 4
                have q_je_5 := je.cell 5
                have q_je_6 := je.cell 6
                have q_je_7 := je.cell 7
                have q_je_8 := je.cell 8
                have q_je_l := je.lt
                have q_jo_0 := jo.cell 0
                have q_jo_1 := jo.cell 1
                have q_jo_2 := jo.cell 2
                have q_jo_3 := jo.cell 3
                have q_jo_4 := jo.cell 4
                have q_jo_5 := jo.cell 5
                have q_jo_6 := jo.cell 6
                have q_jo_7 := jo.cell 7
                have q_jo_8 := jo.cell 8
                have q_jo_l := jo.lt
                go_wp2_with fail
                clear q_je_0 q_je_1 q_je_2 q_je_3 q_je_4 q_je_5 q_je_6 q_je_7 q_je_8 q_je_l q_jo_0 q_jo_1 q_jo_2 q_jo_3 q_jo_4 q_jo_5 q_jo_6 q_jo_7 q_jo_8 q_jo_l
                refine (odds_ok w17 q2 b2 ((2 * k) + 1) (failL (Fa l) (Ed.e4 ⟨f, t, c, r, p0, p1, p2, p3, p4⟩) x) P (((Fa_good l) : Good (Fa l)).fail (Ed.e4 ⟨f, t, c, r, p0, p1, p2, p3, p4⟩) x) ⟨f, t, c, r, p0, p1, p2, p3, p4⟩ x hok).mono ?_
                rintro y w18 ⟨A_a, n_a, c_a, B_a, m_a, d_a, rfl, r_a, t_a, l_a, hb⟩
                have je := je.below hb je.lt
                have jo := jo.below hb jo.lt
                have M := M.on hb
                have P := P.on hb
                have Q := Q.on hb
                have hB18 := bltB hB17 hB17.size hb
                clear hb hB17
                have q_je_0 := je.cell 0
                have q_je_1 := je.cell 1
                have q_je_2 := je.cell 2
                have q_je_3 := je.cell 3
                have q_je_4 := je.cell 4
                have q_je_5 := je.cell 5
                have q_je_6 := je.cell 6
                have q_je_7 := je.cell 7
                have q_je_8 := je.cell 8
                have q_je_l := je.lt
                go_wp2_with fail
                clear q_je_0 q_je_1 q_je_2 q_je_3 q_je_4 q_je_5 q_je_6 q_je_7 q_je_8 q_je_l
                obtain ⟨w19, hw19⟩ : ∃ W, W = w18.alloc (.cells #[.slice A_a n_a c_a, .slice B_a m_a d_a] 42) := ⟨_, rfl⟩
                obtain ⟨G_a, hG_a⟩ : ∃ G, w18.heap.size = G := ⟨_, rfl⟩
                have ha : Below w18.heap.size w18 w19 := by rw [hw19]; exact (Below.refl _ _).alloc (Nat.le_refl _) _
                have k_a : Blk w19 G_a 42 #[.slice A_a n_a c_a, .slice B_a m_a d_a] := by rw [hw19, ← hG_a]; exact Blk.new w18 _ _
                rw [← hw19]
                simp only [hG_a]
                clear hw19 hG_a
                have je := je.below ha je.lt
                have jo := jo.below ha jo.lt
                have M := M.on ha
                have P := P.on ha
                have Q := Q.on ha
                have r_a := r_a.on ha
                have t_a := t_a.on ha
                have hB19 := bltB hB18 hB18.size ha
                clear ha hB18
                refine (odds_ok w19 q3 b3 ((2 * k) + 1) (passL (Fa l) (Ed.e4 ⟨f, t, c, r, p0, p1, p2, p3, p4⟩) x) Q (((Fa_good l) : Good (Fa l)).pass (Ed.e4 ⟨f, t, c, r, p0, p1, p2, p3, p4⟩) x) ⟨f, t, c, r, p0, p1, p2, p3, p4⟩ x hok).mono ?_
                rintro y w20 ⟨A_b, n_b, c_b, B_b, m_b, d_b, rfl, r_b, t_b, l_b, hb⟩
                have je := je.below hb je.lt
                have jo := jo.below hb jo.lt
                have M := M.on hb
                have P := P.on hb
                have Q := Q.on hb
                have r_a := r_a.on hb
                have t_a := t_a.on hb
                have k_a := k_a.below hb k_a.lt
                have hB20 := bltB hB19 hB19.size hb
                clear hb hB19
                have hsF := odd_small ((Fa_good l).fail (Ed.e4 ⟨f, t, c, r, p0, p1, p2, p3, p4⟩) x) hok
                have hsP := odd_small ((Fa_good l).pass (Ed.e4 ⟨f, t, c, r, p0, p1, p2, p3, p4⟩) x) hok
                have HSF := Lib.hid hsF
                have HSP := Lib.hid hsP
                clear hsF hsP
                have q_k_a_0 := k_a.cell 0
                have q_k_a_1 := k_a.cell 1
                have q_k_a_l := k_a.lt
                go_wp2_with fail
                clear q_k_a_0 q_k_a_1 q_k_a_l
                obtain ⟨w21, hw21⟩ : ∃ W, W = w20.alloc (.cells #[.slice A_b n_b c_b, .slice B_b m_b d_b] 42) := ⟨_, rfl⟩
                obtain ⟨G_b, hG_b⟩ : ∃ G, w20.heap.size = G := ⟨_, rfl⟩
                have ha : Below w20.heap.size w20 w21 := by rw [hw21]; exact (Below.refl _ _).alloc (Nat.le_refl _) _
                have k_b : Blk w21 G_b 42 #[.slice A_b n_b c_b, .slice B_b m_b d_b] := by rw [hw21, ← hG_b]; exact Blk.new w20 _ _
                rw [← hw21]
                simp only [hG_b]
                clear hw21 hG_b
                have je := je.below ha je.lt
                have jo := jo.below ha jo.lt
                have M := M.on ha
                have P := P.on ha
                have Q := Q.on ha
                have r_a := r_a.on ha
                have t_a := t_a.on ha
                have k_a := k_a.below ha k_a.lt
                have r_b := r_b.on ha
                have t_b := t_b.on ha
                have hB21 := bltB hB20 hB20.size ha
                clear ha hB20
                refine (is_any w21 _ _ _ _ _ _ (oN (failL (Fa l) (Ed.e4 ⟨f, t, c, r, p0, p1, p2, p3, p4⟩) x) (Ed.e4 ⟨f, t, c, r, p0, p1, p2, p3, p4⟩) x) (oD (failL (Fa l) (Ed.e4 ⟨f, t, c, r, p0, p1, p2, p3, p4⟩) x) (Ed.e4 ⟨f, t, c, r, p0, p1, p2, p3, p4⟩)) r_a t_a HSF.out.2.1 (by omega) (by omega) 1 1 (by decide) (by decide) (by decide)).mono ?_
                rintro y w22 ⟨rfl, hb⟩
                have je := je.below hb je.lt
                have jo := jo.below hb jo.lt
                have M := M.on hb
                have P := P.on hb
                have Q := Q.on hb
                have r_a := r_a.on hb
                have t_a := t_a.on hb
                have k_a := k_a.below hb k_a.lt
                have r_b := r_b.on hb
                have t_b := t_b.on hb
                have k_b := k_b.below hb k_b.lt
                have hB22 := bltB hB21 hB21.size hb
                clear hb hB21
                rw [show decide ((oN (failL (Fa l) (Ed.e4 ⟨f, t, c, r, p0, p1, p2, p3, p4⟩) x) (Ed.e4 ⟨f, t, c, r, p0, p1, p2, p3, p4⟩) x) * 1 = 1 * (oD (failL (Fa l) (Ed.e4 ⟨f, t, c, r, p0, p1, p2, p3, p4⟩) x) (Ed.e4 ⟨f, t, c, r, p0, p1, p2, p3, p4⟩))) = true from decide_eq_true (by rw [Nat.mul_one, Nat.one_mul]; exact nought_nat ((Fa_good l).fail (Ed.e4 ⟨f, t, c, r, p0, p1, p2, p3, p4⟩) x) hok hx)]
                have q_k_b_0 := k_b.cell 0
                have q_k_b_1 := k_b.cell 1
                have q_k_b_l := k_b.lt
                go_wp2_with fail
                clear q_k_b_0 q_k_b_1 q_k_b_l
                refine (is_any w22 _ _ _ _ _ _ (oN (passL (Fa l) (Ed.e4 ⟨f, t, c, r, p0, p1, p2, p3, p4⟩) x) (Ed.e4 ⟨f, t, c, r, p0, p1, p2, p3, p4⟩) x) (oD (passL (Fa l) (Ed.e4 ⟨f, t, c, r, p0, p1, p2, p3, p4⟩) x) (Ed.e4 ⟨f, t, c, r, p0, p1, p2, p3, p4⟩)) r_b t_b HSP.out.2.1 (by omega) (by omega) 1 1 (by decide) (by decide) (by decide)).mono ?_
                rintro y w23 ⟨rfl, hb⟩
                have je := je.below hb je.lt
                have jo := jo.below hb jo.lt
                have M := M.on hb
                have P := P.on hb
                have Q := Q.on hb
                have r_a := r_a.on hb
                have t_a := t_a.on hb
                have k_a := k_a.below hb k_a.lt
                have r_b := r_b.on hb
                have t_b := t_b.on hb
                have k_b := k_b.below hb k_b.lt
                have hB23 := bltB hB22 hB22.size hb
                clear hb hB22
                rw [show decide ((oN (passL (Fa l) (Ed.e4 ⟨f, t, c, r, p0, p1, p2, p3, p4⟩) x) (Ed.e4 ⟨f, t, c, r, p0, p1, p2, p3, p4⟩) x) * 1 = 1 * (oD (passL (Fa l) (Ed.e4 ⟨f, t, c, r, p0, p1, p2, p3, p4⟩) x) (Ed.e4 ⟨f, t, c, r, p0, p1, p2, p3, p4⟩))) = true from decide_eq_true (by rw [Nat.mul_one, Nat.one_mul]; exact nought_nat ((Fa_good l).pass (Ed.e4 ⟨f, t, c, r, p0, p1, p2, p3, p4⟩) x) hok hx)]
                go_wp2_with fail
                go_ret
                exact ⟨rfl, hB23⟩
              · go_wp2_with fail
                refine (copy_any wr p b (2 * k) (Fa l) M).mono ?_
                rintro y w11 ⟨q2, b2, rfl, P, hp_P, hb_P, hb⟩
                have hne_P_M : b2 ≠ b := by have := M.lt; omega
                have hne_M_P : b ≠ b2 := fun e => hne_P_M e.symm
                have hb_P := Nat.le_trans hBr.size hb_P
                have je := je.below hb je.lt
                have jo := jo.below hb jo.lt
                have M := M.on hb
                have hB11 := bltB hBr hBr.size hb
                clear hb hBr
                go_wp2_with fail
                refine (copy_any w11 p b (2 * k) (Fa l) M).mono ?_
                rintro y w12 ⟨q3, b3, rfl, Q, hp_Q, hb_Q, hb⟩
                have hne_Q_M : b3 ≠ b := by have := M.lt; omega
                have hne_M_Q : b ≠ b3 := fun e => hne_Q_M e.symm
                have hne_Q_P : b3 ≠ b2 := by have := P.lt; omega
                have hne_P_Q : b2 ≠ b3 := fun e => hne_Q_P e.symm
                have hb_Q := Nat.le_trans hB11.size hb_Q
                have je := je.below hb je.lt
                have jo := jo.below hb jo.lt
                have M := M.on hb
                have P := P.on hb
                have hB12 := bltB hB11 hB11.size hb
                clear hb hB11
                have q_je_0 := je.cell 0
                have q_je_1 := je.cell 1
                have q_je_2 := je.cell 2
                have q_je_3 := je.cell 3
                have q_je_4 := je.cell 4
                have q_je_5 := je.cell 5
                have q_je_6 := je.cell 6
                have q_je_7 := je.cell 7
                have q_je_8 := je.cell 8
                have q_je_l := je.lt
                go_wp2_with fail
                clear q_je_0 q_je_1 q_je_2 q_je_3 q_je_4 q_je_5 q_je_6 q_je_7 q_je_8 q_je_l
                refine (failed_any w12 q2 b2 (2 * k) (Fa l) P (Fa_good l) (by omega) ⟨f, t, c, r, p0, p1, p2, p3, p4⟩ x).mono ?_
                rintro y w13 ⟨rfl, hM1, hg⟩
                have je := je.grownM P hg
                have jo := jo.grownM P hg
                have M := M.grownM P hg hne_M_P
                have Q := Q.grownM P hg hne_Q_P
                have hB13 := Below.grownM hB12 hg hB12.size hb_P
                have P := hM1
                clear hg hM1 hB12
                have q_je_0 := je.cell 0
                have q_je_1 := je.cell 1
                have q_je_2 := je.cell 2
                have q_je_3 := je.cell 3
                have q_je_4 := je.cell 4
                have q_je_5 := je.cell 5
                have q_je_6 := je.cell 6
                have q_je_7 := je.cell 7
                have q_je_8 := je.cell 8
                have q_je_l := je.lt
                go_wp2_with fail
                clear q_je_0 q_je_1 q_je_2 q_je_3 q_je_4 q_je_5 q_je_6 q_je_7 q_je_8 q_je_l
                refine (passed_any w13 q3 b3 (2 * k) (Fa l) Q (Fa_good l) (by omega) ⟨f, t, c, r, p0, p1, p2, p3, p4⟩ x).mono ?_
                rintro y w14 ⟨rfl, hM1, hg⟩
                have je := je.grownM Q hg
                have jo := jo.grownM Q hg
                have M := M.grownM Q hg hne_M_Q
                have P := P.grownM Q hg hne_P_Q
                have hB14 := Below.grownM hB13 hg hB13.size hb_Q
                have Q := hM1
                clear hg hM1 hB13
                have q_jo_0 := jo.cell 0
                have q_jo_1 := jo.cell 1
                have q_jo_2 := jo.cell 2
                have q_jo_3 := jo.cell 3
                have q_jo_4 := jo.cell 4
                have q_jo_5 := jo.cell 5
                have q_jo_6 := jo.cell 6
                have q_jo_7 := jo.cell 7
                have q_jo_8 := jo.cell 8
                have q_jo_l := jo.lt
                go_wp2_with fail
                clear q_jo_0 q_jo_1 q_jo_2 q_jo_3 q_jo_4 q_jo_5 q_jo_6 q_jo_7 q_jo_8 q_jo_l
                refine (bounds_any w14 p b (2 * k) (Fa l) M (Fa_good l) ⟨f, t2, c2, r2, v0, v1, v2, v3, v4⟩).mono ?_
                rintro y w15 ⟨rfl, hb⟩
                have je := je.below hb je.lt
                have jo := jo.below hb jo.lt
                have M := M.on hb
                have P := P.on hb
                have Q := Q.on hb
                have hB15 := bltB hB14 hB14.size hb
                clear hb hB14
                obtain ⟨lo, hi, h1⟩ : ∃ y1 y2, bnd (Fa l) (Ed.e4 ⟨f, t2, c2, r2, v0, v1, v2, v3, v4⟩) = (y1, y2) := ⟨_, _, rfl⟩
                rw [h1]
                have H1 := Lib.hid h1
                clear h1
                have q_jo_0 := jo.cell 0
                have q_jo_1 := jo.cell 1
                have q_jo_2 := jo.cell 2
                have q_jo_3 := jo.cell 3
                have q_jo_4 := jo.cell 4
                have q_jo_5 := jo.cell 5
                have q_jo_6 := jo.cell 6
                have q_jo_7 := jo.cell 7
                have q_jo_8 := jo.cell 8
                have q_jo_l := jo.lt
                go_wp2_with fail
                clear q_jo_0 q_jo_1 q_jo_2 q_jo_3 q_jo_4 q_jo_5 q_jo_6 q_jo_7 q_jo_8 q_jo_l
                refine (bounds_any w15 q2 b2 ((2 * k) + 1) (failL (Fa l) (Ed.e4 ⟨f, t, c, r, p0, p1, p2, p3, p4⟩) x) P (((Fa_good l) : Good (Fa l)).fail (Ed.e4 ⟨f, t, c, r, p0, p1, p2, p3, p4⟩) x) ⟨f, t2, c2, r2, v0, v1, v2, v3, v4⟩).mono ?_
                rintro y w16 ⟨rfl, hb⟩
                have je := je.below hb je.lt
                have jo := jo.below hb jo.lt
                have M := M.on hb
                have P := P.on hb
                have Q := Q.on hb
                have hB16 := bltB hB15 hB15.size hb
                clear hb hB15
                rw [bnd_fail hne.out, H1.out]
                have q_jo_0 := jo.cell 0
                have q_jo_1 := jo.cell 1
                have q_jo_2 := jo.cell 2
                have q_jo_3 := jo.cell 3
                have q_jo_4 := jo.cell 4
                have q_jo_5 := jo.cell 5
                have q_jo_6 := jo.cell 6
                have q_jo_7 := jo.cell 7
                have q_jo_8 := jo.cell 8
                have q_jo_l := jo.lt
                go_wp2_with fail
                clear q_jo_0 q_jo_1 q_jo_2 q_jo_3 q_jo_4 q_jo_5 q_jo_6 q_jo_7 q_jo_8 q_jo_l
                refine (bounds_any w16 q3 b3 ((2 * k) + 1) (passL (Fa l) (Ed.e4 ⟨f, t, c, r, p0, p1, p2, p3, p4⟩) x) Q (((Fa_good l) : Good (Fa l)).pass (Ed.e4 ⟨f, t, c, r, p0, p1, p2, p3, p4⟩) x) ⟨f, t2, c2, r2, v0, v1, v2, v3, v4⟩).mono ?_
                rintro y w17 ⟨rfl, hb⟩
                have je := je.below hb je.lt
                have jo := jo.below hb jo.lt
                have M := M.on hb
                have P := P.on hb
                have Q := Q.on hb
                have hB17 := bltB hB16 hB16.size hb
                clear hb hB16
                rw [bnd_pass hne.out, H1.out]
                have q_je_0 := je.cell 0
                have q_je_1 := je.cell 1
                have q_je_2 := je.cell 2
                have q_je_3 := je.cell 3
                have q_je_4 := je.cell 4
                have q_je_5 := je.cell 5
                have q_je_6 := je.cell 6
                have q_je_7 := je.cell 7
                have q_je_8 := je.cell 8
                have q_je_l := je.lt
                have q_jo_0 := jo.cell 0
                have q_jo_1 := jo.cell 1
                have q_jo_2 := jo.cell 2
                have q_jo_3 := jo.cell 3
                have q_jo_4 := jo.cell 4
                have q_jo_5 := jo.cell 5
                have q_jo_6 := jo.cell 6
                have q_jo_7 := jo.cell 7
                have q_jo_8 := jo.cell 8
                have q_jo_l := jo.lt
                go_wp2_with fail
                clear q_je_0 q_je_1 q_je_2 q_je_3 q_je_4 q_je_5 q_je_6 q_je_7 q_je_8 q_je_l q_jo_0 q_jo_1 q_jo_2 q_jo_3 q_jo_4 q_jo_5 q_jo_6 q_jo_7 q_jo_8 q_jo_l
                refine (odds_ok w17 q2 b2 ((2 * k) + 1) (failL (Fa l) (Ed.e4 ⟨f, t, c, r, p0, p1, p2, p3, p4⟩) x) P (((Fa_good l) : Good (Fa l)).fail (Ed.e4 ⟨f, t, c, r, p0, p1, p2, p3, p4⟩) x) ⟨f, t, c, r, p0, p1, p2, p3, p4⟩ x hok).mono ?_
                rintro y w18 ⟨A_a, n_a, c_a, B_a, m_a, d_a, rfl, r_a, t_a, l_a, hb⟩
                have je := je.below hb je.lt
                have jo := jo.below hb jo.lt
                have M := M.on hb
                have P := P.on hb
                have Q := Q.on hb
                have hB18 := bltB hB17 hB17.size hb
                clear hb hB17
                have q_je_0 := je.cell 0
                have q_je_1 := je.cell 1
                have q_je_2 := je.cell 2
                have q_je_3 := je.cell 3
                have q_je_4 := je.cell 4
                have q_je_5 := je.cell 5
                have q_je_6 := je.cell 6
                have q_je_7 := je.cell 7
                have q_je_8 := je.cell 8
                have q_je_l := je.lt
                go_wp2_with fail
                clear q_je_0 q_je_1 q_je_2 q_je_3 q_je_4 q_je_5 q_je_6 q_je_7 q_je_8 q_je_l
                obtain ⟨w19, hw19⟩ : ∃ W, W = w18.alloc (.cells #[.slice A_a n_a c_a, .slice B_a m_a d_a] 42) := ⟨_, rfl⟩
                obtain ⟨G_a, hG_a⟩ : ∃ G, w18.heap.size = G := ⟨_, rfl⟩
                have ha : Below w18.heap.size w18 w19 := by rw [hw19]; exact (Below.refl _ _).alloc (Nat.le_refl _) _
                have k_a : Blk w19 G_a 42 #[.slice A_a n_a c_a, .slice B_a m_a d_a] := by rw [hw19, ← hG_a]; exact Blk.new w18 _ _
                rw [← hw19]
                simp only [hG_a]
                clear hw19 hG_a
                have je := je.below ha je.lt
                have jo := jo.below ha jo.lt
                have M := M.on ha
                have P := P.on ha
                have Q := Q.on ha
                have r_a := r_a.on ha
                have t_a := t_a.on ha
                have hB19 := bltB hB18 hB18.size ha
                clear ha hB18
                refine (odds_ok w19 q3 b3 ((2 * k) + 1) (passL (Fa l) (Ed.e4 ⟨f, t, c, r, p0, p1, p2, p3, p4⟩) x) Q (((Fa_good l) : Good (Fa l)).pass (Ed.e4 ⟨f, t, c, r, p0, p1, p2, p3, p4⟩) x) ⟨f, t, c, r, p0, p1, p2, p3, p4⟩ x hok).mono ?_
                rintro y w20 ⟨A_b, n_b, c_b, B_b, m_b, d_b, rfl, r_b, t_b, l_b, hb⟩
                have je := je.below hb je.lt
                have jo := jo.below hb jo.lt
                have M := M.on hb
                have P := P.on hb
                have Q := Q.on hb
                have r_a := r_a.on hb
                have t_a := t_a.on hb
                have k_a := k_a.below hb k_a.lt
                have hB20 := bltB hB19 hB19.size hb
                clear hb hB19
                have hsF := odd_small ((Fa_good l).fail (Ed.e4 ⟨f, t, c, r, p0, p1, p2, p3, p4⟩) x) hok
                have hsP := odd_small ((Fa_good l).pass (Ed.e4 ⟨f, t, c, r, p0, p1, p2, p3, p4⟩) x) hok
                have HSF := Lib.hid hsF
                have HSP := Lib.hid hsP
                clear hsF hsP
                have q_je_0 := je.cell 0
                have q_je_1 := je.cell 1
                have q_je_2 := je.cell 2
                have q_je_3 := je.cell 3
                have q_je_4 := je.cell 4
                have q_je_5 := je.cell 5
                have q_je_6 := je.cell 6
                have q_je_7 := je.cell 7
                have q_je_8 := je.cell 8
                have q_je_l := je.lt
                go_wp2_with fail
                clear q_je_0 q_je_1 q_je_2 q_je_3 q_je_4 q_je_5 q_je_6 q_je_7 q_je_8 q_je_l
                obtain ⟨w21, hw21⟩ : ∃ W, W = w20.alloc (.cells #[.slice A_b n_b c_b, .slice B_b m_b d_b] 42) := ⟨_, rfl⟩
                obtain ⟨G_b, hG_b⟩ : ∃ G, w20.heap.size = G := ⟨_, rfl⟩
                have ha : Below w20.heap.size w20 w21 := by rw [hw21]; exact (Below.refl _ _).alloc (Nat.le_refl _) _
                have k_b : Blk w21 G_b 42 #[.slice A_b n_b c_b, .slice B_b m_b d_b] := by rw [hw21, ← hG_b]; exact Blk.new w20 _ _
                rw [← hw21]
                simp only [hG_b]
                clear hw21 hG_b
                have je := je.below ha je.lt
                have jo := jo.below ha jo.lt
                have M := M.on ha
                have P := P.on ha
                have Q := Q.on ha
                have r_a := r_a.on ha
                have t_a := t_a.on ha
                have k_a := k_a.below ha k_a.lt
                have r_b := r_b.on ha
                have t_b := t_b.on ha
                have hB21 := bltB hB20 hB20.size ha
                clear ha hB20
                have HS0 := Lib.hid (odd_small (Fa_good l) hok)
                refine (odds_ok w21 p b (2 * k) (Fa l) M (Fa_good l) ⟨f, t, c, r, p0, p1, p2, p3, p4⟩ x hok).mono ?_
                rintro y w22 ⟨A_d, n_d, c_d, B_d, m_d, d_d, rfl, r_d, t_d, l_d, hb⟩
                have je := je.below hb je.lt
                have jo := jo.below hb jo.lt
                have M := M.on hb
                have P := P.on hb
                have Q := Q.on hb
                have r_a := r_a.on hb
                have t_a := t_a.on hb
                have k_a := k_a.below hb k_a.lt
                have r_b := r_b.on hb
                have t_b := t_b.on hb
                have k_b := k_b.below hb k_b.lt
                have hB22 := bltB hB21 hB21.size hb
                clear hb hB21
                go_wp2_with fail
                obtain ⟨w23, hw23⟩ : ∃ W, W = w22.alloc (.cells #[.slice A_d n_d c_d, .slice B_d m_d d_d] 42) := ⟨_, rfl⟩
                obtain ⟨G_d, hG_d⟩ : ∃ G, w22.heap.size = G := ⟨_, rfl⟩
                have ha : Below w22.heap.size w22 w23 := by rw [hw23]; exact (Below.refl _ _).alloc (Nat.le_refl _) _
                have k_d : Blk w23 G_d 42 #[.slice A_d n_d c_d, .slice B_d m_d d_d] := by rw [hw23, ← hG_d]; exact Blk.new w22 _ _
                rw [← hw23]
                simp only [hG_d]
                clear hw23 hG_d
                have je := je.below ha je.lt
                have jo := jo.below ha jo.lt
                have M := M.on ha
                have P := P.on ha
                have Q := Q.on ha
                have r_a := r_a.on ha
                have t_a := t_a.on ha
                have k_a := k_a.below ha k_a.lt
                have r_b := r_b.on ha
                have t_b := t_b.on ha
                have k_b := k_b.below ha k_b.lt
                have r_d := r_d.on ha
                have t_d := t_d.on ha
                have hB23 := bltB hB22 hB22.size ha
                clear ha hB22
                refine (fof_any w23 1 1 (by decide) (by decide)).mono ?_
                rintro y w24 ⟨A_u, n_u, c_u, B_u, m_u, d_u, rfl, r_u, t_u, hb⟩
                have je := je.below hb je.lt
                have jo := jo.below hb jo.lt
                have M := M.on hb
                have P := P.on hb
                have Q := Q.on hb
                have r_a := r_a.on hb
                have t_a := t_a.on hb
                have k_a := k_a.below hb k_a.lt
                have r_b := r_b.on hb
                have t_b := t_b.on hb
                have k_b := k_b.below hb k_b.lt
                have r_d := r_d.on hb
                have t_d := t_d.on hb
                have k_d := k_d.below hb k_d.lt
                have hB24 := bltB hB23 hB23.size hb
                clear hb hB23
                rw [if_neg (by decide)] at r_u t_u
                have l_u : n_u ≤ 2 := rd_two r_u (by decide)
                have l_v : m_u ≤ 2 := rd_two t_u (by decide)
                have q_k_a_0 := k_a.cell 0
                have q_k_a_1 := k_a.cell 1
                have q_k_a_l := k_a.lt
                go_wp2_with fail
                clear q_k_a_0 q_k_a_1 q_k_a_l
                obtain ⟨w25, hw25⟩ : ∃ W, W = w24.alloc (.cells #[.slice A_u n_u c_u, .slice B_u m_u d_u] 42) := ⟨_, rfl⟩
                obtain ⟨G_u, hG_u⟩ : ∃ G, w24.heap.size = G := ⟨_, rfl⟩
                have ha : Below w24.heap.size w24 w25 := by rw [hw25]; exact (Below.refl _ _).alloc (Nat.le_refl _) _
                have k_u : Blk w25 G_u 42 #[.slice A_u n_u c_u, .slice B_u m_u d_u] := by rw [hw25, ← hG_u]; exact Blk.new w24 _ _
                rw [← hw25]
                simp only [hG_u]
                clear hw25 hG_u
                have je := je.below ha je.lt
                have jo := jo.below ha jo.lt
                have M := M.on ha
                have P := P.on ha
                have Q := Q.on ha
                have r_a := r_a.on ha
                have t_a := t_a.on ha
                have k_a := k_a.below ha k_a.lt
                have r_b := r_b.on ha
                have t_b := t_b.on ha
                have k_b := k_b.below ha k_b.lt
                have r_d := r_d.on ha
                have t_d := t_d.on ha
                have k_d := k_d.below ha k_d.lt
                have r_u := r_u.on ha
                have t_u := t_u.on ha
                have hB25 := bltB hB24 hB24.size ha
                clear ha hB24
                refine (is_any w25 _ _ _ _ _ _ (oN (failL (Fa l) (Ed.e4 ⟨f, t, c, r, p0, p1, p2, p3, p4⟩) x) (Ed.e4 ⟨f, t, c, r, p0, p1, p2, p3, p4⟩) x) (oD (failL (Fa l) (Ed.e4 ⟨f, t, c, r, p0, p1, p2, p3, p4⟩) x) (Ed.e4 ⟨f, t, c, r, p0, p1, p2, p3, p4⟩)) r_a t_a HSF.out.2.1 (by omega) (by omega) 0 1 (by decide) (by decide) (by decide)).mono ?_
                rintro y w26 ⟨rfl, hb⟩
                have je := je.below hb je.lt
                have jo := jo.below hb jo.lt
                have M := M.on hb
                have P := P.on hb
                have Q := Q.on hb
                have r_a := r_a.on hb
                have t_a := t_a.on hb
                have k_a := k_a.below hb k_a.lt
                have r_b := r_b.on hb
                have t_b := t_b.on hb
                have k_b := k_b.below hb k_b.lt
                have r_d := r_d.on hb
                have t_d := t_d.on hb
                have k_d := k_d.below hb k_d.lt
                have r_u := r_u.on hb
                have t_u := t_u.on hb
                have k_u := k_u.below hb k_u.lt
                have hB26 := bltB hB25 hB25.size hb
                clear hb hB25
                rw [show decide ((oN (failL (Fa l) (Ed.e4 ⟨f, t, c, r, p0, p1, p2, p3, p4⟩) x) (Ed.e4 ⟨f, t, c, r, p0, p1, p2, p3, p4⟩) x) * 1 = 0 * (oD (failL (Fa l) (Ed.e4 ⟨f, t, c, r, p0, p1, p2, p3, p4⟩) x) (Ed.e4 ⟨f, t, c, r, p0, p1, p2, p3, p4⟩))) = true from decide_eq_true (by rw [fail_nat (Fa_good l) hok (by omega)]; simp)]
                have q_k_b_0 := k_b.cell 0
                have q_k_b_1 := k_b.cell 1
                have q_k_b_l := k_b.lt
                go_wp2_with fail
                clear q_k_b_0 q_k_b_1 q_k_b_l
                refine (is_any w26 _ _ _ _ _ _ (oN (passL (Fa l) (Ed.e4 ⟨f, t, c, r, p0, p1, p2, p3, p4⟩) x) (Ed.e4 ⟨f, t, c, r, p0, p1, p2, p3, p4⟩) x) (oD (passL (Fa l) (Ed.e4 ⟨f, t, c, r, p0, p1, p2, p3, p4⟩) x) (Ed.e4 ⟨f, t, c, r, p0, p1, p2, p3, p4⟩)) r_b t_b HSP.out.2.1 (by omega) (by omega) 1 1 (by decide) (by decide) (by decide)).mono ?_
                rintro y w27 ⟨rfl, hb⟩
                have je := je.below hb je.lt
                have jo := jo.below hb jo.lt
                have M := M.on hb
                have P := P.on hb
                have Q := Q.on hb
                have r_a := r_a.on hb
                have t_a := t_a.on hb
                have k_a := k_a.below hb k_a.lt
                have r_b := r_b.on hb
                have t_b := t_b.on hb
                have k_b := k_b.below hb k_b.lt
                have r_d := r_d.on hb
                have t_d := t_d.on hb
                have k_d := k_d.below hb k_d.lt
                have r_u := r_u.on hb
                have t_u := t_u.on hb
                have k_u := k_u.below hb k_u.lt
                have hB27 := bltB hB26 hB26.size hb
                clear hb hB26
                rw [show decide ((oN (passL (Fa l) (Ed.e4 ⟨f, t, c, r, p0, p1, p2, p3, p4⟩) x) (Ed.e4 ⟨f, t, c, r, p0, p1, p2, p3, p4⟩) x) * 1 = 1 * (oD (passL (Fa l) (Ed.e4 ⟨f, t, c, r, p0, p1, p2, p3, p4⟩) x) (Ed.e4 ⟨f, t, c, r, p0, p1, p2, p3, p4⟩))) = true from decide_eq_true (by rw [Nat.mul_one, Nat.one_mul]; exact pass_nat (Fa_good l) hok (by omega))]
                have q_k_d_0 := k_d.cell 0
                have q_k_d_1 := k_d.cell 1
                have q_k_d_l := k_d.lt
                go_wp2_with fail
                clear q_k_d_0 q_k_d_1 q_k_d_l
                refine (fright_any _ _ _ _ _ _ _ _ _ r_d t_d (by omega) (by omega)).mono ?_
                rintro y w28 ⟨rfl, hb⟩
                have je := je.below hb je.lt
                have jo := jo.below hb jo.lt
                have M := M.on hb
                have P := P.on hb
                have Q := Q.on hb
                have r_a := r_a.on hb
                have t_a := t_a.on hb
                have k_a := k_a.below hb k_a.lt
                have r_b := r_b.on hb
                have t_b := t_b.on hb
                have k_b := k_b.below hb k_b.lt
                have r_d := r_d.on hb
                have t_d := t_d.on hb
                have k_d := k_d.below hb k_d.lt
                have r_u := r_u.on hb
                have t_u := t_u.on hb
                have k_u := k_u.below hb k_u.lt
                have hB28 := bltB hB27 hB27.size hb
                clear hb hB27
                rw [frR_low HS0.out.2.1]
                have q_k_d_0 := k_d.cell 0
                have q_k_d_1 := k_d.cell 1
                have q_k_d_l := k_d.lt
                have q_k_u_0 := k_u.cell 0
                have q_k_u_1 := k_u.cell 1
                have q_k_u_l := k_u.lt
                go_wp2_with fail
                clear q_k_d_0 q_k_d_1 q_k_d_l q_k_u_0 q_k_u_1 q_k_u_l
                refine (fcmp_any _ _ _ _ _ _ _ _ _ _ _ _ _ _ _ _ _ r_d t_d r_u t_u (by omega) (by omega) (by omega) (by omega)).mono ?_
                rintro y w29 ⟨rfl, hb⟩
                have je := je.below hb je.lt
                have jo := jo.below hb jo.lt
                have M := M.on hb
                have P := P.on hb
                have Q := Q.on hb
                have r_a := r_a.on hb
                have t_a := t_a.on hb
                have k_a := k_a.below hb k_a.lt
                have r_b := r_b.on hb
                have t_b := t_b.on hb
                have k_b := k_b.below hb k_b.lt
                have r_d := r_d.on hb
                have t_d := t_d.on hb
                have k_d := k_d.below hb k_d.lt
                have r_u := r_u.on hb
                have t_u := t_u.on hb
                have k_u := k_u.below hb k_u.lt
                have hB29 := bltB hB28 hB28.size hb
                clear hb hB28
                rw [cmp_low HS0.out.2.1 (by decide)]
                obtain ⟨z1, hz1⟩ : ∃ z, cmpI (((oN (Fa l) (Ed.e4 ⟨f, t, c, r, p0, p1, p2, p3, p4⟩) x) * 1 : Nat) : Int) ((1 * (oD (Fa l) (Ed.e4 ⟨f, t, c, r, p0, p1, p2, p3, p4⟩)) : Nat) : Int) = z := ⟨_, rfl⟩
                have hz0 : z1 ≤ 0 := by
                  have h1 := HS0.out.1
                  rw [← hz1, cmpI_nat]
                  split
                  · omega
                  · split <;> omega
                rw [hz1]
                clear hz1
                go_wp2_with fail
                go_ret
                exact ⟨rfl, hB29⟩
        · have hne : Hid (¬ ((Ed.e4 ⟨f2, t2, c2, r2, v0, v1, v2, v3, v4⟩).f = (Ed.e4 ⟨f, t, c, r, p0, p1, p2, p3, p4⟩).f ∧ (Ed.e4 ⟨f2, t2, c2, r2, v0, v1, v2, v3, v4⟩).c = (Ed.e4 ⟨f, t, c, r, p0, p1, p2, p3, p4⟩).c)) := Lib.hid (fun h => hf h.1)
          rcases hok : oddOk (Ed.e4 ⟨f, t, c, r, p0, p1, p2, p3, p4⟩) x with _ | _
          · go_wp2_with fail
            refine (copy_any wr p b (2 * k) (Fa l) M).mono ?_
            rintro y w11 ⟨q2, b2, rfl, P, hp_P, hb_P, hb⟩
            have hne_P_M : b2 ≠ b := by have := M.lt; omega
            have hne_M_P : b ≠ b2 := fun e => hne_P_M e.symm
            have hb_P := Nat.le_trans hBr.size hb_P
            have je := je.below hb je.lt
            have jo := jo.below hb jo.lt
            have M := M.on hb
            have hB11 := bltB hBr hBr.size hb
            clear hb hBr
            go_wp2_with fail
            refine (copy_any w11 p b (2 * k) (Fa l) M).mono ?_
            rintro y w12 ⟨q3, b3, rfl, Q, hp_Q, hb_Q, hb⟩
            have hne_Q_M : b3 ≠ b := by have := M.lt; omega
            have hne_M_Q : b ≠ b3 := fun e => hne_Q_M e.symm
            have hne_Q_P : b3 ≠ b2 := by have := P.lt; omega
            have hne_P_Q : b2 ≠ b3 := fun e => hne_Q_P e.symm
            have hb_Q := Nat.le_trans hB11.size hb_Q
            have je := je.below hb je.lt
            have jo := jo.below hb jo.lt
            have M := M.on hb
            have P := P.on hb
            have hB12 := bltB hB11 hB11.size hb
            clear hb hB11
            have q_je_0 := je.cell 0
            have q_je_1 := je.cell 1
            have q_je_2 := je.cell 2
            have q_je_3 := je.cell 3
            have q_je_4 := je.cell 4
            have q_je_5 := je.cell 5
            have q_je_6 := je.cell 6
            have q_je_7 := je.cell 7
            have q_je_8 := je.cell 8
            have q_je_l := je.lt
            go_wp2_with fail
            clear q_je_0 q_je_1 q_je_2 q_je_3 q_je_4 q_je_5 q_je_6 q_je_7 q_je_8 q_je_l
            refine (failed_any w12 q2 b2 (2 * k) (Fa l) P (Fa_good l) (by omega) ⟨f, t, c, r, p0, p1, p2, p3, p4⟩ x).mono ?_
            rintro y w13 ⟨rfl, hM1, hg⟩
            have je := je.grownM P hg
            have jo := jo.grownM P hg
            have M := M.grownM P hg hne_M_P
            have Q := Q.grownM P hg hne_Q_P
            have hB13 := Below.grownM hB12 hg hB12.size hb_P
            have P := hM1
            clear hg hM1 hB12
            have q_je_0 := je.cell 0
            have q_je_1 := je.cell 1
            have q_je_2 := je.cell 2
            have q_je_3 := je.cell 3
            have q_je_4 := je.cell 4
            have q_je_5 := je.cell 5
            have q_je_6 := je.cell 6
            have q_je_7 := je.cell 7
            have q_je_8 := je.cell 8
            have q_je_l := je.lt
            go_wp2_with fail
            clear q_je_0 q_je_1 q_je_2 q_je_3 q_je_4 q_je_5 q_je_6 q_je_7 q_je_8 q_je_l
            refine (passed_any w13 q3 b3 (2 * k) (Fa l) Q (Fa_good l) (by omega) ⟨f, t, c, r, p0, p1, p2, p3, p4⟩ x).mono ?_
            rintro y w14 ⟨rfl, hM1, hg⟩
            have je := je.grownM Q hg
            have jo := jo.grownM Q hg
            have M := M.grownM Q hg hne_M_Q
            have P := P.grownM Q hg hne_P_Q
            have hB14 := Below.grownM hB13 hg hB13.size hb_Q
            have Q := hM1
            clear hg hM1 hB13
            have q_jo_0 := jo.cell 0
            have q_jo_1 := jo.cell 1
            have q_jo_2 := jo.cell 2
            have q_jo_3 := jo.cell 3
            have q_jo_4 := jo.cell 4
            have q_jo_5 := jo.cell 5
            have q_jo_6 := jo.cell 6
            have q_jo_7 := jo.cell 7
            have q_jo_8 := jo.cell 8
            have q_jo_l := jo.lt
            go_wp2_with fail
            clear q_jo_0 q_jo_1 q_jo_2 q_jo_3 q_jo_4 q_jo_5 q_jo_6 q_jo_7 q_jo_8 q_jo_l
            refine (bounds_any w14 p b (2 * k) (Fa l) M (Fa_good l) ⟨f2, t2, c2, r2, v0, v1, v2, v3, v4⟩).mono ?_
            rintro y w15 ⟨rfl, hb⟩
            have je := je.below hb je.lt
            have jo := jo.below hb jo.lt
            have M := M.on hb
            have P := P.on hb
            have Q := Q.on hb
            have hB15 := bltB hB14 hB14.size hb
            clear hb hB14
            obtain ⟨lo, hi, h1⟩ : ∃ y1 y2, bnd (Fa l) (Ed.e4 ⟨f2, t2, c2, r2, v0, v1, v2, v3, v4⟩) = (y1, y2) := ⟨_, _, rfl⟩
            rw [h1]
            have H1 := Lib.hid h1
            clear h1
            have q_jo_0 := jo.cell 0
            have q_jo_1 := jo.cell 1
            have q_jo_2 := jo.cell 2
            have q_jo_3 := jo.cell 3
            have q_jo_4 := jo.cell 4
            have q_jo_5 := jo.cell 5
            have q_jo_6 := jo.cell 6
            have q_jo_7 := jo.cell 7
            have q_jo_8 := jo.cell 8
            have q_jo_l := jo.lt
            go_wp2_with fail
            clear q_jo_0 q_jo_1 q_jo_2 q_jo_3 q_jo_4 q_jo_5 q_jo_6 q_jo_7 q_jo_8 q_jo_l
            refine (bounds_any w15 q2 b2 ((2 * k) + 1) (failL (Fa l) (Ed.e4 ⟨f, t, c, r, p0, p1, p2, p3, p4⟩) x) P (((Fa_good l) : Good (Fa l)).fail (Ed.e4 ⟨f, t, c, r, p0, p1, p2, p3, p4⟩) x) ⟨f2, t2, c2, r2, v0, v1, v2, v3, v4⟩).mono ?_
            rintro y w16 ⟨rfl, hb⟩
            have je := je.below hb je.lt
            have jo := jo.below hb jo.lt
            have M := M.on hb
            have P := P.on hb
            have Q := Q.on hb
            have hB16 := bltB hB15 hB15.size hb
            clear hb hB15
            rw [bnd_fail hne.out, H1.out]
            have q_jo_0 := jo.cell 0
            have q_jo_1 := jo.cell 1
            have q_jo_2 := jo.cell 2
            have q_jo_3 := jo.cell 3
            have q_jo_4 := jo.cell 4
            have q_jo_5 := jo.cell 5
            have q_jo_6 := jo.cell 6
            have q_jo_7 := jo.cell 7
            have q_jo_8 := jo.cell 8
            have q_jo_l := jo.lt
            go_wp2_with fail
            clear q_jo_0 q_jo_1 q_jo_2 q_jo_3 q_jo_4 q_jo_5 q_jo_6 q_jo_7 q_jo_8 q_jo_l
            refine (bounds_any w16 q3 b3 ((2 * k) + 1) (passL (Fa l) (Ed.e4 ⟨f, t, c, r, p0, p1, p2, p3, p4⟩) x) Q (((Fa_good l) : Good (Fa l)).pass (Ed.e4 ⟨f, t, c, r, p0, p1, p2, p3, p4⟩) x) ⟨f2, t2, c2, r2, v0, v1, v2, v3, v4⟩).mono ?_
            rintro y w17 ⟨rfl, hb⟩
            have je := je.below hb je.lt
            have jo := jo.below hb jo.lt
            have M := M.on hb
            have P := P.on hb
            have Q := Q.on hb
            have hB17 := bltB hB16 hB16.size hb
            clear hb hB16
            rw [bnd_pass hne.out, H1.out]
            have q_je_0 := je.cell 0
            have q_je_1 := je.cell 1
            have q_je_2 := je.cell 2
            have q_je_3 := je.cell 3
            have q_je_4 := je.cell 4
            have q_je_5 := je.cell 5
            have q_je_6 := je.cell 6
            have q_je_7 := je.cell 7
            have q_je_8 := je.cell 8
            have q_je_l := je.lt
            have q_jo_0 := jo.cell 0
            have q_jo_1 := jo.cell 1
            have q_jo_2 := jo.cell 2
            have q_jo_3 := jo.cell 3
            have q_jo_4 := jo.cell 4
            have q_jo_5 := jo.cell 5
            have q_jo_6 := jo.cell 6
            have q_jo_7 := jo.cell 7
            have q_jo_8 := jo.cell 8
            have q_jo_l := jo.lt
            go_wp2_with fail
            clear q_je_0 q_je_1 q_je_2 q_je_3 q_je_4 q_je_5 q_je_6 q_je_7 q_je_8 q_je_l q_jo_0 q_jo_1 q_jo_2 q_jo_3 q_jo_4 q_jo_5 q_jo_6 q_jo_7 q_jo_8 q_jo_l
            refine (odds_no w17 q2 b2 ((2 * k) + 1) (failL (Fa l) (Ed.e4 ⟨f, t, c, r, p0, p1, p2, p3, p4⟩) x) P (((Fa_good l) : Good (Fa l)).fail (Ed.e4 ⟨f, t, c, r, p0, p1, p2, p3, p4⟩) x) ⟨f, t, c, r, p0, p1, p2, p3, p4⟩ x hok).mono ?_
            rintro y w18 ⟨A_a, n_a, c_a, B_a, m_a, d_a, rfl, r_a, t_a, l_a, hb⟩
            have je := je.below hb je.lt
            have jo := jo.below hb jo.lt
            have M := M.on hb
            have P := P.on hb
            have Q := Q.on hb
            have hB18 := bltB hB17 hB17.size hb
            clear hb hB17
            have q_je_0 := je.cell 0
            have q_je_1 := je.cell 1
            have q_je_2 := je.cell 2
            have q_je_3 := je.cell 3
            have q_je_4 := je.cell 4
            have q_je_5 := je.cell 5
            have q_je_6 := je.cell 6
            have q_je_7 := je.cell 7
            have q_je_8 := je.cell 8
            have q_je_l := je.lt
            go_wp2_with fail
            clear q_je_0 q_je_1 q_je_2 q_je_3 q_je_4 q_je_5 q_je_6 q_je_7 q_je_8 q_je_l
            obtain ⟨w19, hw19⟩ : ∃ W, W = w18.alloc (.cells #[.slice A_a n_a c_a, .slice B_a m_a d_a] 42) := ⟨_, rfl⟩
            obtain ⟨G_a, hG_a⟩ : ∃ G, w18.heap.size = G := ⟨_, rfl⟩
            have ha : Below w18.heap.size w18 w19 := by rw [hw19]; exact (Below.refl _ _).alloc (Nat.le_refl _) _
            have k_a : Blk w19 G_a 42 #[.slice A_a n_a c_a, .slice B_a m_a d_a] := by rw [hw19, ← hG_a]; exact Blk.new w18 _ _
            rw [← hw19]
            simp only [hG_a]
            clear hw19 hG_a
            have je := je.below ha je.lt
            have jo := jo.below ha jo.lt
            have M := M.on ha
            have P := P.on ha
            have Q := Q.on ha
            have r_a := r_a.on ha
            have t_a := t_a.on ha
            have hB19 := bltB hB18 hB18.size ha
            clear ha hB18
            refine (odds_no w19 q3 b3 ((2 * k) + 1) (passL (Fa l) (Ed.e4 ⟨f, t, c, r, p0, p1, p2, p3, p4⟩) x) Q (((Fa_good l) : Good (Fa l)).pass (Ed.e4 ⟨f, t, c, r, p0, p1, p2, p3, p4⟩) x) ⟨f, t, c, r, p0, p1, p2, p3, p4⟩ x hok).mono ?_
            rintro y w20 ⟨A_b, n_b, c_b, B_b, m_b, d_b, rfl, r_b, t_b, l_b, hb⟩
            have je := je.below hb je.lt
            have jo := jo.below hb jo.lt
            have M := M.on hb
            have P := P.on hb
            have Q := Q.on hb
            have r_a := r_a.on hb
            have t_a := t_a.on hb
            have k_a := k_a.below hb k_a.lt
            have hB20 := bltB hB19 hB19.size hb
            clear hb hB19
            go_wp2_with fail
            go_ret
            exact ⟨rfl, hB20.alloc hB20.size _⟩
          · by_cases hx : x < 1
            · go_wp2_with fail
              refine (copy_any wr p b (2 * k) (Fa l) M).mono ?_
              rintro y w11 ⟨q2, b2, rfl, P, hp_P, hb_P, hb⟩
              have hne_P_M : b2 ≠ b := by have := M.lt; omega
              have hne_M_P : b ≠ b2 := fun e => hne_P_M e.symm
              have hb_P := Nat.le_trans hBr.size hb_P
              have je := je.below hb je.lt
              have jo := jo.below hb jo.lt
              have M := M.on hb
              have hB11 := bltB hBr hBr.size hb
              clear hb hBr
              go_wp2_with fail
              refine (copy_any w11 p b (2 * k) (Fa l) M).mono ?_
              rintro y w12 ⟨q3, b3, rfl, Q, hp_Q, hb_Q, hb⟩
              have hne_Q_M : b3 ≠ b := by have := M.lt; omega
              have hne_M_Q : b ≠ b3 := fun e => hne_Q_M e.symm
              have hne_Q_P : b3 ≠ b2 := by have := P.lt; omega
              have hne_P_Q : b2 ≠ b3 := fun e => hne_Q_P e.symm
              have hb_Q := Nat.le_trans hB11.size hb_Q
              have je := je.below hb je.lt
              have jo := jo.below hb jo.lt
              have M := M.on hb
              have P := P.on hb
              have hB12 := bltB hB11 hB11.size hb
              clear hb hB11
              have q_je_0 := je.cell 0
              have q_je_1 := je.cell 1
              have q_je_2 := je.cell 2
              have q_je_3 := je.cell 3
              have q_je_4 := je.cell 4
              have q_je_5 := je.cell 5
              have q_je_6 := je.cell 6
              have q_je_7 := je.cell 7
              have q_je_8 := je.cell 8
              have q_je_l := je.lt
              go_wp2_with fail
              clear q_je_0 q_je_1 q_je_2 q_je_3 q_je_4 q_je_5 q_je_6 q_je_7 q_je_8 q_je_l
              refine (failed_any w12 q2 b2 (2 * k) (Fa l) P (Fa_good l) (by omega) ⟨f, t, c, r, p0, p1, p2, p3, p4⟩ x).mono ?_
              rintro y w13 ⟨rfl, hM1, hg⟩
              have je := je.grownM P hg
              have jo := jo.grownM P hg
              have M := M.grownM P hg hne_M_P
              have Q := Q.grownM P hg hne_Q_P
              have hB13 := Below.grownM hB12 hg hB12.size hb_P
              have P := hM1
              clear hg hM1 hB12
              have q_je_0 := je.cell 0
              have q_je_1 := je.cell 1
              have q_je_2 := je.cell 2
              have q_je_3 := je.cell 3
              have q_je_4 := je.cell 4
              have q_je_5 := je.cell 5
              have q_je_6 := je.cell 6
              have q_je_7 := je.cell 7
              have q_je_8 := je.cell 8
              have q_je_l := je.lt
              go_wp2_with fail
              clear q_je_0 q_je_1 q_je_2 q_je_3 q_je_4 q_je_5 q_je_6 q_je_7 q_je_8 q_je_l
              refine (passed_any w13 q3 b3 (2 * k) (Fa l) Q (Fa_good l) (by omega) ⟨f, t, c, r, p0, p1, p2, p3, p4⟩ x).mono ?_
              rintro y w14 ⟨rfl, hM1, hg⟩
              have je := je.grownM Q hg
              have jo := jo.grownM Q hg
              have M := M.grownM Q hg hne_M_Q
              have P := P.grownM Q hg hne_P_Q
              have hB14 := Below.grownM hB13 hg hB13.size hb_Q
              have Q := hM1
              clear hg hM1 hB13
              have q_jo_0 := jo.cell 0
              have q_jo_1 := jo.cell 1
              have q_jo_2 := jo.cell 2
              have q_jo_3 := jo.cell 3
              have q_jo_4 := jo.cell 4
              have q_jo_5 := jo.cell 5
              have q_jo_6 := jo.cell 6
              have q_jo_7 := jo.cell 7
              have q_jo_8 := jo.cell 8
              have q_jo_l := jo.lt
              go_wp2_with fail
              clear q_jo_0 q_jo_1 q_jo_2 q_jo_3 q_jo_4 q_jo_5 q_jo_6 q_jo_7 q_jo_8 q_jo_l
              refine (bounds_any w14 p b (2 * k) (Fa l) M (Fa_good l) ⟨f2, t2, c2, r2, v0, v1, v2, v3, v4⟩).mono ?_
              rintro y w15 ⟨rfl, hb⟩
              have je := je.below hb je.lt
              have jo := jo.below hb jo.lt
              have M := M.on hb
              have P := P.on hb
              have Q := Q.on hb
              have hB15 := bltB hB14 hB14.size hb
              clear hb hB14
              obtain ⟨lo, hi, h1⟩ : ∃ y1 y2, bnd (Fa l) (Ed.e4 ⟨f2, t2, c2, r2, v0, v1, v2, v3, v4⟩) = (y1, y2) := ⟨_, _, rfl⟩
              rw [h1]
              have H1 := Lib.hid h1
              clear h1
              have q_jo_0 := jo.cell 0
              have q_jo_1 := jo.cell 1
              have q_jo_2 := jo.cell 2
              have q_jo_3 := jo.cell 3
              have q_jo_4 := jo.cell 4
              have q_jo_5 := jo.cell 5
              have q_jo_6 := jo.cell 6
              have q_jo_7 := jo.cell 7
              have q_jo_8 := jo.cell 8
              have q_jo_l := jo.lt
              go_wp2_with fail
              clear q_jo_0 q_jo_1 q_jo_2 q_jo_3 q_jo_4 q_jo_5 q_jo_6 q_jo_7 q_jo_8 q_jo_l
              refine (bounds_any w15 q2 b2 ((2 * k) + 1) (failL (Fa l) (Ed.e4 ⟨f, t, c, r, p0, p1, p2, p3, p4⟩) x) P (((Fa_good l) : Good (Fa l)).fail (Ed.e4 ⟨f, t, c, r, p0, p1, p2, p3, p4⟩) x) ⟨f2, t2, c2, r2, v0, v1, v2, v3, v4⟩).mono ?_
              rintro y w16 ⟨rfl, hb⟩
              have je := je.below hb je.lt
              have jo := jo.below hb jo.lt
              have M := M.on hb
              have P := P.on hb
              have Q := Q.on hb
              have hB16 := bltB hB15 hB15.size hb
              clear hb hB15
              rw [bnd_fail hne.out, H1.out]
              have q_jo_0 := jo.cell 0
              have q_jo_1 := jo.cell 1
              have q_jo_2 := jo.cell 2
              have q_jo_3 := jo.cell 3
              have q_jo_4 := jo.cell 4
              have q_jo_5 := jo.cell 5
              have q_jo_6 := jo.cell 6
              have q_jo_7 := jo.cell 7
              have q_jo_8 := jo.cell 8
              have q_jo_l := jo.lt
              go_wp2_with fail
              clear q_jo_0 q_jo_1 q_jo_2 q_jo_3 q_jo_4 q_jo_5 q_jo_6 q_jo_7 q_jo_8 q_jo_l
              refine (bounds_any w16 q3 b3 ((2 * k) + 1) (passL (Fa l) (Ed.e4 ⟨f, t, c, r, p0, p1, p2, p3, p4⟩) x) Q (((Fa_good l) : Good (Fa l)).pass (Ed.e4 ⟨f, t, c, r, p0, p1, p2, p3, p4⟩) x) ⟨f2, t2, c2, r2, v0, v1, v2, v3, v4⟩).mono ?_
              rintro y w17 ⟨rfl, hb⟩
              have je := je.below hb je.lt
              have jo := jo.below hb jo.lt
              have M := M.on hb
              have P := P.on hb
              have Q := Q.on hb
              have hB17 := bltB hB16 hB16.size hb
              clear hb hB16
              rw [bnd_pass hne.out, H1.out]
              have q_je_0 := je.cell 0
              have q_je_1 := je.cell 1
              have q_je_2 := je.cell 2
              have q_je_3 := je.cell 3
              have q_je_4 := je.cell 4
              have q_je_5 := je.cell 5
              have q_je_6 := je.cell 6
              have q_je_7 := je.cell 7
              have q_je_8 := je.cell 8
              have q_je_l := je.lt
              have q_jo_0 := jo.cell 0
              have q_jo_1 := jo.cell 1
              have q_jo_2 := jo.cell 2
              have q_jo_3 := jo.cell 3
              have q_jo_4 := jo.cell 4
              have q_jo_5 := jo.cell 5
              have q_jo_6 := jo.cell 6
              have q_jo_7 := jo.cell 7
              have q_jo_8 := jo.cell 8
              have q_jo_l := jo.lt
              go_wp2_with fail
              clear q_je_0 q_je_1 q_je_2 q_je_3 q_je_4 q_je_5 q_je_6 q_je_7 q_je_8 q_je_l q_jo_0 q_jo_1 q_jo_2 q_jo_3 q_jo_4 q_jo_5 q_jo_6 q_jo_7 q_jo_8 q_jo_l
              refine (odds_ok w17 q2 b2 ((2 * k) + 1) (failL (Fa l) (Ed.e4 ⟨f, t, c, r, p0, p1, p2, p3, p4⟩) x) P (((Fa_good l) : Good (Fa l)).fail (Ed.e4 ⟨f, t, c, r, p0, p1, p2, p3, p4⟩) x) ⟨f, t, c, r, p0, p1, p2, p3, p4⟩ x hok).mono ?_
              rintro y w18 ⟨A_a, n_a, c_a, B_a, m_a, d_a, rfl, r_a, t_a, l_a, hb⟩
              have je := je.below hb je.lt
              have jo := jo.below hb jo.lt
              have M := M.on hb
              have P := P.on hb
              have Q := Q.on hb
              have hB18 := bltB hB17 hB17.size hb
              clear hb hB17
              have q_je_0 := je.cell 0
              have q_je_1 := je.cell 1
              have q_je_2 := je.cell 2
              have q_je_3 := je.cell 3
              have q_je_4 := je.cell 4
              have q_je_5 := je.cell 5
              have q_je_6 := je.cell 6
              have q_je_7 := je.cell 7
              have q_je_8 := je.cell 8
              have q_je_l := je.lt
              go_wp2_with fail
              clear q_je_0 q_je_1 q_je_2 q_je_3 q_je_4 q_je_5 q_je_6 q_je_7 q_je_8 q_je_l
              obtain ⟨w19, hw19⟩ : ∃ W, W = w18.alloc (.cells #[.slice A_a n_a c_a, .slice B_a m_a d_a] 42) := ⟨_, rfl⟩
              obtain ⟨G_a, hG_a⟩ : ∃ G, w18.heap.size = G := ⟨_, rfl⟩
              have ha : Below w18.heap.size w18 w19 := by rw [hw19]; exact (Below.refl _ _).alloc (Nat.le_refl _) _
              have k_a : Blk w19 G_a 42 #[.slice A_a n_a c_a, .slice B_a m_a d_a] := by rw [hw19, ← hG_a]; exact Blk.new w18 _ _
              rw [← hw19]
              simp only [hG_a]
              clear hw19 hG_a
              have je := je.below ha je.lt
              have jo := jo.below ha jo.lt
              have M := M.on ha
              have P := P.on ha
              have Q := Q.on ha
              have r_a := r_a.on ha
              have t_a := t_a.on ha
              have hB19 := bltB hB18 hB18.size ha
              clear ha hB18
              refine (odds_ok w19 q3 b3 ((2 * k) + 1) (passL (Fa l) (Ed.e4 ⟨f, t, c, r, p0, p1, p2, p3, p4⟩) x) Q (((Fa_good l) : Good (Fa l)).pass (Ed.e4 ⟨f, t, c, r, p0, p1, p2, p3, p4⟩) x) ⟨f, t, c, r, p0, p1, p2, p3, p4⟩ x hok).mono ?_
              rintro y w20 ⟨A_b, n_b, c_b, B_b, m_b, d_b, rfl, r_b, t_b, l_b, hb⟩
              have je := je.below hb je.lt
              have jo := jo.below hb jo.lt
              have M := M.on hb
              have P := P.on hb
              have Q := Q.on hb
              have r_a := r_a.on hb
              have t_a := t_a.on hb
              have k_a := k_a.below hb k_a.lt
              have hB20 := bltB hB19 hB19.size hb
              clear hb hB19
              have hsF := odd_small ((Fa_good l).fail (Ed.e4 ⟨f, t, c, r, p0, p1, p2, p3, p4⟩) x) hok
              have hsP := odd_small ((Fa_good l).pass (Ed.e4 ⟨f, t, c, r, p0, p1, p2, p3, p4⟩) x) hok
              have HSF := Lib.hid hsF
              have HSP := Lib.hid hsP
              clear hsF hsP
              have q_k_a_0 := k_a.cell 0
              have q_k_a_1 := k_a.cell 1
              have q_k_a_l := k_a.lt
              go_wp2_with fail
              clear q_k_a_0 q_k_a_1 q_k_a_l
              obtain ⟨w21, hw21⟩ : ∃ W, W = w20.alloc (.cells #[.slice A_b n_b c_b, .slice B_b m_b d_b] 42) := ⟨_, rfl⟩
              obtain ⟨G_b, hG_b⟩ : ∃ G, w20.heap.size = G := ⟨_, rfl⟩
              have ha : Below w20.heap.size w20 w21 := by rw [hw21]; exact (Below.refl _ _).alloc (Nat.le_refl _) _
              have k_b : Blk w21 G_b 42 #[.slice A_b n_b c_b, .slice B_b m_b d_b] := by rw [hw21, ← hG_b]; exact Blk.new w20 _ _
              rw [← hw21]
              simp only [hG_b]
              clear hw21 hG_b
              have je := je.below ha je.lt
              have jo := jo.below ha jo.lt
              have M := M.on ha
              have P := P.on ha
              have Q := Q.on ha
              have r_a := r_a.on ha
              have t_a := t_a.on ha
              have k_a := k_a.below ha k_a.lt
              have r_b := r_b.on ha
              have t_b := t_b.on ha
              have hB21 := bltB hB20 hB20.size ha
              clear ha hB20
              refine (is_any w21 _ _ _ _ _ _ (oN (failL (Fa l) (Ed.e4 ⟨f, t, c, r, p0, p1, p2, p3, p4⟩) x) (Ed.e4 ⟨f, t, c, r, p0, p1, p2, p3, p4⟩) x) (oD (failL (Fa l) (Ed.e4 ⟨f, t, c, r, p0, p1, p2, p3, p4⟩) x) (Ed.e4 ⟨f, t, c, r, p0, p1, p2, p3, p4⟩)) r_a t_a HSF.out.2.1 (by omega) (by omega) 1 1 (by decide) (by decide) (by decide)).mono ?_
              rintro y w22 ⟨rfl, hb⟩
              have je := je.below hb je.lt
              have jo := jo.below hb jo.lt
              have M := M.on hb
              have P := P.on hb
              have Q := Q.on hb
              have r_a := r_a.on hb
              have t_a := t_a.on hb
              have k_a := k_a.below hb k_a.lt
              have r_b := r_b.on hb
              have t_b := t_b.on hb
              have k_b := k_b.below hb k_b.lt
              have hB22 := bltB hB21 hB21.size hb
              clear hb hB21
              rw [show decide ((oN (failL (Fa l) (Ed.e4 ⟨f, t, c, r, p0, p1, p2, p3, p4⟩) x) (Ed.e4 ⟨f, t, c, r, p0, p1, p2, p3, p4⟩) x) * 1 = 1 * (oD (failL (Fa l) (Ed.e4 ⟨f, t, c, r, p0, p1, p2, p3, p4⟩) x) (Ed.e4 ⟨f, t, c, r, p0, p1, p2, p3, p4⟩))) = true from decide_eq_true (by rw [Nat.mul_one, Nat.one_mul]; exact nought_nat ((Fa_good l).fail (Ed.e4 ⟨f, t, c, r, p0, p1, p2, p3, p4⟩) x) hok hx)]
              have q_k_b_0 := k_b.cell 0
              have q_k_b_1 := k_b.cell 1
              have q_k_b_l := k_b.lt
              go_wp2_with fail
              clear q_k_b_0 q_k_b_1 q_k_b_l
              refine (is_any w22 _ _ _ _ _ _ (oN (passL (Fa l) (Ed.e4 ⟨f, t, c, r, p0, p1, p2, p3, p4⟩) x) (Ed.e4 ⟨f, t, c, r, p0, p1, p2, p3, p4⟩) x) (oD (passL (Fa l) (Ed.e4 ⟨f, t, c, r, p0, p1, p2, p3, p4⟩) x) (Ed.e4 ⟨f, t, c, r, p0, p1, p2, p3, p4⟩)) r_b t_b HSP.out.2.1 (by omega) (by omega) 1 1 (by decide) (by decide) (by decide)).mono ?_
              rintro y w23 ⟨rfl, hb⟩
              have je := je.below hb je.lt
              have jo := jo.below hb jo.lt
              have M := M.on hb
              have P := P.on hb
              have Q := Q.on hb
              have r_a := r_a.on hb
              have t_a := t_a.on hb
              have k_a := k_a.below hb k_a.lt
              have r_b := r_b.on hb
              have t_b := t_b.on hb
              have k_b := k_b.below hb k_b.lt
              have hB23 := bltB hB22 hB22.size hb
              clear hb hB22
              rw [show decide ((oN (passL (Fa l) (Ed.e4 ⟨f, t, c, r, p0, p1, p2, p3, p4⟩) x) (Ed.e4 ⟨f, t, c, r, p0, p1, p2, p3, p4⟩) x) * 1 = 1 * (oD (passL (Fa l) (Ed.e4 ⟨f, t, c, r, p0, p1, p2, p3, p4⟩) x) (Ed.e4 ⟨f, t, c, r, p0, p1, p2, p3, p4⟩))) = true from decide_eq_true (by rw [Nat.mul_one, Nat.one_mul]; exact nought_nat ((Fa_good l).pass (Ed.e4 ⟨f, t, c, r, p0, p1, p2, p3, p4⟩) x) hok hx)]
              go_wp2_with fail
              go_ret
              exact ⟨rfl, hB23⟩
            · go_wp2_with fail
              refine (copy_any wr p b (2 * k) (Fa l) M).mono ?_
              rintro y w11 ⟨q2, b2, rfl, P, hp_P, hb_P, hb⟩
              have hne_P_M : b2 ≠ b := by have := M.lt; omega
              have hne_M_P : b ≠ b2 := fun e => hne_P_M e.symm
              have hb_P := Nat.le_trans hBr.size hb_P
              have je := je.below hb je.lt
              have jo := jo.below hb jo.lt
              have M := M.on hb
              have hB11 := bltB hBr hBr.size hb
              clear hb hBr
              go_wp2_with fail
              refine (copy_any w11 p b (2 * k) (Fa l) M).mono ?_
              rintro y w12 ⟨q3, b3, rfl, Q, hp_Q, hb_Q, hb⟩
              have hne_Q_M : b3 ≠ b := by have := M.lt; omega
              have hne_M_Q : b ≠ b3 := fun e => hne_Q_M e.symm
              have hne_Q_P : b3 ≠ b2 := by have := P.lt; omega
              have hne_P_Q : b2 ≠ b3 := fun e => hne_Q_P e.symm
              have hb_Q := Nat.le_trans hB11.size hb_Q
              have je := je.below hb je.lt
              have jo := jo.below hb jo.lt
              have M := M.on hb
              have P := P.on hb
              have hB12 := bltB hB11 hB11.size hb
              clear hb hB11
              have q_je_0 := je.cell 0
              have q_je_1 := je.cell 1
              have q_je_2 := je.cell 2
              have q_je_3 := je.cell 3
              have q_je_4 := je.cell 4
              have q_je_5 := je.cell 5
              have q_je_6 := je.cell 6
              have q_je_7 := je.cell 7
              have q_je_8 := je.cell 8
              have q_je_l := je.lt
              go_wp2_with fail
              clear q_je_0 q_je_1 q_je_2 q_je_3 q_je_4 q_je_5 q_je_6 q_je_7 q_je_8 q_je_l
              refine (failed_any w12 q2 b2 (2 * k) (Fa l) P (Fa_good l) (by omega) ⟨f, t, c, r, p0, p1, p2, p3, p4⟩ x).mono ?_
              rintro y w13 ⟨rfl, hM1, hg⟩
              have je := je.grownM P hg
              have jo := jo.grownM P hg
              have M := M.grownM P hg hne_M_P
              have Q := Q.grownM P hg hne_Q_P
              have hB13 := Below.grownM hB12 hg hB12.size hb_P
              have P := hM1
              clear hg hM1 hB12
              have q_je_0 := je.cell 0
              have q_je_1 := je.cell 1
              have q_je_2 := je.cell 2
              have q_je_3 := je.cell 3
              have q_je_4 := je.cell 4
              have q_je_5 := je.cell 5
              have q_je_6 := je.cell 6
              have q_je_7 := je.cell 7
              have q_je_8 := je.cell 8
              have q_je_l := je.lt
              go_wp2_with fail
              clear q_je_0 q_je_1 q_je_2 q_je_3 q_je_4 q_je_5 q_je_6 q_je_7 q_je_8 q_je_l
              refine (passed_any w13 q3 b3 (2 * k) (Fa l) Q (Fa_good l) (by omega) ⟨f, t, c, r, p0, p1, p2, p3, p4⟩ x).mono ?_
              rintro y w14 ⟨rfl, hM1, hg⟩
              have je := je.grownM Q hg
              have jo := jo.grownM Q hg
              have M := M.grownM Q hg hne_M_Q
              have P := P.grownM Q hg hne_P_Q
              have hB14 := Below.grownM hB13 hg hB13.size hb_Q
              have Q := hM1
              clear hg hM1 hB13
              have q_jo_0 := jo.cell 0
              have q_jo_1 := jo.cell 1
              have q_jo_2 := jo.cell 2
              have q_jo_3 := jo.cell 3
              have q_jo_4 := jo.cell 4
              have q_jo_5 := jo.cell 5
              have q_jo_6 := jo.cell 6
              have q_jo_7 := jo.cell 7
              have q_jo_8 := jo.cell 8
              have q_jo_l := jo.lt
              go_wp2_with fail
              clear q_jo_0 q_jo_1 q_jo_2 q_jo_3 q_jo_4 q_jo_5 q_jo_6 q_jo_7 q_jo_8 q_jo_l
              refine (bounds_any w14 p b (2 * k) (Fa l) M (Fa_good l) ⟨f2, t2, c2, r2, v0, v1, v2, v3, v4⟩).mono ?_
              rintro y w15 ⟨rfl, hb⟩
              have je := je.below hb je.lt
              have jo := jo.below hb jo.lt
              have M := M.on hb
              have P := P.on hb
              have Q := Q.on hb
              have hB15 := bltB hB14 hB14.size hb
              clear hb hB14
              obtain ⟨lo, hi, h1⟩ : ∃ y1 y2, bnd (Fa l) (Ed.e4 ⟨f2, t2, c2, r2, v0, v1, v2, v3, v4⟩) = (y1, y2) := ⟨_, _, rfl⟩
              rw [h1]
              have H1 := Lib.hid h1
              clear h1
              have q_jo_0 := jo.cell 0
              have q_jo_1 := jo.cell 1
              have q_jo_2 := jo.cell 2
              have q_jo_3 := jo.cell 3
              have q_jo_4 := jo.cell 4
              have q_jo_5 := jo.cell 5
              have q_jo_6 := jo.cell 6
              have q_jo_7 := jo.cell 7
              have q_jo_8 := jo.cell 8
              have q_jo_l := jo.lt
              go_wp2_with fail
              clear q_jo_0 q_jo_1 q_jo_2 q_jo_3 q_jo_4 q_jo_5 q_jo_6 q_jo_7 q_jo_8 q_jo_l
              refine (bounds_any w15 q2 b2 ((2 * k) + 1) (failL (Fa l) (Ed.e4 ⟨f, t, c, r, p0, p1, p2, p3, p4⟩) x) P (((Fa_good l) : Good (Fa l)).fail (Ed.e4 ⟨f, t, c, r, p0, p1, p2, p3, p4⟩) x) ⟨f2, t2, c2, r2, v0, v1, v2, v3, v4⟩).mono ?_
              rintro y w16 ⟨rfl, hb⟩
              have je := je.below hb je.lt
              have jo := jo.below hb jo.lt
              have M := M.on hb
              have P := P.on hb
              have Q := Q.on hb
              have hB16 := bltB hB15 hB15.size hb
              clear hb hB15
              rw [bnd_fail hne.out, H1.out]
              have q_jo_0 := jo.cell 0
              have q_jo_1 := jo.cell 1
              have q_jo_2 := jo.cell 2
              have q_jo_3 := jo.cell 3
              have q_jo_4 := jo.cell 4
              have q_jo_5 := jo.cell 5
              have q_jo_6 := jo.cell 6
              have q_jo_7 := jo.cell 7
              have q_jo_8 := jo.cell 8
              have q_jo_l := jo.lt
              go_wp2_with fail
              clear q_jo_0 q_jo_1 q_jo_2 q_jo_3 q_jo_4 q_jo_5 q_jo_6 q_jo_7 q_jo_8 q_jo_l
              refine (bounds_any w16 q3 b3 ((2 * k) + 1) (passL (Fa l) (Ed.e4 ⟨f, t, c, r, p0, p1, p2, p3, p4⟩) x) Q (((Fa_good l) : Good (Fa l)).pass (Ed.e4 ⟨f, t, c, r, p0, p1, p2, p3, p4⟩) x) ⟨f2, t2, c2, r2, v0, v1, v2, v3, v4⟩).mono ?_
              rintro y w17 ⟨rfl, hb⟩
              have je := je.below hb je.lt
              have jo := jo.below hb jo.lt
              have M := M.on hb
              have P := P.on hb
              have Q := Q.on hb
              have hB17 := bltB hB16 hB16.size hb
              clear hb hB16
              rw [bnd_pass hne.out, H1.out]
              have q_je_0 := je.cell 0
              have q_je_1 := je.cell 1
              have q_je_2 := je.cell 2
              have q_je_3 := je.cell 3
              have q_je_4 := je.cell 4
              have q_je_5 := je.cell 5
              have q_je_6 := je.cell 6
              have q_je_7 := je.cell 7
              have q_je_8 := je.cell 8
              have q_je_l := je.lt
              have q_jo_0 := jo.cell 0
              have q_jo_1 := jo.cell 1
              have q_jo_2 := jo.cell 2
              have q_jo_3 := jo.cell 3
              have q_jo_4 := jo.cell 4
              have q_jo_5 := jo.cell 5
              have q_jo_6 := jo.cell 6
              have q_jo_7 := jo.cell 7
              have q_jo_8 := jo.cell 8
              have q_jo_l := jo.lt
              go_wp2_with fail
              clear q_je_0 q_je_1 q_je_2 q_je_3 q_je_4 q_je_5 q_je_6 q_je_7 q_je_8 q_je_l q_jo_0 q_jo_1 q_jo_2 q_jo_3 q_jo_4 q_jo_5 q_jo_6 q_jo_7 q_jo_8 q_jo_l
              refine (odds_ok w17 q2 b2 ((2 * k) + 1) (failL (Fa l) (Ed.e4 ⟨f, t, c, r, p0, p1, p2, p3, p4⟩) x) P (((Fa_good l) : Good (Fa l)).fail (Ed.e4 ⟨f, t, c, r, p0, p1, p2, p3, p4⟩) x) ⟨f, t, c, r, p0, p1, p2, p3, p4⟩ x hok).mono ?_
              rintro y w18 ⟨A_a, n_a, c_a, B_a, m_a, d_a, rfl, r_a, t_a, l_a, hb⟩
              have je := je.below hb je.lt
              have jo := jo.below hb jo.lt
              have M := M.on hb
              have P := P.on hb
              have Q := Q.on hb
              have hB18 := bltB hB17 hB17.size hb
              clear hb hB17
              have q_je_0 := je.cell 0
              have q_je_1 := je.cell 1
              have q_je_2 := je.cell 2
              have q_je_3 := je.cell 3
              have q_je_4 := je.cell 4
              have q_je_5 := je.cell 5
              have q_je_6 := je.cell 6
              have q_je_7 := je.cell 7
              have q_je_8 := je.cell 8
              have q_je_l := je.lt
              go_wp2_with fail
              clear q_je_0 q_je_1 q_je_2 q_je_3 q_je_4 q_je_5 q_je_6 q_je_7 q_je_8 q_je_l
              obtain ⟨w19, hw19⟩ : ∃ W, W = w18.alloc (.cells #[.slice A_a n_a c_a, .slice B_a m_a d_a] 42) := ⟨_, rfl⟩
              obtain ⟨G_a, hG_a⟩ : ∃ G, w18.heap.size = G := ⟨_, rfl⟩
              have ha : Below w18.heap.size w18 w19 := by rw [hw19]; exact (Below.refl _ _).alloc (Nat.le_refl _) _
              have k_a : Blk w19 G_a 42 #[.slice A_a n_a c_a, .slice B_a m_a d_a] := by rw [hw19, ← hG_a]; exact Blk.new w18 _ _
              rw [← hw19]
              simp only [hG_a]
              clear hw19 hG_a
              have je := je.below ha je.lt
              have jo := jo.below ha jo.lt
              have M := M.on ha
              have P := P.on ha
              have Q := Q.on ha
              have r_a := r_a.on ha
              have t_a := t_a.on ha
              have hB19 := bltB hB18 hB18.size ha
              clear ha hB18
              refine (odds_ok w19 q3 b3 ((2 * k) + 1) (passL (Fa l) (Ed.e4 ⟨f, t, c, r, p0, p1, p2, p3, p4⟩) x) Q (((Fa_good l) : Good (Fa l)).pass (Ed.e4 ⟨f, t, c, r, p0, p1, p2, p3, p4⟩) x) ⟨f, t, c, r, p0, p1, p2, p3, p4⟩ x hok).mono ?_
              rintro y w20 ⟨A_b, n_b, c_b, B_b, m_b, d_b, rfl, r_b, t_b, l_b, hb⟩
              have je := je.below hb je.lt
              have jo := jo.below hb jo.lt
              have M := M.on hb
              have P := P.on hb
              have Q := Q.on hb
              have r_a := r_a.on hb
              have t_a := t_a.on hb
              have k_a := k_a.below hb k_a.lt
              have hB20 := bltB hB19 hB19.size hb
              clear hb hB19
              have hsF := odd_small ((Fa_good l).fail (Ed.e4 ⟨f, t, c, r, p0, p1, p2, p3, p4⟩) x) hok
              have hsP := odd_small ((Fa_good l).pass (Ed.e4 ⟨f, t, c, r, p0, p1, p2, p3, p4⟩) x) hok
              have HSF := Lib.hid hsF
              have HSP := Lib.hid hsP
              clear hsF hsP
              have q_je_0 := je.cell 0
              have q_je_1 := je.cell 1
              have q_je_2 := je.cell 2
              have q_je_3 := je.cell 3
              have q_je_4 := je.cell 4
              have q_je_5 := je.cell 5
              have q_je_6 := je.cell 6
              have q_je_7 := je.cell 7
              have q_je_8 := je.cell 8
              have q_je_l := je.lt
              go_wp2_with fail
              clear q_je_0 q_je_1 q_je_2 q_je_3 q_je_4 q_je_5 q_je_6 q_je_7 q_je_8 q_je_l
              obtain ⟨w21, hw21⟩ : ∃ W, W = w20.alloc (.cells #[.slice A_b n_b c_b, .slice B_b m_b d_b] 42) := ⟨_, rfl⟩
              obtain ⟨G_b, hG_b⟩ : ∃ G, w20.heap.size = G := ⟨_, rfl⟩
              have ha : Below w20.heap.size w20 w21 := by rw [hw21]; exact (Below.refl _ _).alloc (Nat.le_refl _) _
              have k_b : Blk w21 G_b 42 #[.slice A_b n_b c_b, .slice B_b m_b d_b] := by rw [hw21, ← hG_b]; exact Blk.new w20 _ _
              rw [← hw21]
              simp only [hG_b]
              clear hw21 hG_b
              have je := je.below ha je.lt
              have jo := jo.below ha jo.lt
              have M := M.on ha
              have P := P.on ha
              have Q := Q.on ha
              have r_a := r_a.on ha
              have t_a := t_a.on ha
              have k_a := k_a.below ha k_a.lt
              have r_b := r_b.on ha
              have t_b := t_b.on ha
              have hB21 := bltB hB20 hB20.size ha
              clear ha hB20
              have HS0 := Lib.hid (odd_small (Fa_good l) hok)
              refine (odds_ok w21 p b (2 * k) (Fa l) M (Fa_good l) ⟨f, t, c, r, p0, p1, p2, p3, p4⟩ x hok).mono ?_
              rintro y w22 ⟨A_d, n_d, c_d, B_d, m_d, d_d, rfl, r_d, t_d, l_d, hb⟩
              have je := je.below hb je.lt
              have jo := jo.below hb jo.lt
              have M := M.on hb
              have P := P.on hb
              have Q := Q.on hb
              have r_a := r_a.on hb
              have t_a := t_a.on hb
              have k_a := k_a.below hb k_a.lt
              have r_b := r_b.on hb
              have t_b := t_b.on hb
              have k_b := k_b.below hb k_b.lt
              have hB22 := bltB hB21 hB21.size hb
              clear hb hB21
              go_wp2_with fail
              obtain ⟨w23, hw23⟩ : ∃ W, W = w22.alloc (.cells #[.slice A_d n_d c_d, .slice B_d m_d d_d] 42) := ⟨_, rfl⟩
              obtain ⟨G_d, hG_d⟩ : ∃ G, w22.heap.size = G := ⟨_, rfl⟩
              have ha : Below w22.heap.size w22 w23 := by rw [hw23]; exact (Below.refl _ _).alloc (Nat.le_refl _) _
              have k_d : Blk w23 G_d 42 #[.slice A_d n_d c_d, .slice B_d m_d d_d] := by rw [hw23, ← hG_d]; exact Blk.new w22 _ _
              rw [← hw23]
              simp only [hG_d]
              clear hw23 hG_d
              have je := je.below ha je.lt
              have jo := jo.below ha jo.lt
              have M := M.on ha
              have P := P.on ha
              have Q := Q.on ha
              have r_a := r_a.on ha
              have t_a := t_a.on ha
              have k_a := k_a.below ha k_a.lt
              have r_b := r_b.on ha
              have t_b := t_b.on ha
              have k_b := k_b.below ha k_b.lt
              have r_d := r_d.on ha
              have t_d := t_d.on ha
              have hB23 := bltB hB22 hB22.size ha
              clear ha hB22
              refine (fof_any w23 1 1 (by decide) (by decide)).mono ?_
              rintro y w24 ⟨A_u, n_u, c_u, B_u, m_u, d_u, rfl, r_u, t_u, hb⟩
              have je := je.below hb je.lt
              have jo := jo.below hb jo.lt
              have M := M.on hb
              have P := P.on hb
              have Q := Q.on hb
              have r_a := r_a.on hb
              have t_a := t_a.on hb
              have k_a := k_a.below hb k_a.lt
              have r_b := r_b.on hb
              have t_b := t_b.on hb
              have k_b := k_b.below hb k_b.lt
              have r_d := r_d.on hb
              have t_d := t_d.on hb
              have k_d := k_d.below hb k_d.lt
              have hB24 := bltB hB23 hB23.size hb
              clear hb hB23
              rw [if_neg (by decide)] at r_u t_u
              have l_u : n_u ≤ 2 := rd_two r_u (by decide)
              have l_v : m_u ≤ 2 := rd_two t_u (by decide)
              have q_k_a_0 := k_a.cell 0
              have q_k_a_1 := k_a.cell 1
              have q_k_a_l := k_a.lt
              go_wp2_with fail
              clear q_k_a_0 q_k_a_1 q_k_a_l
              obtain ⟨w25, hw25⟩ : ∃ W, W = w24.alloc (.cells #[.slice A_u n_u c_u, .slice B_u m_u d_u] 42) := ⟨_, rfl⟩
              obtain ⟨G_u, hG_u⟩ : ∃ G, w24.heap.size = G := ⟨_, rfl⟩
              have ha : Below w24.heap.size w24 w25 := by rw [hw25]; exact (Below.refl _ _).alloc (Nat.le_refl _) _
              have k_u : Blk w25 G_u 42 #[.slice A_u n_u c_u, .slice B_u m_u d_u] := by rw [hw25, ← hG_u]; exact Blk.new w24 _ _
              rw [← hw25]
              simp only [hG_u]
              clear hw25 hG_u
              have je := je.below ha je.lt
              have jo := jo.below ha jo.lt
              have M := M.on ha
              have P := P.on ha
              have Q := Q.on ha
              have r_a := r_a.on ha
              have t_a := t_a.on ha
              have k_a := k_a.below ha k_a.lt
              have r_b := r_b.on ha
              have t_b := t_b.on ha
              have k_b := k_b.below ha k_b.lt
              have r_d := r_d.on ha
              have t_d := t_d.on ha
              have k_d := k_d.below ha k_d.lt
              have r_u := r_u.on ha
              have t_u := t_u.on ha
              have hB25 := bltB hB24 hB24.size ha
              clear ha hB24
              refine (is_any w25 _ _ _ _ _ _ (oN (failL (Fa l) (Ed.e4 ⟨f, t, c, r, p0, p1, p2, p3, p4⟩) x) (Ed.e4 ⟨f, t, c, r, p0, p1, p2, p3, p4⟩) x) (oD (failL (Fa l) (Ed.e4 ⟨f, t, c, r, p0, p1, p2, p3, p4⟩) x) (Ed.e4 ⟨f, t, c, r, p0, p1, p2, p3, p4⟩)) r_a t_a HSF.out.2.1 (by omega) (by omega) 0 1 (by decide) (by decide) (by decide)).mono ?_
              rintro y w26 ⟨rfl, hb⟩
              have je := je.below hb je.lt
              have jo := jo.below hb jo.lt
              have M := M.on hb
              have P := P.on hb
              have Q := Q.on hb
              have r_a := r_a.on hb
              have t_a := t_a.on hb
              have k_a := k_a.below hb k_a.lt
              have r_b := r_b.on hb
              have t_b := t_b.on hb
              have k_b := k_b.below hb k_b.lt
              have r_d := r_d.on hb
              have t_d := t_d.on hb
              have k_d := k_d.below hb k_d.lt
              have r_u := r_u.on hb
              have t_u := t_u.on hb
              have k_u := k_u.below hb k_u.lt
              have hB26 := bltB hB25 hB25.size hb
              clear hb hB25
              rw [show decide ((oN (failL (Fa l) (Ed.e4 ⟨f, t, c, r, p0, p1, p2, p3, p4⟩) x) (Ed.e4 ⟨f, t, c, r, p0, p1, p2, p3, p4⟩) x) * 1 = 0 * (oD (failL (Fa l) (Ed.e4 ⟨f, t, c, r, p0, p1, p2, p3, p4⟩) x) (Ed.e4 ⟨f, t, c, r, p0, p1, p2, p3, p4⟩))) = true from decide_eq_true (by rw [fail_nat (Fa_good l) hok (by omega)]; simp)]
              have q_k_b_0 := k_b.cell 0
              have q_k_b_1 := k_b.cell 1
              have q_k_b_l := k_b.lt
              go_wp2_with fail
              clear q_k_b_0 q_k_b_1 q_k_b_l
              refine (is_any w26 _ _ _ _ _ _ (oN (passL (Fa l) (Ed.e4 ⟨f, t, c, r, p0, p1, p2, p3, p4⟩) x) (Ed.e4 ⟨f, t, c, r, p0, p1, p2, p3, p4⟩) x) (oD (passL (Fa l) (Ed.e4 ⟨f, t, c, r, p0, p1, p2, p3, p4⟩) x) (Ed.e4 ⟨f, t, c, r, p0, p1, p2, p3, p4⟩)) r_b t_b HSP.out.2.1 (by omega) (by omega) 1 1 (by decide) (by decide) (by decide)).mono ?_
              rintro y w27 ⟨rfl, hb⟩
              have je := je.below hb je.lt
              have jo := jo.below hb jo.lt
              have M := M.on hb
              have P := P.on hb
              have Q := Q.on hb
              have r_a := r_a.on hb
              have t_a := t_a.on hb
              have k_a := k_a.below hb k_a.lt
              have r_b := r_b.on hb
              have t_b := t_b.on hb
              have k_b := k_b.below hb k_b.lt
              have r_d := r_d.on hb
              have t_d := t_d.on hb
              have k_d := k_d.below hb k_d.lt
              have r_u := r_u.on hb
              have t_u := t_u.on hb
              have k_u := k_u.below hb k_u.lt
              have hB27 := bltB hB26 hB26.size hb
              clear hb hB26
              rw [show decide ((oN (passL (Fa l) (Ed.e4 ⟨f, t, c, r, p0, p1, p2, p3, p4⟩) x) (Ed.e4 ⟨f, t, c, r, p0, p1, p2, p3, p4⟩) x) * 1 = 1 * (oD (passL (Fa l) (Ed.e4 ⟨f, t, c, r, p0, p1, p2, p3, p4⟩) x) (Ed.e4 ⟨f, t, c, r, p0, p1, p2, p3, p4⟩))) = true from decide_eq_true (by rw [Nat.mul_one, Nat.one_mul]; exact pass_nat (Fa_good l) hok (by omega))]
              have q_k_d_0 := k_d.cell 0
              have q_k_d_1 := k_d.cell 1
              have q_k_d_l := k_d.lt
              go_wp2_with fail
              clear q_k_d_0 q_k_d_1 q_k_d_l
              refine (fright_any _ _ _ _ _ _ _ _ _ r_d t_d (by omega) (by omega)).mono ?_
              rintro y w28 ⟨rfl, hb⟩
              have je := je.below hb je.lt
              have jo := jo.below hb jo.lt
              have M := M.on hb
              have P := P.on hb
              have Q := Q.on hb
              have r_a := r_a.on hb
              have t_a := t_a.on hb
              have k_a := k_a.below hb k_a.lt
              have r_b := r_b.on hb
              have t_b := t_b.on hb
              have k_b := k_b.below hb k_b.lt
              have r_d := r_d.on hb
              have t_d := t_d.on hb
              have k_d := k_d.below hb k_d.lt
              have r_u := r_u.on hb
              have t_u := t_u.on hb
              have k_u := k_u.below hb k_u.lt
              have hB28 := bltB hB27 hB27.size hb
              clear hb hB27
              rw [frR_low HS0.out.2.1]
              have q_k_d_0 := k_d.cell 0
              have q_k_d_1 := k_d.cell 1
              have q_k_d_l := k_d.lt
              have q_k_u_0 := k_u.cell 0
              have q_k_u_1 := k_u.cell 1
              have q_k_u_l := k_u.lt
              go_wp2_with fail
              clear q_k_d_0 q_k_d_1 q_k_d_l q_k_u_0 q_k_u_1 q_k_u_l
              refine (fcmp_any _ _ _ _ _ _ _ _ _ _ _ _ _ _ _ _ _ r_d t_d r_u t_u (by omega) (by omega) (by omega) (by omega)).mono ?_
              rintro y w29 ⟨rfl, hb⟩
              have je := je.below hb je.lt
              have jo := jo.below hb jo.lt
              have M := M.on hb
              have P := P.on hb
              have Q := Q.on hb
              have r_a := r_a.on hb
              have t_a := t_a.on hb
              have k_a := k_a.below hb k_a.lt
              have r_b := r_b.on hb
              have t_b := t_b.on hb
              have k_b := k_b.below hb k_b.lt
              have r_d := r_d.on hb
              have t_d := t_d.on hb
              have k_d := k_d.below hb k_d.lt
              have r_u := r_u.on hb
              have t_u := t_u.on hb
              have k_u := k_u.below hb k_u.lt
              have hB29 := bltB hB28 hB28.size hb
              clear hb hB28
              rw [cmp_low HS0.out.2.1 (by decide)]
              obtain ⟨z1, hz1⟩ : ∃ z, cmpI (((oN (Fa l) (Ed.e4 ⟨f, t, c, r, p0, p1, p2, p3, p4⟩) x) * 1 : Nat) : Int) ((1 * (oD (Fa l) (Ed.e4 ⟨f, t, c, r, p0, p1, p2, p3, p4⟩)) : Nat) : Int) = z := ⟨_, rfl⟩
              have hz0 : z1 ≤ 0 := by
                have h1 := HS0.out.1
                rw [← hz1, cmpI_nat]
                split
                · omega
                · split <;> omega
              rw [hz1]
              clear hz1
              go_wp2_with fail
              go_ret
              exact ⟨rfl, hB29⟩
  · have g30 : (30 : Int) < (n : Int) := by omega
    go_wp2_with fail
    go_ret
    exact ⟨rfl, hB2⟩

end Go.Proofs.Ytdobpicamibgpaa
