/-
  The law LearnChain: what its walk answers, whatever the acts.
-/
import Derived.Test.YtdobpicamibgpaaActs
import Derived.Test.YtdobpicamibgpaaFracM
import Derived.Test.YtdobpicamibgpaaOrd2
namespace Go.Proofs.Ytdobpicamibgpaa
open Go.RowKit Go.Maps Go.Shelf
set_option linter.unusedVariables false
set_option linter.unusedSimpArgs false
attribute [local go_sem] Oper.semAt_some

set_option maxRecDepth 100000 in
set_option maxHeartbeats 8000000 in
theorem lchain_any (w : World) (A : Option Addr) (n cp : Nat) (l : List Av) (hl : Acts w w.heap.size A n l) (e : Ed) (a b' : Int) : Calls Try.prog 8 #[.slice A n cp, e.v, .int .i64 a, .int .i64 b'] w fun e w' => e = .returned (.bool true) ∧ Below w.heap.size w w' := by
  obtain ⟨f, t, c, r, p0, p1, p2, p3, p4⟩ := e
  obtain ⟨w0, hw0⟩ : ∃ w0, w0 = w.alloc (.cells #[.int .i64 f, .int .i64 t, .int .i64 c, .int .i64 r, .int .i64 p0, .int .i64 p1, .int .i64 p2, .int .i64 p3, .int .i64 p4] 26) := ⟨_, rfl⟩
  have hB0 : Below w.heap.size w w0 := by rw [hw0]; exact (Below.refl _ _).alloc (Nat.le_refl _) _
  have je : Blk w0 w.heap.size 26 #[.int .i64 f, .int .i64 t, .int .i64 c, .int .i64 r, .int .i64 p0, .int .i64 p1, .int .i64 p2, .int .i64 p3, .int .i64 p4] := by rw [hw0]; exact Blk.new w _ _
  have HL := Lib.hid hl
  have hn0 := hl.small
  clear hl
  simp only [Ed.v, Ed.cs]
  go_enter Try.func8, Try.ntmps8
  go_wp2_with fail
  rw [← hw0]
  clear hw0
  go_wp2_with fail
  refine (lsmall_any w0).mono ?_
  rintro y w1 ⟨rfl, hb⟩
  have je := je.below hb je.lt
  have hB1 := bltB hB0 hB0.size hb
  clear hb hB0
  go_wp2_with fail
  refine (lnew_any w1).mono ?_
  rintro y w2 ⟨p, b, rfl, M, hp_M, hb_M, hb⟩
  have hb_M := Nat.le_trans hB1.size hb_M
  have je := je.below hb je.lt
  have hB2 := bltB hB1 hB1.size hb
  clear hb hB1
  by_cases h30 : n ≤ 30
  · have g30 : ¬ (30 : Int) < (n : Int) := by omega
    go_wp2_with fail
    go_loopw [11] (fun i wr => ∃ k : Nat, k ≤ n ∧ i = .int .i64 k ∧ MindAt wr p b (2 * k) (Fa (l.take k)) ∧ w2.grownBy wr (some b)) (fun i _ => n - (intOf i).toNat)
    case atStart => exact ⟨0, Nat.zero_le _, rfl, M, below_grown (Below.refl _ _) _⟩
    case round =>
      obtain ⟨k, hk, rfl, hM, hg⟩ := hrel
      have hBr := Below.grownM hB2 hg hB2.size hb_M
      by_cases hlt : k < n
      · obtain ⟨bb, off, hA, hbB, hat⟩ := HL.out.at_ (by omega)
        subst hA
        have hx : l[k]? = some (l[k]'(by rw [HL.out.len]; exact hlt)) := List.getElem?_eq_getElem _
        generalize l[k]'(by rw [HL.out.len]; exact hlt) = ak at hx
        obtain ⟨d1, ⟨f1, t1, c1, r1, u0, u1, u2, u3, u4⟩, x1⟩ := ak
        have hc := hat k _ hx
        have a0 : wr.cell? ⟨bb, off + k * 11, none⟩ = some (.int .i64 d1) := (hBr.cell (p := ⟨bb, _, none⟩) hbB).trans (hc 0 _ rfl)
        have a1 : wr.cell? ⟨bb, off + k * 11 + 1, none⟩ = some (.int .i64 f1) := (hBr.cell (p := ⟨bb, _, none⟩) hbB).trans (hc 1 _ rfl)
        have a2 : wr.cell? ⟨bb, off + k * 11 + 2, none⟩ = some (.int .i64 t1) := (hBr.cell (p := ⟨bb, _, none⟩) hbB).trans (hc 2 _ rfl)
        have a3 : wr.cell? ⟨bb, off + k * 11 + 3, none⟩ = some (.int .i64 c1) := (hBr.cell (p := ⟨bb, _, none⟩) hbB).trans (hc 3 _ rfl)
        have a4 : wr.cell? ⟨bb, off + k * 11 + 4, none⟩ = some (.int .i64 r1) := (hBr.cell (p := ⟨bb, _, none⟩) hbB).trans (hc 4 _ rfl)
        have a5 : wr.cell? ⟨bb, off + k * 11 + 5, none⟩ = some (.int .i64 u0) := (hBr.cell (p := ⟨bb, _, none⟩) hbB).trans (hc 5 _ rfl)
        have a6 : wr.cell? ⟨bb, off + k * 11 + 6, none⟩ = some (.int .i64 u1) := (hBr.cell (p := ⟨bb, _, none⟩) hbB).trans (hc 6 _ rfl)
        have a7 : wr.cell? ⟨bb, off + k * 11 + 7, none⟩ = some (.int .i64 u2) := (hBr.cell (p := ⟨bb, _, none⟩) hbB).trans (hc 7 _ rfl)
        have a8 : wr.cell? ⟨bb, off + k * 11 + 8, none⟩ = some (.int .i64 u3) := (hBr.cell (p := ⟨bb, _, none⟩) hbB).trans (hc 8 _ rfl)
        have a9 : wr.cell? ⟨bb, off + k * 11 + 9, none⟩ = some (.int .i64 u4) := (hBr.cell (p := ⟨bb, _, none⟩) hbB).trans (hc 9 _ rfl)
        have a10 : wr.cell? ⟨bb, off + k * 11 + 10, none⟩ = some (.int .i64 x1) := (hBr.cell (p := ⟨bb, _, none⟩) hbB).trans (hc 10 _ rfl)
        have hst := Lib.hid (Fa_step l k _ hx)
        clear hc hat hx
        go_wp2_with fail
        refine (done_any wr p b (2 * k) _ hM (Fa_good _) (by omega) ⟨d1, ⟨f1, t1, c1, r1, u0, u1, u2, u3, u4⟩, x1⟩).mono ?_
        rintro y wr2 ⟨rfl, hM1, hg1⟩
        have HR : Hid (MindAt wr2 p b (2 * (k + 1)) (Fa (l.take (k + 1))) ∧ w2.grownBy wr2 (some b)) := Lib.hid ⟨by rw [hst.out]; exact hM1.more (by omega), hg.andThen hg1 (fun j hj => .inr (by rw [← hj]))⟩
        clear hM hM1 hg hg1 hst hBr a0 a1 a2 a3 a4 a5 a6 a7 a8 a9 a10
        go_wp2_with fail
        go_roundw
        case rel => exact ⟨k + 1, by omega, by go_num, HR.out⟩
        case measure => simp [intOf]; omega
      · have hkn : k = n := by omega
        subst hkn
        rw [List.take_of_length_le (Nat.le_of_eq HL.out.len)] at hM
        have je := je.grownM M hg
        have M := hM
        clear hg hM hB2
        rcases hok1 : oddOk (Ed.e4 ⟨f, t, c, r, p0, p1, p2, p3, p4⟩) a with _ | _
        · rcases hok2 : oddOk (Ed.e4 ⟨f, t, c, r, p0, p1, p2, p3, p4⟩) b' with _ | _
          · have q_je_0 := je.cell 0
            have q_je_1 := je.cell 1
            have q_je_2 := je.cell 2
            have q_je_3 := je.cell 3
            have q_je_4 := je.cell 4
            have q_je_5 := je.cell 5
            have q_je_6 := je.cell 6
            have q_je_7 := je.cell 7
            have q_je_8 := je.cell 8
            have q_je_l := je.lt
            go_wp2_with fail
            clear q_je_0 q_je_1 q_je_2 q_je_3 q_je_4 q_je_5 q_je_6 q_je_7 q_je_8 q_je_l
            refine (odds_no wr p b (2 * k) (Fa l) M (Fa_good l) ⟨f, t, c, r, p0, p1, p2, p3, p4⟩ a hok1).mono ?_
            rintro y w11 ⟨A_x, n_x, c_x, B_x, m_x, d_x, rfl, r_x, t_x, l_x, hb⟩
            have je := je.below hb je.lt
            have M := M.on hb
            have hB11 := bltB hBr hBr.size hb
            clear hb hBr
            have q_je_0 := je.cell 0
            have q_je_1 := je.cell 1
            have q_je_2 := je.cell 2
            have q_je_3 := je.cell 3
            have q_je_4 := je.cell 4
            have q_je_5 := je.cell 5
            have q_je_6 := je.cell 6
            have q_je_7 := je.cell 7
            have q_je_8 := je.cell 8
            have q_je_l := je.lt
            go_wp2_with fail
            clear q_je_0 q_je_1 q_je_2 q_je_3 q_je_4 q_je_5 q_je_6 q_je_7 q_je_8 q_je_l
            obtain ⟨w12, hw12⟩ : ∃ W, W = w11.alloc (.cells #[.slice A_x n_x c_x, .slice B_x m_x d_x] 42) := ⟨_, rfl⟩
            obtain ⟨G_x, hG_x⟩ : ∃ G, w11.heap.size = G := ⟨_, rfl⟩
            have ha : Below w11.heap.size w11 w12 := by rw [hw12]; exact (Below.refl _ _).alloc (Nat.le_refl _) _
            have k_x : Blk w12 G_x 42 #[.slice A_x n_x c_x, .slice B_x m_x d_x] := by rw [hw12, ← hG_x]; exact Blk.new w11 _ _
            rw [← hw12]
            simp only [hG_x]
            clear hw12 hG_x
            have je := je.below ha je.lt
            have M := M.on ha
            have r_x := r_x.on ha
            have t_x := t_x.on ha
            have hB12 := bltB hB11 hB11.size ha
            clear ha hB11
            refine (odds_no w12 p b (2 * k) (Fa l) M (Fa_good l) ⟨f, t, c, r, p0, p1, p2, p3, p4⟩ b' hok2).mono ?_
            rintro y w13 ⟨A_y, n_y, c_y, B_y, m_y, d_y, rfl, r_y, t_y, l_y, hb⟩
            have je := je.below hb je.lt
            have M := M.on hb
            have r_x := r_x.on hb
            have t_x := t_x.on hb
            have k_x := k_x.below hb k_x.lt
            have hB13 := bltB hB12 hB12.size hb
            clear hb hB12
            go_wp2_with fail
            go_ret
            exact ⟨rfl, hB13.alloc hB13.size _⟩
          · have q_je_0 := je.cell 0
            have q_je_1 := je.cell 1
            have q_je_2 := je.cell 2
            have q_je_3 := je.cell 3
            have q_je_4 := je.cell 4
            have q_je_5 := je.cell 5
            have q_je_6 := je.cell 6
            have q_je_7 := je.cell 7
            have q_je_8 := je.cell 8
            have q_je_l := je.lt
            go_wp2_with fail
            clear q_je_0 q_je_1 q_je_2 q_je_3 q_je_4 q_je_5 q_je_6 q_je_7 q_je_8 q_je_l
            refine (odds_no wr p b (2 * k) (Fa l) M (Fa_good l) ⟨f, t, c, r, p0, p1, p2, p3, p4⟩ a hok1).mono ?_
            rintro y w11 ⟨A_x, n_x, c_x, B_x, m_x, d_x, rfl, r_x, t_x, l_x, hb⟩
            have je := je.below hb je.lt
            have M := M.on hb
            have hB11 := bltB hBr hBr.size hb
            clear hb hBr
            have q_je_0 := je.cell 0
            have q_je_1 := je.cell 1
            have q_je_2 := je.cell 2
            have q_je_3 := je.cell 3
            have q_je_4 := je.cell 4
            have q_je_5 := je.cell 5
            have q_je_6 := je.cell 6
            have q_je_7 := je.cell 7
            have q_je_8 := je.cell 8
            have q_je_l := je.lt
            go_wp2_with fail
            clear q_je_0 q_je_1 q_je_2 q_je_3 q_je_4 q_je_5 q_je_6 q_je_7 q_je_8 q_je_l
            obtain ⟨w12, hw12⟩ : ∃ W, W = w11.alloc (.cells #[.slice A_x n_x c_x, .slice B_x m_x d_x] 42) := ⟨_, rfl⟩
            obtain ⟨G_x, hG_x⟩ : ∃ G, w11.heap.size = G := ⟨_, rfl⟩
            have ha : Below w11.heap.size w11 w12 := by rw [hw12]; exact (Below.refl _ _).alloc (Nat.le_refl _) _
            have k_x : Blk w12 G_x 42 #[.slice A_x n_x c_x, .slice B_x m_x d_x] := by rw [hw12, ← hG_x]; exact Blk.new w11 _ _
            rw [← hw12]
            simp only [hG_x]
            clear hw12 hG_x
            have je := je.below ha je.lt
            have M := M.on ha
            have r_x := r_x.on ha
            have t_x := t_x.on ha
            have hB12 := bltB hB11 hB11.size ha
            clear ha hB11
            refine (odds_ok w12 p b (2 * k) (Fa l) M (Fa_good l) ⟨f, t, c, r, p0, p1, p2, p3, p4⟩ b' hok2).mono ?_
            rintro y w13 ⟨A_y, n_y, c_y, B_y, m_y, d_y, rfl, r_y, t_y, l_y, hb⟩
            have je := je.below hb je.lt
            have M := M.on hb
            have r_x := r_x.on hb
            have t_x := t_x.on hb
            have k_x := k_x.below hb k_x.lt
            have hB13 := bltB hB12 hB12.size hb
            clear hb hB12
            go_wp2_with fail
            go_ret
            exact ⟨rfl, hB13.alloc hB13.size _⟩
        · rcases hok2 : oddOk (Ed.e4 ⟨f, t, c, r, p0, p1, p2, p3, p4⟩) b' with _ | _
          · have q_je_0 := je.cell 0
            have q_je_1 := je.cell 1
            have q_je_2 := je.cell 2
            have q_je_3 := je.cell 3
            have q_je_4 := je.cell 4
            have q_je_5 := je.cell 5
            have q_je_6 := je.cell 6
            have q_je_7 := je.cell 7
            have q_je_8 := je.cell 8
            have q_je_l := je.lt
            go_wp2_with fail
            clear q_je_0 q_je_1 q_je_2 q_je_3 q_je_4 q_je_5 q_je_6 q_je_7 q_je_8 q_je_l
            refine (odds_ok wr p b (2 * k) (Fa l) M (Fa_good l) ⟨f, t, c, r, p0, p1, p2, p3, p4⟩ a hok1).mono ?_
            rintro y w11 ⟨A_x, n_x, c_x, B_x, m_x, d_x, rfl, r_x, t_x, l_x, hb⟩
            have je := je.below hb je.lt
            have M := M.on hb
            have hB11 := bltB hBr hBr.size hb
            clear hb hBr
            have q_je_0 := je.cell 0
            have q_je_1 := je.cell 1
            have q_je_2 := je.cell 2
            have q_je_3 := je.cell 3
            have q_je_4 := je.cell 4
            have q_je_5 := je.cell 5
            have q_je_6 := je.cell 6
            have q_je_7 := je.cell 7
            have q_je_8 := je.cell 8
            have q_je_l := je.lt
            go_wp2_with fail
            clear q_je_0 q_je_1 q_je_2 q_je_3 q_je_4 q_je_5 q_je_6 q_je_7 q_je_8 q_je_l
            obtain ⟨w12, hw12⟩ : ∃ W, W = w11.alloc (.cells #[.slice A_x n_x c_x, .slice B_x m_x d_x] 42) := ⟨_, rfl⟩
            obtain ⟨G_x, hG_x⟩ : ∃ G, w11.heap.size = G := ⟨_, rfl⟩
            have ha : Below w11.heap.size w11 w12 := by rw [hw12]; exact (Below.refl _ _).alloc (Nat.le_refl _) _
            have k_x : Blk w12 G_x 42 #[.slice A_x n_x c_x, .slice B_x m_x d_x] := by rw [hw12, ← hG_x]; exact Blk.new w11 _ _
            rw [← hw12]
            simp only [hG_x]
            clear hw12 hG_x
            have je := je.below ha je.lt
            have M := M.on ha
            have r_x := r_x.on ha
            have t_x := t_x.on ha
            have hB12 := bltB hB11 hB11.size ha
            clear ha hB11
            refine (odds_no w12 p b (2 * k) (Fa l) M (Fa_good l) ⟨f, t, c, r, p0, p1, p2, p3, p4⟩ b' hok2).mono ?_
            rintro y w13 ⟨A_y, n_y, c_y, B_y, m_y, d_y, rfl, r_y, t_y, l_y, hb⟩
            have je := je.below hb je.lt
            have M := M.on hb
            have r_x := r_x.on hb
            have t_x := t_x.on hb
            have k_x := k_x.below hb k_x.lt
            have hB13 := bltB hB12 hB12.size hb
            clear hb hB12
            go_wp2_with fail
            go_ret
            exact ⟨rfl, hB13.alloc hB13.size _⟩
          · by_cases hab : a ≤ b'
            · have hch := Lib.hid (chain_nat (Fa_good l) hok1 hok2 hab)
              have hs1 := Lib.hid (odd_small (Fa_good l) hok1)
              have hs2 := Lib.hid (odd_small ((Fa_good l).pass (Ed.e4 ⟨f, t, c, r, p0, p1, p2, p3, p4⟩) a) hok1)
              have hs3 := Lib.hid (odd_small (Fa_good l) hok2)
              have q_je_0 := je.cell 0
              have q_je_1 := je.cell 1
              have q_je_2 := je.cell 2
              have q_je_3 := je.cell 3
              have q_je_4 := je.cell 4
              have q_je_5 := je.cell 5
              have q_je_6 := je.cell 6
              have q_je_7 := je.cell 7
              have q_je_8 := je.cell 8
              have q_je_l := je.lt
              go_wp2_with fail
              clear q_je_0 q_je_1 q_je_2 q_je_3 q_je_4 q_je_5 q_je_6 q_je_7 q_je_8 q_je_l
              refine (odds_ok wr p b (2 * k) (Fa l) M (Fa_good l) ⟨f, t, c, r, p0, p1, p2, p3, p4⟩ a hok1).mono ?_
              rintro y w11 ⟨A_x, n_x, c_x, B_x, m_x, d_x, rfl, r_x, t_x, l_x, hb⟩
              have je := je.below hb je.lt
              have M := M.on hb
              have hB11 := bltB hBr hBr.size hb
              clear hb hBr
              have q_je_0 := je.cell 0
              have q_je_1 := je.cell 1
              have q_je_2 := je.cell 2
              have q_je_3 := je.cell 3
              have q_je_4 := je.cell 4
              have q_je_5 := je.cell 5
              have q_je_6 := je.cell 6
              have q_je_7 := je.cell 7
              have q_je_8 := je.cell 8
              have q_je_l := je.lt
              go_wp2_with fail
              clear q_je_0 q_je_1 q_je_2 q_je_3 q_je_4 q_je_5 q_je_6 q_je_7 q_je_8 q_je_l
              obtain ⟨w12, hw12⟩ : ∃ W, W = w11.alloc (.cells #[.slice A_x n_x c_x, .slice B_x m_x d_x] 42) := ⟨_, rfl⟩
              obtain ⟨G_x, hG_x⟩ : ∃ G, w11.heap.size = G := ⟨_, rfl⟩
              have ha : Below w11.heap.size w11 w12 := by rw [hw12]; exact (Below.refl _ _).alloc (Nat.le_refl _) _
              have k_x : Blk w12 G_x 42 #[.slice A_x n_x c_x, .slice B_x m_x d_x] := by rw [hw12, ← hG_x]; exact Blk.new w11 _ _
              rw [← hw12]
              simp only [hG_x]
              clear hw12 hG_x
              have je := je.below ha je.lt
              have M := M.on ha
              have r_x := r_x.on ha
              have t_x := t_x.on ha
              have hB12 := bltB hB11 hB11.size ha
              clear ha hB11
              refine (odds_ok w12 p b (2 * k) (Fa l) M (Fa_good l) ⟨f, t, c, r, p0, p1, p2, p3, p4⟩ b' hok2).mono ?_
              rintro y w13 ⟨A_y, n_y, c_y, B_y, m_y, d_y, rfl, r_y, t_y, l_y, hb⟩
              have je := je.below hb je.lt
              have M := M.on hb
              have r_x := r_x.on hb
              have t_x := t_x.on hb
              have k_x := k_x.below hb k_x.lt
              have hB13 := bltB hB12 hB12.size hb
              clear hb hB12
              have q_je_0 := je.cell 0
              have q_je_1 := je.cell 1
              have q_je_2 := je.cell 2
              have q_je_3 := je.cell 3
              have q_je_4 := je.cell 4
              have q_je_5 := je.cell 5
              have q_je_6 := je.cell 6
              have q_je_7 := je.cell 7
              have q_je_8 := je.cell 8
              have q_je_l := je.lt
              go_wp2_with fail
              clear q_je_0 q_je_1 q_je_2 q_je_3 q_je_4 q_je_5 q_je_6 q_je_7 q_je_8 q_je_l
              obtain ⟨w14, hw14⟩ : ∃ W, W = w13.alloc (.cells #[.slice A_y n_y c_y, .slice B_y m_y d_y] 42) := ⟨_, rfl⟩
              obtain ⟨G_y, hG_y⟩ : ∃ G, w13.heap.size = G := ⟨_, rfl⟩
              have ha : Below w13.heap.size w13 w14 := by rw [hw14]; exact (Below.refl _ _).alloc (Nat.le_refl _) _
              have k_y : Blk w14 G_y 42 #[.slice A_y n_y c_y, .slice B_y m_y d_y] := by rw [hw14, ← hG_y]; exact Blk.new w13 _ _
              rw [← hw14]
              simp only [hG_y]
              clear hw14 hG_y
              have je := je.below ha je.lt
              have M := M.on ha
              have r_x := r_x.on ha
              have t_x := t_x.on ha
              have k_x := k_x.below ha k_x.lt
              have r_y := r_y.on ha
              have t_y := t_y.on ha
              have hB14 := bltB hB13 hB13.size ha
              clear ha hB13
              refine (passed_any w14 p b (2 * k) (Fa l) M (Fa_good l) (by omega) ⟨f, t, c, r, p0, p1, p2, p3, p4⟩ a).mono ?_
              rintro y w15 ⟨rfl, hM1, hg⟩
              have je := je.grownM M hg
              have r_x := r_x.grownM M hg
              have t_x := t_x.grownM M hg
              have k_x := k_x.grownM M hg
              have r_y := r_y.grownM M hg
              have t_y := t_y.grownM M hg
              have k_y := k_y.grownM M hg
              have hB15 := Below.grownM hB14 hg hB14.size hb_M
              have M := hM1
              clear hg hM1 hB14
              have q_je_0 := je.cell 0
              have q_je_1 := je.cell 1
              have q_je_2 := je.cell 2
              have q_je_3 := je.cell 3
              have q_je_4 := je.cell 4
              have q_je_5 := je.cell 5
              have q_je_6 := je.cell 6
              have q_je_7 := je.cell 7
              have q_je_8 := je.cell 8
              have q_je_l := je.lt
              go_wp2_with fail
              clear q_je_0 q_je_1 q_je_2 q_je_3 q_je_4 q_je_5 q_je_6 q_je_7 q_je_8 q_je_l
              refine (odds_ok w15 p b ((2 * k) + 1) (passL (Fa l) (Ed.e4 ⟨f, t, c, r, p0, p1, p2, p3, p4⟩) a) M (((Fa_good l) : Good (Fa l)).pass (Ed.e4 ⟨f, t, c, r, p0, p1, p2, p3, p4⟩) a) ⟨f, t, c, r, p0, p1, p2, p3, p4⟩ b' hok2).mono ?_
              rintro y w16 ⟨A_z, n_z, c_z, B_z, m_z, d_z, rfl, r_z, t_z, l_z, hb⟩
              have je := je.below hb je.lt
              have M := M.on hb
              have r_x := r_x.on hb
              have t_x := t_x.on hb
              have k_x := k_x.below hb k_x.lt
              have r_y := r_y.on hb
              have t_y := t_y.on hb
              have k_y := k_y.below hb k_y.lt
              have hB16 := bltB hB15 hB15.size hb
              clear hb hB15
              have q_je_0 := je.cell 0
              have q_je_1 := je.cell 1
              have q_je_2 := je.cell 2
              have q_je_3 := je.cell 3
              have q_je_4 := je.cell 4
              have q_je_5 := je.cell 5
              have q_je_6 := je.cell 6
              have q_je_7 := je.cell 7
              have q_je_8 := je.cell 8
              have q_je_l := je.lt
              go_wp2_with fail
              clear q_je_0 q_je_1 q_je_2 q_je_3 q_je_4 q_je_5 q_je_6 q_je_7 q_je_8 q_je_l
              obtain ⟨w17, hw17⟩ : ∃ W, W = w16.alloc (.cells #[.slice A_z n_z c_z, .slice B_z m_z d_z] 42) := ⟨_, rfl⟩
              obtain ⟨G_z, hG_z⟩ : ∃ G, w16.heap.size = G := ⟨_, rfl⟩
              have ha : Below w16.heap.size w16 w17 := by rw [hw17]; exact (Below.refl _ _).alloc (Nat.le_refl _) _
              have k_z : Blk w17 G_z 42 #[.slice A_z n_z c_z, .slice B_z m_z d_z] := by rw [hw17, ← hG_z]; exact Blk.new w16 _ _
              rw [← hw17]
              simp only [hG_z]
              clear hw17 hG_z
              have je := je.below ha je.lt
              have M := M.on ha
              have r_x := r_x.on ha
              have t_x := t_x.on ha
              have k_x := k_x.below ha k_x.lt
              have r_y := r_y.on ha
              have t_y := t_y.on ha
              have k_y := k_y.below ha k_y.lt
              have r_z := r_z.on ha
              have t_z := t_z.on ha
              have hB17 := bltB hB16 hB16.size ha
              clear ha hB16
              refine (odds_ok w17 p b ((2 * k) + 1) (passL (Fa l) (Ed.e4 ⟨f, t, c, r, p0, p1, p2, p3, p4⟩) a) M (((Fa_good l) : Good (Fa l)).pass (Ed.e4 ⟨f, t, c, r, p0, p1, p2, p3, p4⟩) a) ⟨f, t, c, r, p0, p1, p2, p3, p4⟩ a hok1).mono ?_
              rintro y w18 ⟨A_v, n_v, c_v, B_v, m_v, d_v, rfl, r_v, t_v, l_v, hb⟩
              have je := je.below hb je.lt
              have M := M.on hb
              have r_x := r_x.on hb
              have t_x := t_x.on hb
              have k_x := k_x.below hb k_x.lt
              have r_y := r_y.on hb
              have t_y := t_y.on hb
              have k_y := k_y.below hb k_y.lt
              have r_z := r_z.on hb
              have t_z := t_z.on hb
              have k_z := k_z.below hb k_z.lt
              have hB18 := bltB hB17 hB17.size hb
              clear hb hB17
              go_wp2_with fail
              obtain ⟨w19, hw19⟩ : ∃ W, W = w18.alloc (.cells #[.slice A_v n_v c_v, .slice B_v m_v d_v] 42) := ⟨_, rfl⟩
              obtain ⟨G_v, hG_v⟩ : ∃ G, w18.heap.size = G := ⟨_, rfl⟩
              have ha : Below w18.heap.size w18 w19 := by rw [hw19]; exact (Below.refl _ _).alloc (Nat.le_refl _) _
              have k_v : Blk w19 G_v 42 #[.slice A_v n_v c_v, .slice B_v m_v d_v] := by rw [hw19, ← hG_v]; exact Blk.new w18 _ _
              rw [← hw19]
              simp only [hG_v]
              clear hw19 hG_v
              have je := je.below ha je.lt
              have M := M.on ha
              have r_x := r_x.on ha
              have t_x := t_x.on ha
              have k_x := k_x.below ha k_x.lt
              have r_y := r_y.on ha
              have t_y := t_y.on ha
              have k_y := k_y.below ha k_y.lt
              have r_z := r_z.on ha
              have t_z := t_z.on ha
              have k_z := k_z.below ha k_z.lt
              have r_v := r_v.on ha
              have t_v := t_v.on ha
              have hB19 := bltB hB18 hB18.size ha
              clear ha hB18
              have r_x := r_x.drew
              have t_x := t_x.drew
              have r_y := r_y.drew
              have t_y := t_y.drew
              have r_z := r_z.drew
              have t_z := t_z.drew
              have r_v := r_v.drew
              have t_v := t_v.drew
              refine wp_region_noPanic ?_
              refine ord_begin 25 (fun wx => Below w19.heap.size w19 wx) (by kernel_rfl) ?_
              have hT : Below w19.heap.size w19 w19.drew := (Below.refl _ _).drew
              refine ord_take (i := 0) (v := ?_) (by kernel_rfl) rfl (by decide) (by kernel_rfl) (by kernel_rfl) (fun _ _ _ h => h) (Or.inl ⟨by rfl, ?_⟩) hT ?_
              rotate_left
              · intro wz hz; go_simp; (try with_reducible rfl)
              try simp only [Act.put, List.getElem_toArray, List.getElem_cons_zero, List.getElem_cons_succ, List.setIfInBounds_toArray, List.set_cons_zero, List.set_cons_succ]
              refine ord_take (i := 1) (v := ?_) (by kernel_rfl) rfl (by decide) (by kernel_rfl) (by kernel_rfl) (fun _ _ _ h => h) (Or.inl ⟨by rfl, ?_⟩) hT ?_
              rotate_left
              · intro wz hz; go_simp; (try with_reducible rfl)
              try simp only [Act.put, List.getElem_toArray, List.getElem_cons_zero, List.getElem_cons_succ, List.setIfInBounds_toArray, List.set_cons_zero, List.set_cons_succ]
              refine ord_take (i := 2) (v := ?_) (by kernel_rfl) rfl (by decide) (by kernel_rfl) (by kernel_rfl) (fun _ _ _ h => h) (Or.inl ⟨by rfl, ?_⟩) hT ?_
              rotate_left
              · intro wz hz; go_simp; (try with_reducible rfl)
              try simp only [Act.put, List.getElem_toArray, List.getElem_cons_zero, List.getElem_cons_succ, List.setIfInBounds_toArray, List.set_cons_zero, List.set_cons_succ]
              refine ord_take (i := 3) (v := ?_) (by kernel_rfl) rfl (by decide) (by kernel_rfl) (by kernel_rfl) (fun _ _ _ h => h) (Or.inl ⟨by rfl, ?_⟩) hT ?_
              rotate_left
              · intro wz hz; go_simp; (try with_reducible rfl)
              try simp only [Act.put, List.getElem_toArray, List.getElem_cons_zero, List.getElem_cons_succ, List.setIfInBounds_toArray, List.set_cons_zero, List.set_cons_succ]
              refine ord_take (i := 4) (v := ?_) (by kernel_rfl) rfl (by decide) (by kernel_rfl) (by kernel_rfl) (fun _ _ _ h => h) (Or.inl ⟨by rfl, ?_⟩) hT ?_
              rotate_left
              · intro wz hz; go_simp; (try with_reducible rfl)
              try simp only [Act.put, List.getElem_toArray, List.getElem_cons_zero, List.getElem_cons_succ, List.setIfInBounds_toArray, List.set_cons_zero, List.set_cons_succ]
              refine ord_take (i := 5) (v := ?_) (by kernel_rfl) rfl (by decide) (by kernel_rfl) (by kernel_rfl) (fun _ _ _ h => h) (Or.inl ⟨by rfl, ?_⟩) hT ?_
              rotate_left
              · intro wz hz; go_simp; (try with_reducible rfl)
              try simp only [Act.put, List.getElem_toArray, List.getElem_cons_zero, List.getElem_cons_succ, List.setIfInBounds_toArray, List.set_cons_zero, List.set_cons_succ]
              refine ord_take (i := 6) (v := ?_) (by kernel_rfl) rfl (by decide) (by kernel_rfl) (by kernel_rfl) (fun _ _ _ h => h) (Or.inl ⟨by rfl, ?_⟩) hT ?_
              rotate_left
              · intro wz hz; go_simp; (try with_reducible rfl)
              try simp only [Act.put, List.getElem_toArray, List.getElem_cons_zero, List.getElem_cons_succ, List.setIfInBounds_toArray, List.set_cons_zero, List.set_cons_succ]
              refine ord_take (i := 7) (v := ?_) (by kernel_rfl) rfl (by decide) (by kernel_rfl) (by kernel_rfl) (fun _ _ _ h => h) (Or.inl ⟨by rfl, ?_⟩) hT ?_
              rotate_left
              · intro wz hz; go_simp; (try with_reducible rfl)
              try simp only [Act.put, List.getElem_toArray, List.getElem_cons_zero, List.getElem_cons_succ, List.setIfInBounds_toArray, List.set_cons_zero, List.set_cons_succ]
              refine ord_take (i := 8) (v := ?_) (by kernel_rfl) rfl (by decide) (by kernel_rfl) (by kernel_rfl) (fun _ _ _ h => h) (Or.inl ⟨by rfl, ?_⟩) hT ?_
              rotate_left
              · intro wz hz; have j := k_x.below hz k_x.lt; have q0 := j.cell 0; have q1 := j.cell 1; go_simp; (try with_reducible rfl)
              try simp only [Act.put, List.getElem_toArray, List.getElem_cons_zero, List.getElem_cons_succ, List.setIfInBounds_toArray, List.set_cons_zero, List.set_cons_succ]
              refine ord_take (i := 9) (v := ?_) (by kernel_rfl) rfl (by decide) (by kernel_rfl) (by kernel_rfl) (fun _ _ _ h => h) (Or.inl ⟨by rfl, ?_⟩) hT ?_
              rotate_left
              · intro wz hz; have j := k_y.below hz k_y.lt; have q0 := j.cell 0; have q1 := j.cell 1; go_simp; (try with_reducible rfl)
              try simp only [Act.put, List.getElem_toArray, List.getElem_cons_zero, List.getElem_cons_succ, List.setIfInBounds_toArray, List.set_cons_zero, List.set_cons_succ]
              refine ord_step (i := 10) rfl (by decide) (by kernel_rfl) (by rfl) (fun K hK => ?_)
              go_simp
              refine (fcmp_any _ _ _ _ _ _ _ _ _ _ _ _ _ _ _ _ _ r_x t_x r_y t_y (by omega) (by omega) (by omega) (by omega)).mono ?_
              rintro y X1 ⟨rfl, hb⟩
              have hx1 := bltB hT hT.size hb
              have r_x := r_x.on hb
              have t_x := t_x.on hb
              have r_y := r_y.on hb
              have t_y := t_y.on hb
              have r_z := r_z.on hb
              have t_z := t_z.on hb
              have r_v := r_v.on hb
              have t_v := t_v.on hb
              clear hb
              rw [cmp_low hs1.out.2.1 hs3.out.2.1]
              obtain ⟨z1, hz1⟩ : ∃ z, cmpI (((oN (Fa l) (Ed.e4 ⟨f, t, c, r, p0, p1, p2, p3, p4⟩) a) * (oD (Fa l) (Ed.e4 ⟨f, t, c, r, p0, p1, p2, p3, p4⟩)) : Nat) : Int) (((oN (Fa l) (Ed.e4 ⟨f, t, c, r, p0, p1, p2, p3, p4⟩) b') * (oD (Fa l) (Ed.e4 ⟨f, t, c, r, p0, p1, p2, p3, p4⟩)) : Nat) : Int) = z := ⟨_, rfl⟩
              have hz0 : 0 ≤ z1 := by
                have h1 : (oN (Fa l) (Ed.e4 ⟨f, t, c, r, p0, p1, p2, p3, p4⟩) b') * (oD (Fa l) (Ed.e4 ⟨f, t, c, r, p0, p1, p2, p3, p4⟩)) ≤ (oN (Fa l) (Ed.e4 ⟨f, t, c, r, p0, p1, p2, p3, p4⟩) a) * (oD (Fa l) (Ed.e4 ⟨f, t, c, r, p0, p1, p2, p3, p4⟩)) := Nat.mul_le_mul_right _ hch.out.2.1
                rw [← hz1, cmpI_nat]
                split
                · omega
                · split <;> omega
              rw [hz1]
              clear hz1
              refine hK _ _ hx1 ?_
              clear hK K
              try simp only [Act.put, List.getElem_toArray, List.getElem_cons_zero, List.getElem_cons_succ, List.setIfInBounds_toArray, List.set_cons_zero, List.set_cons_succ]
              refine ord_take (i := 11) (v := ?_) (by kernel_rfl) rfl (by decide) (by kernel_rfl) (by kernel_rfl) (fun _ _ _ h => h) (Or.inl ⟨by rfl, ?_⟩) hx1 ?_
              rotate_left
              · intro wz hz; go_simp; (try with_reducible rfl)
              try simp only [Act.put, List.getElem_toArray, List.getElem_cons_zero, List.getElem_cons_succ, List.setIfInBounds_toArray, List.set_cons_zero, List.set_cons_succ]
              refine ord_take (i := 12) (v := ?_) (by kernel_rfl) rfl (by decide) (by kernel_rfl) (by kernel_rfl) (fun _ _ _ h => h) (Or.inl ⟨by rfl, ?_⟩) hx1 ?_
              rotate_left
              · intro wz hz; go_simp; (try with_reducible rfl)
              try simp only [Act.put, List.getElem_toArray, List.getElem_cons_zero, List.getElem_cons_succ, List.setIfInBounds_toArray, List.set_cons_zero, List.set_cons_succ]
              refine ord_take (i := 13) (v := ?_) (by kernel_rfl) rfl (by decide) (by kernel_rfl) (by kernel_rfl) (fun _ _ _ h => h) (Or.inl ⟨by rfl, ?_⟩) hx1 ?_
              rotate_left
              · intro wz hz; go_simp; (try with_reducible rfl)
              try simp only [Act.put, List.getElem_toArray, List.getElem_cons_zero, List.getElem_cons_succ, List.setIfInBounds_toArray, List.set_cons_zero, List.set_cons_succ]
              refine ord_take (i := 14) (v := ?_) (by kernel_rfl) rfl (by decide) (by kernel_rfl) (by kernel_rfl) (fun _ _ _ h => h) (Or.inl ⟨by rfl, ?_⟩) hx1 ?_
              rotate_left
              · intro wz hz; have j := k_x.below hz k_x.lt; have q0 := j.cell 0; have q1 := j.cell 1; go_simp; (try with_reducible rfl)
              try simp only [Act.put, List.getElem_toArray, List.getElem_cons_zero, List.getElem_cons_succ, List.setIfInBounds_toArray, List.set_cons_zero, List.set_cons_succ]
              refine ord_take (i := 15) (v := ?_) (by kernel_rfl) rfl (by decide) (by kernel_rfl) (by kernel_rfl) (fun _ _ _ h => h) (Or.inl ⟨by rfl, ?_⟩) hx1 ?_
              rotate_left
              · intro wz hz; have j := k_z.below hz k_z.lt; have q0 := j.cell 0; have q1 := j.cell 1; go_simp; (try with_reducible rfl)
              try simp only [Act.put, List.getElem_toArray, List.getElem_cons_zero, List.getElem_cons_succ, List.setIfInBounds_toArray, List.set_cons_zero, List.set_cons_succ]
              refine ord_take (i := 17) (v := ?_) (by kernel_rfl) rfl (by decide) (by kernel_rfl) (by kernel_rfl) (fun _ _ _ h => h) (Or.inl ⟨by rfl, ?_⟩) hx1 ?_
              rotate_left
              · intro wz hz; have j := k_y.below hz k_y.lt; have q0 := j.cell 0; have q1 := j.cell 1; go_simp; (try with_reducible rfl)
              try simp only [Act.put, List.getElem_toArray, List.getElem_cons_zero, List.getElem_cons_succ, List.setIfInBounds_toArray, List.set_cons_zero, List.set_cons_succ]
              refine ord_step (i := 16) rfl (by decide) (by kernel_rfl) (by rfl) (fun K hK => ?_)
              go_simp
              refine (fmul_any _ _ _ _ _ _ _ _ _ _ _ _ _ _ _ _ _ r_x t_x r_z t_z (by omega) (by omega) (by omega) (by omega)).mono ?_
              rintro y X2 ⟨A7, n7, c7, B7, m7, d7, rfl, s1, s2, hb⟩
              have hx2 := bltB hx1 hx1.size hb
              have r_x := r_x.on hb
              have t_x := t_x.on hb
              have r_y := r_y.on hb
              have t_y := t_y.on hb
              have r_z := r_z.on hb
              have t_z := t_z.on hb
              have r_v := r_v.on hb
              have t_v := t_v.on hb
              clear hb
              rw [frN_low hs1.out.2.1, frD_low hs1.out.2.1, frN_low hs2.out.2.1, frD_low hs2.out.2.1] at s1 s2
              have hprod := Lib.hid (prod_low hs1.out.2.1 hs2.out.2.1 hs3.out.2.1 hch.out.1)
              have hq1 := div_pos_low (N := (oN (Fa l) (Ed.e4 ⟨f, t, c, r, p0, p1, p2, p3, p4⟩) a)) hs1.out.2.1
              have hq2 := div_pos_low (N := (oN (passL (Fa l) (Ed.e4 ⟨f, t, c, r, p0, p1, p2, p3, p4⟩) a) (Ed.e4 ⟨f, t, c, r, p0, p1, p2, p3, p4⟩) b')) hs2.out.2.1
              have hq := Nat.mul_pos hq1 hq2
              have hP1 : (oN (Fa l) (Ed.e4 ⟨f, t, c, r, p0, p1, p2, p3, p4⟩) a) / Nat.gcd (oN (Fa l) (Ed.e4 ⟨f, t, c, r, p0, p1, p2, p3, p4⟩) a) (oD (Fa l) (Ed.e4 ⟨f, t, c, r, p0, p1, p2, p3, p4⟩)) ≤ 1125899906842625 := Nat.le_trans (Nat.div_le_self _ _) (Nat.le_trans hs1.out.1 hs1.out.2.2)
              have hP2 : (oN (passL (Fa l) (Ed.e4 ⟨f, t, c, r, p0, p1, p2, p3, p4⟩) a) (Ed.e4 ⟨f, t, c, r, p0, p1, p2, p3, p4⟩) b') / Nat.gcd (oN (passL (Fa l) (Ed.e4 ⟨f, t, c, r, p0, p1, p2, p3, p4⟩) a) (Ed.e4 ⟨f, t, c, r, p0, p1, p2, p3, p4⟩) b') (oD (passL (Fa l) (Ed.e4 ⟨f, t, c, r, p0, p1, p2, p3, p4⟩) a) (Ed.e4 ⟨f, t, c, r, p0, p1, p2, p3, p4⟩)) ≤ 1125899906842625 := Nat.le_trans (Nat.div_le_self _ _) (Nat.le_trans (odd_small ((Fa_good l).pass (Ed.e4 ⟨f, t, c, r, p0, p1, p2, p3, p4⟩) a) hok2).1 hs2.out.2.2)
              have hP3 : (oD (Fa l) (Ed.e4 ⟨f, t, c, r, p0, p1, p2, p3, p4⟩)) / Nat.gcd (oN (Fa l) (Ed.e4 ⟨f, t, c, r, p0, p1, p2, p3, p4⟩) a) (oD (Fa l) (Ed.e4 ⟨f, t, c, r, p0, p1, p2, p3, p4⟩)) ≤ 1125899906842625 := Nat.le_trans (Nat.div_le_self _ _) hs1.out.2.2
              have hP4 : (oD (passL (Fa l) (Ed.e4 ⟨f, t, c, r, p0, p1, p2, p3, p4⟩) a) (Ed.e4 ⟨f, t, c, r, p0, p1, p2, p3, p4⟩)) / Nat.gcd (oN (passL (Fa l) (Ed.e4 ⟨f, t, c, r, p0, p1, p2, p3, p4⟩) a) (Ed.e4 ⟨f, t, c, r, p0, p1, p2, p3, p4⟩) b') (oD (passL (Fa l) (Ed.e4 ⟨f, t, c, r, p0, p1, p2, p3, p4⟩) a) (Ed.e4 ⟨f, t, c, r, p0, p1, p2, p3, p4⟩)) ≤ 1125899906842625 := Nat.le_trans (Nat.div_le_self _ _) hs2.out.2.2
              obtain ⟨P, hP⟩ : ∃ P, (oN (Fa l) (Ed.e4 ⟨f, t, c, r, p0, p1, p2, p3, p4⟩) a) / Nat.gcd (oN (Fa l) (Ed.e4 ⟨f, t, c, r, p0, p1, p2, p3, p4⟩) a) (oD (Fa l) (Ed.e4 ⟨f, t, c, r, p0, p1, p2, p3, p4⟩)) * ((oN (passL (Fa l) (Ed.e4 ⟨f, t, c, r, p0, p1, p2, p3, p4⟩) a) (Ed.e4 ⟨f, t, c, r, p0, p1, p2, p3, p4⟩) b') / Nat.gcd (oN (passL (Fa l) (Ed.e4 ⟨f, t, c, r, p0, p1, p2, p3, p4⟩) a) (Ed.e4 ⟨f, t, c, r, p0, p1, p2, p3, p4⟩) b') (oD (passL (Fa l) (Ed.e4 ⟨f, t, c, r, p0, p1, p2, p3, p4⟩) a) (Ed.e4 ⟨f, t, c, r, p0, p1, p2, p3, p4⟩))) = P := ⟨_, rfl⟩
              obtain ⟨Q, hQ⟩ : ∃ Q, (oD (Fa l) (Ed.e4 ⟨f, t, c, r, p0, p1, p2, p3, p4⟩)) / Nat.gcd (oN (Fa l) (Ed.e4 ⟨f, t, c, r, p0, p1, p2, p3, p4⟩) a) (oD (Fa l) (Ed.e4 ⟨f, t, c, r, p0, p1, p2, p3, p4⟩)) * ((oD (passL (Fa l) (Ed.e4 ⟨f, t, c, r, p0, p1, p2, p3, p4⟩) a) (Ed.e4 ⟨f, t, c, r, p0, p1, p2, p3, p4⟩)) / Nat.gcd (oN (passL (Fa l) (Ed.e4 ⟨f, t, c, r, p0, p1, p2, p3, p4⟩) a) (Ed.e4 ⟨f, t, c, r, p0, p1, p2, p3, p4⟩) b') (oD (passL (Fa l) (Ed.e4 ⟨f, t, c, r, p0, p1, p2, p3, p4⟩) a) (Ed.e4 ⟨f, t, c, r, p0, p1, p2, p3, p4⟩))) = Q := ⟨_, rfl⟩
              have hPb : P < 4294967296 ^ 4 := by rw [← hP]; exact Nat.lt_of_le_of_lt (Nat.mul_le_mul hP1 hP2) (by decide)
              have hQb : Q < 4294967296 ^ 4 := by rw [← hQ]; exact Nat.lt_of_le_of_lt (Nat.mul_le_mul hP3 hP4) (by decide)
              rw [hP, hQ] at s1 s2 hprod
              rw [hQ] at hq
              clear hP hQ hP1 hP2 hP3 hP4 hq1 hq2
              have hn7 : n7 ≤ 4 := rd_le s1 (Nat.lt_of_le_of_lt (Nat.div_le_self _ _) hPb)
              have hm7 : m7 ≤ 4 := rd_le s2 (Nat.lt_of_le_of_lt (Nat.div_le_self _ _) hQb)
              refine hK _ _ hx2 ?_
              clear hK K
              try simp only [Act.put, List.getElem_toArray, List.getElem_cons_zero, List.getElem_cons_succ, List.setIfInBounds_toArray, List.set_cons_zero, List.set_cons_succ]
              refine ord_step (i := 18) rfl (by decide) (by kernel_rfl) (by rfl) (fun K hK => ?_)
              go_simp
              refine (fcmp_any _ _ _ _ _ _ _ _ _ _ _ _ _ _ _ _ _ s1 s2 r_y t_y (by omega) (by omega) (by omega) (by omega)).mono ?_
              rintro y X3 ⟨rfl, hb⟩
              have hx3 := bltB hx2 hx2.size hb
              have r_v := r_v.on hb
              have t_v := t_v.on hb
              clear hb s1 s2
              rw [cmp_low hq hs3.out.2.1, cmp_eq hprod.out]
              refine hK _ _ hx3 ?_
              clear hK K
              try simp only [Act.put, List.getElem_toArray, List.getElem_cons_zero, List.getElem_cons_succ, List.setIfInBounds_toArray, List.set_cons_zero, List.set_cons_succ]
              refine ord_take (i := 19) (v := ?_) (by kernel_rfl) rfl (by decide) (by kernel_rfl) (by kernel_rfl) (fun _ _ _ h => h) (Or.inl ⟨by rfl, ?_⟩) hx3 ?_
              rotate_left
              · intro wz hz; go_simp; (try with_reducible rfl)
              try simp only [Act.put, List.getElem_toArray, List.getElem_cons_zero, List.getElem_cons_succ, List.setIfInBounds_toArray, List.set_cons_zero, List.set_cons_succ]
              refine ord_take (i := 20) (v := ?_) (by kernel_rfl) rfl (by decide) (by kernel_rfl) (by kernel_rfl) (fun _ _ _ h => h) (Or.inl ⟨by rfl, ?_⟩) hx3 ?_
              rotate_left
              · intro wz hz; go_simp; (try with_reducible rfl)
              try simp only [Act.put, List.getElem_toArray, List.getElem_cons_zero, List.getElem_cons_succ, List.setIfInBounds_toArray, List.set_cons_zero, List.set_cons_succ]
              refine ord_take (i := 21) (v := ?_) (by kernel_rfl) rfl (by decide) (by kernel_rfl) (by kernel_rfl) (fun _ _ _ h => h) (Or.inl ⟨by rfl, ?_⟩) hx3 ?_
              rotate_left
              · intro wz hz; go_simp; (try with_reducible rfl)
              try simp only [Act.put, List.getElem_toArray, List.getElem_cons_zero, List.getElem_cons_succ, List.setIfInBounds_toArray, List.set_cons_zero, List.set_cons_succ]
              refine ord_take (i := 22) (v := ?_) (by kernel_rfl) rfl (by decide) (by kernel_rfl) (by kernel_rfl) (fun _ _ _ h => h) (Or.inl ⟨by rfl, ?_⟩) hx3 ?_
              rotate_left
              · intro wz hz; have j := k_v.below hz k_v.lt; have q0 := j.cell 0; have q1 := j.cell 1; go_simp; (try with_reducible rfl)
              try simp only [Act.put, List.getElem_toArray, List.getElem_cons_zero, List.getElem_cons_succ, List.setIfInBounds_toArray, List.set_cons_zero, List.set_cons_succ]
              refine ord_step (i := 23) rfl (by decide) (by kernel_rfl) (by rfl) (fun K hK => ?_)
              go_simp
              refine (is_any _ _ _ _ _ _ _ (oN (passL (Fa l) (Ed.e4 ⟨f, t, c, r, p0, p1, p2, p3, p4⟩) a) (Ed.e4 ⟨f, t, c, r, p0, p1, p2, p3, p4⟩) a) (oD (passL (Fa l) (Ed.e4 ⟨f, t, c, r, p0, p1, p2, p3, p4⟩) a) (Ed.e4 ⟨f, t, c, r, p0, p1, p2, p3, p4⟩)) r_v t_v hs2.out.2.1 (by omega) (by omega) 1 1 (by decide) (by decide) (by decide)).mono ?_
              rintro y X4 ⟨rfl, hb⟩
              have hx4 := bltB hx3 hx3.size hb
              clear hb
              rw [show decide ((oN (passL (Fa l) (Ed.e4 ⟨f, t, c, r, p0, p1, p2, p3, p4⟩) a) (Ed.e4 ⟨f, t, c, r, p0, p1, p2, p3, p4⟩) a) * 1 = 1 * (oD (passL (Fa l) (Ed.e4 ⟨f, t, c, r, p0, p1, p2, p3, p4⟩) a) (Ed.e4 ⟨f, t, c, r, p0, p1, p2, p3, p4⟩))) = true from decide_eq_true (by rw [Nat.mul_one, Nat.one_mul]; exact hch.out.2.2)]
              refine hK _ _ hx4 ?_
              clear hK K
              try simp only [Act.put, List.getElem_toArray, List.getElem_cons_zero, List.getElem_cons_succ, List.setIfInBounds_toArray, List.set_cons_zero, List.set_cons_succ]
              refine ord_take (i := 24) (v := ?_) (by kernel_rfl) rfl (by decide) (by kernel_rfl) (by kernel_rfl) (fun _ _ _ h => h) (Or.inl ⟨by rfl, ?_⟩) hx4 ?_
              rotate_left
              · intro wz hz; go_simp; (try with_reducible rfl)
              try simp only [Act.put, List.getElem_toArray, List.getElem_cons_zero, List.getElem_cons_succ, List.setIfInBounds_toArray, List.set_cons_zero, List.set_cons_succ]
              refine ord_rest (by kernel_rfl) ?_
              refine any_step (i := 25) rfl (by kernel_rfl) (by rfl) (fun K hK => ?_)
              go_simp
              refine hK _ _ ?_
              clear hK K
              try simp only [Act.put, List.getElem_toArray, List.getElem_cons_zero, List.getElem_cons_succ, List.setIfInBounds_toArray, List.set_cons_zero, List.set_cons_succ]
              refine wpAny_done (by kernel_rfl) ?_ _
              refine NoPanic.normal ?_
              have hfin := bltB hB19 hB19.size hx4
              clear hx4 hx3 hx2 hx1 hT
              go_wp2_with fail
              go_ret
              exact ⟨rfl, hfin⟩
            · have q_je_0 := je.cell 0
              have q_je_1 := je.cell 1
              have q_je_2 := je.cell 2
              have q_je_3 := je.cell 3
              have q_je_4 := je.cell 4
              have q_je_5 := je.cell 5
              have q_je_6 := je.cell 6
              have q_je_7 := je.cell 7
              have q_je_8 := je.cell 8
              have q_je_l := je.lt
              go_wp2_with fail
              clear q_je_0 q_je_1 q_je_2 q_je_3 q_je_4 q_je_5 q_je_6 q_je_7 q_je_8 q_je_l
              refine (odds_ok wr p b (2 * k) (Fa l) M (Fa_good l) ⟨f, t, c, r, p0, p1, p2, p3, p4⟩ a hok1).mono ?_
              rintro y w11 ⟨A_x, n_x, c_x, B_x, m_x, d_x, rfl, r_x, t_x, l_x, hb⟩
              have je := je.below hb je.lt
              have M := M.on hb
              have hB11 := bltB hBr hBr.size hb
              clear hb hBr
              have q_je_0 := je.cell 0
              have q_je_1 := je.cell 1
              have q_je_2 := je.cell 2
              have q_je_3 := je.cell 3
              have q_je_4 := je.cell 4
              have q_je_5 := je.cell 5
              have q_je_6 := je.cell 6
              have q_je_7 := je.cell 7
              have q_je_8 := je.cell 8
              have q_je_l := je.lt
              go_wp2_with fail
              clear q_je_0 q_je_1 q_je_2 q_je_3 q_je_4 q_je_5 q_je_6 q_je_7 q_je_8 q_je_l
              obtain ⟨w12, hw12⟩ : ∃ W, W = w11.alloc (.cells #[.slice A_x n_x c_x, .slice B_x m_x d_x] 42) := ⟨_, rfl⟩
              obtain ⟨G_x, hG_x⟩ : ∃ G, w11.heap.size = G := ⟨_, rfl⟩
              have ha : Below w11.heap.size w11 w12 := by rw [hw12]; exact (Below.refl _ _).alloc (Nat.le_refl _) _
              have k_x : Blk w12 G_x 42 #[.slice A_x n_x c_x, .slice B_x m_x d_x] := by rw [hw12, ← hG_x]; exact Blk.new w11 _ _
              rw [← hw12]
              simp only [hG_x]
              clear hw12 hG_x
              have je := je.below ha je.lt
              have M := M.on ha
              have r_x := r_x.on ha
              have t_x := t_x.on ha
              have hB12 := bltB hB11 hB11.size ha
              clear ha hB11
              refine (odds_ok w12 p b (2 * k) (Fa l) M (Fa_good l) ⟨f, t, c, r, p0, p1, p2, p3, p4⟩ b' hok2).mono ?_
              rintro y w13 ⟨A_y, n_y, c_y, B_y, m_y, d_y, rfl, r_y, t_y, l_y, hb⟩
              have je := je.below hb je.lt
              have M := M.on hb
              have r_x := r_x.on hb
              have t_x := t_x.on hb
              have k_x := k_x.below hb k_x.lt
              have hB13 := bltB hB12 hB12.size hb
              clear hb hB12
              go_wp2_with fail
              go_ret
              exact ⟨rfl, hB13.alloc hB13.size _⟩
  · have g30 : (30 : Int) < (n : Int) := by omega
    go_wp2_with fail
    go_ret
    exact ⟨rfl, hB2⟩

end Go.Proofs.Ytdobpicamibgpaa
