/-
  The law LearnApart: what its walk answers, whatever the acts.
-/
import Derived.Test.YtdobpicamibgpaaApartP
namespace Go.Proofs.Ytdobpicamibgpaa
open Go.RowKit Go.Maps Go.Shelf
set_option linter.unusedVariables false
set_option linter.unusedSimpArgs false
attribute [local go_sem] Oper.semAt_some

set_option maxRecDepth 100000 in
set_option maxHeartbeats 16000000 in
theorem lapart_any (w : World) (A : Option Addr) (n cp : Nat) (l : List Av) (hl : Acts w w.heap.size A n l) (e : Ed) (x : Int) : Calls Try.prog 7 #[.slice A n cp, e.v, .int .i64 x] w fun e w' => e = .returned (.bool true) ∧ Below w.heap.size w w' := by
  obtain ⟨f, t, c, r, p0, p1, p2, p3, p4⟩ := e
  obtain ⟨w0, hw0⟩ : ∃ w0, w0 = w.alloc (.cells #[.int .i64 f, .int .i64 t, .int .i64 c, .int .i64 r, .int .i64 p0, .int .i64 p1, .int .i64 p2, .int .i64 p3, .int .i64 p4] 26) := ⟨_, rfl⟩
  have hB0 : Below w.heap.size w w0 := by rw [hw0]; exact (Below.refl _ _).alloc (Nat.le_refl _) _
  have je : Blk w0 w.heap.size 26 #[.int .i64 f, .int .i64 t, .int .i64 c, .int .i64 r, .int .i64 p0, .int .i64 p1, .int .i64 p2, .int .i64 p3, .int .i64 p4] := by rw [hw0]; exact Blk.new w _ _
  have HL := Lib.hid hl
  have hn0 := hl.small
  have hl0 := hl.len
  have HLEN := Lib.hid hl0
  clear hl hl0
  simp only [Ed.v, Ed.cs]
  go_enter Try.func7, Try.ntmps7
  go_wp2_with fail
  rw [← hw0]
  clear hw0
  go_wp2_with fail
  refine (lsmall_any w0).mono ?_
  rintro y w1 ⟨rfl, hb⟩
  have je := je.below hb je.lt
  have hB1 := bltB hB0 hB0.size hb
  clear hb hB0
  go_wp2_with fail
  refine (lnew_any w1).mono ?_
  rintro y w2 ⟨p, b, rfl, M, hp_M, hb_M, hb⟩
  have hb_M := Nat.le_trans hB1.size hb_M
  have je := je.below hb je.lt
  have hB2 := bltB hB1 hB1.size hb
  clear hb hB1
  go_wp2_with fail
  refine (lnew_any w2).mono ?_
  rintro y w3 ⟨z2, b2, rfl, N, hp_N, hb_N, hb⟩
  have hne_N_M : b2 ≠ b := by have := M.lt; omega
  have hne_M_N : b ≠ b2 := fun e => hne_N_M e.symm
  have hb_N := Nat.le_trans hB2.size hb_N
  have je := je.below hb je.lt
  have M := M.on hb
  have hB3 := bltB hB2 hB2.size hb
  clear hb hB2
  by_cases h30 : n ≤ 30
  · have g30 : ¬ (30 : Int) < (n : Int) := by omega
    go_wp2_with fail
    go_loopw [10] (fun i wr => ∃ k : Nat, k ≤ n ∧ i = .int .i64 k ∧ MindAt wr p b (2 * k) (Fd (l.take k)) ∧ w3.grownBy wr (some b)) (fun i _ => n - (intOf i).toNat)
    case atStart => exact ⟨0, Nat.zero_le _, rfl, M, below_grown (Below.refl _ _) _⟩
    case round =>
      obtain ⟨k, hk, rfl, hM, hg⟩ := hrel
      have hBr := Below.grownM hB3 hg hB3.size hb_M
      by_cases hlt : k < n
      · obtain ⟨bb, off, hA, hbB, hat⟩ := HL.out.at_ (by omega)
        subst hA
        have hx : l[k]? = some (l[k]'(by rw [HL.out.len]; exact hlt)) := List.getElem?_eq_getElem _
        generalize l[k]'(by rw [HL.out.len]; exact hlt) = ak at hx
        obtain ⟨d1, ⟨f1, t1, c1, r1, u0, u1, u2, u3, u4⟩, x1⟩ := ak
        have hc := hat k _ hx
        have a0 : wr.cell? ⟨bb, off + k * 11, none⟩ = some (.int .i64 d1) := (hBr.cell (p := ⟨bb, _, none⟩) hbB).trans (hc 0 _ rfl)
        have a1 : wr.cell? ⟨bb, off + k * 11 + 1, none⟩ = some (.int .i64 f1) := (hBr.cell (p := ⟨bb, _, none⟩) hbB).trans (hc 1 _ rfl)
        have a2 : wr.cell? ⟨bb, off + k * 11 + 2, none⟩ = some (.int .i64 t1) := (hBr.cell (p := ⟨bb, _, none⟩) hbB).trans (hc 2 _ rfl)
        have a3 : wr.cell? ⟨bb, off + k * 11 + 3, none⟩ = some (.int .i64 c1) := (hBr.cell (p := ⟨bb, _, none⟩) hbB).trans (hc 3 _ rfl)
        have a4 : wr.cell? ⟨bb, off + k * 11 + 4, none⟩ = some (.int .i64 r1) := (hBr.cell (p := ⟨bb, _, none⟩) hbB).trans (hc 4 _ rfl)
        have a5 : wr.cell? ⟨bb, off + k * 11 + 5, none⟩ = some (.int .i64 u0) := (hBr.cell (p := ⟨bb, _, none⟩) hbB).trans (hc 5 _ rfl)
        have a6 : wr.cell? ⟨bb, off + k * 11 + 6, none⟩ = some (.int .i64 u1) := (hBr.cell (p := ⟨bb, _, none⟩) hbB).trans (hc 6 _ rfl)
        have a7 : wr.cell? ⟨bb, off + k * 11 + 7, none⟩ = some (.int .i64 u2) := (hBr.cell (p := ⟨bb, _, none⟩) hbB).trans (hc 7 _ rfl)
        have a8 : wr.cell? ⟨bb, off + k * 11 + 8, none⟩ = some (.int .i64 u3) := (hBr.cell (p := ⟨bb, _, none⟩) hbB).trans (hc 8 _ rfl)
        have a9 : wr.cell? ⟨bb, off + k * 11 + 9, none⟩ = some (.int .i64 u4) := (hBr.cell (p := ⟨bb, _, none⟩) hbB).trans (hc 9 _ rfl)
        have a10 : wr.cell? ⟨bb, off + k * 11 + 10, none⟩ = some (.int .i64 x1) := (hBr.cell (p := ⟨bb, _, none⟩) hbB).trans (hc 10 _ rfl)
        have hst := Lib.hid (Fd_step l k _ hx)
        clear hc hat hx
        by_cases q1 : 1 ≤ d1
        · by_cases q2 : d1 ≤ 3
          · go_wp2_with fail
            refine (done_any wr p b (2 * k) _ hM (Fd_good _) (by omega) ⟨d1, ⟨f1, t1, c1, r1, u0, u1, u2, u3, u4⟩, x1⟩).mono ?_
            rintro y wr2 ⟨rfl, hM1, hg1⟩
            have HR : Hid (MindAt wr2 p b (2 * (k + 1)) (Fd (l.take (k + 1))) ∧ w3.grownBy wr2 (some b)) := Lib.hid ⟨by rw [hst.out, doA_in q1 q2]; exact hM1.more (by omega), hg.andThen hg1 (fun j hj => .inr (by rw [← hj]))⟩
            clear hM hM1 hg hg1 hst hBr a0 a1 a2 a3 a4 a5 a6 a7 a8 a9 a10
            go_wp2_with fail
            go_roundw
            case rel => exact ⟨k + 1, by omega, by go_num, HR.out⟩
            case measure => simp [intOf]; omega
          · have HR : Hid (MindAt wr p b (2 * (k + 1)) (Fd (l.take (k + 1))) ∧ w3.grownBy wr (some b)) := Lib.hid ⟨by rw [hst.out, doA_out (fun h => q2 h.2)]; exact hM.more (by omega), hg⟩
            clear hM hg hst hBr
            go_wp2_with fail
            go_roundw
            case rel => exact ⟨k + 1, by omega, by go_num, HR.out⟩
            case measure => simp [intOf]; omega
        · have HR : Hid (MindAt wr p b (2 * (k + 1)) (Fd (l.take (k + 1))) ∧ w3.grownBy wr (some b)) := Lib.hid ⟨by rw [hst.out, doA_out (fun h => q1 h.1)]; exact hM.more (by omega), hg⟩
          clear hM hg hst hBr
          go_wp2_with fail
          go_roundw
          case rel => exact ⟨k + 1, by omega, by go_num, HR.out⟩
          case measure => simp [intOf]; omega
      · have hkn : k = n := by omega
        subst hkn
        rw [List.take_of_length_le (Nat.le_of_eq HL.out.len)] at hM
        have je := je.grownM M hg
        have N := N.grownM M hg hne_N_M
        have M := hM
        clear hg hM hB3
        obtain ⟨wA, hwA⟩ : ∃ W, W = wr := ⟨_, rfl⟩
        subst hwA
        go_wp2_with fail
        go_loopw [11] (fun i wo => ∃ j : Nat, j ≤ 2 ∧ i = .int .i64 j ∧ MindAt wo z2 b2 (60 * j) (Fo l j) ∧ wA.grownBy wo (some b2)) (fun i _ => 2 - (intOf i).toNat)
        case atStart => exact ⟨0, Nat.zero_le _, rfl, N, below_grown (Below.refl _ _) _⟩
        case round =>
          obtain ⟨wo, hwo⟩ : ∃ W, W = wr := ⟨_, rfl⟩
          subst hwo
          obtain ⟨j, hj, rfl, hN, hgo⟩ := hrel
          have hBo := Below.grownM hBr hgo hBr.size hb_N
          by_cases hj2 : j < 2
          · have hj3 : (j : Int) < 2 := by omega
            go_wp2_with fail
            go_loopw [12] (fun i wi => ∃ k2 : Nat, k2 ≤ k ∧ i = .int .i64 k2 ∧ MindAt wi z2 b2 (60 * j + 2 * k2) (Fi l j k2) ∧ wA.grownBy wi (some b2)) (fun i _ => k - (intOf i).toNat)
            case atStart => exact ⟨0, Nat.zero_le _, rfl, by rw [Fi_zero]; exact hN, hgo⟩
            case round =>
              obtain ⟨wi, hwi⟩ : ∃ W, W = wr := ⟨_, rfl⟩
              subst hwi
              obtain ⟨k2, hk2, rfl, hI, hgi⟩ := hrel
              have hBi := Below.grownM hBr hgi hBr.size hb_N
              by_cases hlt : k2 < k
              · obtain ⟨bb, off, hA, hbB, hat⟩ := HL.out.at_ (by omega)
                subst hA
                have hx : l[k2]? = some (l[k2]'(by rw [HL.out.len]; exact hlt)) := List.getElem?_eq_getElem _
                generalize l[k2]'(by rw [HL.out.len]; exact hlt) = ak at hx
                obtain ⟨d1, ⟨f1, t1, c1, r1, u0, u1, u2, u3, u4⟩, x1⟩ := ak
                have hc := hat k2 _ hx
                have a0 : wi.cell? ⟨bb, off + k2 * 11, none⟩ = some (.int .i64 d1) := (hBi.cell (p := ⟨bb, _, none⟩) hbB).trans (hc 0 _ rfl)
                have a1 : wi.cell? ⟨bb, off + k2 * 11 + 1, none⟩ = some (.int .i64 f1) := (hBi.cell (p := ⟨bb, _, none⟩) hbB).trans (hc 1 _ rfl)
                have a2 : wi.cell? ⟨bb, off + k2 * 11 + 2, none⟩ = some (.int .i64 t1) := (hBi.cell (p := ⟨bb, _, none⟩) hbB).trans (hc 2 _ rfl)
                have a3 : wi.cell? ⟨bb, off + k2 * 11 + 3, none⟩ = some (.int .i64 c1) := (hBi.cell (p := ⟨bb, _, none⟩) hbB).trans (hc 3 _ rfl)
                have a4 : wi.cell? ⟨bb, off + k2 * 11 + 4, none⟩ = some (.int .i64 r1) := (hBi.cell (p := ⟨bb, _, none⟩) hbB).trans (hc 4 _ rfl)
                have a5 : wi.cell? ⟨bb, off + k2 * 11 + 5, none⟩ = some (.int .i64 u0) := (hBi.cell (p := ⟨bb, _, none⟩) hbB).trans (hc 5 _ rfl)
                have a6 : wi.cell? ⟨bb, off + k2 * 11 + 6, none⟩ = some (.int .i64 u1) := (hBi.cell (p := ⟨bb, _, none⟩) hbB).trans (hc 6 _ rfl)
                have a7 : wi.cell? ⟨bb, off + k2 * 11 + 7, none⟩ = some (.int .i64 u2) := (hBi.cell (p := ⟨bb, _, none⟩) hbB).trans (hc 7 _ rfl)
                have a8 : wi.cell? ⟨bb, off + k2 * 11 + 8, none⟩ = some (.int .i64 u3) := (hBi.cell (p := ⟨bb, _, none⟩) hbB).trans (hc 8 _ rfl)
                have a9 : wi.cell? ⟨bb, off + k2 * 11 + 9, none⟩ = some (.int .i64 u4) := (hBi.cell (p := ⟨bb, _, none⟩) hbB).trans (hc 9 _ rfl)
                have a10 : wi.cell? ⟨bb, off + k2 * 11 + 10, none⟩ = some (.int .i64 x1) := (hBi.cell (p := ⟨bb, _, none⟩) hbB).trans (hc 10 _ rfl)
                have hst := Lib.hid (Fi_step l j k2 _ hx)
                have hand := and_one_i64 c1
                clear hc hat hx
                by_cases q1 : 1 ≤ d1
                · by_cases q2 : d1 ≤ 3
                  · by_cases q3 : c1 % 2 = (j : Int)
                    · rw [q3] at hand
                      have Q3 := Lib.hid q3
                      clear q3
                      go_wp2_with fail
                      refine (done_any wi z2 b2 (60 * j + 2 * k2) _ hI (Fi_good _ _ _) (by omega) ⟨d1, ⟨f1, t1, c1, r1, u0, u1, u2, u3, u4⟩, x1⟩).mono ?_
                      rintro y wi2 ⟨rfl, hM1, hg1⟩
                      have HR : Hid (MindAt wi2 z2 b2 (60 * j + 2 * (k2 + 1)) (Fi l j (k2 + 1)) ∧ wA.grownBy wi2 (some b2)) := Lib.hid ⟨by rw [hst.out, doO_in q1 q2 Q3.out]; exact hM1.more (by omega), hgi.andThen hg1 (fun j hj => .inr (by rw [← hj]))⟩
                      clear hI hM1 hgi hg1 hst hBi hand a0 a1 a2 a3 a4 a5 a6 a7 a8 a9 a10
                      go_wp2_with fail
                      go_roundw
                      case rel => exact ⟨k2 + 1, by omega, by go_num, HR.out⟩
                      case measure => simp [intOf]; omega
                    · have Q3 := Lib.hid q3
                      obtain ⟨cm, hcm⟩ : ∃ z, c1 % 2 = z := ⟨_, rfl⟩
                      rw [hcm] at hand q3
                      have HCM := Lib.hid hcm
                      clear hcm
                      have HR : Hid (MindAt wi z2 b2 (60 * j + 2 * (k2 + 1)) (Fi l j (k2 + 1)) ∧ wA.grownBy wi (some b2)) := Lib.hid ⟨by rw [hst.out, doO_out (fun h => Q3.out h.2)]; exact hI.more (by omega), hgi⟩
                      clear hI hgi hst hBi
                      go_wp2_with fail
                      go_roundw
                      case rel => exact ⟨k2 + 1, by omega, by go_num, HR.out⟩
                      case measure => simp [intOf]; omega
                  · have HR : Hid (MindAt wi z2 b2 (60 * j + 2 * (k2 + 1)) (Fi l j (k2 + 1)) ∧ wA.grownBy wi (some b2)) := Lib.hid ⟨by rw [hst.out, doO_out (fun h => q2 h.1.2)]; exact hI.more (by omega), hgi⟩
                    clear hI hgi hst hBi hand
                    go_wp2_with fail
                    go_roundw
                    case rel => exact ⟨k2 + 1, by omega, by go_num, HR.out⟩
                    case measure => simp [intOf]; omega
                · have HR : Hid (MindAt wi z2 b2 (60 * j + 2 * (k2 + 1)) (Fi l j (k2 + 1)) ∧ wA.grownBy wi (some b2)) := Lib.hid ⟨by rw [hst.out, doO_out (fun h => q1 h.1.1)]; exact hI.more (by omega), hgi⟩
                  clear hI hgi hst hBi hand
                  go_wp2_with fail
                  go_roundw
                  case rel => exact ⟨k2 + 1, by omega, by go_num, HR.out⟩
                  case measure => simp [intOf]; omega
              · have hkn : k2 = k := by omega
                subst hkn
                rw [Fi_all l j HLEN.out] at hI
                have HR : Hid (MindAt wi z2 b2 (60 * (j + 1)) (Fo l (j + 1)) ∧ wA.grownBy wi (some b2)) := Lib.hid ⟨hI.more (by omega), hgi⟩
                clear hI hgi hBi hN hgo hBo
                go_wp2_with fail
                go_roundw
                case rel => exact ⟨j + 1, by omega, by go_num, HR.out⟩
                case measure => simp [intOf]; omega
          · have hjn : j = 2 := by omega
            subst hjn
            have je := je.grownM N hgo
            have M := M.grownM N hgo hne_M_N
            have N := hN
            clear hgo hN hBr
            rcases hok : oddOk (Ed.e4 ⟨f, t, c, r, p0, p1, p2, p3, p4⟩) x with _ | _
            · have q_je_0 := je.cell 0
              have q_je_1 := je.cell 1
              have q_je_2 := je.cell 2
              have q_je_3 := je.cell 3
              have q_je_4 := je.cell 4
              have q_je_5 := je.cell 5
              have q_je_6 := je.cell 6
              have q_je_7 := je.cell 7
              have q_je_8 := je.cell 8
              have q_je_l := je.lt
              go_wp2_with fail
              clear q_je_0 q_je_1 q_je_2 q_je_3 q_je_4 q_je_5 q_je_6 q_je_7 q_je_8 q_je_l
              refine (bounds_any wo p b (2 * k) (Fd l) M (Fd_good l) ⟨f, t, c, r, p0, p1, p2, p3, p4⟩).mono ?_
              rintro y w31 ⟨rfl, hb⟩
              have je := je.below hb je.lt
              have M := M.on hb
              have N := N.on hb
              have hB31 := bltB hBo hBo.size hb
              clear hb hBo
              obtain ⟨lo, hi, h1⟩ : ∃ y1 y2, bnd (Fd l) (Ed.e4 ⟨f, t, c, r, p0, p1, p2, p3, p4⟩) = (y1, y2) := ⟨_, _, rfl⟩
              rw [h1]
              have H1 := Lib.hid h1
              clear h1
              have q_je_0 := je.cell 0
              have q_je_1 := je.cell 1
              have q_je_2 := je.cell 2
              have q_je_3 := je.cell 3
              have q_je_4 := je.cell 4
              have q_je_5 := je.cell 5
              have q_je_6 := je.cell 6
              have q_je_7 := je.cell 7
              have q_je_8 := je.cell 8
              have q_je_l := je.lt
              go_wp2_with fail
              clear q_je_0 q_je_1 q_je_2 q_je_3 q_je_4 q_je_5 q_je_6 q_je_7 q_je_8 q_je_l
              refine (bounds_any w31 z2 b2 (60 * 2) (Fo l 2) N (Fo_good l 2) ⟨f, t, c, r, p0, p1, p2, p3, p4⟩).mono ?_
              rintro y w32 ⟨rfl, hb⟩
              have je := je.below hb je.lt
              have M := M.on hb
              have N := N.on hb
              have hB32 := bltB hB31 hB31.size hb
              clear hb hB31
              rw [Fo_bnd, H1.out]
              have q_je_0 := je.cell 0
              have q_je_1 := je.cell 1
              have q_je_2 := je.cell 2
              have q_je_3 := je.cell 3
              have q_je_4 := je.cell 4
              have q_je_5 := je.cell 5
              have q_je_6 := je.cell 6
              have q_je_7 := je.cell 7
              have q_je_8 := je.cell 8
              have q_je_l := je.lt
              go_wp2_with fail
              clear q_je_0 q_je_1 q_je_2 q_je_3 q_je_4 q_je_5 q_je_6 q_je_7 q_je_8 q_je_l
              refine (odds_no w32 p b (2 * k) (Fd l) M (Fd_good l) ⟨f, t, c, r, p0, p1, p2, p3, p4⟩ x hok).mono ?_
              rintro y w33 ⟨A_a, n_a, c_a, B_a, m_a, d_a, rfl, r_a, t_a, l_a, hb⟩
              have je := je.below hb je.lt
              have M := M.on hb
              have N := N.on hb
              have hB33 := bltB hB32 hB32.size hb
              clear hb hB32
              have q_je_0 := je.cell 0
              have q_je_1 := je.cell 1
              have q_je_2 := je.cell 2
              have q_je_3 := je.cell 3
              have q_je_4 := je.cell 4
              have q_je_5 := je.cell 5
              have q_je_6 := je.cell 6
              have q_je_7 := je.cell 7
              have q_je_8 := je.cell 8
              have q_je_l := je.lt
              go_wp2_with fail
              clear q_je_0 q_je_1 q_je_2 q_je_3 q_je_4 q_je_5 q_je_6 q_je_7 q_je_8 q_je_l
              obtain ⟨w34, hw34⟩ : ∃ W, W = w33.alloc (.cells #[.slice A_a n_a c_a, .slice B_a m_a d_a] 42) := ⟨_, rfl⟩
              obtain ⟨G_a, hG_a⟩ : ∃ G, w33.heap.size = G := ⟨_, rfl⟩
              have ha : Below w33.heap.size w33 w34 := by rw [hw34]; exact (Below.refl _ _).alloc (Nat.le_refl _) _
              have k_a : Blk w34 G_a 42 #[.slice A_a n_a c_a, .slice B_a m_a d_a] := by rw [hw34, ← hG_a]; exact Blk.new w33 _ _
              rw [← hw34]
              simp only [hG_a]
              clear hw34 hG_a
              have je := je.below ha je.lt
              have M := M.on ha
              have N := N.on ha
              have r_a := r_a.on ha
              have t_a := t_a.on ha
              have hB34 := bltB hB33 hB33.size ha
              clear ha hB33
              refine (odds_no w34 z2 b2 (60 * 2) (Fo l 2) N (Fo_good l 2) ⟨f, t, c, r, p0, p1, p2, p3, p4⟩ x hok).mono ?_
              rintro y w35 ⟨A_b, n_b, c_b, B_b, m_b, d_b, rfl, r_b, t_b, l_b, hb⟩
              have je := je.below hb je.lt
              have M := M.on hb
              have N := N.on hb
              have r_a := r_a.on hb
              have t_a := t_a.on hb
              have k_a := k_a.below hb k_a.lt
              have hB35 := bltB hB34 hB34.size hb
              clear hb hB34
              go_wp2_with fail
              obtain ⟨w36, hw36⟩ : ∃ W, W = w35.alloc (.cells #[.slice A_b n_b c_b, .slice B_b m_b d_b] 42) := ⟨_, rfl⟩
              obtain ⟨G_b, hG_b⟩ : ∃ G, w35.heap.size = G := ⟨_, rfl⟩
              have ha : Below w35.heap.size w35 w36 := by rw [hw36]; exact (Below.refl _ _).alloc (Nat.le_refl _) _
              have k_b : Blk w36 G_b 42 #[.slice A_b n_b c_b, .slice B_b m_b d_b] := by rw [hw36, ← hG_b]; exact Blk.new w35 _ _
              rw [← hw36]
              simp only [hG_b]
              clear hw36 hG_b
              have je := je.below ha je.lt
              have M := M.on ha
              have N := N.on ha
              have r_a := r_a.on ha
              have t_a := t_a.on ha
              have k_a := k_a.below ha k_a.lt
              have r_b := r_b.on ha
              have t_b := t_b.on ha
              have hB36 := bltB hB35 hB35.size ha
              clear ha hB35
              refine (known_any w36 p b (2 * k) (Fd l) M).mono ?_
              rintro y w' ⟨rfl, rfl⟩
              obtain ⟨kn, hkn⟩ : ∃ z, ((Fd l) : Notes).length = z := ⟨_, rfl⟩
              rw [hkn]
              have HK := Lib.hid hkn
              clear hkn
              go_wp2_with fail
              refine (known_any w36 z2 b2 (60 * 2) (Fo l 2) N).mono ?_
              rintro y w' ⟨rfl, rfl⟩
              rw [Fo_len, HK.out]
              go_wp2_with fail
              go_ret
              exact ⟨rfl, hB36⟩
            · have q_je_0 := je.cell 0
              have q_je_1 := je.cell 1
              have q_je_2 := je.cell 2
              have q_je_3 := je.cell 3
              have q_je_4 := je.cell 4
              have q_je_5 := je.cell 5
              have q_je_6 := je.cell 6
              have q_je_7 := je.cell 7
              have q_je_8 := je.cell 8
              have q_je_l := je.lt
              go_wp2_with fail
              clear q_je_0 q_je_1 q_je_2 q_je_3 q_je_4 q_je_5 q_je_6 q_je_7 q_je_8 q_je_l
              refine (bounds_any wo p b (2 * k) (Fd l) M (Fd_good l) ⟨f, t, c, r, p0, p1, p2, p3, p4⟩).mono ?_
              rintro y w31 ⟨rfl, hb⟩
              have je := je.below hb je.lt
              have M := M.on hb
              have N := N.on hb
              have hB31 := bltB hBo hBo.size hb
              clear hb hBo
              obtain ⟨lo, hi, h1⟩ : ∃ y1 y2, bnd (Fd l) (Ed.e4 ⟨f, t, c, r, p0, p1, p2, p3, p4⟩) = (y1, y2) := ⟨_, _, rfl⟩
              rw [h1]
              have H1 := Lib.hid h1
              clear h1
              have q_je_0 := je.cell 0
              have q_je_1 := je.cell 1
              have q_je_2 := je.cell 2
              have q_je_3 := je.cell 3
              have q_je_4 := je.cell 4
              have q_je_5 := je.cell 5
              have q_je_6 := je.cell 6
              have q_je_7 := je.cell 7
              have q_je_8 := je.cell 8
              have q_je_l := je.lt
              go_wp2_with fail
              clear q_je_0 q_je_1 q_je_2 q_je_3 q_je_4 q_je_5 q_je_6 q_je_7 q_je_8 q_je_l
              refine (bounds_any w31 z2 b2 (60 * 2) (Fo l 2) N (Fo_good l 2) ⟨f, t, c, r, p0, p1, p2, p3, p4⟩).mono ?_
              rintro y w32 ⟨rfl, hb⟩
              have je := je.below hb je.lt
              have M := M.on hb
              have N := N.on hb
              have hB32 := bltB hB31 hB31.size hb
              clear hb hB31
              rw [Fo_bnd, H1.out]
              have q_je_0 := je.cell 0
              have q_je_1 := je.cell 1
              have q_je_2 := je.cell 2
              have q_je_3 := je.cell 3
              have q_je_4 := je.cell 4
              have q_je_5 := je.cell 5
              have q_je_6 := je.cell 6
              have q_je_7 := je.cell 7
              have q_je_8 := je.cell 8
              have q_je_l := je.lt
              go_wp2_with fail
              clear q_je_0 q_je_1 q_je_2 q_je_3 q_je_4 q_je_5 q_je_6 q_je_7 q_je_8 q_je_l
              refine (odds_ok w32 p b (2 * k) (Fd l) M (Fd_good l) ⟨f, t, c, r, p0, p1, p2, p3, p4⟩ x hok).mono ?_
              rintro y w33 ⟨A_a, n_a, c_a, B_a, m_a, d_a, rfl, r_a, t_a, l_a, hb⟩
              have je := je.below hb je.lt
              have M := M.on hb
              have N := N.on hb
              have hB33 := bltB hB32 hB32.size hb
              clear hb hB32
              have q_je_0 := je.cell 0
              have q_je_1 := je.cell 1
              have q_je_2 := je.cell 2
              have q_je_3 := je.cell 3
              have q_je_4 := je.cell 4
              have q_je_5 := je.cell 5
              have q_je_6 := je.cell 6
              have q_je_7 := je.cell 7
              have q_je_8 := je.cell 8
              have q_je_l := je.lt
              go_wp2_with fail
              clear q_je_0 q_je_1 q_je_2 q_je_3 q_je_4 q_je_5 q_je_6 q_je_7 q_je_8 q_je_l
              obtain ⟨w34, hw34⟩ : ∃ W, W = w33.alloc (.cells #[.slice A_a n_a c_a, .slice B_a m_a d_a] 42) := ⟨_, rfl⟩
              obtain ⟨G_a, hG_a⟩ : ∃ G, w33.heap.size = G := ⟨_, rfl⟩
              have ha : Below w33.heap.size w33 w34 := by rw [hw34]; exact (Below.refl _ _).alloc (Nat.le_refl _) _
              have k_a : Blk w34 G_a 42 #[.slice A_a n_a c_a, .slice B_a m_a d_a] := by rw [hw34, ← hG_a]; exact Blk.new w33 _ _
              rw [← hw34]
              simp only [hG_a]
              clear hw34 hG_a
              have je := je.below ha je.lt
              have M := M.on ha
              have N := N.on ha
              have r_a := r_a.on ha
              have t_a := t_a.on ha
              have hB34 := bltB hB33 hB33.size ha
              clear ha hB33
              refine (odds_ok w34 z2 b2 (60 * 2) (Fo l 2) N (Fo_good l 2) ⟨f, t, c, r, p0, p1, p2, p3, p4⟩ x hok).mono ?_
              rintro y w35 ⟨A_b, n_b, c_b, B_b, m_b, d_b, rfl, r_b, t_b, l_b, hb⟩
              have je := je.below hb je.lt
              have M := M.on hb
              have N := N.on hb
              have r_a := r_a.on hb
              have t_a := t_a.on hb
              have k_a := k_a.below hb k_a.lt
              have hB35 := bltB hB34 hB34.size hb
              clear hb hB34
              rw [Fo_oN, Fo_oD] at r_b t_b
              have HS0 := Lib.hid (odd_small (Fd_good l) hok)
              have q_k_a_0 := k_a.cell 0
              have q_k_a_1 := k_a.cell 1
              have q_k_a_l := k_a.lt
              go_wp2_with fail
              clear q_k_a_0 q_k_a_1 q_k_a_l
              obtain ⟨w36, hw36⟩ : ∃ W, W = w35.alloc (.cells #[.slice A_b n_b c_b, .slice B_b m_b d_b] 42) := ⟨_, rfl⟩
              obtain ⟨G_b, hG_b⟩ : ∃ G, w35.heap.size = G := ⟨_, rfl⟩
              have ha : Below w35.heap.size w35 w36 := by rw [hw36]; exact (Below.refl _ _).alloc (Nat.le_refl _) _
              have k_b : Blk w36 G_b 42 #[.slice A_b n_b c_b, .slice B_b m_b d_b] := by rw [hw36, ← hG_b]; exact Blk.new w35 _ _
              rw [← hw36]
              simp only [hG_b]
              clear hw36 hG_b
              have je := je.below ha je.lt
              have M := M.on ha
              have N := N.on ha
              have r_a := r_a.on ha
              have t_a := t_a.on ha
              have k_a := k_a.below ha k_a.lt
              have r_b := r_b.on ha
              have t_b := t_b.on ha
              have hB36 := bltB hB35 hB35.size ha
              clear ha hB35
              refine (fcmp_any _ _ _ _ _ _ _ _ _ _ _ _ _ _ _ _ _ r_a t_a r_b t_b (by omega) (by omega) (by omega) (by omega)).mono ?_
              rintro y w37 ⟨rfl, hb⟩
              have je := je.below hb je.lt
              have M := M.on hb
              have N := N.on hb
              have r_a := r_a.on hb
              have t_a := t_a.on hb
              have k_a := k_a.below hb k_a.lt
              have r_b := r_b.on hb
              have t_b := t_b.on hb
              have k_b := k_b.below hb k_b.lt
              have hB37 := bltB hB36 hB36.size hb
              clear hb hB36
              rw [cmp_low HS0.out.2.1 HS0.out.2.1, cmp_eq rfl]
              go_wp2_with fail
              refine (known_any w37 p b (2 * k) (Fd l) M).mono ?_
              rintro y w' ⟨rfl, rfl⟩
              obtain ⟨kn, hkn⟩ : ∃ z, ((Fd l) : Notes).length = z := ⟨_, rfl⟩
              rw [hkn]
              have HK := Lib.hid hkn
              clear hkn
              go_wp2_with fail
              refine (known_any w37 z2 b2 (60 * 2) (Fo l 2) N).mono ?_
              rintro y w' ⟨rfl, rfl⟩
              rw [Fo_len, HK.out]
              go_wp2_with fail
              go_ret
              exact ⟨rfl, hB37⟩
  · have g30 : (30 : Int) < (n : Int) := by omega
    go_wp2_with fail
    go_ret
    exact ⟨rfl, hB3⟩

end Go.Proofs.Ytdobpicamibgpaa
