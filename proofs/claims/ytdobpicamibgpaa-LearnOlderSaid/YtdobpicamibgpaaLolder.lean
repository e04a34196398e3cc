/-
  The law LearnOlder: what its walk answers, whatever the acts.
-/
import Derived.Test.YtdobpicamibgpaaActs2
namespace Go.Proofs.Ytdobpicamibgpaa
open Go.RowKit Go.Maps Go.Shelf
set_option linter.unusedVariables false
set_option linter.unusedSimpArgs false
attribute [local go_sem] Oper.semAt_some

set_option maxRecDepth 100000 in
set_option maxHeartbeats 8000000 in
theorem lolder_any (w : World) (A : Option Addr) (n cp : Nat) (l : List Av) (hl : Acts w w.heap.size A n l) (m : Int) (e : Ed) : Calls Try.prog 6 #[.slice A n cp, .int .i64 m, e.v] w fun e w' => e = .returned (.bool true) ∧ Below w.heap.size w w' := by
  obtain ⟨f, t, c, r, p0, p1, p2, p3, p4⟩ := e
  obtain ⟨w0, hw0⟩ : ∃ w0, w0 = w.alloc (.cells #[.int .i64 f, .int .i64 t, .int .i64 c, .int .i64 r, .int .i64 p0, .int .i64 p1, .int .i64 p2, .int .i64 p3, .int .i64 p4] 26) := ⟨_, rfl⟩
  have hB0 : Below w.heap.size w w0 := by rw [hw0]; exact (Below.refl _ _).alloc (Nat.le_refl _) _
  have je : Blk w0 w.heap.size 26 #[.int .i64 f, .int .i64 t, .int .i64 c, .int .i64 r, .int .i64 p0, .int .i64 p1, .int .i64 p2, .int .i64 p3, .int .i64 p4] := by rw [hw0]; exact Blk.new w _ _
  have HL := Lib.hid hl
  have hn0 := hl.small
  clear hl
  simp only [Ed.v, Ed.cs]
  go_enter Try.func6, Try.ntmps6
  go_wp2_with fail
  rw [← hw0]
  clear hw0
  go_wp2_with fail
  refine (lsmall_any w0).mono ?_
  rintro y w1 ⟨rfl, hb⟩
  have je := je.below hb je.lt
  have hB1 := bltB hB0 hB0.size hb
  clear hb hB0
  go_wp2_with fail
  refine (lnew_any w1).mono ?_
  rintro y w2 ⟨p, b, rfl, M, hp_M, hb_M, hb⟩
  have hb_M := Nat.le_trans hB1.size hb_M
  have je := je.below hb je.lt
  have hB2 := bltB hB1 hB1.size hb
  clear hb hB1
  by_cases h30 : n ≤ 30
  · have g30 : ¬ (30 : Int) < (n : Int) := by omega
    go_wp2_with fail
    go_loopw [9] (fun i wr => ∃ k : Nat, k ≤ n ∧ i = .int .i64 k ∧ MindAt wr p b (2 * k) (Fa (l.take k)) ∧ w2.grownBy wr (some b)) (fun i _ => n - (intOf i).toNat)
    case atStart => exact ⟨0, Nat.zero_le _, rfl, M, below_grown (Below.refl _ _) _⟩
    case round =>
      obtain ⟨k, hk, rfl, hM, hg⟩ := hrel
      have hBr := Below.grownM hB2 hg hB2.size hb_M
      by_cases hlt : k < n
      · obtain ⟨bb, off, hA, hbB, hat⟩ := HL.out.at_ (by omega)
        subst hA
        have hx : l[k]? = some (l[k]'(by rw [HL.out.len]; exact hlt)) := List.getElem?_eq_getElem _
        generalize l[k]'(by rw [HL.out.len]; exact hlt) = ak at hx
        obtain ⟨d1, ⟨f1, t1, c1, r1, u0, u1, u2, u3, u4⟩, x1⟩ := ak
        have hc := hat k _ hx
        have a0 : wr.cell? ⟨bb, off + k * 11, none⟩ = some (.int .i64 d1) := (hBr.cell (p := ⟨bb, _, none⟩) hbB).trans (hc 0 _ rfl)
        have a1 : wr.cell? ⟨bb, off + k * 11 + 1, none⟩ = some (.int .i64 f1) := (hBr.cell (p := ⟨bb, _, none⟩) hbB).trans (hc 1 _ rfl)
        have a2 : wr.cell? ⟨bb, off + k * 11 + 2, none⟩ = some (.int .i64 t1) := (hBr.cell (p := ⟨bb, _, none⟩) hbB).trans (hc 2 _ rfl)
        have a3 : wr.cell? ⟨bb, off + k * 11 + 3, none⟩ = some (.int .i64 c1) := (hBr.cell (p := ⟨bb, _, none⟩) hbB).trans (hc 3 _ rfl)
        have a4 : wr.cell? ⟨bb, off + k * 11 + 4, none⟩ = some (.int .i64 r1) := (hBr.cell (p := ⟨bb, _, none⟩) hbB).trans (hc 4 _ rfl)
        have a5 : wr.cell? ⟨bb, off + k * 11 + 5, none⟩ = some (.int .i64 u0) := (hBr.cell (p := ⟨bb, _, none⟩) hbB).trans (hc 5 _ rfl)
        have a6 : wr.cell? ⟨bb, off + k * 11 + 6, none⟩ = some (.int .i64 u1) := (hBr.cell (p := ⟨bb, _, none⟩) hbB).trans (hc 6 _ rfl)
        have a7 : wr.cell? ⟨bb, off + k * 11 + 7, none⟩ = some (.int .i64 u2) := (hBr.cell (p := ⟨bb, _, none⟩) hbB).trans (hc 7 _ rfl)
        have a8 : wr.cell? ⟨bb, off + k * 11 + 8, none⟩ = some (.int .i64 u3) := (hBr.cell (p := ⟨bb, _, none⟩) hbB).trans (hc 8 _ rfl)
        have a9 : wr.cell? ⟨bb, off + k * 11 + 9, none⟩ = some (.int .i64 u4) := (hBr.cell (p := ⟨bb, _, none⟩) hbB).trans (hc 9 _ rfl)
        have a10 : wr.cell? ⟨bb, off + k * 11 + 10, none⟩ = some (.int .i64 x1) := (hBr.cell (p := ⟨bb, _, none⟩) hbB).trans (hc 10 _ rfl)
        have hst := Lib.hid (Fa_step l k _ hx)
        clear hc hat hx
        go_wp2_with fail
        refine (done_any wr p b (2 * k) _ hM (Fa_good _) (by omega) ⟨d1, ⟨f1, t1, c1, r1, u0, u1, u2, u3, u4⟩, x1⟩).mono ?_
        rintro y wr2 ⟨rfl, hM1, hg1⟩
        have HR : Hid (MindAt wr2 p b (2 * (k + 1)) (Fa (l.take (k + 1))) ∧ w2.grownBy wr2 (some b)) := Lib.hid ⟨by rw [hst.out]; exact hM1.more (by omega), hg.andThen hg1 (fun j hj => .inr (by rw [← hj]))⟩
        clear hM hM1 hg hg1 hst hBr a0 a1 a2 a3 a4 a5 a6 a7 a8 a9 a10
        go_wp2_with fail
        go_roundw
        case rel => exact ⟨k + 1, by omega, by go_num, HR.out⟩
        case measure => simp [intOf]; omega
      · have hkn : k = n := by omega
        subst hkn
        rw [List.take_of_length_le (Nat.le_of_eq HL.out.len)] at hM
        have je := je.grownM M hg
        have M := hM
        clear hg hM hB2
        by_cases hm : m < 1
        · rcases hok : E4.ok (Ed.e4 ⟨f, t, c, r, p0, p1, p2, p3, p4⟩) with _ | _
          · have ho := bnd_old (Fa_good l) m (Ed.e4 ⟨f, t, c, r, p0, p1, p2, p3, p4⟩)
            have hlen := length_old (Fa l) m
            have hsame : (oldL (Fa l) m) = Fa l := old_none hm
            rw [hsame] at ho hlen
            clear ho hlen
            have q_je_0 := je.cell 0
            have q_je_1 := je.cell 1
            have q_je_2 := je.cell 2
            have q_je_3 := je.cell 3
            have q_je_4 := je.cell 4
            have q_je_5 := je.cell 5
            have q_je_6 := je.cell 6
            have q_je_7 := je.cell 7
            have q_je_8 := je.cell 8
            have q_je_l := je.lt
            go_wp2_with fail
            clear q_je_0 q_je_1 q_je_2 q_je_3 q_je_4 q_je_5 q_je_6 q_je_7 q_je_8 q_je_l
            refine (bounds_any wr p b (2 * k) (Fa l) M (Fa_good l) ⟨f, t, c, r, p0, p1, p2, p3, p4⟩).mono ?_
            rintro y w11 ⟨rfl, hb⟩
            have je := je.below hb je.lt
            have M := M.on hb
            have hB11 := bltB hBr hBr.size hb
            clear hb hBr
            obtain ⟨lo, hi, h1⟩ : ∃ x y, bnd (Fa l) (Ed.e4 ⟨f, t, c, r, p0, p1, p2, p3, p4⟩) = (x, y) := ⟨_, _, rfl⟩
            rw [h1]
            have H1 := Lib.hid h1
            clear h1
            go_wp2_with fail
            refine (known_any w11 p b (2 * k) (Fa l) M).mono ?_
            rintro y w' ⟨rfl, rfl⟩
            obtain ⟨kn, hkn⟩ : ∃ z, ((Fa l) : Notes).length = z := ⟨_, rfl⟩
            rw [hkn]
            have HK := Lib.hid hkn
            clear hkn
            go_wp2_with fail
            refine (older_any w11 p b (2 * k) (Fa l) M (Fa_good l) (by omega) m).mono ?_
            rintro y w12 ⟨rfl, hM1, hg⟩
            have je := je.grownM M hg
            have hB12 := Below.grownM hB11 hg hB11.size hb_M
            have M := hM1
            clear hg hM1 hB11
            have q_je_0 := je.cell 0
            have q_je_1 := je.cell 1
            have q_je_2 := je.cell 2
            have q_je_3 := je.cell 3
            have q_je_4 := je.cell 4
            have q_je_5 := je.cell 5
            have q_je_6 := je.cell 6
            have q_je_7 := je.cell 7
            have q_je_8 := je.cell 8
            have q_je_l := je.lt
            go_wp2_with fail
            clear q_je_0 q_je_1 q_je_2 q_je_3 q_je_4 q_je_5 q_je_6 q_je_7 q_je_8 q_je_l
            refine (bounds_any w12 p b (2 * k) (oldL (Fa l) m) M (((Fa_good l) : Good (Fa l)).old m) ⟨f, t, c, r, p0, p1, p2, p3, p4⟩).mono ?_
            rintro y w13 ⟨rfl, hb⟩
            have je := je.below hb je.lt
            have M := M.on hb
            have hB13 := bltB hB12 hB12.size hb
            clear hb hB12
            rw [hsame, H1.out]
            go_wp2_with fail
            refine (known_any w13 p b (2 * k) (oldL (Fa l) m) M).mono ?_
            rintro y w' ⟨rfl, rfl⟩
            rw [hsame, HK.out]
            go_wp2_with fail
            refine (known_any w13 p b (2 * k) (oldL (Fa l) m) M).mono ?_
            rintro y w' ⟨rfl, rfl⟩
            rw [hsame, HK.out]
            go_wp2_with fail
            refine (older_any w13 p b (2 * k) (oldL (Fa l) m) M (((Fa_good l) : Good (Fa l)).old m) (by omega) 1).mono ?_
            rintro y w14 ⟨rfl, hM1, hg⟩
            have je := je.grownM M hg
            have hB14 := Below.grownM hB13 hg hB13.size hb_M
            have M := hM1
            clear hg hM1 hB13
            have hz : (oldL (oldL (Fa l) m) 1) = [] := old_one ((Fa_good l).old m)
            have q_je_0 := je.cell 0
            have q_je_1 := je.cell 1
            have q_je_2 := je.cell 2
            have q_je_3 := je.cell 3
            have q_je_4 := je.cell 4
            have q_je_5 := je.cell 5
            have q_je_6 := je.cell 6
            have q_je_7 := je.cell 7
            have q_je_8 := je.cell 8
            have q_je_l := je.lt
            go_wp2_with fail
            clear q_je_0 q_je_1 q_je_2 q_je_3 q_je_4 q_je_5 q_je_6 q_je_7 q_je_8 q_je_l
            refine (bounds_any w14 p b (2 * k) (oldL (oldL (Fa l) m) 1) M (((((Fa_good l) : Good (Fa l)).old m) : Good (oldL (Fa l) m)).old 1) ⟨f, t, c, r, p0, p1, p2, p3, p4⟩).mono ?_
            rintro y w15 ⟨rfl, hb⟩
            have je := je.below hb je.lt
            have M := M.on hb
            have hB15 := bltB hB14 hB14.size hb
            clear hb hB14
            rw [hz, bnd_no hok]
            go_wp2_with fail
            refine (known_any w15 p b (2 * k) (oldL (oldL (Fa l) m) 1) M).mono ?_
            rintro y w' ⟨rfl, rfl⟩
            rw [hz]
            simp only [List.length_nil]
            clear hok hz
            have q_je_0 := je.cell 0
            have q_je_1 := je.cell 1
            have q_je_2 := je.cell 2
            have q_je_3 := je.cell 3
            have q_je_4 := je.cell 4
            have q_je_5 := je.cell 5
            have q_je_6 := je.cell 6
            have q_je_7 := je.cell 7
            have q_je_8 := je.cell 8
            have q_je_l := je.lt
            go_wp2_with fail
            all_goals (go_ret; exact ⟨rfl, hB15⟩)
          · have hrr : 0 < r ∧ r ≤ 1125899906842624 := (mayB_iff.1 hok).2.2.2.2
            have ho := bnd_old (Fa_good l) m (Ed.e4 ⟨f, t, c, r, p0, p1, p2, p3, p4⟩)
            have hlen := length_old (Fa l) m
            have hsame : (oldL (Fa l) m) = Fa l := old_none hm
            rw [hsame] at ho hlen
            clear ho hlen
            have q_je_0 := je.cell 0
            have q_je_1 := je.cell 1
            have q_je_2 := je.cell 2
            have q_je_3 := je.cell 3
            have q_je_4 := je.cell 4
            have q_je_5 := je.cell 5
            have q_je_6 := je.cell 6
            have q_je_7 := je.cell 7
            have q_je_8 := je.cell 8
            have q_je_l := je.lt
            go_wp2_with fail
            clear q_je_0 q_je_1 q_je_2 q_je_3 q_je_4 q_je_5 q_je_6 q_je_7 q_je_8 q_je_l
            refine (bounds_any wr p b (2 * k) (Fa l) M (Fa_good l) ⟨f, t, c, r, p0, p1, p2, p3, p4⟩).mono ?_
            rintro y w11 ⟨rfl, hb⟩
            have je := je.below hb je.lt
            have M := M.on hb
            have hB11 := bltB hBr hBr.size hb
            clear hb hBr
            obtain ⟨lo, hi, h1⟩ : ∃ x y, bnd (Fa l) (Ed.e4 ⟨f, t, c, r, p0, p1, p2, p3, p4⟩) = (x, y) := ⟨_, _, rfl⟩
            rw [h1]
            have H1 := Lib.hid h1
            clear h1
            go_wp2_with fail
            refine (known_any w11 p b (2 * k) (Fa l) M).mono ?_
            rintro y w' ⟨rfl, rfl⟩
            obtain ⟨kn, hkn⟩ : ∃ z, ((Fa l) : Notes).length = z := ⟨_, rfl⟩
            rw [hkn]
            have HK := Lib.hid hkn
            clear hkn
            go_wp2_with fail
            refine (older_any w11 p b (2 * k) (Fa l) M (Fa_good l) (by omega) m).mono ?_
            rintro y w12 ⟨rfl, hM1, hg⟩
            have je := je.grownM M hg
            have hB12 := Below.grownM hB11 hg hB11.size hb_M
            have M := hM1
            clear hg hM1 hB11
            have q_je_0 := je.cell 0
            have q_je_1 := je.cell 1
            have q_je_2 := je.cell 2
            have q_je_3 := je.cell 3
            have q_je_4 := je.cell 4
            have q_je_5 := je.cell 5
            have q_je_6 := je.cell 6
            have q_je_7 := je.cell 7
            have q_je_8 := je.cell 8
            have q_je_l := je.lt
            go_wp2_with fail
            clear q_je_0 q_je_1 q_je_2 q_je_3 q_je_4 q_je_5 q_je_6 q_je_7 q_je_8 q_je_l
            refine (bounds_any w12 p b (2 * k) (oldL (Fa l) m) M (((Fa_good l) : Good (Fa l)).old m) ⟨f, t, c, r, p0, p1, p2, p3, p4⟩).mono ?_
            rintro y w13 ⟨rfl, hb⟩
            have je := je.below hb je.lt
            have M := M.on hb
            have hB13 := bltB hB12 hB12.size hb
            clear hb hB12
            rw [hsame, H1.out]
            go_wp2_with fail
            refine (known_any w13 p b (2 * k) (oldL (Fa l) m) M).mono ?_
            rintro y w' ⟨rfl, rfl⟩
            rw [hsame, HK.out]
            go_wp2_with fail
            refine (known_any w13 p b (2 * k) (oldL (Fa l) m) M).mono ?_
            rintro y w' ⟨rfl, rfl⟩
            rw [hsame, HK.out]
            go_wp2_with fail
            refine (older_any w13 p b (2 * k) (oldL (Fa l) m) M (((Fa_good l) : Good (Fa l)).old m) (by omega) 1).mono ?_
            rintro y w14 ⟨rfl, hM1, hg⟩
            have je := je.grownM M hg
            have hB14 := Below.grownM hB13 hg hB13.size hb_M
            have M := hM1
            clear hg hM1 hB13
            have hz : (oldL (oldL (Fa l) m) 1) = [] := old_one ((Fa_good l).old m)
            have q_je_0 := je.cell 0
            have q_je_1 := je.cell 1
            have q_je_2 := je.cell 2
            have q_je_3 := je.cell 3
            have q_je_4 := je.cell 4
            have q_je_5 := je.cell 5
            have q_je_6 := je.cell 6
            have q_je_7 := je.cell 7
            have q_je_8 := je.cell 8
            have q_je_l := je.lt
            go_wp2_with fail
            clear q_je_0 q_je_1 q_je_2 q_je_3 q_je_4 q_je_5 q_je_6 q_je_7 q_je_8 q_je_l
            refine (bounds_any w14 p b (2 * k) (oldL (oldL (Fa l) m) 1) M (((((Fa_good l) : Good (Fa l)).old m) : Good (oldL (Fa l) m)).old 1) ⟨f, t, c, r, p0, p1, p2, p3, p4⟩).mono ?_
            rintro y w15 ⟨rfl, hb⟩
            have je := je.below hb je.lt
            have M := M.on hb
            have hB15 := bltB hB14 hB14.size hb
            clear hb hB14
            rw [hz, bnd_nil_ok hok]
            simp only [Ed.e4]
            go_wp2_with fail
            refine (known_any w15 p b (2 * k) (oldL (oldL (Fa l) m) 1) M).mono ?_
            rintro y w' ⟨rfl, rfl⟩
            rw [hz]
            simp only [List.length_nil]
            have hw1 : IntKind.i64.wrap (r + 1) = r + 1 := IntWalk.i64_in _ (by omega)
            clear hok hz
            have q_je_0 := je.cell 0
            have q_je_1 := je.cell 1
            have q_je_2 := je.cell 2
            have q_je_3 := je.cell 3
            have q_je_4 := je.cell 4
            have q_je_5 := je.cell 5
            have q_je_6 := je.cell 6
            have q_je_7 := je.cell 7
            have q_je_8 := je.cell 8
            have q_je_l := je.lt
            go_wp2_with fail
            clear q_je_0 q_je_1 q_je_2 q_je_3 q_je_4 q_je_5 q_je_6 q_je_7 q_je_8 q_je_l
            go_ret
            exact ⟨rfl, hB15⟩
        · rcases hok : E4.ok (Ed.e4 ⟨f, t, c, r, p0, p1, p2, p3, p4⟩) with _ | _
          · have ho := bnd_old (Fa_good l) m (Ed.e4 ⟨f, t, c, r, p0, p1, p2, p3, p4⟩)
            have hlen := length_old (Fa l) m
            have q_je_0 := je.cell 0
            have q_je_1 := je.cell 1
            have q_je_2 := je.cell 2
            have q_je_3 := je.cell 3
            have q_je_4 := je.cell 4
            have q_je_5 := je.cell 5
            have q_je_6 := je.cell 6
            have q_je_7 := je.cell 7
            have q_je_8 := je.cell 8
            have q_je_l := je.lt
            go_wp2_with fail
            clear q_je_0 q_je_1 q_je_2 q_je_3 q_je_4 q_je_5 q_je_6 q_je_7 q_je_8 q_je_l
            refine (bounds_any wr p b (2 * k) (Fa l) M (Fa_good l) ⟨f, t, c, r, p0, p1, p2, p3, p4⟩).mono ?_
            rintro y w11 ⟨rfl, hb⟩
            have je := je.below hb je.lt
            have M := M.on hb
            have hB11 := bltB hBr hBr.size hb
            clear hb hBr
            obtain ⟨lo, hi, h1⟩ : ∃ x y, bnd (Fa l) (Ed.e4 ⟨f, t, c, r, p0, p1, p2, p3, p4⟩) = (x, y) := ⟨_, _, rfl⟩
            rw [h1]
            rw [h1] at ho
            have H1 := Lib.hid h1
            clear h1
            go_wp2_with fail
            refine (known_any w11 p b (2 * k) (Fa l) M).mono ?_
            rintro y w' ⟨rfl, rfl⟩
            obtain ⟨kn, hkn⟩ : ∃ z, ((Fa l) : Notes).length = z := ⟨_, rfl⟩
            rw [hkn]
            rw [hkn] at hlen
            have HK := Lib.hid hkn
            clear hkn
            go_wp2_with fail
            refine (older_any w11 p b (2 * k) (Fa l) M (Fa_good l) (by omega) m).mono ?_
            rintro y w12 ⟨rfl, hM1, hg⟩
            have je := je.grownM M hg
            have hB12 := Below.grownM hB11 hg hB11.size hb_M
            have M := hM1
            clear hg hM1 hB11
            have q_je_0 := je.cell 0
            have q_je_1 := je.cell 1
            have q_je_2 := je.cell 2
            have q_je_3 := je.cell 3
            have q_je_4 := je.cell 4
            have q_je_5 := je.cell 5
            have q_je_6 := je.cell 6
            have q_je_7 := je.cell 7
            have q_je_8 := je.cell 8
            have q_je_l := je.lt
            go_wp2_with fail
            clear q_je_0 q_je_1 q_je_2 q_je_3 q_je_4 q_je_5 q_je_6 q_je_7 q_je_8 q_je_l
            refine (bounds_any w12 p b (2 * k) (oldL (Fa l) m) M (((Fa_good l) : Good (Fa l)).old m) ⟨f, t, c, r, p0, p1, p2, p3, p4⟩).mono ?_
            rintro y w13 ⟨rfl, hb⟩
            have je := je.below hb je.lt
            have M := M.on hb
            have hB13 := bltB hB12 hB12.size hb
            clear hb hB12
            obtain ⟨lo1, hi1, h1⟩ : ∃ x y, bnd (oldL (Fa l) m) (Ed.e4 ⟨f, t, c, r, p0, p1, p2, p3, p4⟩) = (x, y) := ⟨_, _, rfl⟩
            rw [h1]
            rw [h1] at ho
            clear h1
            have ho1 : ¬ lo < lo1 := by have := ho.1; simp only at this; omega
            have ho2 : ¬ hi1 < hi := by have := ho.2; simp only at this; omega
            clear ho
            go_wp2_with fail
            refine (known_any w13 p b (2 * k) (oldL (Fa l) m) M).mono ?_
            rintro y w' ⟨rfl, rfl⟩
            obtain ⟨kn1, hkn1⟩ : ∃ z, ((oldL (Fa l) m) : Notes).length = z := ⟨_, rfl⟩
            rw [hkn1]
            rw [hkn1] at hlen
            clear hkn1
            have ho3 : ¬ (kn : Int) < (kn1 : Int) := by omega
            clear hlen
            go_wp2_with fail
            refine (older_any w13 p b (2 * k) (oldL (Fa l) m) M (((Fa_good l) : Good (Fa l)).old m) (by omega) 1).mono ?_
            rintro y w14 ⟨rfl, hM1, hg⟩
            have je := je.grownM M hg
            have hB14 := Below.grownM hB13 hg hB13.size hb_M
            have M := hM1
            clear hg hM1 hB13
            have hz : (oldL (oldL (Fa l) m) 1) = [] := old_one ((Fa_good l).old m)
            have q_je_0 := je.cell 0
            have q_je_1 := je.cell 1
            have q_je_2 := je.cell 2
            have q_je_3 := je.cell 3
            have q_je_4 := je.cell 4
            have q_je_5 := je.cell 5
            have q_je_6 := je.cell 6
            have q_je_7 := je.cell 7
            have q_je_8 := je.cell 8
            have q_je_l := je.lt
            go_wp2_with fail
            clear q_je_0 q_je_1 q_je_2 q_je_3 q_je_4 q_je_5 q_je_6 q_je_7 q_je_8 q_je_l
            refine (bounds_any w14 p b (2 * k) (oldL (oldL (Fa l) m) 1) M (((((Fa_good l) : Good (Fa l)).old m) : Good (oldL (Fa l) m)).old 1) ⟨f, t, c, r, p0, p1, p2, p3, p4⟩).mono ?_
            rintro y w15 ⟨rfl, hb⟩
            have je := je.below hb je.lt
            have M := M.on hb
            have hB15 := bltB hB14 hB14.size hb
            clear hb hB14
            rw [hz, bnd_no hok]
            go_wp2_with fail
            refine (known_any w15 p b (2 * k) (oldL (oldL (Fa l) m) 1) M).mono ?_
            rintro y w' ⟨rfl, rfl⟩
            rw [hz]
            simp only [List.length_nil]
            clear hok hz
            have q_je_0 := je.cell 0
            have q_je_1 := je.cell 1
            have q_je_2 := je.cell 2
            have q_je_3 := je.cell 3
            have q_je_4 := je.cell 4
            have q_je_5 := je.cell 5
            have q_je_6 := je.cell 6
            have q_je_7 := je.cell 7
            have q_je_8 := je.cell 8
            have q_je_l := je.lt
            go_wp2_with fail
            all_goals (go_ret; exact ⟨rfl, hB15⟩)
          · have hrr : 0 < r ∧ r ≤ 1125899906842624 := (mayB_iff.1 hok).2.2.2.2
            have ho := bnd_old (Fa_good l) m (Ed.e4 ⟨f, t, c, r, p0, p1, p2, p3, p4⟩)
            have hlen := length_old (Fa l) m
            have q_je_0 := je.cell 0
            have q_je_1 := je.cell 1
            have q_je_2 := je.cell 2
            have q_je_3 := je.cell 3
            have q_je_4 := je.cell 4
            have q_je_5 := je.cell 5
            have q_je_6 := je.cell 6
            have q_je_7 := je.cell 7
            have q_je_8 := je.cell 8
            have q_je_l := je.lt
            go_wp2_with fail
            clear q_je_0 q_je_1 q_je_2 q_je_3 q_je_4 q_je_5 q_je_6 q_je_7 q_je_8 q_je_l
            refine (bounds_any wr p b (2 * k) (Fa l) M (Fa_good l) ⟨f, t, c, r, p0, p1, p2, p3, p4⟩).mono ?_
            rintro y w11 ⟨rfl, hb⟩
            have je := je.below hb je.lt
            have M := M.on hb
            have hB11 := bltB hBr hBr.size hb
            clear hb hBr
            obtain ⟨lo, hi, h1⟩ : ∃ x y, bnd (Fa l) (Ed.e4 ⟨f, t, c, r, p0, p1, p2, p3, p4⟩) = (x, y) := ⟨_, _, rfl⟩
            rw [h1]
            rw [h1] at ho
            have H1 := Lib.hid h1
            clear h1
            go_wp2_with fail
            refine (known_any w11 p b (2 * k) (Fa l) M).mono ?_
            rintro y w' ⟨rfl, rfl⟩
            obtain ⟨kn, hkn⟩ : ∃ z, ((Fa l) : Notes).length = z := ⟨_, rfl⟩
            rw [hkn]
            rw [hkn] at hlen
            have HK := Lib.hid hkn
            clear hkn
            go_wp2_with fail
            refine (older_any w11 p b (2 * k) (Fa l) M (Fa_good l) (by omega) m).mono ?_
            rintro y w12 ⟨rfl, hM1, hg⟩
            have je := je.grownM M hg
            have hB12 := Below.grownM hB11 hg hB11.size hb_M
            have M := hM1
            clear hg hM1 hB11
            have q_je_0 := je.cell 0
            have q_je_1 := je.cell 1
            have q_je_2 := je.cell 2
            have q_je_3 := je.cell 3
            have q_je_4 := je.cell 4
            have q_je_5 := je.cell 5
            have q_je_6 := je.cell 6
            have q_je_7 := je.cell 7
            have q_je_8 := je.cell 8
            have q_je_l := je.lt
            go_wp2_with fail
            clear q_je_0 q_je_1 q_je_2 q_je_3 q_je_4 q_je_5 q_je_6 q_je_7 q_je_8 q_je_l
            refine (bounds_any w12 p b (2 * k) (oldL (Fa l) m) M (((Fa_good l) : Good (Fa l)).old m) ⟨f, t, c, r, p0, p1, p2, p3, p4⟩).mono ?_
            rintro y w13 ⟨rfl, hb⟩
            have je := je.below hb je.lt
            have M := M.on hb
            have hB13 := bltB hB12 hB12.size hb
            clear hb hB12
            obtain ⟨lo1, hi1, h1⟩ : ∃ x y, bnd (oldL (Fa l) m) (Ed.e4 ⟨f, t, c, r, p0, p1, p2, p3, p4⟩) = (x, y) := ⟨_, _, rfl⟩
            rw [h1]
            rw [h1] at ho
            clear h1
            have ho1 : ¬ lo < lo1 := by have := ho.1; simp only at this; omega
            have ho2 : ¬ hi1 < hi := by have := ho.2; simp only at this; omega
            clear ho
            go_wp2_with fail
            refine (known_any w13 p b (2 * k) (oldL (Fa l) m) M).mono ?_
            rintro y w' ⟨rfl, rfl⟩
            obtain ⟨kn1, hkn1⟩ : ∃ z, ((oldL (Fa l) m) : Notes).length = z := ⟨_, rfl⟩
            rw [hkn1]
            rw [hkn1] at hlen
            clear hkn1
            have ho3 : ¬ (kn : Int) < (kn1 : Int) := by omega
            clear hlen
            go_wp2_with fail
            refine (older_any w13 p b (2 * k) (oldL (Fa l) m) M (((Fa_good l) : Good (Fa l)).old m) (by omega) 1).mono ?_
            rintro y w14 ⟨rfl, hM1, hg⟩
            have je := je.grownM M hg
            have hB14 := Below.grownM hB13 hg hB13.size hb_M
            have M := hM1
            clear hg hM1 hB13
            have hz : (oldL (oldL (Fa l) m) 1) = [] := old_one ((Fa_good l).old m)
            have q_je_0 := je.cell 0
            have q_je_1 := je.cell 1
            have q_je_2 := je.cell 2
            have q_je_3 := je.cell 3
            have q_je_4 := je.cell 4
            have q_je_5 := je.cell 5
            have q_je_6 := je.cell 6
            have q_je_7 := je.cell 7
            have q_je_8 := je.cell 8
            have q_je_l := je.lt
            go_wp2_with fail
            clear q_je_0 q_je_1 q_je_2 q_je_3 q_je_4 q_je_5 q_je_6 q_je_7 q_je_8 q_je_l
            refine (bounds_any w14 p b (2 * k) (oldL (oldL (Fa l) m) 1) M (((((Fa_good l) : Good (Fa l)).old m) : Good (oldL (Fa l) m)).old 1) ⟨f, t, c, r, p0, p1, p2, p3, p4⟩).mono ?_
            rintro y w15 ⟨rfl, hb⟩
            have je := je.below hb je.lt
            have M := M.on hb
            have hB15 := bltB hB14 hB14.size hb
            clear hb hB14
            rw [hz, bnd_nil_ok hok]
            simp only [Ed.e4]
            go_wp2_with fail
            refine (known_any w15 p b (2 * k) (oldL (oldL (Fa l) m) 1) M).mono ?_
            rintro y w' ⟨rfl, rfl⟩
            rw [hz]
            simp only [List.length_nil]
            have hw1 : IntKind.i64.wrap (r + 1) = r + 1 := IntWalk.i64_in _ (by omega)
            clear hok hz
            have q_je_0 := je.cell 0
            have q_je_1 := je.cell 1
            have q_je_2 := je.cell 2
            have q_je_3 := je.cell 3
            have q_je_4 := je.cell 4
            have q_je_5 := je.cell 5
            have q_je_6 := je.cell 6
            have q_je_7 := je.cell 7
            have q_je_8 := je.cell 8
            have q_je_l := je.lt
            go_wp2_with fail
            clear q_je_0 q_je_1 q_je_2 q_je_3 q_je_4 q_je_5 q_je_6 q_je_7 q_je_8 q_je_l
            go_ret
            exact ⟨rfl, hB15⟩
  · have g30 : (30 : Int) < (n : Int) := by omega
    go_wp2_with fail
    go_ret
    exact ⟨rfl, hB2⟩

end Go.Proofs.Ytdobpicamibgpaa
