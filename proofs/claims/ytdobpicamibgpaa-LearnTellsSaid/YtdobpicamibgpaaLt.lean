/-
  The law LearnTells is proved: whatever the input, the call returns true and its arguments read behind it as they read before. No condition.
-/
import Derived.Test.YtdobpicamibgpaaRq
import Derived.Test.YtdobpicamibgpaaActs2
import Derived.Test.YtdobpicamibgpaaActs
import Derived.Test.YtdobpicamibgpaaRows
import Derived.ProofKit
import Derived.Deep.Slices
import Derived.Deep.Fields
import Derived.ChangeSame
import Derived.SizedLaws
import Derived.Lib.SmallJoins

/-
  What the walk of LearnTells leans on: both minds beside each other.
-/
namespace Go.Proofs.Ytdobpicamibgpaa
open Go.RowKit Go.Maps Go.Shelf
set_option linter.unusedVariables false
set_option linter.unusedSimpArgs false

theorem RefAt.grownM {w w' : World} {base pr p b n : Nat} {L M : Notes} (h : RefAt w base pr L) (hM : MindAt w p b n M) (hg : w.grownBy w' (some b)) : RefAt w' base pr L := by
  obtain ⟨es, clock, hb⟩ := hM.isMap
  obtain ⟨v, hB, hrow, hne⟩ := h.row
  refine ⟨⟨v, hB.grownM hM hg, hrow.kept hg ?_, hne⟩, h.base⟩
  rcases hrow.2 with ⟨rfl, _⟩ | ⟨g, cap, cur, rfl, _, hh, _⟩
  · exact .inl rfl
  · refine .inr (fun e => ?_)
    simp [Value.ownBlock] at e
    rw [e, hb] at hh
    cases hh
theorem MindAt.grownR {w w' : World} {p b n : Nat} {L : Notes} (h : MindAt w p b n L) (hg : RefGrown w w') : MindAt w' p b n L := by
  obtain ⟨es, clock, hb⟩ := h.isMap
  refine ⟨h.box.grownR hg (by decide) (by decide), ?_, h.ne⟩
  obtain ⟨D, h1, h2⟩ := h.own
  exact ⟨D, own_at h1 (hg.block b h1.lt (fun cs e => by rw [hb] at e; cases e) (fun cs e => by rw [hb] at e; cases e)), h2⟩

theorem Fa_len (l : List Av) (k : Nat) : (Fa (l.take k)).length ≤ 2 * k := by
  unfold Fa
  have h := fold_len [] (acs (l.take k))
  have h2 : (acs (l.take k)).length ≤ k := by unfold acs; rw [List.length_map]; exact List.length_take_le _ _
  simp only [List.length_nil] at h
  omega

theorem oddA_len {L : Notes} (h : Good L) (e : E4) (x : Int) : (oddA L e x).length ≤ 2 := by
  unfold oddA
  split
  · rename_i hok
    have hs := odd_small h hok
    exact digs_len_le (Nat.lt_of_le_of_lt (Nat.div_le_self _ _) (Nat.lt_of_le_of_lt (Nat.le_trans hs.1 hs.2.2) (by decide)))
  · simp
theorem oddB_len {L : Notes} (h : Good L) (e : E4) (x : Int) : (oddB L e x).length ≤ 2 := by
  unfold oddB
  split
  · rename_i hok
    have hs := odd_small h hok
    exact digs_len_le (Nat.lt_of_le_of_lt (Nat.div_le_self _ _) (Nat.lt_of_le_of_lt hs.2.2 (by decide)))
  · simp

end Go.Proofs.Ytdobpicamibgpaa

/-
  The law LearnTells: what its walk answers, whatever the acts.
-/
namespace Go.Proofs.Ytdobpicamibgpaa
open Go.RowKit Go.Maps Go.Shelf
set_option linter.unusedVariables false
set_option linter.unusedSimpArgs false
attribute [local go_sem] Oper.semAt_some

set_option maxRecDepth 100000 in
set_option maxHeartbeats 16000000 in
theorem ltells_any (w : World) (A : Option Addr) (n cp : Nat) (l : List Av) (hl : Acts w w.heap.size A n l) (e : Ed) (x : Int) : Calls Try.prog 3 #[.slice A n cp, e.v, .int .i64 x] w fun e w' => e = .returned (.bool true) ∧ Below w.heap.size w w' := by
  obtain ⟨f, t, c, r, p0, p1, p2, p3, p4⟩ := e
  obtain ⟨w0, hw0⟩ : ∃ w0, w0 = w.alloc (.cells #[.int .i64 f, .int .i64 t, .int .i64 c, .int .i64 r, .int .i64 p0, .int .i64 p1, .int .i64 p2, .int .i64 p3, .int .i64 p4] 26) := ⟨_, rfl⟩
  have hB0 : Below w.heap.size w w0 := by rw [hw0]; exact (Below.refl _ _).alloc (Nat.le_refl _) _
  have je : Blk w0 w.heap.size 26 #[.int .i64 f, .int .i64 t, .int .i64 c, .int .i64 r, .int .i64 p0, .int .i64 p1, .int .i64 p2, .int .i64 p3, .int .i64 p4] := by rw [hw0]; exact Blk.new w _ _
  have HL := Lib.hid hl
  have hn0 := hl.small
  clear hl
  simp only [Ed.v, Ed.cs]
  go_enter Try.func3, Try.ntmps3
  go_wp2_with fail
  rw [← hw0]
  clear hw0
  go_wp2_with fail
  refine (lsmall_any w0).mono ?_
  rintro y w1 ⟨rfl, hb⟩
  have je := je.below hb je.lt
  have hB1 := bltB hB0 hB0.size hb
  clear hb hB0
  go_wp2_with fail
  refine (lnew_any w1).mono ?_
  rintro y w2 ⟨p, b, rfl, M, hp_M, hb_M, hb⟩
  have hb_M := Nat.le_trans hB1.size hb_M
  have je := je.below hb je.lt
  have hB2 := bltB hB1 hB1.size hb
  clear hb hB1
  go_wp2_with fail
  refine (rnew_any w2).mono ?_
  rintro y w3 ⟨pr, rfl, R, hpr, hb⟩
  have hrb := hB2.size
  obtain ⟨rb, hrb2⟩ : ∃ z, w2.heap.size = z := ⟨_, rfl⟩
  have je := je.below hb je.lt
  have M := M.on hb
  have hB3 := bltB hB2 hB2.size hb
  clear hb hB2
  rw [hrb2] at R hrb
  clear hrb2 hpr
  by_cases h60 : n ≤ 60
  · have g60 : ¬ (60 : Int) < (n : Int) := by omega
    go_wp2_with fail
    go_loopw [10] (fun i wr => ∃ k : Nat, k ≤ n ∧ i = .int .i64 k ∧ MindAt wr p b (2 * k) (Fa (l.take k)) ∧ RefAt wr rb pr (Fa (l.take k)) ∧ Blk wr w.heap.size 26 #[.int .i64 f, .int .i64 t, .int .i64 c, .int .i64 r, .int .i64 p0, .int .i64 p1, .int .i64 p2, .int .i64 p3, .int .i64 p4] ∧ Below w.heap.size w wr) (fun i _ => n - (intOf i).toNat)
    case atStart => exact ⟨0, Nat.zero_le _, rfl, M, R, je, hB3⟩
    case round =>
      clear M R je hB3
      obtain ⟨k, hk, rfl, M, R, je, hBr⟩ := hrel
      have hfl := Fa_len l k
      by_cases hlt : k < n
      · obtain ⟨bb, off, hA, hbB, hat⟩ := HL.out.at_ (by omega)
        subst hA
        have hx : l[k]? = some (l[k]'(by rw [HL.out.len]; exact hlt)) := List.getElem?_eq_getElem _
        generalize l[k]'(by rw [HL.out.len]; exact hlt) = ak at hx
        obtain ⟨d1, ⟨f1, t1, c1, r1, u0, u1, u2, u3, u4⟩, x1⟩ := ak
        have hc := hat k _ hx
        have a0 : wr.cell? ⟨bb, off + k * 11, none⟩ = some (.int .i64 d1) := (hBr.cell (p := ⟨bb, _, none⟩) hbB).trans (hc 0 _ rfl)
        have a1 : wr.cell? ⟨bb, off + k * 11 + 1, none⟩ = some (.int .i64 f1) := (hBr.cell (p := ⟨bb, _, none⟩) hbB).trans (hc 1 _ rfl)
        have a2 : wr.cell? ⟨bb, off + k * 11 + 2, none⟩ = some (.int .i64 t1) := (hBr.cell (p := ⟨bb, _, none⟩) hbB).trans (hc 2 _ rfl)
        have a3 : wr.cell? ⟨bb, off + k * 11 + 3, none⟩ = some (.int .i64 c1) := (hBr.cell (p := ⟨bb, _, none⟩) hbB).trans (hc 3 _ rfl)
        have a4 : wr.cell? ⟨bb, off + k * 11 + 4, none⟩ = some (.int .i64 r1) := (hBr.cell (p := ⟨bb, _, none⟩) hbB).trans (hc 4 _ rfl)
        have a5 : wr.cell? ⟨bb, off + k * 11 + 5, none⟩ = some (.int .i64 u0) := (hBr.cell (p := ⟨bb, _, none⟩) hbB).trans (hc 5 _ rfl)
        have a6 : wr.cell? ⟨bb, off + k * 11 + 6, none⟩ = some (.int .i64 u1) := (hBr.cell (p := ⟨bb, _, none⟩) hbB).trans (hc 6 _ rfl)
        have a7 : wr.cell? ⟨bb, off + k * 11 + 7, none⟩ = some (.int .i64 u2) := (hBr.cell (p := ⟨bb, _, none⟩) hbB).trans (hc 7 _ rfl)
        have a8 : wr.cell? ⟨bb, off + k * 11 + 8, none⟩ = some (.int .i64 u3) := (hBr.cell (p := ⟨bb, _, none⟩) hbB).trans (hc 8 _ rfl)
        have a9 : wr.cell? ⟨bb, off + k * 11 + 9, none⟩ = some (.int .i64 u4) := (hBr.cell (p := ⟨bb, _, none⟩) hbB).trans (hc 9 _ rfl)
        have a10 : wr.cell? ⟨bb, off + k * 11 + 10, none⟩ = some (.int .i64 x1) := (hBr.cell (p := ⟨bb, _, none⟩) hbB).trans (hc 10 _ rfl)
        have HST := Lib.hid (Fa_step l k _ hx)
        clear hc hat hx
        obtain ⟨L, hL⟩ : ∃ L, Fa (l.take k) = L := ⟨_, rfl⟩
        have HG : Hid (Good L) := Lib.hid (by rw [← hL]; exact Fa_good _)
        rw [hL] at M R HST hfl
        clear hL
        by_cases s1 : d1 = 1
        · subst s1
          have HD : Hid (doL L (Av.ac ⟨1, ⟨f1, t1, c1, r1, u0, u1, u2, u3, u4⟩, x1⟩) = (failL L (Ed.e4 ⟨f1, t1, c1, r1, u0, u1, u2, u3, u4⟩) x1)) := Lib.hid (by rfl)
          go_wp2_with fail
          clear a0 a1 a2 a3 a4 a5 a6 a7 a8 a9 a10
          obtain ⟨w21, hw21⟩ : ∃ W, W = wr.alloc (.cells #[.int .i64 1, .int .i64 f1, .int .i64 t1, .int .i64 c1, .int .i64 r1, .int .i64 u0, .int .i64 u1, .int .i64 u2, .int .i64 u3, .int .i64 u4, .int .i64 x1] 33) := ⟨_, rfl⟩
          obtain ⟨Ga, hGa⟩ : ∃ G, wr.heap.size = G := ⟨_, rfl⟩
          have ha : Below wr.heap.size wr w21 := by rw [hw21]; exact (Below.refl _ _).alloc (Nat.le_refl _) _
          have ja : Blk w21 Ga 33 #[.int .i64 1, .int .i64 f1, .int .i64 t1, .int .i64 c1, .int .i64 r1, .int .i64 u0, .int .i64 u1, .int .i64 u2, .int .i64 u3, .int .i64 u4, .int .i64 x1] := by rw [hw21, ← hGa]; exact Blk.new wr _ _
          rw [← hw21]
          simp only [hGa]
          clear hw21 hGa
          have R := R.on ha
          have je := je.below ha je.lt
          have M := M.on ha
          have hB21 := bltB hBr hBr.size ha
          clear ha hBr
          refine (done_any w21 p b (2 * k) L M HG.out (by omega) ⟨1, ⟨f1, t1, c1, r1, u0, u1, u2, u3, u4⟩, x1⟩).mono ?_
          rintro y w22 ⟨rfl, hM1, hg⟩
          rw [HD.out] at hM1
          have R := R.grownM M hg
          have je := je.grownM M hg
          have ja := ja.grownM M hg
          have hB22 := Below.grownM hB21 hg hB21.size hb_M
          have M := hM1
          clear hg hM1 hB21
          have q_ja_0 := ja.cell 0
          have q_ja_1 := ja.cell 1
          have q_ja_2 := ja.cell 2
          have q_ja_3 := ja.cell 3
          have q_ja_4 := ja.cell 4
          have q_ja_5 := ja.cell 5
          have q_ja_6 := ja.cell 6
          have q_ja_7 := ja.cell 7
          have q_ja_8 := ja.cell 8
          have q_ja_9 := ja.cell 9
          have q_ja_10 := ja.cell 10
          have q_ja_l := ja.lt
          go_wp2_with fail
          clear q_ja_0 q_ja_1 q_ja_2 q_ja_3 q_ja_4 q_ja_5 q_ja_6 q_ja_7 q_ja_8 q_ja_9 q_ja_10 q_ja_l
          refine (rfailed_any w22 rb pr L R HG.out (by omega) ⟨f1, t1, c1, r1, u0, u1, u2, u3, u4⟩ x1).mono ?_
          rintro y w23 ⟨rfl, hp⟩
          have je := je.grownR hp.grown (by decide) (by decide)
          have M := M.grownR hp.grown
          have ja := ja.grownR hp.grown (by decide) (by decide)
          have hB23 := hB22.trans (hp.low.mono hrb)
          have R := hp.mind
          clear hp hB22
          have hl2 : ((failL L (Ed.e4 ⟨f1, t1, c1, r1, u0, u1, u2, u3, u4⟩) x1) : Notes).length < 900000 := by have := do_len L (Av.ac ⟨1, ⟨f1, t1, c1, r1, u0, u1, u2, u3, u4⟩, x1⟩); rw [HD.out] at this; omega
          have q_ja_0 := ja.cell 0
          have q_ja_1 := ja.cell 1
          have q_ja_2 := ja.cell 2
          have q_ja_3 := ja.cell 3
          have q_ja_4 := ja.cell 4
          have q_ja_5 := ja.cell 5
          have q_ja_6 := ja.cell 6
          have q_ja_7 := ja.cell 7
          have q_ja_8 := ja.cell 8
          have q_ja_9 := ja.cell 9
          have q_ja_10 := ja.cell 10
          have q_ja_l := ja.lt
          go_wp2_with fail
          clear q_ja_0 q_ja_1 q_ja_2 q_ja_3 q_ja_4 q_ja_5 q_ja_6 q_ja_7 q_ja_8 q_ja_9 q_ja_10 q_ja_l
          refine (bounds_any w23 p b ((2 * k) + 2) (failL L (Ed.e4 ⟨f1, t1, c1, r1, u0, u1, u2, u3, u4⟩) x1) M (HG.out.fail (Ed.e4 ⟨f1, t1, c1, r1, u0, u1, u2, u3, u4⟩) x1) ⟨f1, t1, c1, r1, u0, u1, u2, u3, u4⟩).mono ?_
          rintro y w24 ⟨rfl, hb⟩
          have R := R.on hb
          have je := je.below hb je.lt
          have M := M.on hb
          have ja := ja.below hb ja.lt
          have hB24 := bltB hB23 hB23.size hb
          clear hb hB23
          obtain ⟨lo, hi, h1⟩ : ∃ y1 y2, bnd (failL L (Ed.e4 ⟨f1, t1, c1, r1, u0, u1, u2, u3, u4⟩) x1) (Ed.e4 ⟨f1, t1, c1, r1, u0, u1, u2, u3, u4⟩) = (y1, y2) := ⟨_, _, rfl⟩
          rw [h1]
          have H1 := Lib.hid h1
          clear h1
          have q_ja_0 := ja.cell 0
          have q_ja_1 := ja.cell 1
          have q_ja_2 := ja.cell 2
          have q_ja_3 := ja.cell 3
          have q_ja_4 := ja.cell 4
          have q_ja_5 := ja.cell 5
          have q_ja_6 := ja.cell 6
          have q_ja_7 := ja.cell 7
          have q_ja_8 := ja.cell 8
          have q_ja_9 := ja.cell 9
          have q_ja_10 := ja.cell 10
          have q_ja_l := ja.lt
          go_wp2_with fail
          clear q_ja_0 q_ja_1 q_ja_2 q_ja_3 q_ja_4 q_ja_5 q_ja_6 q_ja_7 q_ja_8 q_ja_9 q_ja_10 q_ja_l
          refine (rbounds_any w24 rb pr (failL L (Ed.e4 ⟨f1, t1, c1, r1, u0, u1, u2, u3, u4⟩) x1) R (HG.out.fail (Ed.e4 ⟨f1, t1, c1, r1, u0, u1, u2, u3, u4⟩) x1) hl2 ⟨f1, t1, c1, r1, u0, u1, u2, u3, u4⟩).mono ?_
          rintro y w25 ⟨rfl, hb⟩
          have R := R.on hb
          have je := je.below hb je.lt
          have M := M.on hb
          have ja := ja.below hb ja.lt
          have hB25 := bltB hB24 hB24.size hb
          clear hb hB24
          rw [H1.out]
          go_wp2_with fail
          refine (known_any w25 p b ((2 * k) + 2) (failL L (Ed.e4 ⟨f1, t1, c1, r1, u0, u1, u2, u3, u4⟩) x1) M).mono ?_
          rintro y w' ⟨rfl, rfl⟩
          obtain ⟨kn, hkn⟩ : ∃ z, ((failL L (Ed.e4 ⟨f1, t1, c1, r1, u0, u1, u2, u3, u4⟩) x1) : Notes).length = z := ⟨_, rfl⟩
          rw [hkn]
          have HK := Lib.hid hkn
          clear hkn
          go_wp2_with fail
          refine (rknown_any w25 rb pr (failL L (Ed.e4 ⟨f1, t1, c1, r1, u0, u1, u2, u3, u4⟩) x1) R).mono ?_
          rintro y w' ⟨rfl, rfl⟩
          rw [HK.out]
          have HR : Hid (MindAt w25 p b (2 * (k + 1)) (Fa (l.take (k + 1))) ∧ RefAt w25 rb pr (Fa (l.take (k + 1))) ∧ Blk w25 w.heap.size 26 #[.int .i64 f, .int .i64 t, .int .i64 c, .int .i64 r, .int .i64 p0, .int .i64 p1, .int .i64 p2, .int .i64 p3, .int .i64 p4] ∧ Below w.heap.size w w25) := Lib.hid ⟨by rw [HST.out, HD.out]; exact M.more (by omega), by rw [HST.out, HD.out]; exact R, je, hB25⟩
          clear M R je ja hB25 hl2
          go_wp2_with fail
          go_roundw
          case rel => exact ⟨k + 1, by omega, by go_num, HR.out⟩
          case measure => simp [intOf]; omega
        · by_cases s2 : d1 = 2
          · subst s2
            clear s1
            have HD : Hid (doL L (Av.ac ⟨2, ⟨f1, t1, c1, r1, u0, u1, u2, u3, u4⟩, x1⟩) = (passL L (Ed.e4 ⟨f1, t1, c1, r1, u0, u1, u2, u3, u4⟩) x1)) := Lib.hid (by rfl)
            go_wp2_with fail
            clear a0 a1 a2 a3 a4 a5 a6 a7 a8 a9 a10
            obtain ⟨w21, hw21⟩ : ∃ W, W = wr.alloc (.cells #[.int .i64 2, .int .i64 f1, .int .i64 t1, .int .i64 c1, .int .i64 r1, .int .i64 u0, .int .i64 u1, .int .i64 u2, .int .i64 u3, .int .i64 u4, .int .i64 x1] 33) := ⟨_, rfl⟩
            obtain ⟨Ga, hGa⟩ : ∃ G, wr.heap.size = G := ⟨_, rfl⟩
            have ha : Below wr.heap.size wr w21 := by rw [hw21]; exact (Below.refl _ _).alloc (Nat.le_refl _) _
            have ja : Blk w21 Ga 33 #[.int .i64 2, .int .i64 f1, .int .i64 t1, .int .i64 c1, .int .i64 r1, .int .i64 u0, .int .i64 u1, .int .i64 u2, .int .i64 u3, .int .i64 u4, .int .i64 x1] := by rw [hw21, ← hGa]; exact Blk.new wr _ _
            rw [← hw21]
            simp only [hGa]
            clear hw21 hGa
            have R := R.on ha
            have je := je.below ha je.lt
            have M := M.on ha
            have hB21 := bltB hBr hBr.size ha
            clear ha hBr
            refine (done_any w21 p b (2 * k) L M HG.out (by omega) ⟨2, ⟨f1, t1, c1, r1, u0, u1, u2, u3, u4⟩, x1⟩).mono ?_
            rintro y w22 ⟨rfl, hM1, hg⟩
            rw [HD.out] at hM1
            have R := R.grownM M hg
            have je := je.grownM M hg
            have ja := ja.grownM M hg
            have hB22 := Below.grownM hB21 hg hB21.size hb_M
            have M := hM1
            clear hg hM1 hB21
            have q_ja_0 := ja.cell 0
            have q_ja_1 := ja.cell 1
            have q_ja_2 := ja.cell 2
            have q_ja_3 := ja.cell 3
            have q_ja_4 := ja.cell 4
            have q_ja_5 := ja.cell 5
            have q_ja_6 := ja.cell 6
            have q_ja_7 := ja.cell 7
            have q_ja_8 := ja.cell 8
            have q_ja_9 := ja.cell 9
            have q_ja_10 := ja.cell 10
            have q_ja_l := ja.lt
            go_wp2_with fail
            clear q_ja_0 q_ja_1 q_ja_2 q_ja_3 q_ja_4 q_ja_5 q_ja_6 q_ja_7 q_ja_8 q_ja_9 q_ja_10 q_ja_l
            refine (rpassed_any w22 rb pr L R HG.out (by omega) ⟨f1, t1, c1, r1, u0, u1, u2, u3, u4⟩ x1).mono ?_
            rintro y w23 ⟨rfl, hp⟩
            have je := je.grownR hp.grown (by decide) (by decide)
            have M := M.grownR hp.grown
            have ja := ja.grownR hp.grown (by decide) (by decide)
            have hB23 := hB22.trans (hp.low.mono hrb)
            have R := hp.mind
            clear hp hB22
            have hl2 : ((passL L (Ed.e4 ⟨f1, t1, c1, r1, u0, u1, u2, u3, u4⟩) x1) : Notes).length < 900000 := by have := do_len L (Av.ac ⟨2, ⟨f1, t1, c1, r1, u0, u1, u2, u3, u4⟩, x1⟩); rw [HD.out] at this; omega
            have q_ja_0 := ja.cell 0
            have q_ja_1 := ja.cell 1
            have q_ja_2 := ja.cell 2
            have q_ja_3 := ja.cell 3
            have q_ja_4 := ja.cell 4
            have q_ja_5 := ja.cell 5
            have q_ja_6 := ja.cell 6
            have q_ja_7 := ja.cell 7
            have q_ja_8 := ja.cell 8
            have q_ja_9 := ja.cell 9
            have q_ja_10 := ja.cell 10
            have q_ja_l := ja.lt
            go_wp2_with fail
            clear q_ja_0 q_ja_1 q_ja_2 q_ja_3 q_ja_4 q_ja_5 q_ja_6 q_ja_7 q_ja_8 q_ja_9 q_ja_10 q_ja_l
            refine (bounds_any w23 p b ((2 * k) + 2) (passL L (Ed.e4 ⟨f1, t1, c1, r1, u0, u1, u2, u3, u4⟩) x1) M (HG.out.pass (Ed.e4 ⟨f1, t1, c1, r1, u0, u1, u2, u3, u4⟩) x1) ⟨f1, t1, c1, r1, u0, u1, u2, u3, u4⟩).mono ?_
            rintro y w24 ⟨rfl, hb⟩
            have R := R.on hb
            have je := je.below hb je.lt
            have M := M.on hb
            have ja := ja.below hb ja.lt
            have hB24 := bltB hB23 hB23.size hb
            clear hb hB23
            obtain ⟨lo, hi, h1⟩ : ∃ y1 y2, bnd (passL L (Ed.e4 ⟨f1, t1, c1, r1, u0, u1, u2, u3, u4⟩) x1) (Ed.e4 ⟨f1, t1, c1, r1, u0, u1, u2, u3, u4⟩) = (y1, y2) := ⟨_, _, rfl⟩
            rw [h1]
            have H1 := Lib.hid h1
            clear h1
            have q_ja_0 := ja.cell 0
            have q_ja_1 := ja.cell 1
            have q_ja_2 := ja.cell 2
            have q_ja_3 := ja.cell 3
            have q_ja_4 := ja.cell 4
            have q_ja_5 := ja.cell 5
            have q_ja_6 := ja.cell 6
            have q_ja_7 := ja.cell 7
            have q_ja_8 := ja.cell 8
            have q_ja_9 := ja.cell 9
            have q_ja_10 := ja.cell 10
            have q_ja_l := ja.lt
            go_wp2_with fail
            clear q_ja_0 q_ja_1 q_ja_2 q_ja_3 q_ja_4 q_ja_5 q_ja_6 q_ja_7 q_ja_8 q_ja_9 q_ja_10 q_ja_l
            refine (rbounds_any w24 rb pr (passL L (Ed.e4 ⟨f1, t1, c1, r1, u0, u1, u2, u3, u4⟩) x1) R (HG.out.pass (Ed.e4 ⟨f1, t1, c1, r1, u0, u1, u2, u3, u4⟩) x1) hl2 ⟨f1, t1, c1, r1, u0, u1, u2, u3, u4⟩).mono ?_
            rintro y w25 ⟨rfl, hb⟩
            have R := R.on hb
            have je := je.below hb je.lt
            have M := M.on hb
            have ja := ja.below hb ja.lt
            have hB25 := bltB hB24 hB24.size hb
            clear hb hB24
            rw [H1.out]
            go_wp2_with fail
            refine (known_any w25 p b ((2 * k) + 2) (passL L (Ed.e4 ⟨f1, t1, c1, r1, u0, u1, u2, u3, u4⟩) x1) M).mono ?_
            rintro y w' ⟨rfl, rfl⟩
            obtain ⟨kn, hkn⟩ : ∃ z, ((passL L (Ed.e4 ⟨f1, t1, c1, r1, u0, u1, u2, u3, u4⟩) x1) : Notes).length = z := ⟨_, rfl⟩
            rw [hkn]
            have HK := Lib.hid hkn
            clear hkn
            go_wp2_with fail
            refine (rknown_any w25 rb pr (passL L (Ed.e4 ⟨f1, t1, c1, r1, u0, u1, u2, u3, u4⟩) x1) R).mono ?_
            rintro y w' ⟨rfl, rfl⟩
            rw [HK.out]
            have HR : Hid (MindAt w25 p b (2 * (k + 1)) (Fa (l.take (k + 1))) ∧ RefAt w25 rb pr (Fa (l.take (k + 1))) ∧ Blk w25 w.heap.size 26 #[.int .i64 f, .int .i64 t, .int .i64 c, .int .i64 r, .int .i64 p0, .int .i64 p1, .int .i64 p2, .int .i64 p3, .int .i64 p4] ∧ Below w.heap.size w w25) := Lib.hid ⟨by rw [HST.out, HD.out]; exact M.more (by omega), by rw [HST.out, HD.out]; exact R, je, hB25⟩
            clear M R je ja hB25 hl2
            go_wp2_with fail
            go_roundw
            case rel => exact ⟨k + 1, by omega, by go_num, HR.out⟩
            case measure => simp [intOf]; omega
          · by_cases s3 : d1 = 3
            · subst s3
              clear s1 s2
              have HD : Hid (doL L (Av.ac ⟨3, ⟨f1, t1, c1, r1, u0, u1, u2, u3, u4⟩, x1⟩) = (moveL L (Ed.e4 ⟨f1, t1, c1, r1, u0, u1, u2, u3, u4⟩) x1)) := Lib.hid (by rfl)
              go_wp2_with fail
              clear a0 a1 a2 a3 a4 a5 a6 a7 a8 a9 a10
              obtain ⟨w21, hw21⟩ : ∃ W, W = wr.alloc (.cells #[.int .i64 3, .int .i64 f1, .int .i64 t1, .int .i64 c1, .int .i64 r1, .int .i64 u0, .int .i64 u1, .int .i64 u2, .int .i64 u3, .int .i64 u4, .int .i64 x1] 33) := ⟨_, rfl⟩
              obtain ⟨Ga, hGa⟩ : ∃ G, wr.heap.size = G := ⟨_, rfl⟩
              have ha : Below wr.heap.size wr w21 := by rw [hw21]; exact (Below.refl _ _).alloc (Nat.le_refl _) _
              have ja : Blk w21 Ga 33 #[.int .i64 3, .int .i64 f1, .int .i64 t1, .int .i64 c1, .int .i64 r1, .int .i64 u0, .int .i64 u1, .int .i64 u2, .int .i64 u3, .int .i64 u4, .int .i64 x1] := by rw [hw21, ← hGa]; exact Blk.new wr _ _
              rw [← hw21]
              simp only [hGa]
              clear hw21 hGa
              have R := R.on ha
              have je := je.below ha je.lt
              have M := M.on ha
              have hB21 := bltB hBr hBr.size ha
              clear ha hBr
              refine (done_any w21 p b (2 * k) L M HG.out (by omega) ⟨3, ⟨f1, t1, c1, r1, u0, u1, u2, u3, u4⟩, x1⟩).mono ?_
              rintro y w22 ⟨rfl, hM1, hg⟩
              rw [HD.out] at hM1
              have R := R.grownM M hg
              have je := je.grownM M hg
              have ja := ja.grownM M hg
              have hB22 := Below.grownM hB21 hg hB21.size hb_M
              have M := hM1
              clear hg hM1 hB21
              have q_ja_0 := ja.cell 0
              have q_ja_1 := ja.cell 1
              have q_ja_2 := ja.cell 2
              have q_ja_3 := ja.cell 3
              have q_ja_4 := ja.cell 4
              have q_ja_5 := ja.cell 5
              have q_ja_6 := ja.cell 6
              have q_ja_7 := ja.cell 7
              have q_ja_8 := ja.cell 8
              have q_ja_9 := ja.cell 9
              have q_ja_10 := ja.cell 10
              have q_ja_l := ja.lt
              go_wp2_with fail
              clear q_ja_0 q_ja_1 q_ja_2 q_ja_3 q_ja_4 q_ja_5 q_ja_6 q_ja_7 q_ja_8 q_ja_9 q_ja_10 q_ja_l
              refine (rmoved_any w22 rb pr L R HG.out (by omega) ⟨f1, t1, c1, r1, u0, u1, u2, u3, u4⟩ x1).mono ?_
              rintro y w23 ⟨rfl, hp⟩
              have je := je.grownR hp.grown (by decide) (by decide)
              have M := M.grownR hp.grown
              have ja := ja.grownR hp.grown (by decide) (by decide)
              have hB23 := hB22.trans (hp.low.mono hrb)
              have R := hp.mind
              clear hp hB22
              have hl2 : ((moveL L (Ed.e4 ⟨f1, t1, c1, r1, u0, u1, u2, u3, u4⟩) x1) : Notes).length < 900000 := by have := do_len L (Av.ac ⟨3, ⟨f1, t1, c1, r1, u0, u1, u2, u3, u4⟩, x1⟩); rw [HD.out] at this; omega
              have q_ja_0 := ja.cell 0
              have q_ja_1 := ja.cell 1
              have q_ja_2 := ja.cell 2
              have q_ja_3 := ja.cell 3
              have q_ja_4 := ja.cell 4
              have q_ja_5 := ja.cell 5
              have q_ja_6 := ja.cell 6
              have q_ja_7 := ja.cell 7
              have q_ja_8 := ja.cell 8
              have q_ja_9 := ja.cell 9
              have q_ja_10 := ja.cell 10
              have q_ja_l := ja.lt
              go_wp2_with fail
              clear q_ja_0 q_ja_1 q_ja_2 q_ja_3 q_ja_4 q_ja_5 q_ja_6 q_ja_7 q_ja_8 q_ja_9 q_ja_10 q_ja_l
              refine (bounds_any w23 p b ((2 * k) + 2) (moveL L (Ed.e4 ⟨f1, t1, c1, r1, u0, u1, u2, u3, u4⟩) x1) M (HG.out.move (Ed.e4 ⟨f1, t1, c1, r1, u0, u1, u2, u3, u4⟩) x1) ⟨f1, t1, c1, r1, u0, u1, u2, u3, u4⟩).mono ?_
              rintro y w24 ⟨rfl, hb⟩
              have R := R.on hb
              have je := je.below hb je.lt
              have M := M.on hb
              have ja := ja.below hb ja.lt
              have hB24 := bltB hB23 hB23.size hb
              clear hb hB23
              obtain ⟨lo, hi, h1⟩ : ∃ y1 y2, bnd (moveL L (Ed.e4 ⟨f1, t1, c1, r1, u0, u1, u2, u3, u4⟩) x1) (Ed.e4 ⟨f1, t1, c1, r1, u0, u1, u2, u3, u4⟩) = (y1, y2) := ⟨_, _, rfl⟩
              rw [h1]
              have H1 := Lib.hid h1
              clear h1
              have q_ja_0 := ja.cell 0
              have q_ja_1 := ja.cell 1
              have q_ja_2 := ja.cell 2
              have q_ja_3 := ja.cell 3
              have q_ja_4 := ja.cell 4
              have q_ja_5 := ja.cell 5
              have q_ja_6 := ja.cell 6
              have q_ja_7 := ja.cell 7
              have q_ja_8 := ja.cell 8
              have q_ja_9 := ja.cell 9
              have q_ja_10 := ja.cell 10
              have q_ja_l := ja.lt
              go_wp2_with fail
              clear q_ja_0 q_ja_1 q_ja_2 q_ja_3 q_ja_4 q_ja_5 q_ja_6 q_ja_7 q_ja_8 q_ja_9 q_ja_10 q_ja_l
              refine (rbounds_any w24 rb pr (moveL L (Ed.e4 ⟨f1, t1, c1, r1, u0, u1, u2, u3, u4⟩) x1) R (HG.out.move (Ed.e4 ⟨f1, t1, c1, r1, u0, u1, u2, u3, u4⟩) x1) hl2 ⟨f1, t1, c1, r1, u0, u1, u2, u3, u4⟩).mono ?_
              rintro y w25 ⟨rfl, hb⟩
              have R := R.on hb
              have je := je.below hb je.lt
              have M := M.on hb
              have ja := ja.below hb ja.lt
              have hB25 := bltB hB24 hB24.size hb
              clear hb hB24
              rw [H1.out]
              go_wp2_with fail
              refine (known_any w25 p b ((2 * k) + 2) (moveL L (Ed.e4 ⟨f1, t1, c1, r1, u0, u1, u2, u3, u4⟩) x1) M).mono ?_
              rintro y w' ⟨rfl, rfl⟩
              obtain ⟨kn, hkn⟩ : ∃ z, ((moveL L (Ed.e4 ⟨f1, t1, c1, r1, u0, u1, u2, u3, u4⟩) x1) : Notes).length = z := ⟨_, rfl⟩
              rw [hkn]
              have HK := Lib.hid hkn
              clear hkn
              go_wp2_with fail
              refine (rknown_any w25 rb pr (moveL L (Ed.e4 ⟨f1, t1, c1, r1, u0, u1, u2, u3, u4⟩) x1) R).mono ?_
              rintro y w' ⟨rfl, rfl⟩
              rw [HK.out]
              have HR : Hid (MindAt w25 p b (2 * (k + 1)) (Fa (l.take (k + 1))) ∧ RefAt w25 rb pr (Fa (l.take (k + 1))) ∧ Blk w25 w.heap.size 26 #[.int .i64 f, .int .i64 t, .int .i64 c, .int .i64 r, .int .i64 p0, .int .i64 p1, .int .i64 p2, .int .i64 p3, .int .i64 p4] ∧ Below w.heap.size w w25) := Lib.hid ⟨by rw [HST.out, HD.out]; exact M.more (by omega), by rw [HST.out, HD.out]; exact R, je, hB25⟩
              clear M R je ja hB25 hl2
              go_wp2_with fail
              go_roundw
              case rel => exact ⟨k + 1, by omega, by go_num, HR.out⟩
              case measure => simp [intOf]; omega
            · have HD : Hid (doL L (Av.ac ⟨d1, ⟨f1, t1, c1, r1, u0, u1, u2, u3, u4⟩, x1⟩) = (oldL L x1)) := Lib.hid (by unfold doL Av.ac; rw [if_neg s1, if_neg s2, if_neg s3])
              go_wp2_with fail
              clear a0 a1 a2 a3 a4 a5 a6 a7 a8 a9 a10
              obtain ⟨w21, hw21⟩ : ∃ W, W = wr.alloc (.cells #[.int .i64 d1, .int .i64 f1, .int .i64 t1, .int .i64 c1, .int .i64 r1, .int .i64 u0, .int .i64 u1, .int .i64 u2, .int .i64 u3, .int .i64 u4, .int .i64 x1] 33) := ⟨_, rfl⟩
              obtain ⟨Ga, hGa⟩ : ∃ G, wr.heap.size = G := ⟨_, rfl⟩
              have ha : Below wr.heap.size wr w21 := by rw [hw21]; exact (Below.refl _ _).alloc (Nat.le_refl _) _
              have ja : Blk w21 Ga 33 #[.int .i64 d1, .int .i64 f1, .int .i64 t1, .int .i64 c1, .int .i64 r1, .int .i64 u0, .int .i64 u1, .int .i64 u2, .int .i64 u3, .int .i64 u4, .int .i64 x1] := by rw [hw21, ← hGa]; exact Blk.new wr _ _
              rw [← hw21]
              simp only [hGa]
              clear hw21 hGa
              have R := R.on ha
              have je := je.below ha je.lt
              have M := M.on ha
              have hB21 := bltB hBr hBr.size ha
              clear ha hBr
              refine (done_any w21 p b (2 * k) L M HG.out (by omega) ⟨d1, ⟨f1, t1, c1, r1, u0, u1, u2, u3, u4⟩, x1⟩).mono ?_
              rintro y w22 ⟨rfl, hM1, hg⟩
              rw [HD.out] at hM1
              have R := R.grownM M hg
              have je := je.grownM M hg
              have ja := ja.grownM M hg
              have hB22 := Below.grownM hB21 hg hB21.size hb_M
              have M := hM1
              clear hg hM1 hB21
              have q_ja_0 := ja.cell 0
              have q_ja_1 := ja.cell 1
              have q_ja_2 := ja.cell 2
              have q_ja_3 := ja.cell 3
              have q_ja_4 := ja.cell 4
              have q_ja_5 := ja.cell 5
              have q_ja_6 := ja.cell 6
              have q_ja_7 := ja.cell 7
              have q_ja_8 := ja.cell 8
              have q_ja_9 := ja.cell 9
              have q_ja_10 := ja.cell 10
              have q_ja_l := ja.lt
              go_wp2_with fail
              clear q_ja_0 q_ja_1 q_ja_2 q_ja_3 q_ja_4 q_ja_5 q_ja_6 q_ja_7 q_ja_8 q_ja_9 q_ja_10 q_ja_l
              refine (rolder_any w22 rb pr L R HG.out (by omega) x1).mono ?_
              rintro y w23 ⟨rfl, hp⟩
              have je := je.grownR hp.grown (by decide) (by decide)
              have M := M.grownR hp.grown
              have ja := ja.grownR hp.grown (by decide) (by decide)
              have hB23 := hB22.trans (hp.low.mono hrb)
              have R := hp.mind
              clear hp hB22
              have hl2 : ((oldL L x1) : Notes).length < 900000 := by have := do_len L (Av.ac ⟨d1, ⟨f1, t1, c1, r1, u0, u1, u2, u3, u4⟩, x1⟩); rw [HD.out] at this; omega
              have q_ja_0 := ja.cell 0
              have q_ja_1 := ja.cell 1
              have q_ja_2 := ja.cell 2
              have q_ja_3 := ja.cell 3
              have q_ja_4 := ja.cell 4
              have q_ja_5 := ja.cell 5
              have q_ja_6 := ja.cell 6
              have q_ja_7 := ja.cell 7
              have q_ja_8 := ja.cell 8
              have q_ja_9 := ja.cell 9
              have q_ja_10 := ja.cell 10
              have q_ja_l := ja.lt
              go_wp2_with fail
              clear q_ja_0 q_ja_1 q_ja_2 q_ja_3 q_ja_4 q_ja_5 q_ja_6 q_ja_7 q_ja_8 q_ja_9 q_ja_10 q_ja_l
              refine (bounds_any w23 p b ((2 * k) + 2) (oldL L x1) M (HG.out.old x1) ⟨f1, t1, c1, r1, u0, u1, u2, u3, u4⟩).mono ?_
              rintro y w24 ⟨rfl, hb⟩
              have R := R.on hb
              have je := je.below hb je.lt
              have M := M.on hb
              have ja := ja.below hb ja.lt
              have hB24 := bltB hB23 hB23.size hb
              clear hb hB23
              obtain ⟨lo, hi, h1⟩ : ∃ y1 y2, bnd (oldL L x1) (Ed.e4 ⟨f1, t1, c1, r1, u0, u1, u2, u3, u4⟩) = (y1, y2) := ⟨_, _, rfl⟩
              rw [h1]
              have H1 := Lib.hid h1
              clear h1
              have q_ja_0 := ja.cell 0
              have q_ja_1 := ja.cell 1
              have q_ja_2 := ja.cell 2
              have q_ja_3 := ja.cell 3
              have q_ja_4 := ja.cell 4
              have q_ja_5 := ja.cell 5
              have q_ja_6 := ja.cell 6
              have q_ja_7 := ja.cell 7
              have q_ja_8 := ja.cell 8
              have q_ja_9 := ja.cell 9
              have q_ja_10 := ja.cell 10
              have q_ja_l := ja.lt
              go_wp2_with fail
              clear q_ja_0 q_ja_1 q_ja_2 q_ja_3 q_ja_4 q_ja_5 q_ja_6 q_ja_7 q_ja_8 q_ja_9 q_ja_10 q_ja_l
              refine (rbounds_any w24 rb pr (oldL L x1) R (HG.out.old x1) hl2 ⟨f1, t1, c1, r1, u0, u1, u2, u3, u4⟩).mono ?_
              rintro y w25 ⟨rfl, hb⟩
              have R := R.on hb
              have je := je.below hb je.lt
              have M := M.on hb
              have ja := ja.below hb ja.lt
              have hB25 := bltB hB24 hB24.size hb
              clear hb hB24
              rw [H1.out]
              go_wp2_with fail
              refine (known_any w25 p b ((2 * k) + 2) (oldL L x1) M).mono ?_
              rintro y w' ⟨rfl, rfl⟩
              obtain ⟨kn, hkn⟩ : ∃ z, ((oldL L x1) : Notes).length = z := ⟨_, rfl⟩
              rw [hkn]
              have HK := Lib.hid hkn
              clear hkn
              go_wp2_with fail
              refine (rknown_any w25 rb pr (oldL L x1) R).mono ?_
              rintro y w' ⟨rfl, rfl⟩
              rw [HK.out]
              have HR : Hid (MindAt w25 p b (2 * (k + 1)) (Fa (l.take (k + 1))) ∧ RefAt w25 rb pr (Fa (l.take (k + 1))) ∧ Blk w25 w.heap.size 26 #[.int .i64 f, .int .i64 t, .int .i64 c, .int .i64 r, .int .i64 p0, .int .i64 p1, .int .i64 p2, .int .i64 p3, .int .i64 p4] ∧ Below w.heap.size w w25) := Lib.hid ⟨by rw [HST.out, HD.out]; exact M.more (by omega), by rw [HST.out, HD.out]; exact R, je, hB25⟩
              clear M R je ja hB25 hl2
              go_wp2_with fail
              go_roundw
              case rel => exact ⟨k + 1, by omega, by go_num, HR.out⟩
              case measure => simp [intOf]; omega
      · have hkn : k = n := by omega
        subst hkn
        rw [List.take_of_length_le (Nat.le_of_eq HL.out.len)] at M R hfl
        obtain ⟨v, hok⟩ : ∃ v, oddOk (Ed.e4 ⟨f, t, c, r, p0, p1, p2, p3, p4⟩) x = v := ⟨_, rfl⟩
        have HOK := Lib.hid hok
        clear hok
        go_wp2_with fail
        refine (copy_any wr p b (2 * k) (Fa l) M).mono ?_
        rintro y w41 ⟨p5, b5, rfl, C, hp_C, hb_C, hb⟩
        have hne_C_M : b5 ≠ b := by have := M.lt; omega
        have hne_M_C : b ≠ b5 := fun e => hne_C_M e.symm
        have hb_C := Nat.le_trans hBr.size hb_C
        have R := R.on hb
        have je := je.below hb je.lt
        have M := M.on hb
        have hB41 := bltB hBr hBr.size hb
        clear hb hBr
        have q_je_0 := je.cell 0
        have q_je_1 := je.cell 1
        have q_je_2 := je.cell 2
        have q_je_3 := je.cell 3
        have q_je_4 := je.cell 4
        have q_je_5 := je.cell 5
        have q_je_6 := je.cell 6
        have q_je_7 := je.cell 7
        have q_je_8 := je.cell 8
        have q_je_l := je.lt
        go_wp2_with fail
        clear q_je_0 q_je_1 q_je_2 q_je_3 q_je_4 q_je_5 q_je_6 q_je_7 q_je_8 q_je_l
        refine (failed_any w41 p5 b5 (2 * k) (Fa l) C (Fa_good l) (by omega) ⟨f, t, c, r, p0, p1, p2, p3, p4⟩ 1).mono ?_
        rintro y w42 ⟨rfl, hM1, hg⟩
        have R := R.grownM C hg
        have je := je.grownM C hg
        have M := M.grownM C hg hne_M_C
        have hB42 := Below.grownM hB41 hg hB41.size hb_C
        have C := hM1
        clear hg hM1 hB41
        have q_je_0 := je.cell 0
        have q_je_1 := je.cell 1
        have q_je_2 := je.cell 2
        have q_je_3 := je.cell 3
        have q_je_4 := je.cell 4
        have q_je_5 := je.cell 5
        have q_je_6 := je.cell 6
        have q_je_7 := je.cell 7
        have q_je_8 := je.cell 8
        have q_je_l := je.lt
        go_wp2_with fail
        clear q_je_0 q_je_1 q_je_2 q_je_3 q_je_4 q_je_5 q_je_6 q_je_7 q_je_8 q_je_l
        refine (odds_all w42 p b (2 * k) (Fa l) M (Fa_good l) ⟨f, t, c, r, p0, p1, p2, p3, p4⟩ x v HOK.out).mono ?_
        rintro y w43 ⟨A_a, n_a, c_a, B_a, m_a, d_a, rfl, r_a, t_a, hb⟩
        have R := R.on hb
        have je := je.below hb je.lt
        have M := M.on hb
        have C := C.on hb
        have hB43 := bltB hB42 hB42.size hb
        clear hb hB42
        have q_je_0 := je.cell 0
        have q_je_1 := je.cell 1
        have q_je_2 := je.cell 2
        have q_je_3 := je.cell 3
        have q_je_4 := je.cell 4
        have q_je_5 := je.cell 5
        have q_je_6 := je.cell 6
        have q_je_7 := je.cell 7
        have q_je_8 := je.cell 8
        have q_je_l := je.lt
        go_wp2_with fail
        clear q_je_0 q_je_1 q_je_2 q_je_3 q_je_4 q_je_5 q_je_6 q_je_7 q_je_8 q_je_l
        obtain ⟨w44, hw44⟩ : ∃ W, W = w43.alloc (.cells #[.slice A_a n_a c_a, .slice B_a m_a d_a] 42) := ⟨_, rfl⟩
        obtain ⟨G_a, hG_a⟩ : ∃ G, w43.heap.size = G := ⟨_, rfl⟩
        have ha : Below w43.heap.size w43 w44 := by rw [hw44]; exact (Below.refl _ _).alloc (Nat.le_refl _) _
        have k_a : Blk w44 G_a 42 #[.slice A_a n_a c_a, .slice B_a m_a d_a] := by rw [hw44, ← hG_a]; exact Blk.new w43 _ _
        rw [← hw44]
        simp only [hG_a]
        clear hw44 hG_a
        have R := R.on ha
        have je := je.below ha je.lt
        have M := M.on ha
        have C := C.on ha
        have r_a := r_a.on ha
        have t_a := t_a.on ha
        have hB44 := bltB hB43 hB43.size ha
        clear ha hB43
        refine (rodds_any w44 rb pr (Fa l) R (Fa_good l) (by omega) ⟨f, t, c, r, p0, p1, p2, p3, p4⟩ x).mono ?_
        rintro y w45 ⟨A_b, n_b, c_b, B_b, m_b, d_b, rfl, r_b, t_b, hb⟩
        have R := R.on hb
        have je := je.below hb je.lt
        have M := M.on hb
        have C := C.on hb
        have r_a := r_a.on hb
        have t_a := t_a.on hb
        have k_a := k_a.below hb k_a.lt
        have hB45 := bltB hB44 hB44.size hb
        clear hb hB44
        rw [HOK.out]
        have q_k_a_0 := k_a.cell 0
        have q_k_a_1 := k_a.cell 1
        have q_k_a_l := k_a.lt
        go_wp2_with fail
        clear q_k_a_0 q_k_a_1 q_k_a_l
        obtain ⟨w46, hw46⟩ : ∃ W, W = w45.alloc (.cells #[.slice A_b n_b c_b, .slice B_b m_b d_b] 42) := ⟨_, rfl⟩
        obtain ⟨G_b, hG_b⟩ : ∃ G, w45.heap.size = G := ⟨_, rfl⟩
        have ha : Below w45.heap.size w45 w46 := by rw [hw46]; exact (Below.refl _ _).alloc (Nat.le_refl _) _
        have k_b : Blk w46 G_b 42 #[.slice A_b n_b c_b, .slice B_b m_b d_b] := by rw [hw46, ← hG_b]; exact Blk.new w45 _ _
        rw [← hw46]
        simp only [hG_b]
        clear hw46 hG_b
        have R := R.on ha
        have je := je.below ha je.lt
        have M := M.on ha
        have C := C.on ha
        have r_a := r_a.on ha
        have t_a := t_a.on ha
        have k_a := k_a.below ha k_a.lt
        have r_b := r_b.on ha
        have t_b := t_b.on ha
        have hB46 := bltB hB45 hB45.size ha
        clear ha hB45
        have l_a : n_a ≤ 2 := by have h1 := r_a.len; have h2 := oddA_len (Fa_good l) (Ed.e4 ⟨f, t, c, r, p0, p1, p2, p3, p4⟩) x; omega
        have l_b : m_a ≤ 2 := by have h1 := t_a.len; have h2 := oddB_len (Fa_good l) (Ed.e4 ⟨f, t, c, r, p0, p1, p2, p3, p4⟩) x; omega
        refine (fsame_any _ _ _ _ _ _ _ _ _ _ _ _ _ _ _ _ _ r_a t_a r_b t_b (by omega) (by omega)).mono ?_
        rintro y w47 ⟨rfl, hb⟩
        have R := R.on hb
        have je := je.below hb je.lt
        have M := M.on hb
        have C := C.on hb
        have r_a := r_a.on hb
        have t_a := t_a.on hb
        have k_a := k_a.below hb k_a.lt
        have r_b := r_b.on hb
        have t_b := t_b.on hb
        have k_b := k_b.below hb k_b.lt
        have hB47 := bltB hB46 hB46.size hb
        clear hb hB46
        rw [show (decide (oddA (Fa l) (Ed.e4 ⟨f, t, c, r, p0, p1, p2, p3, p4⟩) x = oddA (Fa l) (Ed.e4 ⟨f, t, c, r, p0, p1, p2, p3, p4⟩) x) && decide (oddB (Fa l) (Ed.e4 ⟨f, t, c, r, p0, p1, p2, p3, p4⟩) x = oddB (Fa l) (Ed.e4 ⟨f, t, c, r, p0, p1, p2, p3, p4⟩) x)) = true by simp]
        go_wp2_with fail
        go_ret
        exact ⟨rfl, hB47⟩
  · have g60 : (60 : Int) < (n : Int) := by omega
    go_wp2_with fail
    go_ret
    exact ⟨rfl, hB3⟩

end Go.Proofs.Ytdobpicamibgpaa

/-
  How the arguments of these laws read: acts as a list, an edge as nine numbers; how they read behind the call.
  (open_slice and what it leans on: the library; post_of_below: after the guide's page of lemmas to copy.)
-/
namespace Go.Proofs.Ytdobpicamibgpaa
open Go.ChangeShapes Go.WideShapes Go.ChangeAt Go.RowKit Go.Deep
set_option linter.unusedVariables false
set_option linter.unusedSimpArgs false

theorem own : ownKnob Try.prog.godebug = none := by kernel_rfl
theorem laidOut : laidOutB Try.prog = true := by kernel_rfl
theorem cellsPol : Try.prog.cellsOf 24 = 5 := by kernel_rfl
theorem cellsEdge : Try.prog.cellsOf 26 = 9 := by kernel_rfl
theorem cellsAct : Try.prog.cellsOf 33 = 11 := by kernel_rfl
theorem bytesAct : Try.prog.bytesOf 33 = 88 := by kernel_rfl

section
variable {H : Type} {enc : TypeId × Value → H} {P : Program}
theorem post_of_below {f : Func} {s : ChangeSpec} {apart fresh handsOn again : Bool} {W W' : World} {args : Array Value} {v : Value} {ds gs : List (DataW H)} {before pa pv : List MemPlace}
    (hW : DataW.Whole enc P f.params.toList s.vars apart W args.toList ds gs before)
    (hres : ∀ (b : Nat) (sp : Nat → Bool) (hd : Bool), DataW.TrodAll enc P W' b sp hd f.resultTypes.toList (v.resultList f.resultTypes.size) (s.fn H (ds ++ gs)).results [])
    (hargs : ∀ sp : Nat → Bool, (∀ p ∈ before, sp p.block = true) → DataW.TrodAll enc P W' 0 sp true f.params.toList args.toList (s.fn H (ds ++ gs)).args pa)
    (hvars : ∀ sp : Nat → Bool, (∀ p ∈ before, sp p.block = true) → DataW.TrodVars enc P W' sp s.vars (s.fn H (ds ++ gs)).vars pv)
    (hps : before = pa ++ pv) (hb : Below W.heap.size W W')
    (hok : ∀ (j : Nat) (t : TypeId) (r : Value), f.resultTypes[j]? = some t → (v.resultList f.resultTypes.size)[j]? = some r → Value.okWide P W' .any 0 t r) :
    s.post enc P f apart fresh handsOn again W args v W' := by
  have hlt : ∀ p ∈ before, p.block < W.heap.size := fun p hp => hW.lt p hp
  have hold : ∀ p ∈ before, (fun b => decide (b < W.heap.size)) p.block = true := fun p hp => by simpa using hlt p hp
  refine ⟨ds, gs, before, [], pa, pv, hW, hres _ _ _, hargs _ hold, hvars _ hold, World.keptBut_mono (fun p hp => ⟨hp, ?_⟩) (hb.frame (· ∈ before)), fun _ => ?_⟩
  · rw [hps, List.mem_append] at hp
    exact Or.inr hp
  · obtain ⟨_, _, _, _, _, hz, hn⟩ := hW
    refine ⟨hok, _, _, ([] ++ pa) ++ pv, ⟨[] ++ pa, pv, trodAll_append (hargs _ (fun _ _ => rfl)) (hres _ _ _), hvars _ (fun _ _ => rfl), rfl, ?_, ?_⟩, ?_⟩
    · intro b off hp
      have hin : MemPlace.cell b off ∈ before := by rw [hps]; simpa using hp
      rw [hb.frozen (hlt _ hin)]
      exact hz b off hin
    · intro ha
      have := hn ha
      rw [hps] at this
      simpa using this
    · intro p hp _
      rw [hps]
      simpa using hp
end

section
variable {H : Type} {enc : TypeId × Value → H} {w : World} {base : Nat} {spare : Nat → Bool} {held : Bool} {n : Nat} {x : DataW H × List MemPlace}

theorem trod_i {v : Value} (h : DataW.trod enc Try.prog w base spare held n 3 [v] = some x) : ∃ a, v = .int .i64 a := by
  obtain ⟨k, q, _, _⟩ := DataW.trod_int Try.underlying3 h
  simp at q
  exact ⟨k, q⟩

set_option maxRecDepth 100000 in
theorem open_pol {cs : List Value} (h : DataW.trod enc Try.prog w base spare held n 24 cs = some x) : ∃ a0 a1 a2 a3 a4, cs = [.int .i64 a0, .int .i64 a1, .int .i64 a2, .int .i64 a3, .int .i64 a4] := by
  obtain ⟨xs, m, _, rfl, hl, hlen, hf⟩ := DataW.trod_struct Try.underlying24 h
  rw [cellsPol] at hl
  match cs, hl with
  | [b0, b1, b2, b3, b4], _ =>
    match xs, hlen with
    | [x0, x1, x2, x3, x4], _ =>
      have h0 := hf 0 _ rfl
      have h1 := hf 1 _ rfl
      have h2 := hf 2 _ rfl
      have h3 := hf 3 _ rfl
      have h4 := hf 4 _ rfl
      simp [cellsInt] at h0 h1 h2 h3 h4
      obtain ⟨a0, rfl⟩ := trod_i h0
      obtain ⟨a1, rfl⟩ := trod_i h1
      obtain ⟨a2, rfl⟩ := trod_i h2
      obtain ⟨a3, rfl⟩ := trod_i h3
      obtain ⟨a4, rfl⟩ := trod_i h4
      exact ⟨a0, a1, a2, a3, a4, rfl⟩

set_option maxRecDepth 100000 in
theorem open_edgeL {cs : List Value} (h : DataW.trod enc Try.prog w base spare held n 26 cs = some x) : ∃ e : Ed, cs = e.cs.toList := by
  obtain ⟨xs, m, _, rfl, hl, hlen, hf⟩ := DataW.trod_struct Try.underlying26 h
  rw [cellsEdge] at hl
  match cs, hl with
  | [b0, b1, b2, b3, b4, b5, b6, b7, b8], _ =>
    match xs, hlen with
    | [x0, x1, x2, x3, x4], _ =>
      have h0 := hf 0 _ rfl
      have h1 := hf 1 _ rfl
      have h2 := hf 2 _ rfl
      have h3 := hf 3 _ rfl
      have h4 := hf 4 _ rfl
      simp [cellsInt, cellsPol] at h0 h1 h2 h3 h4
      obtain ⟨a0, rfl⟩ := trod_i h0
      obtain ⟨a1, rfl⟩ := trod_i h1
      obtain ⟨a2, rfl⟩ := trod_i h2
      obtain ⟨a3, rfl⟩ := trod_i h3
      obtain ⟨a4, a5, a6, a7, a8, he⟩ := open_pol h4
      simp at he
      obtain ⟨rfl, rfl, rfl, rfl, rfl⟩ := he
      exact ⟨⟨a0, a1, a2, a3, a4, a5, a6, a7, a8⟩, rfl⟩

set_option maxRecDepth 100000 in
theorem open_actL {cs : List Value} (h : DataW.trod enc Try.prog w base spare held n 33 cs = some x) : ∃ a : Av, cs = a.cs.toList := by
  obtain ⟨xs, m, _, rfl, hl, hlen, hf⟩ := DataW.trod_struct Try.underlying33 h
  rw [cellsAct] at hl
  match cs, hl with
  | [b0, b1, b2, b3, b4, b5, b6, b7, b8, b9, b10], _ =>
    match xs, hlen with
    | [x0, x1, x2], _ =>
      have h0 := hf 0 _ rfl
      have h1 := hf 1 _ rfl
      have h2 := hf 2 _ rfl
      simp [cellsInt, cellsEdge] at h0 h1 h2
      obtain ⟨a0, rfl⟩ := trod_i h0
      obtain ⟨e, he⟩ := open_edgeL h1
      obtain ⟨a2, rfl⟩ := trod_i h2
      simp [Ed.cs] at he
      obtain ⟨rfl, rfl, rfl, rfl, rfl, rfl, rfl, rfl, rfl⟩ := he
      exact ⟨⟨a0, e, a2⟩, rfl⟩
end

section
variable {H : Type} {enc : TypeId × Value → H}

set_option maxRecDepth 100000 in
theorem open_edge {r : Reach} {b0 : Nat} {w : World} {v : Value} {d : DataW H} {p : List MemPlace} (hv : Value.okWide Try.prog w r b0 26 v) (h : DataW.Trod enc Try.prog w 0 (fun _ => true) true 26 v d p) : ∃ e : Ed, v = e.v := by
  obtain ⟨fuel, hf⟩ := h
  obtain ⟨cs, rfl, _⟩ := okWide_struct Try.underlying26 hv
  obtain ⟨e, he⟩ := open_edgeL (cs := cs.toList) hf
  refine ⟨e, ?_⟩
  unfold Ed.v
  congr 1
  exact Array.toList_inj.1 he

/-- The address of a cell that is there. -/
theorem addr_plain {w : World} {a : Addr} {v : Value} (h : w.cell? (a.add 0) = some v) : ∃ b off, a = ⟨b, off, none⟩ ∧ b < w.heap.size := by
  obtain ⟨b, off, vw⟩ := a
  cases vw with
  | some q =>
    exfalso
    simp [Addr.add, World.cell?] at h
    split at h <;> simp at h
  | none =>
    refine ⟨b, off, rfl, ?_⟩
    exact World.block_lt_of_cell? w ⟨b, off, none⟩ (by simpa [Addr.add] using h)

theorem add_at (b off i : Nat) : (⟨b, off, none⟩ : Addr).add i = ⟨b, off + i, none⟩ := by
  unfold Addr.add
  split <;> simp_all

instance : Inhabited Av := ⟨⟨0, ⟨0, 0, 0, 0, 0, 0, 0, 0, 0⟩, 0⟩⟩

/-- A slice of acts, as it reads. -/
theorem open_acts {w : World} {v : Value} {d : DataW H} {p : List MemPlace} (hv : ∃ A n c, v = .slice A n c) (h : DataW.Trod enc Try.prog w 0 (fun _ => true) true 22 v d p) (hz : ∀ q ∈ d.weights Try.prog 22, q ≤ reachBytes) :
    ∃ A n c l, v = .slice A n c ∧ Acts w w.heap.size A n l := by
  obtain ⟨A0, n0, c0, rfl⟩ := hv
  obtain ⟨fuel, hf⟩ := h
  simp only [Value.cells] at hf
  rcases open_slice Try.underlying22 hf with ⟨hv, hx⟩ | ⟨a, len, cap, m, n', D, Pl, hv, hb, hl, hm, hmm, hx, hi⟩
  · simp at hv
    exact ⟨none, 0, 0, [], by simp [hv], rfl, by omega, fun h => by omega⟩
  · simp only [if_true] at hmm
    subst hmm
    have hd : d = .slice ((List.range len).map D) ((List.range (m - len)).map fun j => D (len + j)) := by
      have := congrArg Prod.fst hx
      exact this
    have hlen : len ≤ 140737488355328 := by
      have := hz ((len + (m - len)) * Try.prog.bytesOf 33) (by rw [hd]; simp [DataW.weights, Try.underlying22])
      rw [bytesAct] at this
      have h2 := reachBytes_lt
      omega
    have hone : ∀ i, i < len → ∃ a0 : Av, ∀ j u, a0.cs[j]? = some u → w.cell? (a.add (i * 11 + j)) = some u := fun i hi' => by
      obtain ⟨cs', hc, ht'⟩ := hi i (by omega)
      rw [cellsAct] at hc
      obtain ⟨a0, rfl⟩ := open_actL ht'
      obtain ⟨_, hcl, hat⟩ := World.cells?_some hc
      refine ⟨a0, fun j u hu => ?_⟩
      have hj : j < 11 := by
        have := (Array.getElem?_eq_some_iff.1 hu).1
        simpa [Av.cs] using this
      rw [← Go.Deep.add_add, hat j hj]
      simpa using hu
    obtain ⟨f, hf'⟩ := choose_lt (α := Av) hone
    refine ⟨some a, len, m, (List.range len).map f, ?_, by simp, hlen, fun hpos => ?_⟩
    · simp at hv
      simp [hv]
    · obtain ⟨b, off, rfl, hbl⟩ := addr_plain (show w.cell? (a.add 0) = _ from by simpa using hf' 0 hpos 0 _ rfl)
      refine ⟨b, off, rfl, hbl, fun k x hx => ?_⟩
      have hk : k < len := by
        have := (List.getElem?_eq_some_iff.1 hx).1
        simpa using this
      have hxk : x = f k := by simpa [hk] using hx.symm
      intro i u hu
      have h1 := hf' k hk i u (by rw [← hxk]; exact hu)
      rw [add_at] at h1
      rw [show off + k * 11 + i = off + (k * 11 + i) by omega]
      exact h1

section
variable {W W' : World} {v : Value} {d : DataW H} {ps : List MemPlace} {sp : Nat → Bool}
theorem stays_i (h : DataW.Trod enc Try.prog W 0 (fun _ => true) true 3 v d ps) (hb : Below W.heap.size W W') (hlt : ∀ x ∈ ps, x.block < W.heap.size) (hsp : ∀ x ∈ ps, sp x.block = true) : DataW.Trod enc Try.prog W' 0 sp true 3 v d ps :=
  WideElems.Trod_stays laidOut (by kernel_rfl) (of_decide_eq_true (by kernel_rfl)) h (fun x hx => hb.same (hlt x hx)) hsp
theorem stays_e (h : DataW.Trod enc Try.prog W 0 (fun _ => true) true 26 v d ps) (hb : Below W.heap.size W W') (hlt : ∀ x ∈ ps, x.block < W.heap.size) (hsp : ∀ x ∈ ps, sp x.block = true) : DataW.Trod enc Try.prog W' 0 sp true 26 v d ps :=
  WideElems.Trod_stays laidOut (by kernel_rfl) (of_decide_eq_true (by kernel_rfl)) h (fun x hx => hb.same (hlt x hx)) hsp
theorem stays_a (h : DataW.Trod enc Try.prog W 0 (fun _ => true) true 22 v d ps) (hb : Below W.heap.size W W') (hlt : ∀ x ∈ ps, x.block < W.heap.size) (hsp : ∀ x ∈ ps, sp x.block = true) : DataW.Trod enc Try.prog W' 0 sp true 22 v d ps :=
  WideElems.Trod_stays laidOut (by kernel_rfl) (of_decide_eq_true (by kernel_rfl)) h (fun x hx => hb.same (hlt x hx)) hsp
end
end
end Go.Proofs.Ytdobpicamibgpaa

/-
  The law LearnTells is proved: whatever the input, the call returns true and its arguments read behind it as they read before. No condition.
-/
namespace Go.Proofs.Ytdobpicamibgpaa.learnTellsP
open Go.ChangeShapes Go.WideShapes Go.ChangeAt Go.RowKit Go.Deep
set_option linter.unusedVariables false
set_option linter.unusedSimpArgs false

set_option maxRecDepth 100000 in
theorem lifted (os : Os) (started : os.Started) (H : Type) (enc : TypeId × Value → H) :
    ReturnsInHanded {} Try.checked os 3 .any (Rows.learnTellsSpec.pre6 enc Try.prog Try.f3 Rows.learnTellsRow.domain false) (Rows.learnTellsSpec.post enc Try.prog Try.f3 false true false false) := by
  refine returnsInHanded_of_change_sized (C := Try.checked) own started (by kernel_rfl) Try.func3
    (ChangeSpec.witness6 (enc := enc) (C := Try.checked) false ⟨#[], #[.slice none 0 0, .agg #[.int .i64 0, .int .i64 0, .int .i64 0, .int .i64 0, .int .i64 0, .int .i64 0, .int .i64 0, .int .i64 0, .int .i64 0], .int .i64 0], []⟩ 8 (by kernel_rfl) (by kernel_rfl) (by kernel_rfl) (by kernel_rfl)) ?_
  intro W base args ds gs before hval0 hW hcnd hsz _
  have hval : ∀ (j : Nat) t v, Try.f3.params[j]? = some t → args[j]? = some v → Value.okWide Try.prog W .any base t v := hval0
  have hW' := hW
  obtain ⟨p, q, hA0, hV, rfl, hfz, hnd⟩ := hW
  have hA : DataW.TrodAll enc Try.prog W 0 (fun _ => true) true Try.f3.params.toList args.toList ds p := hA0
  rw [Try.params3] at hA hval hsz
  obtain ⟨v0, vs0, d0, ds0, p0, q0, hargs, rfl, rfl, h0, r0⟩ := trodAll_cons hA
  obtain ⟨v1, vs1, d1, ds1, p1, q1, rfl, rfl, rfl, h1, r1⟩ := trodAll_cons r0
  obtain ⟨v2, vs2, d2, ds2, p2, q2, rfl, rfl, rfl, h2, r2⟩ := trodAll_cons r1
  obtain ⟨rfl, rfl, rfl⟩ := trodAll_nil r2
  obtain rfl : args = #[v0, v1, v2] := by cases args; simp_all
  obtain ⟨rfl, rfl⟩ := trodVars_none hV
  clear hA0 hval0
  have hlt : ∀ x, x ∈ p0 ++ (p1 ++ (p2 ++ ([] : List MemPlace))) → x.block < W.heap.size := fun x hx => by simpa using hW'.lt x (by simpa using hx)
  obtain ⟨A0, m0, c0, l0, e0, s0⟩ := open_acts (by obtain ⟨A, n, c, h⟩ := okWide_slice Try.underlying22 (hval 0 22 v0 rfl rfl); exact ⟨A, n, c, h⟩) h0 (fun q hq => by simpa using List.all_eq_true.1 hsz q (DataW.weights_mem_each (j := 0) (t := 22) rfl rfl q hq))
  obtain ⟨g1, e1⟩ := open_edge (hval 1 26 v1 rfl rfl) h1
  obtain ⟨a2, e2, _, _, w2⟩ := open_int Try.underlying3 (hval 2 3 v2 rfl rfl) h2
  have hwalk : Calls Try.prog 3 #[v0, v1, v2] W fun e w' => e = .returned (.bool true) ∧ Below W.heap.size W w' := by
    rw [e0, e1, e2]
    exact ltells_any W A0 m0 c0 l0 s0 g1 a2
  refine hwalk.mono fun e W' ⟨he, hb⟩ => ?_
  subst he
  refine ⟨_, rfl, post_of_below (pa := p0 ++ (p1 ++ (p2 ++ []))) (pv := []) hW' (fun _ _ _ => trodAll_cons_mk (shut_bool Try.underlying4 _) trodAll_mk0) (fun sp hsp => ?_) (fun _ _ => rfl) (by simp) hb (ok_one (by kernel_rfl) rfl (okWide_bool_mk Try.underlying4 _))⟩
  exact trodAll_cons_mk (stays_a h0 hb (fun x hx => hlt x (by simp [hx])) (fun x hx => hsp x (by simp [hx]))) (trodAll_cons_mk (stays_e h1 hb (fun x hx => hlt x (by simp [hx])) (fun x hx => hsp x (by simp [hx]))) (trodAll_cons_mk (stays_i h2 hb (fun x hx => hlt x (by simp [hx])) (fun x hx => hsp x (by simp [hx]))) (trodAll_mk0)))

theorem proved : Rows.LearnTellsSaid :=
  OpenClaim.holds_of_wide 3 Try.f3 rfl rfl rfl rfl rfl rfl rfl ⟨rfl, rfl, rfl, rfl, rfl⟩ rfl rfl rfl rfl rfl (by kernel_rfl) Try.func3 (by kernel_rfl)
    (of_decide_eq_true (by kernel_rfl)) (by unfold Func.isWrapper; first | (rw [if_pos (by decide +kernel)]; kernel_rfl) | (rw [if_neg (by decide +kernel)]; exact ⟨rfl, rfl⟩))
    (fun os started H enc _ => lifted os started H enc)
#print axioms proved
end Go.Proofs.Ytdobpicamibgpaa.learnTellsP
