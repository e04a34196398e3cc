/-
  The document's own minds: Failed, Passed, Moved, Bounds, Older, Odds.
-/
import Derived.Test.YtdobpicamibgpaaRl
import Derived.Test.YtdobpicamibgpaaBounds
import Derived.Test.YtdobpicamibgpaaNf
import Derived.Test.YtdobpicamibgpaaOdds
import Derived.Deep.Onto

/-
  The document's own minds: Failed, Passed, Moved, Bounds.
-/
namespace Go.Proofs.Ytdobpicamibgpaa
open Go.RowKit
set_option linter.unusedVariables false
set_option linter.unusedSimpArgs false

theorem Blk.grownR {w w' : World} {g : Nat} {t : TypeId} {cs : Array Value} (h : Blk w g t cs) (hg : RefGrown w w') (h1 : t ≠ 63) (h2 : t ≠ 68) : Blk w' g t cs :=
  (hg.block g h.lt (fun cs' e => by rw [h] at e; injection e with e; injection e with _ e; exact h1 e) (fun cs' e => by rw [h] at e; injection e with e; injection e with _ e; exact h2 e)).trans h

theorem bnd_no' {L : Notes} {e : E4} (h : e.ok = false) : bnd L e = (0, 0) := by unfold bnd; rw [if_neg (by rw [h]; decide)]

theorem RefPost.then_ {w a w' : World} {base p : Nat} {L M : Notes} (h : RefPost w a base p L) (k : RefPost a w' base p M) : RefPost w w' base p M :=
  ⟨k.mind, h.low.trans k.low, h.grown.trans k.grown⟩
theorem RefAt.post {w w' : World} {base p : Nat} {L : Notes} (h : RefAt w base p L) (hb : Below w.heap.size w w') : RefPost w w' base p L :=
  ⟨h.on hb, hb.mono (by have := h.lt; omega), RefGrown.of_below hb⟩

set_option maxRecDepth 100000 in
set_option maxHeartbeats 2000000 in
theorem rfailed_any (w : World) (base p : Nat) (L : Notes) (h : RefAt w base p L) (hgd : Good L) (hn : L.length < 900000) (e : Ed) (x : Int) : Calls Try.prog 13 #[.pointer (some ⟨p, 0, none⟩), e.v, .int .i64 x] w fun y w' => y = .returned (.tuple #[]) ∧ RefPost w w' base p (failL L e.e4 x) := by
  obtain ⟨f, t, c, r, p0, p1, p2, p3, p4⟩ := e
  have hpl := h.lt
  obtain ⟨w0, hw0⟩ : ∃ w0, w0 = w.alloc (.cells #[.int .i64 f, .int .i64 t, .int .i64 c, .int .i64 r, .int .i64 p0, .int .i64 p1, .int .i64 p2, .int .i64 p3, .int .i64 p4] 26) := ⟨_, rfl⟩
  have hb0 : Below w.heap.size w w0 := by rw [hw0]; exact (Below.refl _ _).alloc (Nat.le_refl _) _
  have J0 : Blk w0 w.heap.size 26 #[.int .i64 f, .int .i64 t, .int .i64 c, .int .i64 r, .int .i64 p0, .int .i64 p1, .int .i64 p2, .int .i64 p3, .int .i64 p4] := by rw [hw0]; exact Blk.new w _ _
  have hR0 := h.on hb0
  have j0 := J0.cell 0
  have j1 := J0.cell 1
  have j2 := J0.cell 2
  have j3 := J0.cell 3
  have j4 := J0.cell 4
  have j5 := J0.cell 5
  have j6 := J0.cell 6
  have j7 := J0.cell 7
  have j8 := J0.cell 8
  simp only [Ed.v, Ed.cs]
  clear h
  go_enter Try.func13, Try.ntmps13
  go_wp2_with fail
  rw [← hw0]
  clear hw0
  go_wp2_with fail
  refine (rsome_any ⟨f, t, c, r, p0, p1, p2, p3, p4⟩ x w0).mono ?_
  rintro y w1 ⟨rfl, hb⟩
  have J := J0.below hb J0.lt
  have hR := hR0.on hb
  have hb1 := bltB hb0 hb0.size hb
  clear hb j0 j1 j2 j3 j4 j5 j6 j7 j8 hR0
  rcases hm : someB ⟨f, t, c, r, p0, p1, p2, p3, p4⟩ x with _ | _
  · have HB : Hid (failL L (Ed.e4 ⟨f, t, c, r, p0, p1, p2, p3, p4⟩) x = L) := Lib.hid (by unfold failL; rw [if_neg]; intro hh; have : someB ⟨f, t, c, r, p0, p1, p2, p3, p4⟩ x = true := hh; rw [hm] at this; cases this)
    have HM := Lib.hid hR
    clear hR
    go_wp2_with fail
    exact bodyPost_end (v := .tuple #[]) (by simp [results, Try.f13, go_sem]) rfl ⟨rfl, by rw [HB.out]; exact (HM.out.post (Below.refl _ _)).after hb1 (by omega)⟩
  · have hmy : E4.may (Ed.e4 ⟨f, t, c, r, p0, p1, p2, p3, p4⟩) x = true := hm
    have hs := may_spec.1 hmy
    simp only [Ed.e4] at hs
    have hr0 := hs.1.2.2.2.2.1
    have hr1 := hs.1.2.2.2.2.2
    have hx0 := hs.2.1
    have hx1 := hs.2.2
    have hcnt := cnt_ok hgd (f, c) hr0
    have HB : Hid (failL L (Ed.e4 ⟨f, t, c, r, p0, p1, p2, p3, p4⟩) x = putL L (f, c) (min (cnt L (f, c) r).1 (x - 1), min (cnt L (f, c) r).2 x, r)) := Lib.hid (by unfold failL; rw [if_pos hmy]; rfl)
    clear hs hm hmy
    have q0 := J.cell 0
    have q1 := J.cell 1
    have q2 := J.cell 2
    have q3 := J.cell 3
    have q4 := J.cell 4
    have q5 := J.cell 5
    have q6 := J.cell 6
    have q7 := J.cell 7
    have q8 := J.cell 8
    go_wp2_with fail
    clear q0 q1 q2 q3 q4 q5 q6 q7 q8
    refine (rcount_any w1 base p L hR hgd (by omega) ⟨f, t, c, r, p0, p1, p2, p3, p4⟩ hr0 hr1).mono ?_
    rintro y w2 ⟨rfl, hb⟩
    have J2 := J.below hb J.lt
    have hR2 := hR.on hb
    have hb2 := bltB hb1 hb1.size hb
    clear hb hb1 J hR
    obtain ⟨lo, hlo⟩ : ∃ lo, (cnt L (f, c) r).1 = lo := ⟨_, rfl⟩
    obtain ⟨hi, hhi⟩ : ∃ hi, (cnt L (f, c) r).2 = hi := ⟨_, rfl⟩
    rw [hlo, hhi] at hcnt HB
    simp only [hlo, hhi]
    clear hlo hhi
    obtain ⟨z1, hz1, hv1⟩ := min_named2 lo (x - 1)
    obtain ⟨z2, hz2, hv2⟩ := min_named2 hi x
    rw [← hz1, ← hz2] at HB
    clear hz1 hz2
    have hwr : IntKind.i64.wrap (x - 1) = x - 1 := IntWalk.i64_in _ (by omega)
    have q0 := J2.cell 0
    have q1 := J2.cell 1
    have q2 := J2.cell 2
    have q3 := J2.cell 3
    have q4 := J2.cell 4
    have q5 := J2.cell 5
    have q6 := J2.cell 6
    have q7 := J2.cell 7
    have q8 := J2.cell 8
    go_wp2_with fail
    clear q0 q1 q2 q3 q4 q5 q6 q7 q8
    refine (rnote_any w2 base p L hR2 hgd.once (by omega) ⟨f, t, c, r, p0, p1, p2, p3, p4⟩ z1 z2).mono ?_
    rintro y w3 ⟨rfl, hp⟩
    have HP := Lib.hid (hp.after hb2 (by omega))
    clear hp hb2 J2 hR2
    go_wp2_with fail
    exact bodyPost_end (v := .tuple #[]) (by simp [results, Try.f13, go_sem]) rfl ⟨rfl, by rw [HB.out]; exact HP.out⟩

set_option maxRecDepth 100000 in
set_option maxHeartbeats 2000000 in
theorem rpassed_any (w : World) (base p : Nat) (L : Notes) (h : RefAt w base p L) (hgd : Good L) (hn : L.length < 900000) (e : Ed) (x : Int) : Calls Try.prog 14 #[.pointer (some ⟨p, 0, none⟩), e.v, .int .i64 x] w fun y w' => y = .returned (.tuple #[]) ∧ RefPost w w' base p (passL L e.e4 x) := by
  obtain ⟨f, t, c, r, p0, p1, p2, p3, p4⟩ := e
  have hpl := h.lt
  obtain ⟨w0, hw0⟩ : ∃ w0, w0 = w.alloc (.cells #[.int .i64 f, .int .i64 t, .int .i64 c, .int .i64 r, .int .i64 p0, .int .i64 p1, .int .i64 p2, .int .i64 p3, .int .i64 p4] 26) := ⟨_, rfl⟩
  have hb0 : Below w.heap.size w w0 := by rw [hw0]; exact (Below.refl _ _).alloc (Nat.le_refl _) _
  have J0 : Blk w0 w.heap.size 26 #[.int .i64 f, .int .i64 t, .int .i64 c, .int .i64 r, .int .i64 p0, .int .i64 p1, .int .i64 p2, .int .i64 p3, .int .i64 p4] := by rw [hw0]; exact Blk.new w _ _
  have hR0 := h.on hb0
  have j0 := J0.cell 0
  have j1 := J0.cell 1
  have j2 := J0.cell 2
  have j3 := J0.cell 3
  have j4 := J0.cell 4
  have j5 := J0.cell 5
  have j6 := J0.cell 6
  have j7 := J0.cell 7
  have j8 := J0.cell 8
  simp only [Ed.v, Ed.cs]
  clear h
  go_enter Try.func14, Try.ntmps14
  go_wp2_with fail
  rw [← hw0]
  clear hw0
  go_wp2_with fail
  refine (rsome_any ⟨f, t, c, r, p0, p1, p2, p3, p4⟩ x w0).mono ?_
  rintro y w1 ⟨rfl, hb⟩
  have J := J0.below hb J0.lt
  have hR := hR0.on hb
  have hb1 := bltB hb0 hb0.size hb
  clear hb j0 j1 j2 j3 j4 j5 j6 j7 j8 hR0
  rcases hm : someB ⟨f, t, c, r, p0, p1, p2, p3, p4⟩ x with _ | _
  · have HB : Hid (passL L (Ed.e4 ⟨f, t, c, r, p0, p1, p2, p3, p4⟩) x = L) := Lib.hid (by unfold passL; rw [if_neg]; intro hh; have : someB ⟨f, t, c, r, p0, p1, p2, p3, p4⟩ x = true := hh; rw [hm] at this; cases this)
    have HM := Lib.hid hR
    clear hR
    go_wp2_with fail
    exact bodyPost_end (v := .tuple #[]) (by simp [results, Try.f14, go_sem]) rfl ⟨rfl, by rw [HB.out]; exact (HM.out.post (Below.refl _ _)).after hb1 (by omega)⟩
  · have hmy : E4.may (Ed.e4 ⟨f, t, c, r, p0, p1, p2, p3, p4⟩) x = true := hm
    have hs := may_spec.1 hmy
    simp only [Ed.e4] at hs
    have hr0 := hs.1.2.2.2.2.1
    have hr1 := hs.1.2.2.2.2.2
    have hx0 := hs.2.1
    have hx1 := hs.2.2
    have hcnt := cnt_ok hgd (f, c) hr0
    have HB : Hid (passL L (Ed.e4 ⟨f, t, c, r, p0, p1, p2, p3, p4⟩) x = putL L (f, c) (max (cnt L (f, c) r).1 x, max (cnt L (f, c) r).2 (x + 1), r)) := Lib.hid (by unfold passL; rw [if_pos hmy]; rfl)
    clear hs hm hmy
    have q0 := J.cell 0
    have q1 := J.cell 1
    have q2 := J.cell 2
    have q3 := J.cell 3
    have q4 := J.cell 4
    have q5 := J.cell 5
    have q6 := J.cell 6
    have q7 := J.cell 7
    have q8 := J.cell 8
    go_wp2_with fail
    clear q0 q1 q2 q3 q4 q5 q6 q7 q8
    refine (rcount_any w1 base p L hR hgd (by omega) ⟨f, t, c, r, p0, p1, p2, p3, p4⟩ hr0 hr1).mono ?_
    rintro y w2 ⟨rfl, hb⟩
    have J2 := J.below hb J.lt
    have hR2 := hR.on hb
    have hb2 := bltB hb1 hb1.size hb
    clear hb hb1 J hR
    obtain ⟨lo, hlo⟩ : ∃ lo, (cnt L (f, c) r).1 = lo := ⟨_, rfl⟩
    obtain ⟨hi, hhi⟩ : ∃ hi, (cnt L (f, c) r).2 = hi := ⟨_, rfl⟩
    rw [hlo, hhi] at hcnt HB
    simp only [hlo, hhi]
    clear hlo hhi
    obtain ⟨z1, hz1, hv1⟩ := max_named2 lo x
    obtain ⟨z2, hz2, hv2⟩ := max_named2 hi (x + 1)
    rw [← hz1, ← hz2] at HB
    clear hz1 hz2
    have hwr : IntKind.i64.wrap (x + 1) = x + 1 := IntWalk.i64_in _ (by omega)
    have q0 := J2.cell 0
    have q1 := J2.cell 1
    have q2 := J2.cell 2
    have q3 := J2.cell 3
    have q4 := J2.cell 4
    have q5 := J2.cell 5
    have q6 := J2.cell 6
    have q7 := J2.cell 7
    have q8 := J2.cell 8
    go_wp2_with fail
    clear q0 q1 q2 q3 q4 q5 q6 q7 q8
    refine (rnote_any w2 base p L hR2 hgd.once (by omega) ⟨f, t, c, r, p0, p1, p2, p3, p4⟩ z1 z2).mono ?_
    rintro y w3 ⟨rfl, hp⟩
    have HP := Lib.hid (hp.after hb2 (by omega))
    clear hp hb2 J2 hR2
    go_wp2_with fail
    exact bodyPost_end (v := .tuple #[]) (by simp [results, Try.f14, go_sem]) rfl ⟨rfl, by rw [HB.out]; exact HP.out⟩

set_option maxRecDepth 100000 in
set_option maxHeartbeats 2000000 in
theorem rmoved_any (w : World) (base p : Nat) (L : Notes) (h : RefAt w base p L) (hgd : Good L) (hn : L.length < 900000) (e : Ed) (x : Int) : Calls Try.prog 15 #[.pointer (some ⟨p, 0, none⟩), e.v, .int .i64 x] w fun y w' => y = .returned (.tuple #[]) ∧ RefPost w w' base p (moveL L e.e4 x) := by
  obtain ⟨f, t, c, r, p0, p1, p2, p3, p4⟩ := e
  have hpl := h.lt
  obtain ⟨w0, hw0⟩ : ∃ w0, w0 = w.alloc (.cells #[.int .i64 f, .int .i64 t, .int .i64 c, .int .i64 r, .int .i64 p0, .int .i64 p1, .int .i64 p2, .int .i64 p3, .int .i64 p4] 26) := ⟨_, rfl⟩
  have hb0 : Below w.heap.size w w0 := by rw [hw0]; exact (Below.refl _ _).alloc (Nat.le_refl _) _
  have J0 : Blk w0 w.heap.size 26 #[.int .i64 f, .int .i64 t, .int .i64 c, .int .i64 r, .int .i64 p0, .int .i64 p1, .int .i64 p2, .int .i64 p3, .int .i64 p4] := by rw [hw0]; exact Blk.new w _ _
  have hR0 := h.on hb0
  have j0 := J0.cell 0
  have j1 := J0.cell 1
  have j2 := J0.cell 2
  have j3 := J0.cell 3
  have j4 := J0.cell 4
  have j5 := J0.cell 5
  have j6 := J0.cell 6
  have j7 := J0.cell 7
  have j8 := J0.cell 8
  simp only [Ed.v, Ed.cs]
  clear h
  go_enter Try.func15, Try.ntmps15
  go_wp2_with fail
  rw [← hw0]
  clear hw0
  go_wp2_with fail
  refine (rsome_any ⟨f, t, c, r, p0, p1, p2, p3, p4⟩ x w0).mono ?_
  rintro y w1 ⟨rfl, hb⟩
  have J := J0.below hb J0.lt
  have hR := hR0.on hb
  have hb1 := bltB hb0 hb0.size hb
  clear hb j0 j1 j2 j3 j4 j5 j6 j7 j8 hR0
  rcases hm : someB ⟨f, t, c, r, p0, p1, p2, p3, p4⟩ x with _ | _
  · have HB : Hid (moveL L (Ed.e4 ⟨f, t, c, r, p0, p1, p2, p3, p4⟩) x = L) := Lib.hid (by unfold moveL; rw [if_neg]; intro hh; have : someB ⟨f, t, c, r, p0, p1, p2, p3, p4⟩ x = true := hh; rw [hm] at this; cases this)
    have HM := Lib.hid hR
    clear hR
    go_wp2_with fail
    exact bodyPost_ret (v := .tuple #[]) (by simp [results, Try.f15, go_sem]) rfl ⟨rfl, by rw [HB.out]; exact (HM.out.post (Below.refl _ _)).after hb1 (by omega)⟩
  · have hmy : E4.may (Ed.e4 ⟨f, t, c, r, p0, p1, p2, p3, p4⟩) x = true := hm
    have hs := may_spec.1 hmy
    simp only [Ed.e4] at hs
    have hr0 := hs.1.2.2.2.2.1
    have hr1 := hs.1.2.2.2.2.2
    have hx0 := hs.2.1
    have hx1 := hs.2.2
    have hcnt := cnt_ok hgd (f, c) hr0
    have hcnt2 := cnt_ok hgd (t, c) hr0
    have HB : Hid (moveL L (Ed.e4 ⟨f, t, c, r, p0, p1, p2, p3, p4⟩) x = putL (putL L (f, c) (max ((cnt L (f, c) r).1 - x) 0, max ((cnt L (f, c) r).2 - x) (max ((cnt L (f, c) r).1 - x) 0 + 1), r)) (t, c) (min ((cnt L (t, c) r).1 + x) r, min ((cnt L (t, c) r).2 + x) (r + 1), r)) := Lib.hid (by unfold moveL; rw [if_pos hmy]; rfl)
    clear hs hm hmy
    have q0 := J.cell 0
    have q1 := J.cell 1
    have q2 := J.cell 2
    have q3 := J.cell 3
    have q4 := J.cell 4
    have q5 := J.cell 5
    have q6 := J.cell 6
    have q7 := J.cell 7
    have q8 := J.cell 8
    go_wp2_with fail
    clear q0 q1 q2 q3 q4 q5 q6 q7 q8
    refine (rcount_any w1 base p L hR hgd (by omega) ⟨f, t, c, r, p0, p1, p2, p3, p4⟩ hr0 hr1).mono ?_
    rintro y w2 ⟨rfl, hb⟩
    have J2 := J.below hb J.lt
    have hR2 := hR.on hb
    have hb2 := bltB hb1 hb1.size hb
    clear hb hb1 J hR
    obtain ⟨lo, hlo⟩ : ∃ lo, (cnt L (f, c) r).1 = lo := ⟨_, rfl⟩
    obtain ⟨hi, hhi⟩ : ∃ hi, (cnt L (f, c) r).2 = hi := ⟨_, rfl⟩
    obtain ⟨lo2, hlo2⟩ : ∃ lo, (cnt L (t, c) r).1 = lo := ⟨_, rfl⟩
    obtain ⟨hi2, hhi2⟩ : ∃ hi, (cnt L (t, c) r).2 = hi := ⟨_, rfl⟩
    rw [hlo, hhi] at hcnt
    rw [hlo2, hhi2] at hcnt2
    rw [hlo, hhi, hlo2, hhi2] at HB
    simp only [hlo, hhi]
    have H2 := Lib.hid (And.intro hlo2 hhi2)
    clear hlo hhi hlo2 hhi2
    obtain ⟨z0, hz0, hv0⟩ := max_named2 0 (lo - x)
    obtain ⟨z1, hz1, hv1⟩ := max_named2 (hi - x) (z0 + 1)
    obtain ⟨y1, hy1, hu1⟩ := min_named2 r (lo2 + x)
    obtain ⟨y2, hy2, hu2⟩ := min_named2 (r + 1) (hi2 + x)
    rw [show max (lo - x) 0 = z0 by omega] at HB
    rw [← hz1, show min (lo2 + x) r = y1 by omega, show min (hi2 + x) (r + 1) = y2 by omega] at HB
    have hz0b : 0 ≤ z0 ∧ z0 ≤ 1125899906842624 := by omega
    clear hz0 hz1 hy1 hy2
    have hw1 : IntKind.i64.wrap (lo - x) = lo - x := IntWalk.i64_in _ (by omega)
    have hw2 : IntKind.i64.wrap (hi - x) = hi - x := IntWalk.i64_in _ (by omega)
    have hw3 : IntKind.i64.wrap (z0 + 1) = z0 + 1 := IntWalk.i64_in _ (by omega)
    have hw4 : IntKind.i64.wrap (lo2 + x) = lo2 + x := IntWalk.i64_in _ (by omega)
    have hw5 : IntKind.i64.wrap (hi2 + x) = hi2 + x := IntWalk.i64_in _ (by omega)
    have hw6 : IntKind.i64.wrap (r + 1) = r + 1 := IntWalk.i64_in _ (by omega)
    have q0 := J2.cell 0
    have q1 := J2.cell 1
    have q2 := J2.cell 2
    have q3 := J2.cell 3
    have q4 := J2.cell 4
    have q5 := J2.cell 5
    have q6 := J2.cell 6
    have q7 := J2.cell 7
    have q8 := J2.cell 8
    go_wp2_with fail
    clear q0 q1 q2 q3 q4 q5 q6 q7 q8
    refine (rback_any ⟨f, t, c, r, p0, p1, p2, p3, p4⟩ w2).mono ?_
    rintro y w3 ⟨rfl, hb⟩
    have J3 := J2.below hb J2.lt
    have hR3 := hR2.on hb
    have hb3 := bltB hb2 hb2.size hb
    clear hb hb2 J2 hR2
    simp only [Ed.v, Ed.cs]
    have q0 := J3.cell 0
    have q1 := J3.cell 1
    have q2 := J3.cell 2
    have q3 := J3.cell 3
    have q4 := J3.cell 4
    have q5 := J3.cell 5
    have q6 := J3.cell 6
    have q7 := J3.cell 7
    have q8 := J3.cell 8
    go_wp2_with fail
    clear q0 q1 q2 q3 q4 q5 q6 q7 q8
    obtain ⟨w4, hw4'⟩ : ∃ W, W = w3.alloc (.cells #[.int .i64 t, .int .i64 f, .int .i64 c, .int .i64 r, .int .i64 0, .int .i64 0, .int .i64 0, .int .i64 0, .int .i64 0] 26) := ⟨_, rfl⟩
    obtain ⟨G, hG⟩ : ∃ G, w3.heap.size = G := ⟨_, rfl⟩
    have hb : Below w3.heap.size w3 w4 := by rw [hw4']; exact (Below.refl _ _).alloc (Nat.le_refl _) _
    have B4 : Blk w4 G 26 #[.int .i64 t, .int .i64 f, .int .i64 c, .int .i64 r, .int .i64 0, .int .i64 0, .int .i64 0, .int .i64 0, .int .i64 0] := by rw [hw4', ← hG]; exact Blk.new w3 _ _
    rw [← hw4']
    simp only [hG]
    clear hw4' hG
    have J4 := J3.below hb J3.lt
    have hR4 := hR3.on hb
    have hb4 := bltB hb3 hb3.size hb
    clear hb hb3 J3 hR3
    refine (rcount_any w4 base p L hR4 hgd (by omega) ⟨t, f, c, r, 0, 0, 0, 0, 0⟩ hr0 hr1).mono ?_
    rintro y w5 ⟨rfl, hb⟩
    rw [H2.out.1, H2.out.2]
    have J5 := J4.below hb J4.lt
    have B5 := B4.below hb B4.lt
    have hR5 := hR4.on hb
    have hb5 := bltB hb4 hb4.size hb
    clear hb hb4 J4 B4 hR4
    have q0 := J5.cell 0
    have q1 := J5.cell 1
    have q2 := J5.cell 2
    have q3 := J5.cell 3
    have q4 := J5.cell 4
    have q5 := J5.cell 5
    have q6 := J5.cell 6
    have q7 := J5.cell 7
    have q8 := J5.cell 8
    go_wp2_with fail
    clear q0 q1 q2 q3 q4 q5 q6 q7 q8
    refine (rnote_any w5 base p L hR5 hgd.once (by omega) ⟨f, t, c, r, p0, p1, p2, p3, p4⟩ z0 z1).mono ?_
    rintro y w6 ⟨rfl, hp⟩
    have J6 := J5.grownR hp.grown (by decide) (by decide)
    have B6 := B5.grownR hp.grown (by decide) (by decide)
    have hp6 := hp.after hb5 (by omega)
    clear hp hb5 J5 B5 hR5
    have q0 := J6.cell 0
    have q1 := J6.cell 1
    have q2 := J6.cell 2
    have q3 := J6.cell 3
    have q4 := J6.cell 4
    have q5 := J6.cell 5
    have q6 := J6.cell 6
    have q7 := J6.cell 7
    have q8 := J6.cell 8
    have b0 := B6.cell 0
    have b1 := B6.cell 1
    have b2 := B6.cell 2
    have b3 := B6.cell 3
    have b4 := B6.cell 4
    have b5 := B6.cell 5
    have b6 := B6.cell 6
    have b7 := B6.cell 7
    have b8 := B6.cell 8
    go_wp2_with fail
    clear q0 q1 q2 q3 q4 q5 q6 q7 q8
    clear b0 b1 b2 b3 b4 b5 b6 b7 b8
    refine (rnote_any w6 base p _ hp6.mind (once_put hgd.once _ _) (by rw [length_put]; split <;> omega) ⟨t, f, c, r, 0, 0, 0, 0, 0⟩ y1 y2).mono ?_
    rintro y w7 ⟨rfl, hp⟩
    have HP := Lib.hid (hp6.then_ hp)
    clear hp hp6 J6 B6
    go_wp2_with fail
    exact bodyPost_end (v := .tuple #[]) (by simp [results, Try.f15, go_sem]) rfl ⟨rfl, by rw [HB.out]; exact HP.out⟩

set_option maxRecDepth 100000 in
set_option maxHeartbeats 1000000 in
theorem rbounds_any (w : World) (base p : Nat) (L : Notes) (h : RefAt w base p L) (hgd : Good L) (hn : L.length < 900000) (e : Ed) : Calls Try.prog 18 #[.pointer (some ⟨p, 0, none⟩), e.v] w fun y w' => y = .returned (.tuple #[.int .i64 (bnd L e.e4).1, .int .i64 (bnd L e.e4).2]) ∧ Below w.heap.size w w' := by
  obtain ⟨f, t, c, r, p0, p1, p2, p3, p4⟩ := e
  obtain ⟨w0, hw0⟩ : ∃ w0, w0 = w.alloc (.cells #[.int .i64 f, .int .i64 t, .int .i64 c, .int .i64 r, .int .i64 p0, .int .i64 p1, .int .i64 p2, .int .i64 p3, .int .i64 p4] 26) := ⟨_, rfl⟩
  have hb0 : Below w.heap.size w w0 := by rw [hw0]; exact (Below.refl _ _).alloc (Nat.le_refl _) _
  have J0 : Blk w0 w.heap.size 26 #[.int .i64 f, .int .i64 t, .int .i64 c, .int .i64 r, .int .i64 p0, .int .i64 p1, .int .i64 p2, .int .i64 p3, .int .i64 p4] := by rw [hw0]; exact Blk.new w _ _
  have hR0 := h.on hb0
  have j0 := J0.cell 0
  have j1 := J0.cell 1
  have j2 := J0.cell 2
  have j3 := J0.cell 3
  have j4 := J0.cell 4
  have j5 := J0.cell 5
  have j6 := J0.cell 6
  have j7 := J0.cell 7
  have j8 := J0.cell 8
  simp only [Ed.v, Ed.cs]
  clear h
  go_enter Try.func18, Try.ntmps18
  go_wp2_with fail
  rw [← hw0]
  clear hw0
  go_wp2_with fail
  refine (rmay_any ⟨f, t, c, r, p0, p1, p2, p3, p4⟩ w0).mono ?_
  rintro y w1 ⟨rfl, hb⟩
  have J := J0.below hb J0.lt
  have hR := hR0.on hb
  have hb1 := bltB hb0 hb0.size hb
  clear hb j0 j1 j2 j3 j4 j5 j6 j7 j8 hR0
  simp only
  rcases hm : mayB f t c r with _ | _
  · have HB : Hid (bnd L (Ed.e4 ⟨f, t, c, r, p0, p1, p2, p3, p4⟩) = (0, 0)) := Lib.hid (bnd_no' hm)
    go_wp2_with fail
    exact bodyPost_ret (v := .tuple #[.int .i64 0, .int .i64 0]) (by simp [results, Try.f18, go_sem]) rfl ⟨by rw [HB.out], hb1⟩
  · have HB : Hid (bnd L (Ed.e4 ⟨f, t, c, r, p0, p1, p2, p3, p4⟩) = cnt L (f, c) r) := Lib.hid (by unfold bnd; rw [if_pos]; rfl; exact hm)
    have hs := mayB_iff.1 hm
    have hr0 := hs.2.2.2.2.1
    have hr1 := hs.2.2.2.2.2
    clear hs hm
    have q0 := J.cell 0
    have q1 := J.cell 1
    have q2 := J.cell 2
    have q3 := J.cell 3
    have q4 := J.cell 4
    have q5 := J.cell 5
    have q6 := J.cell 6
    have q7 := J.cell 7
    have q8 := J.cell 8
    go_wp2_with fail
    clear q0 q1 q2 q3 q4 q5 q6 q7 q8
    refine (rcount_any w1 base p L hR hgd (by omega) ⟨f, t, c, r, p0, p1, p2, p3, p4⟩ hr0 hr1).mono ?_
    rintro y w2 ⟨rfl, hb⟩
    have hb2 := bltB hb1 hb1.size hb
    clear hb hb1 J hR
    go_wp2_with fail
    exact bodyPost_ret (v := .tuple #[.int .i64 (cnt L (f, c) r).1, .int .i64 (cnt L (f, c) r).2]) (by simp [results, Try.f18, go_sem]) rfl ⟨by rw [HB.out], hb2⟩

end Go.Proofs.Ytdobpicamibgpaa

/-
  The document's own minds: Older, Odds.
-/
namespace Go.Proofs.Ytdobpicamibgpaa
open Go.RowKit
set_option linter.unusedVariables false
set_option linter.unusedSimpArgs false
attribute [local go_sem] Oper.semAt_some
attribute [local go_sem ↓] wp_append_ok

theorem old_take {L : Notes} {j : Nat} {e : (Int × Int) × (Int × Int × Int)} (he : L[j]? = some e) (p : Int) : (L.take (j + 1)).filterMap (older1 p) = (L.take j).filterMap (older1 p) ++ (if gone (fade p e.2) then [] else [(e.1, fade p e.2)]) := by
  rw [List.take_add_one, he, List.filterMap_append]
  congr 1
  simp only [Option.toList_some, List.filterMap_cons, List.filterMap_nil, older1]
  by_cases hg : gone (fade p e.2) = true
  · rw [if_pos hg, if_pos hg]
  · rw [if_neg hg, if_neg hg]

/-- One entry more behind a row of the call's own. -/
theorem row_append {w : World} {base : Nat} {v : Value} {M : Notes} (hrow : w.ownsRow base 68 5 v M.length (rcells M)) (hbw : base ≤ w.heap.size) (hn : M.length < 1000000) (e : (Int × Int) × (Int × Int × Int)) :
    ∃ v' w', (∃ A c, v' = .slice A (M.length + 1) c) ∧ (Builtin.append_ #[61, 61] 61 #[v, .slice (some ⟨w.heap.size, 0, none⟩) 1 1]).run Try.prog (w.alloc (.cells #[.int .i64 e.1.1, .int .i64 e.1.2, .int .i64 e.2.1, .int .i64 e.2.2.1, .int .i64 e.2.2.2] 68)) = .ok v' w' ∧
      w'.ownsRow base 68 5 v' (M ++ [e]).length (rcells (M ++ [e])) ∧ Below base w w' := by
  obtain ⟨i0, hi, hz0, hz1, hz2⟩ := info_parts infoW
  have hbW : Below w.heap.size w (w.alloc (.cells #[.int .i64 e.1.1, .int .i64 e.1.2, .int .i64 e.2.1, .int .i64 e.2.2.1, .int .i64 e.2.2.2] 68)) := (Below.refl _ _).alloc (Nat.le_refl _) _
  have hN := Blk.new w 68 #[.int .i64 e.1.1, .int .i64 e.1.2, .int .i64 e.2.1, .int .i64 e.2.2.1, .int .i64 e.2.2.2]
  have hown := hrow.alloc (.cells #[.int .i64 e.1.1, .int .i64 e.1.2, .int .i64 e.2.1, .int .i64 e.2.2.1, .int .i64 e.2.2.2] 68)
  generalize w.alloc (.cells #[.int .i64 e.1.1, .int .i64 e.1.2, .int .i64 e.2.1, .int .i64 e.2.2.1, .int .i64 e.2.2.2] 68) = W at *
  have hrd : Reads W W.heap.size 5 (some ⟨w.heap.size, 0, none⟩) 1 (wc e) := by
    refine ⟨by simp [wc], fun _ => ⟨_, rfl, hN.lt, fun j u hu => ?_⟩⟩
    rw [addr_add, Nat.zero_add, hN.cell j, ← hu]
    simp [wc]
  obtain ⟨v', w', hrun, hown', hgr, hat⟩ := run_append_any (P := Try.prog) W base 61 61 68 i0 _ 5 40 Try.underlying61 hi hz0 hz1 hz2 rfl (by decide) v M.length (rcells M) hown W.heap.size (some ⟨w.heap.size, 0, none⟩) 1 1 (wc e) hrd (by simp [wc, Value.oneCell']) (by simp only [maxLen]; omega) (by omega) (by have := hbW.size; omega)
  refine ⟨v', w', row_slice hown', hrun, ?_, (hbW.mono hbw).trans ((Below.refl base W).grown hgr (by have := hbW.size; omega) (fun k hk => (hown.lt k hk).1))⟩
  rw [List.length_append, List.length_singleton, show rcells (M ++ [e]) = rcells M ++ wc e by unfold rcells; rw [List.flatMap_append]; simp]
  exact hown'

set_option maxRecDepth 100000 in
set_option maxHeartbeats 4000000 in
theorem rolder_any (w : World) (base p : Nat) (L : Notes) (h : RefAt w base p L) (hgd : Good L) (hn : L.length < 900000) (parts : Int) : Calls Try.prog 16 #[.pointer (some ⟨p, 0, none⟩), .int .i64 parts] w fun y w' => y = .returned (.tuple #[]) ∧ RefPost w w' base p (oldL L parts) := by
  have hpl := h.lt
  by_cases hp : parts < 1
  · have HB : Hid (oldL L parts = L) := Lib.hid (old_none hp)
    have HM := Lib.hid h
    clear h
    go_enter Try.func16, Try.ntmps16
    go_wp2_with fail
    exact bodyPost_ret (v := .tuple #[]) (by simp [results, Try.f16, go_sem]) rfl ⟨rfl, by rw [HB.out]; exact HM.out.post (Below.refl _ _)⟩
  · have hp0 : 0 < parts := by omega
    have HG := Lib.hid hgd
    clear hgd
    go_enter Try.func16, Try.ntmps16
    go_wp2_with fail
    go_loopw [4, 5] (fun rest i wr => ∃ j : Nat, j ≤ L.length ∧ i = .int .i64 j ∧ wr.ownsRow w.heap.size 68 5 rest ((L.take j).filterMap (older1 parts)).length (rcells ((L.take j).filterMap (older1 parts))) ∧ Below w.heap.size w wr) (fun _ i _ => L.length - (intOf i).toNat)
    case atStart => exact ⟨0, Nat.zero_le _, rfl, World.ownsRow_nil _ _ _ _, Below.refl _ _⟩
    case round =>
      obtain ⟨j, hj, rfl, hown, hb⟩ := hrel
      have hRr := h.on hb
      by_cases hlt : j < L.length
      · obtain ⟨en, hen⟩ : ∃ en, L[j]? = some en := ⟨_, List.getElem?_eq_getElem hlt⟩
        obtain ⟨g, cp, k0, k1, k2, k3, k4, k5, _⟩ := hRr.at_ hen
        have hst := Lib.hid (old_take hen parts)
        have hno := (HG.out.ok en (List.mem_of_getElem? hen)).2
        have hml : ((L.take j).filterMap (older1 parts)).length < 1000000 := by
          have h1 := List.length_filterMap_le (older1 parts) (L.take j)
          have h2 : (L.take j).length ≤ j := List.length_take_le _ _
          omega
        obtain ⟨⟨f, c⟩, ⟨a, b', r'⟩⟩ := en
        simp only [noteOk] at hno
        simp only at k1 k2 k3 k4 k5 hst
        obtain ⟨Ar, cr, hrs⟩ := row_slice hown
        subst hrs
        generalize hM : (L.take j).filterMap (older1 parts) = M at *
        clear hM
        have hpw : p < wr.heap.size := hRr.lt.1
        have hgw : g < wr.heap.size := World.block_lt_of_cell? wr ⟨g, j * 5, none⟩ k1
        clear hen hRr
        go_wp2_with fail
        obtain ⟨W2, hW2⟩ : ∃ W2, W2 = wr.alloc (.cells #[.int .i64 f, .int .i64 c, .int .i64 a, .int .i64 b', .int .i64 r'] 68) := ⟨_, rfl⟩
        have hb2 : Below wr.heap.size wr W2 := by rw [hW2]; exact (Below.refl _ _).alloc (Nat.le_refl _) _
        have hNt : Blk W2 wr.heap.size 68 #[.int .i64 f, .int .i64 c, .int .i64 a, .int .i64 b', .int .i64 r'] := by rw [hW2]; exact Blk.new wr _ _
        rw [← hW2]
        clear hW2
        obtain ⟨G, hG⟩ : ∃ G, wr.heap.size = G := ⟨_, rfl⟩
        simp only [hG]
        rw [hG] at hNt
        obtain ⟨u1, hu1⟩ : ∃ u, upI a parts = u := ⟨_, rfl⟩
        obtain ⟨u2, hu2⟩ : ∃ u, upI (r' + 1 - b') parts = u := ⟨_, rfl⟩
        have hd1 := upI_bd hno.1 hp0
        have hd2 := upI_bd (show 0 ≤ r' + 1 - b' by omega) hp0
        rw [hu1] at hd1
        rw [hu2] at hd2
        have HF : Hid (fade parts (a, b', r') = (a - u1, b' + u2, r')) := Lib.hid (by simp only [fade, hu1, hu2])
        have HU1 := Lib.hid hu1
        have HU2 := Lib.hid hu2
        clear hu1 hu2
        have hw1 : IntKind.i64.wrap (a - u1) = a - u1 := IntWalk.i64_in _ (by omega)
        have hw2 : IntKind.i64.wrap (r' + 1) = r' + 1 := IntWalk.i64_in _ (by omega)
        have hw3 : IntKind.i64.wrap (r' + 1 - b') = r' + 1 - b' := IntWalk.i64_in _ (by omega)
        have hw4 : IntKind.i64.wrap (b' + u2) = b' + u2 := IntWalk.i64_in _ (by omega)
        have HO := Lib.hid (And.intro hown (And.intro hb hG))
        clear hown hb k0 k1 k2 k3 k4 k5 hG
        go_wp2_with fail
        refine wp_region_noPanic ?_
        refine ord_begin 8 (fun wx => Below W2.heap.size W2 wx) (by kernel_rfl) ?_
        have hT : Below W2.heap.size W2 W2.drew := (Below.refl _ _).drew
        refine ord_take (i := 0) (v := ?_) (by kernel_rfl) rfl (by decide) (by kernel_rfl) (by kernel_rfl) (fun _ _ _ h => h) (Or.inl ⟨by rfl, ?_⟩) hT ?_
        rotate_left
        · intro wz hz; go_simp; (try with_reducible rfl)
        try simp only [Act.put, List.getElem_toArray, List.getElem_cons_zero, List.getElem_cons_succ, List.setIfInBounds_toArray, List.set_cons_zero, List.set_cons_succ]
        refine ord_take (i := 1) (v := ?_) (by kernel_rfl) rfl (by decide) (by kernel_rfl) (by kernel_rfl) (fun _ _ _ h => h) (Or.inl ⟨by rfl, ?_⟩) hT ?_
        rotate_left
        · intro wz hz; have j := hNt.below hz hNt.lt; have q0 := j.cell 0; have q1 := j.cell 1; have q2 := j.cell 2; have q3 := j.cell 3; have q4 := j.cell 4; go_simp; (try with_reducible rfl)
        try simp only [Act.put, List.getElem_toArray, List.getElem_cons_zero, List.getElem_cons_succ, List.setIfInBounds_toArray, List.set_cons_zero, List.set_cons_succ]
        refine ord_take (i := 2) (v := ?_) (by kernel_rfl) rfl (by decide) (by kernel_rfl) (by kernel_rfl) (fun _ _ _ h => h) (Or.inl ⟨by rfl, ?_⟩) hT ?_
        rotate_left
        · intro wz hz; go_simp; (try with_reducible rfl)
        try simp only [Act.put, List.getElem_toArray, List.getElem_cons_zero, List.getElem_cons_succ, List.setIfInBounds_toArray, List.set_cons_zero, List.set_cons_succ]
        refine ord_take (i := 3) (v := ?_) (by kernel_rfl) rfl (by decide) (by kernel_rfl) (by kernel_rfl) (fun _ _ _ h => h) (Or.inl ⟨by rfl, ?_⟩) hT ?_
        rotate_left
        · intro wz hz; have j := hNt.below hz hNt.lt; have q0 := j.cell 0; have q1 := j.cell 1; have q2 := j.cell 2; have q3 := j.cell 3; have q4 := j.cell 4; go_simp; (try with_reducible rfl)
        try simp only [Act.put, List.getElem_toArray, List.getElem_cons_zero, List.getElem_cons_succ, List.setIfInBounds_toArray, List.set_cons_zero, List.set_cons_succ]
        refine ord_take (i := 4) (v := ?_) (by kernel_rfl) rfl (by decide) (by kernel_rfl) (by kernel_rfl) (fun _ _ _ h => h) (Or.inl ⟨by rfl, ?_⟩) hT ?_
        rotate_left
        · intro wz hz; go_simp; (try with_reducible rfl)
        try simp only [Act.put, List.getElem_toArray, List.getElem_cons_zero, List.getElem_cons_succ, List.setIfInBounds_toArray, List.set_cons_zero, List.set_cons_succ]
        refine ord_step (i := 5) rfl (by decide) (by kernel_rfl) (by rfl) (fun K hK => ?_)
        go_simp
        refine (rpart_any a parts _ (by omega) (by omega) hp0).mono ?_
        rintro y X8 ⟨rfl, hbx⟩
        rw [HU1.out]
        have hx := bltB hT hT.size hbx
        clear hbx hT
        refine hK _ _ hx ?_
        clear hK K
        try simp only [Act.put, List.getElem_toArray, List.getElem_cons_zero, List.getElem_cons_succ, List.setIfInBounds_toArray, List.set_cons_zero, List.set_cons_succ]
        refine ord_take (i := 6) (v := ?_) (by kernel_rfl) rfl (by decide) (by kernel_rfl) (by kernel_rfl) (fun _ _ _ h => h) (Or.inl ⟨by rfl, ?_⟩) hx ?_
        rotate_left
        · intro wz hz; go_simp; (try with_reducible rfl)
        try simp only [Act.put, List.getElem_toArray, List.getElem_cons_zero, List.getElem_cons_succ, List.setIfInBounds_toArray, List.set_cons_zero, List.set_cons_succ]
        refine ord_take (i := 7) (v := ?_) (by kernel_rfl) rfl (by decide) (by kernel_rfl) (by kernel_rfl) (fun _ _ _ h => h) (Or.inl ⟨by rfl, ?_⟩) hx ?_
        rotate_left
        · intro wz hz; go_simp; (try with_reducible rfl)
        try simp only [Act.put, List.getElem_toArray, List.getElem_cons_zero, List.getElem_cons_succ, List.setIfInBounds_toArray, List.set_cons_zero, List.set_cons_succ]
        refine ord_rest (by kernel_rfl) ?_
        have hNt := hNt.below hx hNt.lt
        have hb2 := bltB hb2 hb2.size hx
        clear hx
        have hcc := hNt.cell 2
        have hff := hNt.frozen 2
        refine any_step (i := 8) rfl (by kernel_rfl) (by rfl) (fun K hK => ?_)
        go_simp
        refine hK _ _ ?_
        clear hK K
        try simp only [Act.put, List.getElem_toArray, List.getElem_cons_zero, List.getElem_cons_succ, List.setIfInBounds_toArray, List.set_cons_zero, List.set_cons_succ]
        refine wpAny_done (by kernel_rfl) ?_ _
        refine NoPanic.normal ?_
        have hNt := hNt.set_ 2 (.int .i64 (a - u1))
        have hb2 := hb2.setCell (p := ⟨G, 2, none⟩) (Nat.le_of_eq HO.out.2.2) (.int .i64 (a - u1))
        clear hcc hff
        simp only [List.setIfInBounds_toArray, List.set_cons_zero, List.set_cons_succ] at hNt
        generalize X8.setCell ⟨G, 2, none⟩ (.int .i64 (a - u1)) = W3 at *
        go_wp2_with fail
        refine wp_region_noPanic ?_
        refine ord_begin 12 (fun wx => Below W3.heap.size W3 wx) (by kernel_rfl) ?_
        have hT : Below W3.heap.size W3 W3.drew := (Below.refl _ _).drew
        refine ord_take (i := 0) (v := ?_) (by kernel_rfl) rfl (by decide) (by kernel_rfl) (by kernel_rfl) (fun _ _ _ h => h) (Or.inl ⟨by rfl, ?_⟩) hT ?_
        rotate_left
        · intro wz hz; go_simp; (try with_reducible rfl)
        try simp only [Act.put, List.getElem_toArray, List.getElem_cons_zero, List.getElem_cons_succ, List.setIfInBounds_toArray, List.set_cons_zero, List.set_cons_succ]
        refine ord_take (i := 1) (v := ?_) (by kernel_rfl) rfl (by decide) (by kernel_rfl) (by kernel_rfl) (fun _ _ _ h => h) (Or.inl ⟨by rfl, ?_⟩) hT ?_
        rotate_left
        · intro wz hz; have j := hNt.below hz hNt.lt; have q0 := j.cell 0; have q1 := j.cell 1; have q2 := j.cell 2; have q3 := j.cell 3; have q4 := j.cell 4; go_simp; (try with_reducible rfl)
        try simp only [Act.put, List.getElem_toArray, List.getElem_cons_zero, List.getElem_cons_succ, List.setIfInBounds_toArray, List.set_cons_zero, List.set_cons_succ]
        refine ord_take (i := 2) (v := ?_) (by kernel_rfl) rfl (by decide) (by kernel_rfl) (by kernel_rfl) (fun _ _ _ h => h) (Or.inl ⟨by rfl, ?_⟩) hT ?_
        rotate_left
        · intro wz hz; go_simp; (try with_reducible rfl)
        try simp only [Act.put, List.getElem_toArray, List.getElem_cons_zero, List.getElem_cons_succ, List.setIfInBounds_toArray, List.set_cons_zero, List.set_cons_succ]
        refine ord_take (i := 3) (v := ?_) (by kernel_rfl) rfl (by decide) (by kernel_rfl) (by kernel_rfl) (fun _ _ _ h => h) (Or.inl ⟨by rfl, ?_⟩) hT ?_
        rotate_left
        · intro wz hz; have j := hNt.below hz hNt.lt; have q0 := j.cell 0; have q1 := j.cell 1; have q2 := j.cell 2; have q3 := j.cell 3; have q4 := j.cell 4; go_simp; (try with_reducible rfl)
        try simp only [Act.put, List.getElem_toArray, List.getElem_cons_zero, List.getElem_cons_succ, List.setIfInBounds_toArray, List.set_cons_zero, List.set_cons_succ]
        refine ord_take (i := 4) (v := ?_) (by kernel_rfl) rfl (by decide) (by kernel_rfl) (by kernel_rfl) (fun _ _ _ h => h) (Or.inl ⟨by rfl, ?_⟩) hT ?_
        rotate_left
        · intro wz hz; go_simp; (try with_reducible rfl)
        try simp only [Act.put, List.getElem_toArray, List.getElem_cons_zero, List.getElem_cons_succ, List.setIfInBounds_toArray, List.set_cons_zero, List.set_cons_succ]
        refine ord_take (i := 5) (v := ?_) (by kernel_rfl) rfl (by decide) (by kernel_rfl) (by kernel_rfl) (fun _ _ _ h => h) (Or.inl ⟨by rfl, ?_⟩) hT ?_
        rotate_left
        · intro wz hz; go_simp; (try with_reducible rfl)
        try simp only [Act.put, List.getElem_toArray, List.getElem_cons_zero, List.getElem_cons_succ, List.setIfInBounds_toArray, List.set_cons_zero, List.set_cons_succ]
        refine ord_take (i := 6) (v := ?_) (by kernel_rfl) rfl (by decide) (by kernel_rfl) (by kernel_rfl) (fun _ _ _ h => h) (Or.inl ⟨by rfl, ?_⟩) hT ?_
        rotate_left
        · intro wz hz; have j := hNt.below hz hNt.lt; have q0 := j.cell 0; have q1 := j.cell 1; have q2 := j.cell 2; have q3 := j.cell 3; have q4 := j.cell 4; go_simp; (try with_reducible rfl)
        try simp only [Act.put, List.getElem_toArray, List.getElem_cons_zero, List.getElem_cons_succ, List.setIfInBounds_toArray, List.set_cons_zero, List.set_cons_succ]
        refine ord_take (i := 7) (v := ?_) (by kernel_rfl) rfl (by decide) (by kernel_rfl) (by kernel_rfl) (fun _ _ _ h => h) (Or.inl ⟨by rfl, ?_⟩) hT ?_
        rotate_left
        · intro wz hz; go_simp; (try with_reducible rfl)
        try simp only [Act.put, List.getElem_toArray, List.getElem_cons_zero, List.getElem_cons_succ, List.setIfInBounds_toArray, List.set_cons_zero, List.set_cons_succ]
        refine ord_take (i := 8) (v := ?_) (by kernel_rfl) rfl (by decide) (by kernel_rfl) (by kernel_rfl) (fun _ _ _ h => h) (Or.inl ⟨by rfl, ?_⟩) hT ?_
        rotate_left
        · intro wz hz; go_simp; (try with_reducible rfl)
        try simp only [Act.put, List.getElem_toArray, List.getElem_cons_zero, List.getElem_cons_succ, List.setIfInBounds_toArray, List.set_cons_zero, List.set_cons_succ]
        refine ord_step (i := 9) rfl (by decide) (by kernel_rfl) (by rfl) (fun K hK => ?_)
        go_simp
        refine (rpart_any (r' + 1 - b') parts _ (by omega) (by omega) hp0).mono ?_
        rintro y X12 ⟨rfl, hbx⟩
        rw [HU2.out]
        have hx := bltB hT hT.size hbx
        clear hbx hT
        refine hK _ _ hx ?_
        clear hK K
        try simp only [Act.put, List.getElem_toArray, List.getElem_cons_zero, List.getElem_cons_succ, List.setIfInBounds_toArray, List.set_cons_zero, List.set_cons_succ]
        refine ord_take (i := 10) (v := ?_) (by kernel_rfl) rfl (by decide) (by kernel_rfl) (by kernel_rfl) (fun _ _ _ h => h) (Or.inl ⟨by rfl, ?_⟩) hx ?_
        rotate_left
        · intro wz hz; go_simp; (try with_reducible rfl)
        try simp only [Act.put, List.getElem_toArray, List.getElem_cons_zero, List.getElem_cons_succ, List.setIfInBounds_toArray, List.set_cons_zero, List.set_cons_succ]
        refine ord_take (i := 11) (v := ?_) (by kernel_rfl) rfl (by decide) (by kernel_rfl) (by kernel_rfl) (fun _ _ _ h => h) (Or.inl ⟨by rfl, ?_⟩) hx ?_
        rotate_left
        · intro wz hz; go_simp; (try with_reducible rfl)
        try simp only [Act.put, List.getElem_toArray, List.getElem_cons_zero, List.getElem_cons_succ, List.setIfInBounds_toArray, List.set_cons_zero, List.set_cons_succ]
        refine ord_rest (by kernel_rfl) ?_
        have hNt := hNt.below hx hNt.lt
        have hb2 := bltB hb2 hb2.size hx
        clear hx
        have hcc := hNt.cell 3
        have hff := hNt.frozen 3
        refine any_step (i := 12) rfl (by kernel_rfl) (by rfl) (fun K hK => ?_)
        go_simp
        refine hK _ _ ?_
        clear hK K
        try simp only [Act.put, List.getElem_toArray, List.getElem_cons_zero, List.getElem_cons_succ, List.setIfInBounds_toArray, List.set_cons_zero, List.set_cons_succ]
        refine wpAny_done (by kernel_rfl) ?_ _
        refine NoPanic.normal ?_
        have hNt := hNt.set_ 3 (.int .i64 (b' + u2))
        have hb2 := hb2.setCell (p := ⟨G, 3, none⟩) (Nat.le_of_eq HO.out.2.2) (.int .i64 (b' + u2))
        clear hcc hff
        simp only [List.setIfInBounds_toArray, List.set_cons_zero, List.set_cons_succ] at hNt
        generalize X12.setCell ⟨G, 3, none⟩ (.int .i64 (b' + u2)) = W4 at *
        have hn0 := hNt.cell 0
        have hn1 := hNt.cell 1
        have hn2 := hNt.cell 2
        have hn3 := hNt.cell 3
        have hn4 := hNt.cell 4
        have hGl := hNt.lt
        have hown4 : W4.ownsRow w.heap.size 68 5 (.slice Ar M.length cr) M.length (rcells M) := HO.out.1.kept (row := none) ⟨hb2.os, hb2.tape, hb2.output, hb2.size, fun i hi _ => hb2.block i hi⟩ (by cases h : (Value.slice Ar M.length cr).ownBlock with | none => exact .inl rfl | some g => exact .inr (by simp))
        have hbw4 := bltB HO.out.2.1 HO.out.2.1.size hb2
        have HE := Lib.hid (And.intro hown4 hbw4)
        clear hb2 hown4 hbw4 hNt
        obtain ⟨a1, ha1⟩ : ∃ z, a - u1 = z := ⟨_, rfl⟩
        rw [ha1] at HF hn2
        simp only [ha1]
        clear ha1 hw1
        by_cases h1 : a1 = 0
        · subst h1
          by_cases h2 : r' < b' + u2
          · have h3 : ¬ (b' + u2 ≤ r') := by omega
            have hg : gone (0, b' + u2, r') = true := by simp only [gone, Bool.and_eq_true, decide_eq_true_eq]; exact ⟨trivial, h2⟩
            have HR : Hid (W4.ownsRow w.heap.size 68 5 (.slice Ar M.length cr) ((L.take (j + 1)).filterMap (older1 parts)).length (rcells ((L.take (j + 1)).filterMap (older1 parts))) ∧ Below w.heap.size w W4) := Lib.hid ⟨by rw [hst.out, HF.out, hg]; simpa using HE.out.1, HE.out.2⟩
            go_wp2_with fail
            go_roundw
            case rel => exact ⟨j + 1, by omega, by go_num, HR.out.1, HR.out.2⟩
            case measure => simp [intOf]; omega
          · have h3 : b' + u2 ≤ r' := by omega
            have hg : gone (0, b' + u2, r') = false := by simp only [gone, decide_eq_false h2, Bool.and_false]
            clear h2
            obtain ⟨v', w', ⟨A', c', hv'⟩, hrun, hown5, hb5⟩ := row_append HE.out.1 HE.out.2.size hml ((f, c), (0, b' + u2, r'))
            subst hv'
            simp only at hrun
            obtain ⟨ha1, ha2, ha3⟩ := app_of_run hrun
            have HR : Hid (w'.ownsRow w.heap.size 68 5 (.slice A' (M.length + 1) c') ((L.take (j + 1)).filterMap (older1 parts)).length (rcells ((L.take (j + 1)).filterMap (older1 parts))) ∧ Below w.heap.size w w') := Lib.hid ⟨by rw [hst.out, HF.out, hg]; exact hown5, HE.out.2.trans hb5⟩
            clear hrun hown5 hb5
            go_wp2_with fail
            go_roundw
            case rel => exact ⟨j + 1, by omega, by go_num, HR.out.1, HR.out.2⟩
            case measure => simp [intOf]; omega
        · have hg : gone (a1, b' + u2, r') = false := by simp only [gone, decide_eq_false h1, Bool.false_and]
          obtain ⟨v', w', ⟨A', c', hv'⟩, hrun, hown5, hb5⟩ := row_append HE.out.1 HE.out.2.size hml ((f, c), (a1, b' + u2, r'))
          subst hv'
          simp only at hrun
          obtain ⟨ha1, ha2, ha3⟩ := app_of_run hrun
          have HR : Hid (w'.ownsRow w.heap.size 68 5 (.slice A' (M.length + 1) c') ((L.take (j + 1)).filterMap (older1 parts)).length (rcells ((L.take (j + 1)).filterMap (older1 parts))) ∧ Below w.heap.size w w') := Lib.hid ⟨by rw [hst.out, HF.out, hg]; exact hown5, HE.out.2.trans hb5⟩
          clear hrun hown5 hb5
          go_wp2_with fail
          go_roundw
          case rel => exact ⟨j + 1, by omega, by go_num, HR.out.1, HR.out.2⟩
          case measure => simp [intOf]; omega
      · have hjn : L.take j = L := List.take_of_length_le (by omega)
        rw [hjn] at hown
        have hold : L.filterMap (older1 parts) = oldL L parts := by unfold oldL; rw [if_neg (by omega)]
        rw [hold] at hown
        obtain ⟨v, hB, hrow, _⟩ := hRr.row
        obtain ⟨A', c', rfl⟩ := row_slice hrow
        obtain ⟨Ar, cr, hrs⟩ := row_slice hown
        subst hrs
        have k0 := hB.cell 0
        have hf0 := hB.frozen 0
        have hne : (Value.slice Ar (oldL L parts).length cr).ownBlock ≠ some p := by
          intro e
          have := hown.lt p e
          omega
        have hpost : RefPost w (wr.setCell ⟨p, 0, none⟩ (.slice Ar (oldL L parts).length cr)) base p (oldL L parts) := by
          have hg2 : wr.grownBy (wr.setCell ⟨p, 0, none⟩ (.slice Ar (oldL L parts).length cr)) (some p) := ⟨rfl, rfl, rfl, by simp, fun i _ hi => Below.heap_setCell wr _ _ i (fun e2 => hi (by rw [e2]))⟩
          refine ⟨⟨⟨_, hB.set_ 0 _, (hown.kept hg2 (.inr hne)).mono (by omega), hne⟩, hpl.2⟩, (hb.mono (by omega)).setCell (p := ⟨p, 0, none⟩) hpl.2 _, ⟨hb.os, hb.tape, hb.output, Nat.le_trans hb.size (by simp), fun i hi h1 _ => ?_⟩⟩
          have hip : i ≠ p := fun e2 => by
            obtain ⟨v0, hB0, _⟩ := h.row
            exact h1 #[v0] (by rw [e2]; exact hB0)
          rw [Below.heap_setCell wr _ _ i hip]
          exact hb.block i hi
        have HP := Lib.hid hpost
        clear hpost hB hrow hRr hown hb h
        go_wp2_with fail
        exact bodyPost_end (v := .tuple #[]) (by simp [results, Try.f16, go_sem]) rfl ⟨rfl, HP.out⟩

end Go.Proofs.Ytdobpicamibgpaa

/-
  The document's own minds: Odds.
-/
namespace Go.Proofs.Ytdobpicamibgpaa
open Go.RowKit Go.Maps
set_option linter.unusedVariables false
set_option linter.unusedSimpArgs false
attribute [local go_sem] Oper.semAt_some

set_option maxRecDepth 100000 in
set_option maxHeartbeats 1000000 in
theorem rodds_any (w : World) (base p : Nat) (L : Notes) (h : RefAt w base p L) (hgd : Good L) (hln : L.length < 900000) (e : Ed) (x : Int) : Calls Try.prog 24 #[.pointer (some ⟨p, 0, none⟩), e.v, .int .i64 x] w (RetQ w L e.e4 x) := by
  obtain ⟨f, t, c, r, p0, p1, p2, p3, p4⟩ := e
  obtain ⟨cs, hcs⟩ : ∃ cs : Array Value, cs = #[.int .i64 f, .int .i64 t, .int .i64 c, .int .i64 r, .int .i64 p0, .int .i64 p1, .int .i64 p2, .int .i64 p3, .int .i64 p4] := ⟨_, rfl⟩
  obtain ⟨w0, hw0⟩ : ∃ w0, w0 = (w.alloc (.cells cs 26)).alloc (.cells #[.slice none 0 0, .slice none 0 0] 42) := ⟨_, rfl⟩
  have hb0 : Below w.heap.size w w0 := by rw [hw0]; exact ((Below.refl _ _).alloc (Nat.le_refl _) _).alloc (by simp) _
  have J0 : Blk w0 w.heap.size 26 cs := by rw [hw0]; exact (Blk.new w _ _).alloc _
  have R0 : Blk w0 (w.heap.size + 1) 42 #[.slice none 0 0, .slice none 0 0] := by
    rw [hw0]
    have := Blk.new (w.alloc (.cells cs 26)) 42 #[.slice none 0 0, .slice none 0 0]
    rw [World.size_alloc] at this
    exact this
  have hM0 := h.on hb0
  rw [hcs] at hw0 J0
  clear hcs
  have j0 := J0.cell 0
  have j1 := J0.cell 1
  have j2 := J0.cell 2
  have j3 := J0.cell 3
  have j4 := J0.cell 4
  have j5 := J0.cell 5
  have j6 := J0.cell 6
  have j7 := J0.cell 7
  have j8 := J0.cell 8
  simp only [Ed.v, Ed.cs]
  go_enter Try.func24, Try.ntmps24
  go_wp2_with fail
  rw [← hw0]
  clear hw0
  go_wp2_with fail
  refine (rmay_any ⟨f, t, c, r, p0, p1, p2, p3, p4⟩ w0).mono ?_
  rintro y w1 ⟨rfl, hb⟩
  have J := J0.below hb J0.lt
  have R := R0.below hb R0.lt
  have hM := hM0.on hb
  have hb1 := bltB hb0 hb0.size hb
  clear hb j0 j1 j2 j3 j4 j5 j6 j7 j8 hM0 h J0 R0 hb0
  have HE : Hid (oddOk (Ed.e4 ⟨f, t, c, r, p0, p1, p2, p3, p4⟩) x = (mayB f t c r && (decide (0 ≤ x) && decide (x ≤ r)))) := Lib.hid rfl
  have hj0 := J.cell 0
  have hj1 := J.cell 1
  have hj2 := J.cell 2
  have hj3 := J.cell 3
  have hj4 := J.cell 4
  have hj5 := J.cell 5
  have hj6 := J.cell 6
  have hj7 := J.cell 7
  have hj8 := J.cell 8
  have hr0 := R.cell 0
  have hr1 := R.cell 1
  have hf0 := R.frozen 0
  have hf1 := R.frozen 1
  simp only
  by_cases hok : (mayB f t c r && (decide (0 ≤ x) && decide (x ≤ r))) = true
  · simp only [Bool.and_eq_true, decide_eq_true_eq] at hok
    obtain ⟨hm, hx0, hx1⟩ := hok
    have HT : Hid (oddOk (Ed.e4 ⟨f, t, c, r, p0, p1, p2, p3, p4⟩) x = true) := Lib.hid (by rw [HE.out, hm, decide_eq_true hx0, decide_eq_true hx1]; rfl)
    have hs := mayB_iff.1 hm
    have hrr := hs.2.2.2.2.1
    have hrm := hs.2.2.2.2.2
    have hcnt := cnt_ok hgd (f, c) hrr
    rw [hm]
    clear HE
    go_wp2_with fail
    refine (rcount_any w1 base p L hM hgd (by omega) ⟨f, t, c, r, p0, p1, p2, p3, p4⟩ hrr hrm).mono ?_
    rintro y w2 ⟨rfl, hb⟩
    have R2 := R.below hb R.lt
    have hb2 := bltB hb1 hb1.size hb
    have HN : Hid (oN L (Ed.e4 ⟨f, t, c, r, p0, p1, p2, p3, p4⟩) x = ((cnt L (f, c) r).2 - min (max x (cnt L (f, c) r).1) (cnt L (f, c) r).2).toNat) := Lib.hid rfl
    have HD : Hid (oD L (Ed.e4 ⟨f, t, c, r, p0, p1, p2, p3, p4⟩) = ((cnt L (f, c) r).2 - (cnt L (f, c) r).1).toNat) := Lib.hid rfl
    clear hb R J hM hj0 hj1 hj2 hj3 hj4 hj5 hj6 hj7 hj8 hr0 hr1 hf0 hf1 hb1
    obtain ⟨lo, hlo⟩ : ∃ lo, (cnt L (f, c) r).1 = lo := ⟨_, rfl⟩
    obtain ⟨hi, hhi⟩ : ∃ hi, (cnt L (f, c) r).2 = hi := ⟨_, rfl⟩
    rw [hlo, hhi] at hcnt HN
    rw [hlo, hhi] at HD
    simp only [hlo, hhi]
    clear hlo hhi
    obtain ⟨z1, hz1, hv1⟩ := min_named2 x hi
    obtain ⟨z2, hz2, hv2⟩ := max_named2 lo z1
    obtain ⟨N, hN⟩ : ∃ N : Nat, hi - z2 = (N : Int) := ⟨(hi - z2).toNat, by omega⟩
    obtain ⟨D, hD⟩ : ∃ D : Nat, hi - lo = (D : Int) := ⟨(hi - lo).toNat, by omega⟩
    have HN2 : Hid (oN L (Ed.e4 ⟨f, t, c, r, p0, p1, p2, p3, p4⟩) x = N) := Lib.hid (by rw [HN.out, show hi - min (max x lo) hi = (N : Int) by omega]; rfl)
    have HD2 : Hid (oD L (Ed.e4 ⟨f, t, c, r, p0, p1, p2, p3, p4⟩) = D) := Lib.hid (by rw [HD.out, hD]; rfl)
    have hw1 : IntKind.i64.wrap (hi - z2) = (N : Int) := by rw [IntWalk.i64_in _ (by omega), hN]
    have hw2 : IntKind.i64.wrap (hi - lo) = (D : Int) := by rw [IntWalk.i64_in _ (by omega), hD]
    have hNb : N < 18446744073709551616 := by omega
    have hDb : D < 18446744073709551616 := by omega
    have hD0 : 0 < D := by omega
    have HZ := Lib.hid (And.intro hNb (And.intro hDb hD0))
    have hu1 : IntKind.u64.wrap (N : Int) = (N : Int) := by simp [IntKind.wrap, IntKind.signed, IntKind.bits]; omega
    have hu2 : IntKind.u64.wrap (D : Int) = (D : Int) := by simp [IntKind.wrap, IntKind.signed, IntKind.bits]; omega
    clear HN HD hz1 hz2 hcnt hN hD hs hNb hDb hD0 hx0 hx1 hrr hrm hm
    go_wp2_with fail
    refine (rfof_any w2 N D HZ.out.1 HZ.out.2.1).mono ?_
    rintro y w3 ⟨A, n', c', B, m', d', rfl, r1, r2, hb⟩
    have hD0 := HZ.out.2.2
    rw [if_neg (Nat.pos_iff_ne_zero.1 hD0)] at r1 r2
    rw [decide_eq_true hD0]
    have R3 := R2.below hb R2.lt
    have hb3 := bltB hb2 hb2.size hb
    have hc0 := R3.cell 0
    have hc1 := R3.cell 1
    have hf0 := R3.frozen 0
    have hf1 := R3.frozen 1
    have hlt := R3.lt
    have HH := Lib.hid (And.intro R3 (And.intro r1 (And.intro r2 hb3)))
    clear hb R2 hb2 R3 r1 r2 hb3
    go_wp2_with fail
    obtain ⟨R3, r1, r2, hb3⟩ := HH.out
    obtain ⟨h40, q10, q20, hb40⟩ := fr_store R3 r1 r2 hb3 (Nat.le_succ _)
    have h4 := h40.alloc (.cells #[.slice A n' c', .slice B m' d'] 42)
    have q1 := q10.on ((Below.refl _ _).alloc (Nat.le_refl _) (.cells #[.slice A n' c', .slice B m' d'] 42))
    have q2 := q20.on ((Below.refl _ _).alloc (Nat.le_refl _) (.cells #[.slice A n' c', .slice B m' d'] 42))
    have hb4 := hb40.alloc hb40.size (.cells #[.slice A n' c', .slice B m' d'] 42)
    refine bodyPost_ret (v := .tuple #[.agg #[.slice A n' c', .slice B m' d'], .bool true]) ?_ rfl ?_
    · have e0 := h4.cell 0
      have e1 := h4.cell 1
      simp [results, Try.f24, go_sem, e0, e1]
    · refine ⟨A, n', c', B, m', d', by rw [HT.out], ?_, ?_, hb4⟩
      · unfold oddA; rw [if_pos HT.out, HN2.out, HD2.out]; exact q1
      · unfold oddB; rw [if_pos HT.out, HN2.out, HD2.out]; exact q2
  · have HT : Hid (oddOk (Ed.e4 ⟨f, t, c, r, p0, p1, p2, p3, p4⟩) x = false) := Lib.hid (by rw [HE.out]; simpa using hok)
    have HA : Hid (oddA L (Ed.e4 ⟨f, t, c, r, p0, p1, p2, p3, p4⟩) x = []) := Lib.hid (by unfold oddA; rw [if_neg (by rw [HT.out]; decide)])
    have HB : Hid (oddB L (Ed.e4 ⟨f, t, c, r, p0, p1, p2, p3, p4⟩) x = []) := Lib.hid (by unfold oddB; rw [if_neg (by rw [HT.out]; decide)])
    rcases hm : mayB f t c r with _ | _
    · clear hok HE
      go_wp2_with fail
      obtain ⟨h4, q1, q2, hb4⟩ := fr_store R (Rd.nil _ _) (Rd.nil _ _) hb1 (Nat.le_succ _)
      refine bodyPost_ret (v := .tuple #[.agg #[.slice none 0 0, .slice none 0 0], .bool false]) ?_ rfl ?_
      · have e0 := h4.cell 0
        have e1 := h4.cell 1
        simp [results, Try.f24, go_sem, e0, e1]
      · refine ⟨none, 0, 0, none, 0, 0, by rw [HT.out], ?_, ?_, hb4⟩
        · rw [HA.out]; exact q1
        · rw [HB.out]; exact q2
    · by_cases hx0 : 0 ≤ x
      · have hx1 : ¬ x ≤ r := fun hx1 => hok (by rw [hm, decide_eq_true hx0, decide_eq_true hx1]; rfl)
        clear hok HE
        go_wp2_with fail
        obtain ⟨h4, q1, q2, hb4⟩ := fr_store R (Rd.nil _ _) (Rd.nil _ _) hb1 (Nat.le_succ _)
        refine bodyPost_ret (v := .tuple #[.agg #[.slice none 0 0, .slice none 0 0], .bool false]) ?_ rfl ?_
        · have e0 := h4.cell 0
          have e1 := h4.cell 1
          simp [results, Try.f24, go_sem, e0, e1]
        · refine ⟨none, 0, 0, none, 0, 0, by rw [HT.out], ?_, ?_, hb4⟩
          · rw [HA.out]; exact q1
          · rw [HB.out]; exact q2
      · clear hok HE
        go_wp2_with fail
        obtain ⟨h4, q1, q2, hb4⟩ := fr_store R (Rd.nil _ _) (Rd.nil _ _) hb1 (Nat.le_succ _)
        refine bodyPost_ret (v := .tuple #[.agg #[.slice none 0 0, .slice none 0 0], .bool false]) ?_ rfl ?_
        · have e0 := h4.cell 0
          have e1 := h4.cell 1
          simp [results, Try.f24, go_sem, e0, e1]
        · refine ⟨none, 0, 0, none, 0, 0, by rw [HT.out], ?_, ?_, hb4⟩
          · rw [HA.out]; exact q1
          · rw [HB.out]; exact q2

end Go.Proofs.Ytdobpicamibgpaa
