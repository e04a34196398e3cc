/-
  The law's own functions: an act in a mind.
-/
import Derived.Test.YtdobpicamibgpaaIs
import Derived.Test.YtdobpicamibgpaaMoved
namespace Go.Proofs.Ytdobpicamibgpaa
open Go.RowKit Go.Maps Go.Shelf
set_option linter.unusedVariables false
set_option linter.unusedSimpArgs false
attribute [local go_sem] Oper.semAt_some

/-- An act, as a value. -/
structure Av where
  d : Int
  e : Ed
  x : Int
def Av.cs (a : Av) : Array Value := #[.int .i64 a.d, .int .i64 a.e.f, .int .i64 a.e.t, .int .i64 a.e.c, .int .i64 a.e.r, .int .i64 a.e.p0, .int .i64 a.e.p1, .int .i64 a.e.p2, .int .i64 a.e.p3, .int .i64 a.e.p4, .int .i64 a.x]
def Av.v (a : Av) : Value := .agg a.cs
def Av.ac (a : Av) : Ac := ⟨a.d, a.e.e4, a.x⟩

set_option maxRecDepth 100000 in
set_option maxHeartbeats 1000000 in
theorem done_any (w : World) (p b n : Nat) (L : Notes) (h : MindAt w p b n L) (hgd : Good L) (hn : n < 900000) (a : Av) : Calls Try.prog 12 #[.pointer (some ⟨p, 0, none⟩), a.v] w fun y w' => y = .returned (.tuple #[]) ∧ MindAt w' p b (n + 2) (doL L a.ac) ∧ w.grownBy w' (some b) := by
  obtain ⟨d, ⟨f, t, c, r, p0, p1, p2, p3, p4⟩, x⟩ := a
  obtain ⟨w0, hw0⟩ : ∃ w0, w0 = w.alloc (.cells #[.int .i64 d, .int .i64 f, .int .i64 t, .int .i64 c, .int .i64 r, .int .i64 p0, .int .i64 p1, .int .i64 p2, .int .i64 p3, .int .i64 p4, .int .i64 x] 33) := ⟨_, rfl⟩
  have hb0 : Below w.heap.size w w0 := by rw [hw0]; exact (Below.refl _ _).alloc (Nat.le_refl _) _
  have J : Blk w0 w.heap.size 33 #[.int .i64 d, .int .i64 f, .int .i64 t, .int .i64 c, .int .i64 r, .int .i64 p0, .int .i64 p1, .int .i64 p2, .int .i64 p3, .int .i64 p4, .int .i64 x] := by rw [hw0]; exact Blk.new w _ _
  have hM := h.on hb0
  have j0 := J.cell 0
  have j1 := J.cell 1
  have j2 := J.cell 2
  have j3 := J.cell 3
  have j4 := J.cell 4
  have j5 := J.cell 5
  have j6 := J.cell 6
  have j7 := J.cell 7
  have j8 := J.cell 8
  have j9 := J.cell 9
  have j10 := J.cell 10
  simp only [Av.v, Av.cs]
  clear h J
  have HF := Lib.hid hb0
  clear hb0
  by_cases h1 : d = 1
  · subst h1
    have HD : Hid (doL L (Av.ac ⟨1, ⟨f, t, c, r, p0, p1, p2, p3, p4⟩, x⟩) = failL L (Ed.e4 ⟨f, t, c, r, p0, p1, p2, p3, p4⟩) x) := Lib.hid rfl
    go_enter Try.func12, Try.ntmps12
    go_wp2_with fail
    rw [← hw0]
    clear hw0
    go_wp2_with fail
    refine (failed_any w0 p b n L hM hgd (by omega) ⟨f, t, c, r, p0, p1, p2, p3, p4⟩ x).mono ?_
    rintro y w1 ⟨rfl, hM1, hg⟩
    have HR : Hid (MindAt w1 p b (n + 2) (doL L (Av.ac ⟨1, ⟨f, t, c, r, p0, p1, p2, p3, p4⟩, x⟩)) ∧ w.grownBy w1 (some b)) := Lib.hid ⟨by rw [HD.out]; exact hM1.more (by omega), below_then HF.out hg⟩
    clear hM1 hg hM j0 j1 j2 j3 j4 j5 j6 j7 j8 j9 j10
    go_wp2_with fail
    exact bodyPost_end (v := .tuple #[]) (by simp [results, Try.f12, go_sem]) rfl ⟨rfl, HR.out⟩
  · by_cases h2 : d = 2
    · subst h2
      have HD : Hid (doL L (Av.ac ⟨2, ⟨f, t, c, r, p0, p1, p2, p3, p4⟩, x⟩) = passL L (Ed.e4 ⟨f, t, c, r, p0, p1, p2, p3, p4⟩) x) := Lib.hid rfl
      clear h1
      go_enter Try.func12, Try.ntmps12
      go_wp2_with fail
      rw [← hw0]
      clear hw0
      go_wp2_with fail
      refine (passed_any w0 p b n L hM hgd (by omega) ⟨f, t, c, r, p0, p1, p2, p3, p4⟩ x).mono ?_
      rintro y w1 ⟨rfl, hM1, hg⟩
      have HR : Hid (MindAt w1 p b (n + 2) (doL L (Av.ac ⟨2, ⟨f, t, c, r, p0, p1, p2, p3, p4⟩, x⟩)) ∧ w.grownBy w1 (some b)) := Lib.hid ⟨by rw [HD.out]; exact hM1.more (by omega), below_then HF.out hg⟩
      clear hM1 hg hM j0 j1 j2 j3 j4 j5 j6 j7 j8 j9 j10
      go_wp2_with fail
      exact bodyPost_end (v := .tuple #[]) (by simp [results, Try.f12, go_sem]) rfl ⟨rfl, HR.out⟩
    · by_cases h3 : d = 3
      · subst h3
        have HD : Hid (doL L (Av.ac ⟨3, ⟨f, t, c, r, p0, p1, p2, p3, p4⟩, x⟩) = moveL L (Ed.e4 ⟨f, t, c, r, p0, p1, p2, p3, p4⟩) x) := Lib.hid rfl
        clear h1 h2
        go_enter Try.func12, Try.ntmps12
        go_wp2_with fail
        rw [← hw0]
        clear hw0
        go_wp2_with fail
        refine (moved_any w0 p b n L hM hgd hn ⟨f, t, c, r, p0, p1, p2, p3, p4⟩ x).mono ?_
        rintro y w1 ⟨rfl, hM1, hg⟩
        have HR : Hid (MindAt w1 p b (n + 2) (doL L (Av.ac ⟨3, ⟨f, t, c, r, p0, p1, p2, p3, p4⟩, x⟩)) ∧ w.grownBy w1 (some b)) := Lib.hid ⟨by rw [HD.out]; exact hM1, below_then HF.out hg⟩
        clear hM1 hg hM j0 j1 j2 j3 j4 j5 j6 j7 j8 j9 j10
        go_wp2_with fail
        exact bodyPost_end (v := .tuple #[]) (by simp [results, Try.f12, go_sem]) rfl ⟨rfl, HR.out⟩
      · have HD : Hid (doL L (Av.ac ⟨d, ⟨f, t, c, r, p0, p1, p2, p3, p4⟩, x⟩) = oldL L x) := Lib.hid (by unfold doL Av.ac; rw [if_neg h1, if_neg h2, if_neg h3])
        go_enter Try.func12, Try.ntmps12
        go_wp2_with fail
        rw [← hw0]
        clear hw0
        go_wp2_with fail
        refine (older_any w0 p b n L hM hgd (by omega) x).mono ?_
        rintro y w1 ⟨rfl, hM1, hg⟩
        have HR : Hid (MindAt w1 p b (n + 2) (doL L (Av.ac ⟨d, ⟨f, t, c, r, p0, p1, p2, p3, p4⟩, x⟩)) ∧ w.grownBy w1 (some b)) := Lib.hid ⟨by rw [HD.out]; exact hM1.more (by omega), below_then HF.out hg⟩
        clear hM1 hg hM j0 j1 j2 j3 j4 j5 j6 j7 j8 j9 j10
        go_wp2_with fail
        exact bodyPost_end (v := .tuple #[]) (by simp [results, Try.f12, go_sem]) rfl ⟨rfl, HR.out⟩

end Go.Proofs.Ytdobpicamibgpaa
