/-
  Learn's small functions: some, up, there, back.
-/
import Derived.Test.YtdobpicamibgpaaEdge
namespace Go.Proofs.Ytdobpicamibgpaa
open Go.RowKit
set_option linter.unusedVariables false
set_option linter.unusedSimpArgs false

def someB (e : Ed) (a : Int) : Bool := mayB e.f e.t e.c e.r && (decide (0 < a) && decide (a ≤ e.r))

set_option maxRecDepth 100000 in
theorem some_any (e : Ed) (a : Int) (w : World) : Calls Try.prog 45 #[e.v, .int .i64 a] w fun x w' => x = .returned (.bool (someB e a)) ∧ Below w.heap.size w w' := by
  obtain ⟨f, t, c, r, p0, p1, p2, p3, p4⟩ := e
  have hb0 : Below w.heap.size w (w.alloc (.cells (Ed.cs ⟨f, t, c, r, p0, p1, p2, p3, p4⟩) 26)) := (Below.refl _ _).alloc (Nat.le_refl _) _
  have hB0 : Blk (w.alloc (.cells (Ed.cs ⟨f, t, c, r, p0, p1, p2, p3, p4⟩) 26)) w.heap.size 26 (Ed.cs ⟨f, t, c, r, p0, p1, p2, p3, p4⟩) := Blk.new w _ _
  simp only [Ed.v, Ed.cs] at *
  go_enter Try.func45, Try.ntmps45
  go_wp2_with fail
  generalize w.alloc (.cells #[.int .i64 f, .int .i64 t, .int .i64 c, .int .i64 r, .int .i64 p0, .int .i64 p1, .int .i64 p2, .int .i64 p3, .int .i64 p4] 26) = w0 at *
  refine (may_any ⟨f, t, c, r, p0, p1, p2, p3, p4⟩ w0).mono ?_
  rintro e w1 ⟨rfl, hb⟩
  have hB1 := hB0.below hb hB0.lt
  have hb1 := hb0.trans (hb.mono hb0.size)
  have hc3 : w1.cell? ⟨w.heap.size, 3, none⟩ = some (.int .i64 r) := hB1.cell 3
  clear hb hb0 hB0 hB1
  simp only
  have HM : Hid (someB ⟨f, t, c, r, p0, p1, p2, p3, p4⟩ a = (mayB f t c r && (decide (0 < a) && decide (a ≤ r)))) := Lib.hid rfl
  cases hm : mayB f t c r with
  | false =>
    go_wp2_with fail
    go_ret
    exact ⟨by rw [HM.out, hm]; rfl, hb1⟩
  | true =>
    by_cases h1 : 0 < a
    · by_cases h2 : a ≤ r
      · go_wp2_with fail
        go_ret
        exact ⟨by rw [HM.out, hm, decide_eq_true h1, decide_eq_true h2]; rfl, hb1⟩
      · go_wp2_with fail
        go_ret
        exact ⟨by rw [HM.out, hm, decide_eq_false (show ¬ a ≤ r by omega), Bool.and_false, Bool.and_false]; rfl, hb1⟩
    · go_wp2_with fail
      go_ret
      exact ⟨by rw [HM.out, hm, decide_eq_false (show ¬ 0 < a by omega)]; rfl, hb1⟩

/-- A number divided upwards. -/
def upN (n d : Nat) : Nat := if 0 < n % d then n / d + 1 else n / d

theorem lup_any (n d : Nat) (w : World) (hn : n ≤ 9223372036854775806) (hd : 0 < d) : Calls Try.prog 49 #[.int .i64 n, .int .i64 d] w fun x w' => x = .returned (.int .i64 (upN n d : Nat)) ∧ w = w' := by
  have HU : Hid (upN n d = if 0 < n % d then n / d + 1 else n / d) := Lib.hid rfl
  obtain ⟨q, hq⟩ : ∃ q, n / d = q := ⟨_, rfl⟩
  obtain ⟨m, hm⟩ : ∃ m, n % d = m := ⟨_, rfl⟩
  have hqn : q ≤ n := by rw [← hq]; exact Nat.div_le_self _ _
  have hqi : (n : Int) / (d : Int) = (q : Int) := by rw [← hq]; exact (Int.natCast_ediv n d).symm
  have hmi : (n : Int) % (d : Int) = (m : Int) := by rw [← hm]; exact (Int.natCast_emod n d).symm
  rw [hq, hm] at HU
  clear hq hm
  rcases Nat.eq_zero_or_pos m with h | h
  · subst h
    go_enter Try.func49, Try.ntmps49
    go_wp2
    go_ret
    exact ⟨by rw [HU.out]; rfl, rfl⟩
  · have h' : (0 : Int) < (m : Int) := by omega
    have HV : Hid (((if 0 < m then q + 1 else q : Nat) : Int) = (q : Int) + 1) := Lib.hid (by rw [if_pos h]; omega)
    clear h
    go_enter Try.func49, Try.ntmps49
    go_wp2
    go_ret
    exact ⟨by rw [HU.out, HV.out]; rfl, rfl⟩

/-- A way, as a value. -/
def wayV (f c : Int) : Value := .agg #[.int .i64 f, .int .i64 c]

theorem there_any (e : Ed) (w : World) : Calls Try.prog 42 #[e.v] w fun x w' => x = .returned (wayV e.f e.c) ∧ Below w.heap.size w w' := by
  obtain ⟨f, t, c, r, p0, p1, p2, p3, p4⟩ := e
  have hN := Blk.new (w.alloc (.cells (Ed.cs ⟨f, t, c, r, p0, p1, p2, p3, p4⟩) 26)) 75 #[.int .i64 f, .int .i64 c]
  rw [World.size_alloc] at hN
  simp only [Ed.v, Ed.cs] at *
  go_enter Try.func42, Try.ntmps42
  go_wp2_with fail
  refine bodyPost_ret (v := wayV f c) ?_ rfl ?_
  · have e0 := hN.cell 0
    have e1 := hN.cell 1
    simp only [List.getElem?_toArray, List.getElem?_cons_zero, List.getElem?_cons_succ] at e0 e1
    simp [results, Try.f42, go_sem, e0, e1, wayV]
  · exact ⟨rfl, ((Below.refl _ _).alloc (Nat.le_refl _) _).alloc (by simp) _⟩

theorem lback_any (e : Ed) (w : World) : Calls Try.prog 48 #[e.v] w fun x w' => x = .returned (wayV e.t e.c) ∧ Below w.heap.size w w' := by
  obtain ⟨f, t, c, r, p0, p1, p2, p3, p4⟩ := e
  have hN := Blk.new (w.alloc (.cells (Ed.cs ⟨f, t, c, r, p0, p1, p2, p3, p4⟩) 26)) 75 #[.int .i64 t, .int .i64 c]
  rw [World.size_alloc] at hN
  simp only [Ed.v, Ed.cs] at *
  go_enter Try.func48, Try.ntmps48
  go_wp2_with fail
  refine bodyPost_ret (v := wayV t c) ?_ rfl ?_
  · have e0 := hN.cell 0
    have e1 := hN.cell 1
    simp only [List.getElem?_toArray, List.getElem?_cons_zero, List.getElem?_cons_succ] at e0 e1
    simp [results, Try.f48, go_sem, e0, e1, wayV]
  · exact ⟨rfl, ((Below.refl _ _).alloc (Nat.le_refl _) _).alloc (by simp) _⟩

end Go.Proofs.Ytdobpicamibgpaa
