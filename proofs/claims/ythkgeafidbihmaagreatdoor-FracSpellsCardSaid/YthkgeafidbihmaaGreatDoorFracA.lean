/-
  Fractions: Add, Sub.
-/
import Derived.Test.YthkgeafidbihmaaGreatDoorFracC
import Derived.Test.YthkgeafidbihmaaGreatDoorAdd
namespace Go.Proofs.YthkgeafidbihmaaGreatDoor
open Go.RowKit Go.Shelf
set_option linter.unusedVariables false
set_option linter.unusedSimpArgs false
attribute [local go_sem] Oper.semAt_some

theorem len_add (x y : Nat) : (digs (x + y)).length ≤ (digs x).length + (digs y).length + 1 :=
  digs_len_le (bd_add (lt_of_digs_len x) (lt_of_digs_len y) (by omega) (by omega))

theorem len_sub (x y : Nat) : (digs (x - y)).length ≤ (digs x).length :=
  digs_len_le (Nat.lt_of_le_of_lt (Nat.sub_le x y) (lt_of_digs_len x))

theorem fadd_any (w : World) (A1 B1 A2 B2' : Option Addr) (n1 c1 m1 d1 n2 c2 m2 d2 : Nat) (l1 k1 l2 k2 : List Nat) (h1 : Rd w w.heap.size A1 n1 c1 l1) (g1 : Rd w w.heap.size B1 m1 d1 k1) (h2 : Rd w w.heap.size A2 n2 c2 l2) (g2 : Rd w w.heap.size B2' m2 d2 k2)
    (hn1 : n1 ≤ 10000) (hm1 : m1 ≤ 10000) (hn2 : n2 ≤ 10000) (hm2 : m2 ≤ 10000) :
    Calls Tryz.prog 15 #[.agg #[.slice A1 n1 c1, .slice B1 m1 d1], .agg #[.slice A2 n2 c2, .slice B2' m2 d2]] w (RetFr w (((frN l1 k1 * frD l2 k2) + (frN l2 k2 * frD l1 k1)) / Nat.gcd ((frN l1 k1 * frD l2 k2) + (frN l2 k2 * frD l1 k1)) (frD l1 k1 * frD l2 k2)) ((frD l1 k1 * frD l2 k2) / Nat.gcd ((frN l1 k1 * frD l2 k2) + (frN l2 k2 * frD l1 k1)) (frD l1 k1 * frD l2 k2))) := by
  obtain ⟨w0, hw0⟩ : ∃ w0, w0 = ((w.alloc (.cells #[.slice A1 n1 c1, .slice B1 m1 d1] 24)).alloc (.cells #[.slice A2 n2 c2, .slice B2' m2 d2] 24)).alloc (.cells #[.slice none 0 0, .slice none 0 0] 24) := ⟨_, rfl⟩
  have hb0 : Below w.heap.size w w0 := by rw [hw0]; exact (((Below.refl _ _).alloc (Nat.le_refl _) _).alloc (by simp) _).alloc (by simp; omega) _
  have J0 : B2 w0 w.heap.size A1 n1 c1 B1 m1 d1 A2 n2 c2 B2' m2 d2 := by
    rw [hw0]
    refine ⟨((Blk.new w _ _).alloc _).alloc _, Blk.alloc ?_ _⟩
    have := Blk.new (w.alloc (.cells #[.slice A1 n1 c1, .slice B1 m1 d1] 24)) 24 #[.slice A2 n2 c2, .slice B2' m2 d2]
    rw [World.size_alloc] at this
    exact this
  have R0 : Blk w0 (w.heap.size + 2) 24 #[.slice none 0 0, .slice none 0 0] := by
    rw [hw0]
    have := Blk.new ((w.alloc (.cells #[.slice A1 n1 c1, .slice B1 m1 d1] 24)).alloc (.cells #[.slice A2 n2 c2, .slice B2' m2 d2] 24)) 24 #[.slice none 0 0, .slice none 0 0]
    rw [World.size_alloc, World.size_alloc] at this
    exact this
  have HL := Lib.hid (And.intro (frN_len (k := k1) h1.dig) (And.intro (frD_len (l := l1) g1.dig) (And.intro (frN_len (k := k2) h2.dig) (And.intro (frD_len (l := l2) g2.dig) (And.intro h1.len (And.intro g1.len (And.intro h2.len g2.len)))))))
  have h1 := h1.on hb0
  have g1 := g1.on hb0
  have h2 := h2.on hb0
  have g2 := g2.on hb0
  have hc0 := J0.a.cell 0
  have hc1 := J0.a.cell 1
  have hc2 := J0.b.cell 0
  have hc3 := J0.b.cell 1
  go_enter Tryz.func15, Tryz.ntmps15
  go_wp2_with fail
  rw [← hw0]
  clear hw0
  go_wp2_with fail
  refine (cross_any _ _ _ _ _ _ _ _ _ _ _ _ _ _ _ _ _ h1 g1 h2 g2 (by omega) (by omega) (by omega) (by omega)).mono ?_
  rintro e w1 ⟨A, n, c, B, m, d, C, p, q, rfl, r1, r2, r3, hb⟩
  have R1 := R0.below hb R0.lt
  have hb1 := bltB hb0 hb0.size hb
  have hn : n ≤ 20002 := by
    have h1 := len_mul (frN l1 k1) (frD l2 k2)
    have h2 := r1.len
    have h3 := HL.out
    omega
  have hm : m ≤ 20002 := by
    have h1 := len_mul (frN l2 k2) (frD l1 k1)
    have h2 := r2.len
    have h3 := HL.out
    omega
  have hp : p ≤ 20002 := by
    have h1 := len_mul (frD l1 k1) (frD l2 k2)
    have h2 := r3.len
    have h3 := HL.out
    omega
  clear hb h1 g1 h2 g2 hc0 hc1 hc2 hc3 J0 R0 hb0
  go_wp2_with fail
  refine (add_any _ _ _ _ _ _ _ _ _ r1 r2 (by omega) (by omega)).mono ?_
  rintro e w2 ⟨A2, n2', c2', rfl, s1, hb⟩
  rw [tv_digs, tv_digs] at s1
  have r3 := r3.on hb
  have R2 := R1.below hb R1.lt
  have hb2 := bltB hb1 hb1.size hb
  have hn2' : n2' ≤ 60000 := by
    have h1 := len_add (frN l1 k1 * frD l2 k2) (frN l2 k2 * frD l1 k1)
    have h2 := s1.len
    have h3 := r1.len
    have h4 := r2.len
    omega
  clear hb hb1 R1 r1 r2
  go_wp2_with fail
  refine (flow_any _ _ _ _ _ _ _ _ _ s1 r3 (by omega) (by omega) (Nat.mul_pos (frD_pos _ _) (frD_pos _ _))).mono ?_
  rintro e w3 ⟨A5, n5, c5, B5, m5, d5, rfl, q1, q2, hb⟩
  have R3 := R2.below hb R2.lt
  have hb3 := bltB hb2 hb2.size hb
  clear hb hb2 R2 s1 r3
  have hc0 := R3.cell 0
  have hc1 := R3.cell 1
  have hf0 := R3.frozen 0
  have hf1 := R3.frozen 1
  obtain ⟨j4, t1, t2, hb4⟩ := fr_store R3 q1 q2 hb3 (by omega)
  go_wp2_with fail
  refine bodyPost_ret (v := .agg #[.slice A5 n5 c5, .slice B5 m5 d5]) ?_ rfl ?_
  · have e0 := j4.cell 0
    have e1 := j4.cell 1
    simp [results, Tryz.f15, go_sem, e0, e1]
  · exact ⟨A5, n5, c5, B5, m5, d5, rfl, t1, t2, hb4⟩

/-- What Sub leaves: the difference, in lowest terms, if it is not below nought. -/
def RetFrO (w : World) (ok : Bool) (N D : Nat) (e : Ending) (w' : World) : Prop :=
  ∃ A n c B m d, e = .returned (.tuple #[.agg #[.slice A n c, .slice B m d], .bool ok]) ∧ Rd w' w'.heap.size A n c (digs (if ok then N / Nat.gcd N D else 0)) ∧ Rd w' w'.heap.size B m d (digs (if ok then D / Nat.gcd N D else 1)) ∧ Below w.heap.size w w'

theorem fsub_any (w : World) (A1 B1 A2 B2' : Option Addr) (n1 c1 m1 d1 n2 c2 m2 d2 : Nat) (l1 k1 l2 k2 : List Nat) (h1 : Rd w w.heap.size A1 n1 c1 l1) (g1 : Rd w w.heap.size B1 m1 d1 k1) (h2 : Rd w w.heap.size A2 n2 c2 l2) (g2 : Rd w w.heap.size B2' m2 d2 k2)
    (hn1 : n1 ≤ 10000) (hm1 : m1 ≤ 10000) (hn2 : n2 ≤ 10000) (hm2 : m2 ≤ 10000) :
    Calls Tryz.prog 12 #[.agg #[.slice A1 n1 c1, .slice B1 m1 d1], .agg #[.slice A2 n2 c2, .slice B2' m2 d2]] w (RetFrO w (decide ((frN l2 k2 * frD l1 k1) ≤ (frN l1 k1 * frD l2 k2))) ((frN l1 k1 * frD l2 k2) - (frN l2 k2 * frD l1 k1)) (frD l1 k1 * frD l2 k2)) := by
  obtain ⟨w0, hw0⟩ : ∃ w0, w0 = ((w.alloc (.cells #[.slice A1 n1 c1, .slice B1 m1 d1] 24)).alloc (.cells #[.slice A2 n2 c2, .slice B2' m2 d2] 24)).alloc (.cells #[.slice none 0 0, .slice none 0 0] 24) := ⟨_, rfl⟩
  have hb0 : Below w.heap.size w w0 := by rw [hw0]; exact (((Below.refl _ _).alloc (Nat.le_refl _) _).alloc (by simp) _).alloc (by simp; omega) _
  have J0 : B2 w0 w.heap.size A1 n1 c1 B1 m1 d1 A2 n2 c2 B2' m2 d2 := by
    rw [hw0]
    refine ⟨((Blk.new w _ _).alloc _).alloc _, Blk.alloc ?_ _⟩
    have := Blk.new (w.alloc (.cells #[.slice A1 n1 c1, .slice B1 m1 d1] 24)) 24 #[.slice A2 n2 c2, .slice B2' m2 d2]
    rw [World.size_alloc] at this
    exact this
  have R0 : Blk w0 (w.heap.size + 2) 24 #[.slice none 0 0, .slice none 0 0] := by
    rw [hw0]
    have := Blk.new ((w.alloc (.cells #[.slice A1 n1 c1, .slice B1 m1 d1] 24)).alloc (.cells #[.slice A2 n2 c2, .slice B2' m2 d2] 24)) 24 #[.slice none 0 0, .slice none 0 0]
    rw [World.size_alloc, World.size_alloc] at this
    exact this
  have HL := Lib.hid (And.intro (frN_len (k := k1) h1.dig) (And.intro (frD_len (l := l1) g1.dig) (And.intro (frN_len (k := k2) h2.dig) (And.intro (frD_len (l := l2) g2.dig) (And.intro h1.len (And.intro g1.len (And.intro h2.len g2.len)))))))
  have h1 := h1.on hb0
  have g1 := g1.on hb0
  have h2 := h2.on hb0
  have g2 := g2.on hb0
  have hc0 := J0.a.cell 0
  have hc1 := J0.a.cell 1
  have hc2 := J0.b.cell 0
  have hc3 := J0.b.cell 1
  go_enter Tryz.func12, Tryz.ntmps12
  go_wp2_with fail
  rw [← hw0]
  clear hw0
  go_wp2_with fail
  refine (cross_any _ _ _ _ _ _ _ _ _ _ _ _ _ _ _ _ _ h1 g1 h2 g2 (by omega) (by omega) (by omega) (by omega)).mono ?_
  rintro e w1 ⟨A, n, c, B, m, d, C, p, q, rfl, r1, r2, r3, hb⟩
  have R1 := R0.below hb R0.lt
  have hb1 := bltB hb0 hb0.size hb
  have hn : n ≤ 20002 := by
    have h1 := len_mul (frN l1 k1) (frD l2 k2)
    have h2 := r1.len
    have h3 := HL.out
    omega
  have hm : m ≤ 20002 := by
    have h1 := len_mul (frN l2 k2) (frD l1 k1)
    have h2 := r2.len
    have h3 := HL.out
    omega
  have hp : p ≤ 20002 := by
    have h1 := len_mul (frD l1 k1) (frD l2 k2)
    have h2 := r3.len
    have h3 := HL.out
    omega
  clear hb h1 g1 h2 g2 hc0 hc1 hc2 hc3 J0 R0 hb0
  go_wp2_with fail
  refine (sub_any _ _ _ _ _ _ _ _ _ r1 r2 (by omega) (by omega)).mono ?_
  rintro e w2 ⟨A2, n2', c2', rfl, s1, hb⟩
  rw [tv_digs, tv_digs] at s1
  rw [tv_digs, tv_digs]
  have r3 := r3.on hb
  have R2 := R1.below hb R1.lt
  have hb2 := bltB hb1 hb1.size hb
  have hn2' : n2' ≤ 60000 := by
    have h1 := len_sub (frN l1 k1 * frD l2 k2) (frN l2 k2 * frD l1 k1)
    have h2 := s1.len
    have h3 := r1.len
    have h4 := r2.len
    omega
  clear hb hb1 R1 r1 r2
  rcases hle : decide ((frN l2 k2 * frD l1 k1) ≤ (frN l1 k1 * frD l2 k2)) with _ | _
  · go_wp2_with fail
    refine (nought_any _).mono ?_
    rintro e w3 ⟨A5, n5, c5, B5, m5, d5, rfl, q1, q2, hb⟩
    have R3 := R2.below hb R2.lt
    have hb3 := bltB hb2 hb2.size hb
    clear hb hb2 R2 s1 r3
    have hc0 := R3.cell 0
    have hc1 := R3.cell 1
    have hf0 := R3.frozen 0
    have hf1 := R3.frozen 1
    obtain ⟨j4, t1, t2, hb4⟩ := fr_store R3 q1 q2 hb3 (by omega)
    go_wp2_with fail
    refine bodyPost_ret (v := .tuple #[.agg #[.slice A5 n5 c5, .slice B5 m5 d5], .bool false]) ?_ rfl ?_
    · have e0 := j4.cell 0
      have e1 := j4.cell 1
      simp [results, Tryz.f12, go_sem, e0, e1]
    · exact ⟨A5, n5, c5, B5, m5, d5, by rw [hle], by rw [hle]; exact t1, by rw [hle]; exact t2, hb4⟩
  · go_wp2_with fail
    refine (flow_any _ _ _ _ _ _ _ _ _ s1 r3 (by omega) (by omega) (Nat.mul_pos (frD_pos _ _) (frD_pos _ _))).mono ?_
    rintro e w3 ⟨A5, n5, c5, B5, m5, d5, rfl, q1, q2, hb⟩
    have R3 := R2.below hb R2.lt
    have hb3 := bltB hb2 hb2.size hb
    clear hb hb2 R2 s1 r3
    have hc0 := R3.cell 0
    have hc1 := R3.cell 1
    have hf0 := R3.frozen 0
    have hf1 := R3.frozen 1
    obtain ⟨j4, t1, t2, hb4⟩ := fr_store R3 q1 q2 hb3 (by omega)
    go_wp2_with fail
    refine bodyPost_ret (v := .tuple #[.agg #[.slice A5 n5 c5, .slice B5 m5 d5], .bool true]) ?_ rfl ?_
    · have e0 := j4.cell 0
      have e1 := j4.cell 1
      simp [results, Tryz.f12, go_sem, e0, e1]
    · exact ⟨A5, n5, c5, B5, m5, d5, by rw [hle], by rw [hle]; exact t1, by rw [hle]; exact t2, hb4⟩

end Go.Proofs.YthkgeafidbihmaaGreatDoor
