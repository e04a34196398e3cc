/-
  The small case that each law begins with comes out right.
-/
import Derived.Test.YtolapebihnipdaaRaceW
import Derived.Test.YtolapebihnipdaaWithin
namespace Go.Proofs.Ytolapebihnipdaa
open Go.RowKit
set_option linter.unusedVariables false

def sml : List St := [⟨0, [false, true], true⟩, ⟨1, [true, false], true⟩]
def sm2 : List St := [⟨1, [false, false], false⟩]

/-- The small case's own memory, as it lies. -/
structure Sm (w wi : World) : Prop where
  bel : Below w.heap.size w wi
  lt : w.heap.size + 4 ≤ wi.heap.size
  c0 : wi.cell? ⟨w.heap.size, 0, none⟩ = some (.int .i64 1)
  c1 : wi.cell? ⟨w.heap.size, 1, none⟩ = some (.int .i64 1)
  c2 : wi.cell? ⟨w.heap.size, 2, none⟩ = some (.int .i64 2)
  st : Steps wi wi.heap.size (some ⟨w.heap.size + 3, 0, none⟩) 2 sml

theorem Sm.next {w wi wj : World} (h : Sm w wi) (hb : Below wi.heap.size wi wj) : Sm w wj := by
  have h1 := h.lt
  have h2 := hb.size
  exact ⟨blt h.bel hb, by omega, (hb.cell (p := ⟨w.heap.size, 0, none⟩) (by show w.heap.size < _; omega)).trans h.c0, (hb.cell (p := ⟨w.heap.size, 1, none⟩) (by show w.heap.size < _; omega)).trans h.c1, (hb.cell (p := ⟨w.heap.size, 2, none⟩) (by show w.heap.size < _; omega)).trans h.c2, h.st.below hb⟩

theorem sm_start (w : World) : Sm w ((((w.alloc (.cells #[.int .i64 1, .int .i64 1, .int .i64 2] 23)).alloc (.cells #[.bool false, .bool true] 4)).alloc (.cells #[.bool true, .bool false] 4)).alloc
    (.cells #[.int .i64 0, .slice (some ⟨w.heap.size + 1, 0, none⟩) 2 2, .bool true, .int .i64 1, .slice (some ⟨w.heap.size + 2, 0, none⟩) 2 2, .bool true] 43)) := by
  have e1 : (w.alloc (.cells #[.int .i64 1, .int .i64 1, .int .i64 2] 23)).heap.size = w.heap.size + 1 := by simp
  generalize hw1 : w.alloc (.cells #[.int .i64 1, .int .i64 1, .int .i64 2] 23) = w1 at *
  have hb1 : Below w.heap.size w w1 := by rw [← hw1]; exact bla (Below.refl _ _) _
  have d0 : ∀ i, w1.cell? ⟨w.heap.size, i, none⟩ = (#[Value.int .i64 1, .int .i64 1, .int .i64 2] : Array Value)[i]? := fun i => by rw [← hw1]; exact World.cell?_alloc_new w _ _ i
  have e2 : (w1.alloc (.cells #[.bool false, .bool true] 4)).heap.size = w.heap.size + 2 := by simp [e1]
  generalize hw2 : w1.alloc (.cells #[.bool false, .bool true] 4) = w2 at *
  have hb2 : Below w1.heap.size w1 w2 := by rw [← hw2]; exact bla (Below.refl _ _) _
  have d1 : ∀ i, w2.cell? ⟨w.heap.size + 1, i, none⟩ = (#[Value.bool false, .bool true] : Array Value)[i]? := fun i => by rw [← hw2, ← e1]; exact World.cell?_alloc_new w1 _ _ i
  have e3 : (w2.alloc (.cells #[.bool true, .bool false] 4)).heap.size = w.heap.size + 3 := by simp [e2]
  generalize hw3 : w2.alloc (.cells #[.bool true, .bool false] 4) = w3 at *
  have hb3 : Below w2.heap.size w2 w3 := by rw [← hw3]; exact bla (Below.refl _ _) _
  have d2 : ∀ i, w3.cell? ⟨w.heap.size + 2, i, none⟩ = (#[Value.bool true, .bool false] : Array Value)[i]? := fun i => by rw [← hw3, ← e2]; exact World.cell?_alloc_new w2 _ _ i
  have e4 : (w3.alloc (.cells #[.int .i64 0, .slice (some ⟨w.heap.size + 1, 0, none⟩) 2 2, .bool true, .int .i64 1, .slice (some ⟨w.heap.size + 2, 0, none⟩) 2 2, .bool true] 43)).heap.size = w.heap.size + 4 := by simp [e3]
  generalize hw4 : w3.alloc (.cells #[.int .i64 0, .slice (some ⟨w.heap.size + 1, 0, none⟩) 2 2, .bool true, .int .i64 1, .slice (some ⟨w.heap.size + 2, 0, none⟩) 2 2, .bool true] 43) = w4 at *
  have hb4 : Below w3.heap.size w3 w4 := by rw [← hw4]; exact bla (Below.refl _ _) _
  have d3 : ∀ i, w4.cell? ⟨w.heap.size + 3, i, none⟩ = (#[Value.int .i64 0, .slice (some ⟨w.heap.size + 1, 0, none⟩) 2 2, .bool true, .int .i64 1, .slice (some ⟨w.heap.size + 2, 0, none⟩) 2 2, .bool true] : Array Value)[i]? := fun i => by rw [← hw4, ← e3]; exact World.cell?_alloc_new w3 _ _ i
  have f0 : ∀ i, w4.cell? ⟨w.heap.size, i, none⟩ = (#[Value.int .i64 1, .int .i64 1, .int .i64 2] : Array Value)[i]? := fun i => by
    rw [hb4.cell (by show w.heap.size < _; omega), hb3.cell (by show w.heap.size < _; omega), hb2.cell (by show w.heap.size < _; omega), d0]
  have f1 : ∀ i, w4.cell? ⟨w.heap.size + 1, i, none⟩ = (#[Value.bool false, .bool true] : Array Value)[i]? := fun i => by
    rw [hb4.cell (by show w.heap.size + 1 < _; omega), hb3.cell (by show w.heap.size + 1 < _; omega), d1]
  have f2 : ∀ i, w4.cell? ⟨w.heap.size + 2, i, none⟩ = (#[Value.bool true, .bool false] : Array Value)[i]? := fun i => by
    rw [hb4.cell (by show w.heap.size + 2 < _; omega), d2]
  refine ⟨blt (blt (blt hb1 hb2) hb3) hb4, by omega, (f0 0).trans rfl, (f0 1).trans rfl, (f0 2).trans rfl, rfl, by omega, fun _ => ⟨_, 0, rfl, by omega, fun k x hx => ?_⟩⟩
  match k, hx with
  | 0, hx =>
    simp only [sml, List.getElem?_cons_zero, Option.some.injEq] at hx
    subst hx
    refine ⟨by decide, by decide, (d3 0).trans rfl, (d3 2).trans rfl, _, 2, 2, (d3 1).trans rfl, rfl, by omega, fun _ => ⟨w.heap.size + 1, 0, rfl, by omega, fun i y hy => ?_⟩⟩
    rw [Nat.zero_add, f1]
    match i, hy with
    | 0, hy => simp at hy; subst hy; rfl
    | 1, hy => simp at hy; subst hy; rfl
  | 1, hx =>
    simp only [sml, List.getElem?_cons_succ, List.getElem?_cons_zero, Option.some.injEq] at hx
    subst hx
    refine ⟨by decide, by decide, (d3 3).trans rfl, (d3 5).trans rfl, _, 2, 2, (d3 4).trans rfl, rfl, by omega, fun _ => ⟨w.heap.size + 2, 0, rfl, by omega, fun i y hy => ?_⟩⟩
    rw [Nat.zero_add, f2]
    match i, hy with
    | 0, hy => simp at hy; subst hy; rfl
    | 1, hy => simp at hy; subst hy; rfl

theorem sm2_start (w : World) : Steps ((w.alloc (.cells #[.bool false, .bool false] 4)).alloc (.cells #[.int .i64 1, .slice (some ⟨w.heap.size, 0, none⟩) 2 2, .bool false] 43))
    ((w.alloc (.cells #[.bool false, .bool false] 4)).alloc (.cells #[.int .i64 1, .slice (some ⟨w.heap.size, 0, none⟩) 2 2, .bool false] 43)).heap.size (some ⟨w.heap.size + 1, 0, none⟩) 1 sm2 := by
  have e1 : (w.alloc (.cells #[.bool false, .bool false] 4)).heap.size = w.heap.size + 1 := by simp
  generalize hw1 : w.alloc (.cells #[.bool false, .bool false] 4) = w1 at *
  have d0 : ∀ i, w1.cell? ⟨w.heap.size, i, none⟩ = (#[Value.bool false, .bool false] : Array Value)[i]? := fun i => by rw [← hw1]; exact World.cell?_alloc_new w _ _ i
  have e2 : (w1.alloc (.cells #[.int .i64 1, .slice (some ⟨w.heap.size, 0, none⟩) 2 2, .bool false] 43)).heap.size = w.heap.size + 2 := by simp [e1]
  generalize hw2 : w1.alloc (.cells #[.int .i64 1, .slice (some ⟨w.heap.size, 0, none⟩) 2 2, .bool false] 43) = w2 at *
  have hb2 : Below w1.heap.size w1 w2 := by rw [← hw2]; exact bla (Below.refl _ _) _
  have d1 : ∀ i, w2.cell? ⟨w.heap.size + 1, i, none⟩ = (#[Value.int .i64 1, .slice (some ⟨w.heap.size, 0, none⟩) 2 2, .bool false] : Array Value)[i]? := fun i => by rw [← hw2, ← e1]; exact World.cell?_alloc_new w1 _ _ i
  refine ⟨rfl, by omega, fun _ => ⟨_, 0, rfl, by omega, fun k x hx => ?_⟩⟩
  match k, hx with
  | 0, hx =>
    simp only [sm2, List.getElem?_cons_zero, Option.some.injEq] at hx
    subst hx
    refine ⟨by decide, by decide, (d1 0).trans rfl, (d1 2).trans rfl, _, 2, 2, (d1 1).trans rfl, rfl, by omega, fun _ => ⟨w.heap.size, 0, rfl, by omega, fun i y hy => ?_⟩⟩
    rw [Nat.zero_add, hb2.cell (by show w.heap.size < _; omega), d0]
    match i, hy with
    | 0, hy => simp at hy; subst hy; rfl
    | 1, hy => simp at hy; subst hy; rfl

theorem RaceOut.eq {w w' : World} {R : Int × Int} {e : Ending} (h : RaceOut w R e w') : e = .returned (.tuple #[.int .i64 R.1, .int .i64 R.2]) ∧ Below w.heap.size w w' := h

set_option maxRecDepth 100000 in
set_option maxHeartbeats 4000000 in
theorem small_any (w : World) : Calls Try.prog 8 #[] w fun e w' => e = .returned (.bool true) ∧ Below w.heap.size w w' := by
  have k1 : rightB 1 1 2 = true := by decide
  have k2 : rightB 1 0 0 = false := by decide
  have k3 : reach 1 1 2 = 5 := by decide
  have k4 : span 1 1 2 = 17 := by decide
  have k5 : least 1 1 2 = 18 := by decide
  have k6 : publish 200 20 1 1 2 = 146 := by decide
  have k7 : delta 20 30 1 1 2 = 118 := by decide
  have k8 : withinAll 1 1 2 10 sml = true := by decide
  have k9 : withinAll 1 1 2 10 sm2 = false := by decide
  have ka : race 10 12 sml 10 0 (decide ((12 : Int) ≤ 10 + 1)) = (13, 13) := by decide
  have kb : race 10 99 sml 10 0 (decide ((99 : Int) ≤ 10 + 1)) = (13, 0) := by decide
  have kt : total sml ≤ 1000000 := by decide
  have HM := Lib.hid (sm_start w)
  go_enter Try.func8, Try.ntmps8
  go_wp2_with fail
  refine (race_any _ 10 12 _ 2 2 sml HM.out.st kt (by omega) (by omega) (by omega) (by omega)).mono ?_
  rintro e w1 ⟨rfl, hb1⟩
  rw [ka]
  have hm1 := (HM.out).next hb1
  have x1 := hm1.c0
  have y1 := hm1.c1
  have z1 := hm1.c2
  have HM1 := Lib.hid hm1
  clear hm1 hb1
  go_wp2_with fail
  refine (race_any _ 10 99 _ 2 2 sml HM1.out.st kt (by omega) (by omega) (by omega) (by omega)).mono ?_
  rintro e w2 ⟨rfl, hb2⟩
  rw [kb]
  clear x1 y1 z1
  have hm2 := (HM1.out).next hb2
  have x2 := hm2.c0
  have y2 := hm2.c1
  have z2 := hm2.c2
  have HM2 := Lib.hid hm2
  clear hm2 hb2
  go_wp2_with fail
  refine (right_any 1 1 2 _).mono ?_
  rintro e w3 ⟨rfl, hb3⟩
  rw [k1]
  clear x2 y2 z2
  have hm3 := (HM2.out).next hb3
  have x3 := hm3.c0
  have y3 := hm3.c1
  have z3 := hm3.c2
  have HM3 := Lib.hid hm3
  clear hm3 hb3
  go_wp2_with fail
  refine (right_any 1 0 0 _).mono ?_
  rintro e w4 ⟨rfl, hb4⟩
  rw [k2]
  clear x3 y3 z3
  have hm4 := (HM3.out).next hb4
  have x4 := hm4.c0
  have y4 := hm4.c1
  have z4 := hm4.c2
  have HM4 := Lib.hid hm4
  clear hm4 hb4
  go_wp2_with fail
  refine (reach_any 1 1 2 _).mono ?_
  rintro e w5 ⟨rfl, hb5⟩
  rw [k3]
  clear x4 y4 z4
  have hm5 := (HM4.out).next hb5
  have x5 := hm5.c0
  have y5 := hm5.c1
  have z5 := hm5.c2
  have HM5 := Lib.hid hm5
  clear hm5 hb5
  go_wp2_with fail
  refine (span_any 1 1 2 _).mono ?_
  rintro e w6 ⟨rfl, hb6⟩
  rw [k4]
  clear x5 y5 z5
  have hm6 := (HM5.out).next hb6
  have x6 := hm6.c0
  have y6 := hm6.c1
  have z6 := hm6.c2
  have HM6 := Lib.hid hm6
  clear hm6 hb6
  go_wp2_with fail
  refine (least_any 1 1 2 _).mono ?_
  rintro e w7 ⟨rfl, hb7⟩
  rw [k5]
  clear x6 y6 z6
  have hm7 := (HM6.out).next hb7
  have x7 := hm7.c0
  have y7 := hm7.c1
  have z7 := hm7.c2
  have HM7 := Lib.hid hm7
  clear hm7 hb7
  go_wp2_with fail
  refine (publish_any 200 20 1 1 2 _).mono ?_
  rintro e w8 ⟨rfl, hb8⟩
  rw [k6]
  clear x7 y7 z7
  have hm8 := (HM7.out).next hb8
  have x8 := hm8.c0
  have y8 := hm8.c1
  have z8 := hm8.c2
  have HM8 := Lib.hid hm8
  clear hm8 hb8
  go_wp2_with fail
  refine (delta_any 20 30 1 1 2 _).mono ?_
  rintro e w9 ⟨rfl, hb9⟩
  rw [k7]
  clear x8 y8 z8
  have hm9 := (HM8.out).next hb9
  have x9 := hm9.c0
  have y9 := hm9.c1
  have z9 := hm9.c2
  have HM9 := Lib.hid hm9
  clear hm9 hb9
  go_wp2_with fail
  refine (within_any _ 1 1 2 10 _ 2 2 sml HM9.out.st).mono ?_
  rintro e w10 ⟨rfl, hb10⟩
  rw [k8]
  clear x9 y9 z9
  have hm10 := (HM9.out).next hb10
  have x10 := hm10.c0
  have y10 := hm10.c1
  have z10 := hm10.c2
  have HM10 := Lib.hid hm10
  clear hm10 hb10
  have HT := Lib.hid (sm2_start w10)
  go_wp2_with fail
  refine (within_any _ 1 1 2 10 _ 1 1 sm2 HT.out).mono ?_
  rintro e w11 ⟨rfl, hb11⟩
  rw [k9]
  go_wp2
  go_ret
  exact ⟨rfl, blt HM10.out.bel (blt (bla (bla (Below.refl _ _) _) _) hb11)⟩

end Go.Proofs.Ytolapebihnipdaa
