/-
  The law WhenRaces: its walk.
-/
import Derived.Test.YtolapebihnipdaaSml
import Derived.Test.YtolapebihnipdaaRace2
import Derived.Deep.RegionHeld3
import Derived.Deep.DrawnRows
namespace Go.Proofs.Ytolapebihnipdaa
open Go.RowKit
set_option linter.unusedVariables false
attribute [local go_sem ↓] Go.wp_at_zero Go.wp_at_succ

set_option maxRecDepth 100000 in
set_option maxHeartbeats 8000000 in
theorem races_any (j b n x y : Int) (A : Option Addr) (m c : Nat) (l : List St) (w : World) (hs : Steps w w.heap.size A m l) (hy : -9223372036854775808 ≤ y) : Calls Try.prog 4 #[.agg #[.int .i64 j, .int .i64 b, .int .i64 n], .int .i64 x, .int .i64 y, .slice A m c] w fun e w' => e = .returned (.bool true) ∧ Below w.heap.size w w' := by
  rcases Bool.eq_false_or_eq_true (fewB l) with hf | hf
  · obtain ⟨hf1, hf2⟩ := few_bds hf
    have h11 : m ≤ 1100 := by rw [← hs.len]; exact hf2
    have ht : total l ≤ 1000000 := by omega
    obtain ⟨a1, a2, hab⟩ : ∃ a1 a2, raceAll x y l = (a1, a2) := ⟨_, _, rfl⟩
    have HAB := Lib.hid hab
    have HSS := Lib.hid hs
    clear hab hs hf1 hf2
    go_enter Try.func4, Try.ntmps4
    go_wp2_with fail
    refine (small_any _).mono ?_
    rintro e w1 ⟨rfl, hb1⟩
    have hb0 : Below w.heap.size w w1 := blt (bla (Below.refl _ _) _) hb1
    have t3 : w.heap.size < w1.heap.size := by have := hb1.size; simp at this; omega
    have t0 : w1.cell? ⟨w.heap.size, 0, none⟩ = some (.int .i64 j) := by rw [hb1.cell (by simp)]; simp
    have t1 : w1.cell? ⟨w.heap.size, 1, none⟩ = some (.int .i64 b) := by rw [hb1.cell (by simp)]; simp
    have t2 : w1.cell? ⟨w.heap.size, 2, none⟩ = some (.int .i64 n) := by rw [hb1.cell (by simp)]; simp
    have t4 := hb0
    clear hb0 hb1
    have t5 := HSS.out.below t4
    go_wp2_with fail
    refine (few_any _ A m c l t5).mono ?_
    rintro e w2 ⟨rfl, rfl⟩
    rw [hf]
    go_wp2_with fail
    refine (race_all _ x y A m c l t5 ht hy a1 a2 HAB.out).mono ?_
    rintro e w3 ⟨rfl, hb⟩
    have u0 := (hb.cell (p := ⟨w.heap.size, 0, none⟩) t3).trans t0
    have u1 := (hb.cell (p := ⟨w.heap.size, 1, none⟩) t3).trans t1
    have u2 := (hb.cell (p := ⟨w.heap.size, 2, none⟩) t3).trans t2
    have u3 : w.heap.size < w3.heap.size := Nat.lt_of_lt_of_le t3 hb.size
    have u4 := blt t4 hb
    have u5 := t5.below hb
    clear t0 t1 t2 t3 t4 t5 hb
    go_wp2_with fail
    refine (same_any _ A m c l u5 h11).mono ?_
    rintro e w4 ⟨A1, c1, rfl, hb, hs1⟩
    have t0 := (hb.cell (p := ⟨w.heap.size, 0, none⟩) u3).trans u0
    have t1 := (hb.cell (p := ⟨w.heap.size, 1, none⟩) u3).trans u1
    have t2 := (hb.cell (p := ⟨w.heap.size, 2, none⟩) u3).trans u2
    have t3 : w.heap.size < w4.heap.size := Nat.lt_of_lt_of_le u3 hb.size
    have t4 := blt u4 hb
    have t5 := u5.below hb
    clear u0 u1 u2 u3 u4 u5 hb
    go_wp2_with fail
    refine (race_ref_all _ x y A1 m c1 l hs1 ht hy a1 a2 HAB.out).mono ?_
    rintro e w5 ⟨rfl, rfl⟩
    go_wp2_with fail
    clear hs1
    have t6 : Steps w4.drew w4.drew.heap.size A m l := t5.keep (fun _ _ => rfl) (Nat.le_refl _)
    go_region_held3 (fun wx => wx.cell? ⟨w.heap.size, 0, none⟩ = some (.int .i64 j) ∧ wx.cell? ⟨w.heap.size, 1, none⟩ = some (.int .i64 b) ∧ wx.cell? ⟨w.heap.size, 2, none⟩ = some (.int .i64 n) ∧ w.heap.size < wx.heap.size ∧ Below w.heap.size w wx ∧ Steps wx wx.heap.size A m l) (first | exact ⟨t0, t1, t2, t3, t4, t5⟩ | exact ⟨t0, t1, t2, t3, t4.drew, t6⟩) (first | (go_at_call 25; refine (within_any _ _ _ _ _ A m c l (by go_split_ands; assumption)).mono ?_; rintro e w' ⟨rfl, hb⟩; go_split_ands; have t3 : w.heap.size < w'.heap.size := Nat.lt_of_lt_of_le (by assumption) hb.size; have t0 := (hb.cell (p := ⟨w.heap.size, 0, none⟩) (by assumption)).trans (by assumption); have t1 := (hb.cell (p := ⟨w.heap.size, 1, none⟩) (by assumption)).trans (by assumption); have t2 := (hb.cell (p := ⟨w.heap.size, 2, none⟩) (by assumption)).trans (by assumption); have t4 := blt (by assumption) hb; have t5 := Steps.below (l := l) (n := m) (A := A) (by assumption) hb; clear hb) | (go_at_call 24; refine (same_any _ A m c l (by assumption) h11).mono ?_; rintro e w' ⟨A', c', rfl, hb, hs'⟩; go_split_ands; have t3 : w.heap.size < w'.heap.size := Nat.lt_of_lt_of_le (by assumption) hb.size; have t0 := (hb.cell (p := ⟨w.heap.size, 0, none⟩) (by assumption)).trans (by assumption); have t1 := (hb.cell (p := ⟨w.heap.size, 1, none⟩) (by assumption)).trans (by assumption); have t2 := (hb.cell (p := ⟨w.heap.size, 2, none⟩) (by assumption)).trans (by assumption); have t4 := blt (by assumption) hb; have t5 := Steps.below (l := l) (n := m) (A := A) (by assumption) hb; clear hb) | (go_at_call 26; refine (within_ref _ _ _ _ _ A' m c' l (by assumption)).mono ?_; rintro e w' ⟨rfl, hb⟩; go_split_ands; have t3 : w.heap.size < w'.heap.size := Nat.lt_of_lt_of_le (by assumption) hb.size; have t0 := (hb.cell (p := ⟨w.heap.size, 0, none⟩) (by assumption)).trans (by assumption); have t1 := (hb.cell (p := ⟨w.heap.size, 1, none⟩) (by assumption)).trans (by assumption); have t2 := (hb.cell (p := ⟨w.heap.size, 2, none⟩) (by assumption)).trans (by assumption); have t4 := blt (by assumption) hb; have t5 := Steps.below (l := l) (n := m) (A := A) (by assumption) hb; clear hb))
    go_split_ands
    go_wp2
    go_ret
    exact ⟨rfl, by assumption⟩
  · have HSS := Lib.hid hs
    clear hs
    go_enter Try.func4, Try.ntmps4
    go_wp2_with fail
    refine (small_any _).mono ?_
    rintro e w1 ⟨rfl, hb1⟩
    have hb0 : Below w.heap.size w w1 := blt (bla (Below.refl _ _) _) hb1
    have t3 : w.heap.size < w1.heap.size := by have := hb1.size; simp at this; omega
    have t0 : w1.cell? ⟨w.heap.size, 0, none⟩ = some (.int .i64 j) := by rw [hb1.cell (by simp)]; simp
    have t1 : w1.cell? ⟨w.heap.size, 1, none⟩ = some (.int .i64 b) := by rw [hb1.cell (by simp)]; simp
    have t2 : w1.cell? ⟨w.heap.size, 2, none⟩ = some (.int .i64 n) := by rw [hb1.cell (by simp)]; simp
    have t4 := hb0
    clear hb0 hb1
    have t5 := HSS.out.below t4
    go_wp2_with fail
    refine (few_any _ A m c l t5).mono ?_
    rintro e w2 ⟨rfl, rfl⟩
    rw [hf]
    go_wp2
    go_ret
    exact ⟨rfl, t4⟩

end Go.Proofs.Ytolapebihnipdaa
