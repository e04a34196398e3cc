/-
  The law WhenAnyway: its walk.
-/
import Derived.Test.YtolapebihnipdaaSml
import Derived.Test.YtolapebihnipdaaRace2
import Derived.Test.YtolapebihnipdaaJoin
import Derived.Deep.RegionHeld3
import Derived.Deep.DrawnRows
namespace Go.Proofs.Ytolapebihnipdaa
open Go.RowKit
set_option linter.unusedVariables false
attribute [local go_sem ↓] Go.wp_at_zero Go.wp_at_succ

theorem info43 : (Try.prog.info? 43).map (fun i => (i.zero, i.size, i.bytes)) = some (some (.agg #[.int .i64 0, .slice none 0 0, .bool false]), 3, 40) := by kernel_rfl

set_option maxRecDepth 100000 in
set_option maxHeartbeats 8000000 in
theorem anyway_any (j b n x y : Int) (A A1 A2 : Option Addr) (m c m1 c1 m2 c2 : Nat) (l l1 l2 : List St) (w : World) (hs : Steps w w.heap.size A m l) (hs1 : Steps w w.heap.size A1 m1 l1) (hs2 : Steps w w.heap.size A2 m2 l2)
    (hm : m ≤ 1048576) (hm1 : m1 ≤ 1048576) (hm2 : m2 ≤ 1048576) (hy : -9223372036854775808 ≤ y) : Calls Try.prog 6 #[.agg #[.int .i64 j, .int .i64 b, .int .i64 n], .int .i64 x, .int .i64 y, .slice A m c, .slice A1 m1 c1, .slice A2 m2 c2] w fun e w' => e = .returned (.bool true) ∧ Below w.heap.size w w' := by
  go_enter Try.func6, Try.ntmps6
  go_wp2_with fail
  refine (small_any _).mono ?_
  rintro e w1 ⟨rfl, hb1⟩
  have hb0 : Below w.heap.size w w1 := blt (bla (Below.refl _ _) _) hb1
  have t3 : w.heap.size < w1.heap.size := by have := hb1.size; simp at this; omega
  have t0 : w1.cell? ⟨w.heap.size, 0, none⟩ = some (.int .i64 j) := by rw [hb1.cell (by simp)]; simp
  have t1 : w1.cell? ⟨w.heap.size, 1, none⟩ = some (.int .i64 b) := by rw [hb1.cell (by simp)]; simp
  have t2 : w1.cell? ⟨w.heap.size, 2, none⟩ = some (.int .i64 n) := by rw [hb1.cell (by simp)]; simp
  clear hb1
  obtain ⟨i0, hi0, hz0, hz1, hz2⟩ := info_parts info43
  obtain ⟨xs, hr, hrow⟩ := hs.row
  obtain ⟨ys, hr1, hrow1⟩ := hs1.row
  obtain ⟨zs, hr2, hrow2⟩ := hs2.row
  have ll := hs.len
  have ll1 := hs1.len
  have ll2 := hs2.len
  clear hs hs1 hs2
  have HR := Lib.hid (And.intro hr (And.intro hr1 hr2))
  clear hr hr1 hr2
  go_wp2_with (first
    | (at_builtin
       refine wpList_append_any _ rfl (.tmp 22) (.tmp 23) 29 rfl w1.heap.size 43 i0 _ 3 40 Try.underlying29 hi0 hz0 hz1 hz2 rfl (by omega) (.slice (some ⟨w1.heap.size, 0, none⟩) 0 0) 0 [] rfl
         (World.ownsRow_lit w1 #[] 0 (Nat.le_refl _) (by simp [maxLen]) rfl) w.heap.size A m c xs rfl (HR.out.1.below (bla hb0 _)) hrow.one (by simp only [maxLen]; omega) (by omega) (by simp) ?_
       intro v1 wa own1 gr1 at1
       have B1 : Below w1.heap.size w1 wa := (bla (Below.refl _ _) _).grown gr1 (by simp) (fun k hk => by simp [Value.ownBlock] at hk; omega))
    | (at_builtin
       refine wpList_append_any _ rfl (.tmp 24) (.tmp 25) 29 rfl w1.heap.size 43 i0 _ 3 40 Try.underlying29 hi0 hz0 hz1 hz2 rfl (by omega) v1 (0 + m) ([] ++ xs) rfl
         own1 w.heap.size A1 m1 c1 ys rfl (HR.out.2.1.below (blt hb0 B1)) hrow1.one (by simp only [maxLen]; omega) (by omega) B1.size ?_
       intro v2 wb own2 gr2 at2
       have B2 : Below w1.heap.size w1 wb := B1.grown gr2 B1.size (fun k hk => (own1.lt k hk).1))
    | (at_builtin
       refine wpList_append_any _ rfl (.tmp 27) (.tmp 28) 29 rfl wb.heap.size 43 i0 _ 3 40 Try.underlying29 hi0 hz0 hz1 hz2 rfl (by omega) (.slice (some ⟨wb.heap.size, 0, none⟩) 0 0) 0 [] rfl
         (World.ownsRow_lit wb #[] 0 (Nat.le_refl _) (by simp [maxLen]) rfl) w.heap.size A m c xs rfl (HR.out.1.below (bla (blt hb0 B2) _)) hrow.one (by simp only [maxLen]; omega) (by omega) (by simp) ?_
       intro v3 wc own3 gr3 at3
       have B3 : Below wb.heap.size wb wc := (bla (Below.refl _ _) _).grown gr3 (by simp) (fun k hk => by simp [Value.ownBlock] at hk; omega))
    | (at_builtin
       refine wpList_append_any _ rfl (.tmp 29) (.tmp 30) 29 rfl wb.heap.size 43 i0 _ 3 40 Try.underlying29 hi0 hz0 hz1 hz2 rfl (by omega) v3 (0 + m) ([] ++ xs) rfl
         own3 w.heap.size A2 m2 c2 zs rfl (HR.out.2.2.below (blt (blt hb0 B2) B3)) hrow2.one (by simp only [maxLen]; omega) (by omega) B3.size ?_
       intro v4 wd own4 gr4 at4
       have B4 : Below wb.heap.size wb wd := B3.grown gr4 B3.size (fun k hk => (own3.lt k hk).1)))
  obtain ⟨NX, hNX⟩ : ∃ N, N = m + m1 := ⟨_, rfl⟩
  obtain ⟨NY, hNY⟩ : ∃ N, N = m + m2 := ⟨_, rfl⟩
  rw [Nat.zero_add, List.nil_append, ← hNX] at own2
  rw [Nat.zero_add, List.nil_append, ← hNY] at own4
  have r1 : Row wb w.heap.size (xs ++ ys) (l ++ l1) := (hrow.append hrow1).keep (fun p hp => (blt hb0 B2).cell hp) (Nat.le_refl _)
  obtain ⟨AX, cX, rfl, sX⟩ := r1.steps (n := NX) own2 (blt hb0 B2).size (by simp; omega) (by omega)
  have r2 : Row wd w.heap.size (xs ++ zs) (l ++ l2) := (hrow.append hrow2).keep (fun p hp => (blt (blt hb0 B2) B4).cell hp) (Nat.le_refl _)
  obtain ⟨AY, cY, rfl, sY⟩ := r2.steps (n := NY) own4 (blt (blt hb0 B2) B4).size (by simp; omega) (by omega)
  have sX := sX.below B4
  have t0 := (B2.cell (p := ⟨w.heap.size, 0, none⟩) t3).trans t0
  have t1 := (B2.cell (p := ⟨w.heap.size, 1, none⟩) t3).trans t1
  have t2 := (B2.cell (p := ⟨w.heap.size, 2, none⟩) t3).trans t2
  have t3 : w.heap.size < wb.heap.size := Nat.lt_of_lt_of_le t3 B2.size
  have t0 := (B4.cell (p := ⟨w.heap.size, 0, none⟩) t3).trans t0
  have t1 := (B4.cell (p := ⟨w.heap.size, 1, none⟩) t3).trans t1
  have t2 := (B4.cell (p := ⟨w.heap.size, 2, none⟩) t3).trans t2
  have t3 : w.heap.size < wd.heap.size := Nat.lt_of_lt_of_le t3 B4.size
  have t4 : Below w.heap.size w wd := blt (blt hb0 B2) B4
  clear r1 r2 own1 own2 own3 own4 gr1 gr2 gr3 gr4 at1 at2 at3 at4 B1 B2 B3 B4 hb0 HR hrow hrow1 hrow2 hi0 hz0 hz1 hz2
  obtain ⟨LX, hLX⟩ : ∃ L, L = l ++ l1 := ⟨_, rfl⟩
  obtain ⟨LY, hLY⟩ : ∃ L, L = l ++ l2 := ⟨_, rfl⟩
  rw [← hLX] at sX
  rw [← hLY] at sY
  clear hLX hLY
  have HNX := Lib.hid (And.intro hNX hNY)
  clear hNX hNY ll ll1 ll2
  refine (few_any _ AX _ cX LX sX).mono ?_
  rintro e w2 ⟨rfl, rfl⟩
  rcases hf1 : fewB LX with _ | _
  · go_wp2_with fail
    go_ret
    exact ⟨rfl, t4⟩
  · go_wp2_with fail
    refine (few_any _ AY _ cY LY sY).mono ?_
    rintro e w2 ⟨rfl, rfl⟩
    rcases hf2 : fewB LY with _ | _
    · go_wp2_with fail
      go_ret
      exact ⟨rfl, t4⟩
    · go_wp2_with fail
      refine (within_any _ j b n x AX _ cX LX sX).mono ?_
      rintro e w3 ⟨rfl, hb⟩
      have t0 := (hb.cell (p := ⟨w.heap.size, 0, none⟩) t3).trans t0
      have t1 := (hb.cell (p := ⟨w.heap.size, 1, none⟩) t3).trans t1
      have t2 := (hb.cell (p := ⟨w.heap.size, 2, none⟩) t3).trans t2
      have t3 : w.heap.size < w3.heap.size := Nat.lt_of_lt_of_le t3 hb.size
      have t4 := blt t4 hb
      have sX := sX.below hb
      have sY := sY.below hb
      clear hb
      rcases hw1 : withinAll j b n x LX with _ | _
      · go_wp2_with fail
        go_ret
        exact ⟨rfl, t4⟩
      · go_wp2_with fail
        refine (within_any _ j b n x AY _ cY LY sY).mono ?_
        rintro e w4 ⟨rfl, hb⟩
        have t0 := (hb.cell (p := ⟨w.heap.size, 0, none⟩) t3).trans t0
        have t1 := (hb.cell (p := ⟨w.heap.size, 1, none⟩) t3).trans t1
        have t2 := (hb.cell (p := ⟨w.heap.size, 2, none⟩) t3).trans t2
        have t3 : w.heap.size < w4.heap.size := Nat.lt_of_lt_of_le t3 hb.size
        have t4 := blt t4 hb
        have sX := sX.below hb
        have sY := sY.below hb
        clear hb
        rcases hw2 : withinAll j b n x LY with _ | _
        · go_wp2_with fail
          go_ret
          exact ⟨rfl, t4⟩
        · by_cases c1 : y < x
          · have d1 : decide (y < x) = true := decide_eq_true c1
            go_wp2_with fail
            go_ret
            exact ⟨rfl, t4⟩
          · by_cases c2 : 1048576 < y
            · have d1 : decide (y < x) = false := decide_eq_false c1
              have d2 : decide (1048576 < y) = true := decide_eq_true c2
              go_wp2_with fail
              go_ret
              exact ⟨rfl, t4⟩
            · have d1 : decide (y < x) = false := decide_eq_false c1
              have d2 : decide (1048576 < y) = false := decide_eq_false c2
              have hR1 := reaches j b n x y LX hw1 (by omega) (by omega)
              have hR2 := reaches j b n x y LY hw2 (by omega) (by omega)
              have hrb : rightB j b n = true := by
                simp only [withinAll, Bool.and_eq_true] at hw1
                exact hw1.1.1.1
              have hxb : heightB x = true := by
                simp only [withinAll, Bool.and_eq_true] at hw1
                exact hw1.1.1.2
              obtain ⟨g1, g2, g3, g4, g5, g6⟩ := right_bds hrb
              obtain ⟨g7, g8⟩ := height_bds hxb
              have hrv : reach j b n = n + j + b + 1 := by simp [reach, hrb]
              have hr1 : 0 ≤ reach j b n := by omega
              have hr2 : reach j b n ≤ 3001 := by omega
              clear hrv g1 g2 g3 g4 g5 g6 hrb hxb hw1 hw2
              have ht1 : total LX ≤ 1000000 := by have := (few_bds hf1).1; omega
              have ht2 : total LY ≤ 1000000 := by have := (few_bds hf2).1; omega
              clear hf1 hf2
              obtain ⟨a1, a2, hab⟩ : ∃ a1 a2, raceAll x y LX = (a1, a2) := ⟨_, _, rfl⟩
              obtain ⟨b1, b2, hbb⟩ : ∃ b1 b2, raceAll x y LY = (b1, b2) := ⟨_, _, rfl⟩
              rw [hab] at hR1
              rw [hbb] at hR2
              have HAB := Lib.hid hab
              have HBB := Lib.hid hbb
              have HR1 := Lib.hid hR1
              have HR2 := Lib.hid hR2
              clear hab hbb hR1 hR2
              obtain ⟨RR, hRR⟩ : ∃ RR, RR = reach j b n := ⟨_, rfl⟩
              rw [← hRR] at hr1 hr2
              have HRR := Lib.hid hRR
              clear hRR
              go_wp2_with fail
              refine (race_all _ x y AX _ cX LX sX ht1 hy a1 a2 HAB.out).mono ?_
              rintro e w5 ⟨rfl, hb⟩
              have t0 := (hb.cell (p := ⟨w.heap.size, 0, none⟩) t3).trans t0
              have t1 := (hb.cell (p := ⟨w.heap.size, 1, none⟩) t3).trans t1
              have t2 := (hb.cell (p := ⟨w.heap.size, 2, none⟩) t3).trans t2
              have t3 : w.heap.size < w5.heap.size := Nat.lt_of_lt_of_le t3 hb.size
              have t4 := blt t4 hb
              have sX := sX.below hb
              have sY := sY.below hb
              clear hb
              go_wp2_with fail
              refine (race_all _ x y AY _ cY LY sY ht2 hy b1 b2 HBB.out).mono ?_
              rintro e w6 ⟨rfl, hb⟩
              have t0 := (hb.cell (p := ⟨w.heap.size, 0, none⟩) t3).trans t0
              have t1 := (hb.cell (p := ⟨w.heap.size, 1, none⟩) t3).trans t1
              have t2 := (hb.cell (p := ⟨w.heap.size, 2, none⟩) t3).trans t2
              have t3 : w.heap.size < w6.heap.size := Nat.lt_of_lt_of_le t3 hb.size
              have t4 := blt t4 hb
              clear hb sX sY
              go_wp2_with fail
              refine (reach_any j b n _).mono ?_
              rintro e w7 ⟨rfl, hb⟩
              rw [← HRR.out]
              have t4 := blt t4 hb
              clear hb t0 t1 t2 t3
              by_cases c3 : a1 < y + RR
              · have d3 : decide (a1 < y + RR) = true := decide_eq_true c3
                go_wp2_with fail
                go_ret
                exact ⟨rfl, t4⟩
              · have d3 : decide (a1 < y + RR) = false := decide_eq_false c3
                by_cases c4 : b1 < y + RR
                · have d4 : decide (b1 < y + RR) = true := decide_eq_true c4
                  go_wp2_with fail
                  go_ret
                  exact ⟨rfl, t4⟩
                · have d4 : decide (b1 < y + RR) = false := decide_eq_false c4
                  have h7 := HR1.out.2 (by rw [← HRR.out]; omega)
                  have h8 := HR2.out.2 (by rw [← HRR.out]; omega)
                  rw [← HRR.out] at h7 h8
                  obtain ⟨k1, k2⟩ := h7
                  obtain ⟨k3, k4⟩ := h8
                  have k5 : y ≤ a2 := by
                    have h1 := HR1.out.1
                    omega
                  have k6 : y ≤ b2 := by
                    have h1 := HR2.out.1
                    omega
                  have d5 : decide (y ≤ a2) = true := decide_eq_true k5
                  have d6 : decide (y ≤ b2) = true := decide_eq_true k6
                  have d7 : decide (a2 < y + RR) = true := decide_eq_true k2
                  have d8 : decide (b2 < y + RR) = true := decide_eq_true k4
                  go_wp2_with fail
                  go_ret
                  exact ⟨rfl, t4⟩
end Go.Proofs.Ytolapebihnipdaa
