/-
  Fractions: Pow, of a power from 0 to 64.
-/
import Derived.Test.YthkgeafidbihmaaGreatDoorFracP
namespace Go.Proofs.YthkgeafidbihmaaGreatDoor
open Go.RowKit Go.Shelf
set_option linter.unusedVariables false
set_option linter.unusedSimpArgs false
attribute [local go_sem] Oper.semAt_some
attribute [local go_sem ↓] Go.wp_at_zero Go.wp_at_succ

theorem fpow_any (w : World) (A B : Option Addr) (n c m d : Nat) (l k : List Nat) (h1 : Rd w w.heap.size A n c l) (h2 : Rd w w.heap.size B m d k) (hn : n ≤ 200) (hm : m ≤ 200) (z : Nat) (hz : z ≤ 64) :
    Calls Tryz.prog 14 #[.agg #[.slice A n c, .slice B m d], .int .i64 z] w (RetFrO w true (frN l k ^ z) (frD l k ^ z)) := by
  have HL := Lib.hid (And.intro (frN_len (k := k) h1.dig) (And.intro (frD_len (l := l) h2.dig) (And.intro h1.len h2.len)))
  obtain ⟨w0, hw0⟩ : ∃ w0, w0 = (w.alloc (.cells #[.slice A n c, .slice B m d] 24)).alloc (.cells #[.slice none 0 0, .slice none 0 0] 24) := ⟨_, rfl⟩
  have hb0 : Below w.heap.size w w0 := by rw [hw0]; exact ((Below.refl _ _).alloc (Nat.le_refl _) _).alloc (by simp) _
  have B0 : Blk w0 w.heap.size 24 #[.slice A n c, .slice B m d] := by rw [hw0]; exact (Blk.new w _ _).alloc _
  have R0 : Blk w0 (w.heap.size + 1) 24 #[.slice none 0 0, .slice none 0 0] := by
    rw [hw0]
    have := Blk.new (w.alloc (.cells #[.slice A n c, .slice B m d] 24)) 24 #[.slice none 0 0, .slice none 0 0]
    rw [World.size_alloc] at this
    exact this
  have h1 := h1.on hb0
  have h2 := h2.on hb0
  have hc0 := B0.cell 0
  have hc1 := B0.cell 1
  have hz1 : decide ((z : Int) < 0) = false := decide_eq_false (by omega)
  have hz2 : decide ((64 : Int) < z) = false := decide_eq_false (by omega)
  go_enter Tryz.func14, Tryz.ntmps14
  go_wp2_with fail
  rw [← hw0]
  clear hw0
  go_wp2_with fail
  refine (ftaken_any _ _ _ _ _ _ _ _ _ h1 h2 (by omega) (by omega)).mono ?_
  rintro e w1 ⟨A2, n2, c2, B2, m2, d2, rfl, r1, r2, hb⟩
  have B1 := B0.below hb B0.lt
  have R1 := R0.below hb R0.lt
  have hb1 := bltB hb0 hb0.size hb
  have hn2 : n2 ≤ 201 := by have h1 := r1.len; have h2 := HL.out; omega
  have hm2 : m2 ≤ 201 := by have h1 := r2.len; have h2 := HL.out; omega
  have hf0 := B1.frozen 0
  have hf1 := B1.frozen 1
  have hc0 := B1.cell 0
  have hc1 := B1.cell 1
  obtain ⟨h4, r1, r2, hb4⟩ := fr_store B1 r1 r2 hb1 (by omega)
  have R4 := (R1.far (p := ⟨w.heap.size, 0, none⟩) (by simp) (.slice A2 n2 c2)).far (p := ⟨w.heap.size, 1, none⟩) (by simp) (.slice B2 m2 d2)
  clear hb B0 hb0 h1 h2 R0 R1
  go_wp2_with fail
  generalize (w1.setCell ⟨w.heap.size, 0, none⟩ (.slice A2 n2 c2)).setCell ⟨w.heap.size, 1, none⟩ (.slice B2 m2 d2) = W3 at *
  clear hf0 hf1 B1 hb1 hc0 hc1
  go_wp2_with fail
  refine (one_any _).mono ?_
  rintro e w4 ⟨A3, n3, c3, rfl, x1, hb⟩
  have h4 := h4.below hb h4.lt
  have R5 := R4.below hb R4.lt
  have r1 := r1.on hb
  have r2 := r2.on hb
  have hb5 := bltB hb4 hb4.size hb
  clear hb R4 hb4
  go_wp2_with fail
  refine (one_any _).mono ?_
  rintro e w5 ⟨A4, n4, c4, rfl, y1, hb⟩
  have h4 := h4.below hb h4.lt
  have R6 := R5.below hb R5.lt
  have r1 := r1.on hb
  have r2 := r2.on hb
  have x1 := x1.on hb
  have hb6 := bltB hb5 hb5.size hb
  clear hb R5 hb5
  go_wp2_with fail
  -- LOOP
  have hB : Blk w5 w.heap.size 24 #[.slice A2 n2 c2, .slice B2 m2 d2] := h4
  clear h4
  go_loopw [6, 7, 20] (fun xv yv iv wr => ∃ (i : Nat) (A3 A4 : Option Addr) (n3 c3 n4 c4 : Nat), i ≤ z ∧ iv = .int .i64 i ∧ xv = .slice A3 n3 c3 ∧ yv = .slice A4 n4 c4 ∧ n3 ≤ 201 * i + 1 ∧ n4 ≤ 201 * i + 1 ∧ Hid (Rd wr wr.heap.size A3 n3 c3 (digs (frN l k ^ i))) ∧ Hid (Rd wr wr.heap.size A4 n4 c4 (digs (frD l k ^ i))) ∧ Hid (Rd wr wr.heap.size A2 n2 c2 (digs (frN l k))) ∧ Hid (Rd wr wr.heap.size B2 m2 d2 (digs (frD l k))) ∧ Hid (Blk wr w.heap.size 24 #[.slice A2 n2 c2, .slice B2 m2 d2]) ∧ Hid (Blk wr (w.heap.size + 1) 24 #[.slice none 0 0, .slice none 0 0]) ∧ Hid (Below w.heap.size w wr)) (fun _ _ iv _ => z - (intOf iv).toNat)
  case atStart =>
    have l1 : (digs 1).length ≤ 1 := digs_len_le (by decide)
    exact ⟨0, A3, A4, n3, c3, n4, c4, Nat.zero_le _, rfl, rfl, rfl, by have := x1.len; omega, by have := y1.len; omega, by rw [Nat.pow_zero]; exact x1, by rw [Nat.pow_zero]; exact y1, r1, r2, hB, R6, hb6⟩
  case round =>
    clear x1 y1 r1 r2 hB R6 hb6
    obtain ⟨i, A3, A4, n3, c3, n4, c4, hi, rfl, rfl, rfl, hn3, hn4, x1, y1, r1, r2, h4, R6, hb6⟩ := hrel
    have x1 := x1.out
    have y1 := y1.out
    have r1 := r1.out
    have r2 := r2.out
    have h4 := h4.out
    have R6 := R6.out
    have hb6 := hb6.out
    by_cases hlt : i < z
    · have hl : decide ((i : Int) < z) = true := decide_eq_true (by omega)
      go_wp2_with fail
      have h4 := h4.drew
      have R6 := R6.drew
      have x1 := x1.drew
      have y1 := y1.drew
      have r1 := r1.drew
      have r2 := r2.drew
      have hb6 := hb6.drew
      have hS : wr.drew.cell? ⟨w.heap.size, 0, none⟩ = some (.slice A2 n2 c2) ∧ wr.drew.cell? ⟨w.heap.size, 1, none⟩ = some (.slice B2 m2 d2) := ⟨h4.cell 0, h4.cell 1⟩
      refine wp_region_noPanic ?_
      refine ord_begin 8 (fun wx => wx.cell? ⟨w.heap.size, 0, none⟩ = some (.slice A2 n2 c2) ∧ wx.cell? ⟨w.heap.size, 1, none⟩ = some (.slice B2 m2 d2)) (by kernel_rfl) ?_
      refine ord_take (i := 0) (v := ?_) (by kernel_rfl) rfl (by decide) (by kernel_rfl) (by kernel_rfl) (fun _ _ _ h => h) (Or.inl ⟨by rfl, ?_⟩) hS ?_
      rotate_left
      · intro wz hz; (try dsimp only at hz); (try go_split_ands); go_simp; (try with_reducible rfl)
      try simp only [Act.put, List.getElem_toArray, List.getElem_cons_zero, List.getElem_cons_succ, List.setIfInBounds_toArray, List.set_cons_zero, List.set_cons_succ]
      refine ord_take (i := 1) (v := ?_) (by kernel_rfl) rfl (by decide) (by kernel_rfl) (by kernel_rfl) (fun _ _ _ h => h) (Or.inl ⟨by rfl, ?_⟩) hS ?_
      rotate_left
      · intro wz hz; (try dsimp only at hz); (try go_split_ands); go_simp; (try with_reducible rfl)
      try simp only [Act.put, List.getElem_toArray, List.getElem_cons_zero, List.getElem_cons_succ, List.setIfInBounds_toArray, List.set_cons_zero, List.set_cons_succ]
      refine ord_take (i := 2) (v := ?_) (by kernel_rfl) rfl (by decide) (by kernel_rfl) (by kernel_rfl) (fun _ _ _ h => h) (Or.inl ⟨by rfl, ?_⟩) hS ?_
      rotate_left
      · intro wz hz; (try dsimp only at hz); (try go_split_ands); go_simp; (try with_reducible rfl)
      try simp only [Act.put, List.getElem_toArray, List.getElem_cons_zero, List.getElem_cons_succ, List.setIfInBounds_toArray, List.set_cons_zero, List.set_cons_succ]
      refine ord_take (i := 4) (v := ?_) (by kernel_rfl) rfl (by decide) (by kernel_rfl) (by kernel_rfl) (fun _ _ _ h => h) (Or.inl ⟨by rfl, ?_⟩) hS ?_
      rotate_left
      · intro wz hz; (try dsimp only at hz); (try go_split_ands); go_simp; (try with_reducible rfl)
      try simp only [Act.put, List.getElem_toArray, List.getElem_cons_zero, List.getElem_cons_succ, List.setIfInBounds_toArray, List.set_cons_zero, List.set_cons_succ]
      refine ord_take (i := 5) (v := ?_) (by kernel_rfl) rfl (by decide) (by kernel_rfl) (by kernel_rfl) (fun _ _ _ h => h) (Or.inl ⟨by rfl, ?_⟩) hS ?_
      rotate_left
      · intro wz hz; (try dsimp only at hz); (try go_split_ands); go_simp; (try with_reducible rfl)
      try simp only [Act.put, List.getElem_toArray, List.getElem_cons_zero, List.getElem_cons_succ, List.setIfInBounds_toArray, List.set_cons_zero, List.set_cons_succ]
      refine ord_take (i := 6) (v := ?_) (by kernel_rfl) rfl (by decide) (by kernel_rfl) (by kernel_rfl) (fun _ _ _ h => h) (Or.inl ⟨by rfl, ?_⟩) hS ?_
      rotate_left
      · intro wz hz; (try dsimp only at hz); (try go_split_ands); go_simp; (try with_reducible rfl)
      try simp only [Act.put, List.getElem_toArray, List.getElem_cons_zero, List.getElem_cons_succ, List.setIfInBounds_toArray, List.set_cons_zero, List.set_cons_succ]
      refine ord_step (i := 3) rfl (by decide) (by kernel_rfl) (by rfl) (fun K hK => ?_)
      go_simp
      refine (mul_any _ _ _ _ _ _ _ _ _ x1 r1 (by omega) (by omega)).mono ?_
      rintro e X1 ⟨A_x, n_x, c_x, rfl, r_x, hb⟩
      rw [tv_digs, tv_digs] at r_x
      have y1 := y1.on hb
      have r1 := r1.on hb
      have r2 := r2.on hb
      have h4 := h4.below hb h4.lt
      have R6 := R6.below hb R6.lt
      have hb6 := bltB hb6 hb6.size hb
      have hS_x : X1.cell? ⟨w.heap.size, 0, none⟩ = some (.slice A2 n2 c2) ∧ X1.cell? ⟨w.heap.size, 1, none⟩ = some (.slice B2 m2 d2) := ⟨h4.cell 0, h4.cell 1⟩
      clear hb
      refine hK _ _ hS_x ?_
      clear hK K
      try simp only [Act.put, List.getElem_toArray, List.getElem_cons_zero, List.getElem_cons_succ, List.setIfInBounds_toArray, List.set_cons_zero, List.set_cons_succ]
      refine ord_step (i := 7) rfl (by decide) (by kernel_rfl) (by rfl) (fun K hK => ?_)
      go_simp
      refine (mul_any _ _ _ _ _ _ _ _ _ y1 r2 (by omega) (by omega)).mono ?_
      rintro e X2 ⟨A_y, n_y, c_y, rfl, r_y, hb⟩
      rw [tv_digs, tv_digs] at r_y
      have r_x := r_x.on hb
      have r1 := r1.on hb
      have r2 := r2.on hb
      have h4 := h4.below hb h4.lt
      have R6 := R6.below hb R6.lt
      have hb6 := bltB hb6 hb6.size hb
      have hS_y : X2.cell? ⟨w.heap.size, 0, none⟩ = some (.slice A2 n2 c2) ∧ X2.cell? ⟨w.heap.size, 1, none⟩ = some (.slice B2 m2 d2) := ⟨h4.cell 0, h4.cell 1⟩
      clear hb
      refine hK _ _ hS_y ?_
      clear hK K
      try simp only [Act.put, List.getElem_toArray, List.getElem_cons_zero, List.getElem_cons_succ, List.setIfInBounds_toArray, List.set_cons_zero, List.set_cons_succ]
      refine ord_rest (by kernel_rfl) ?_
      refine wpAny_take (i := 8) (v := ?_) rfl (by kernel_rfl) (by kernel_rfl) (by kernel_rfl) (fun _ _ _ h => h) (Or.inl ⟨by rfl, ?_⟩) ?_
      rotate_left
      · intro wz; go_simp; (try with_reducible rfl)
      try simp only [Act.put, List.getElem_toArray, List.getElem_cons_zero, List.getElem_cons_succ, List.setIfInBounds_toArray, List.set_cons_zero, List.set_cons_succ]
      refine wpAny_take (i := 9) (v := ?_) rfl (by kernel_rfl) (by kernel_rfl) (by kernel_rfl) (fun _ _ _ h => h) (Or.inl ⟨by rfl, ?_⟩) ?_
      rotate_left
      · intro wz; go_simp; (try with_reducible rfl)
      try simp only [Act.put, List.getElem_toArray, List.getElem_cons_zero, List.getElem_cons_succ, List.setIfInBounds_toArray, List.set_cons_zero, List.set_cons_succ]
      refine wpAny_done (by kernel_rfl) ?_ _
      refine NoPanic.normal ?_
      have hnx : n_x ≤ 201 * (i + 1) + 1 := by have h1 := len_mul (frN l k ^ i) (frN l k); have h2 := r_x.len; have h3 := r1.len; have h5 := x1.len; omega
      have hny : n_y ≤ 201 * (i + 1) + 1 := by have h1 := len_mul (frD l k ^ i) (frD l k); have h2 := r_y.len; have h3 := r2.len; have h5 := y1.len; omega
      have r_x : Hid (Rd X2 X2.heap.size A_x n_x c_x (digs (frN l k ^ (i + 1)))) := Lib.hid (by rw [Nat.pow_succ]; exact r_x)
      have r_y : Hid (Rd X2 X2.heap.size A_y n_y c_y (digs (frD l k ^ (i + 1)))) := Lib.hid (by rw [Nat.pow_succ]; exact r_y)
      have r1 := Lib.hid r1
      have r2 := Lib.hid r2
      have h4 := Lib.hid h4
      have R6 := Lib.hid R6
      have hb6 := Lib.hid hb6
      clear x1 y1 hS hS_x hS_y
      go_wp2_with fail
      go_roundw
      case rel => exact ⟨i + 1, A_x, A_y, n_x, c_x, n_y, c_y, by omega, by go_num, rfl, rfl, hnx, hny, r_x, r_y, r1, r2, h4, R6, hb6⟩
      case measure => simp [intOf]; omega
    · have hiz : i = z := by omega
      subst hiz
      have hl : decide ((i : Int) < i) = false := decide_eq_false (by omega)
      clear r1 r2 h4
      go_wp2_with fail
      refine (flow_any _ _ _ _ _ _ _ _ _ x1 y1 (by omega) (by omega) (Nat.pow_pos (frD_pos _ _))).mono ?_
      rintro e w6 ⟨A5, n5, c5, B5, m5, d5, rfl, s1, s2, hb⟩
      have R7 := R6.below hb R6.lt
      have hb7 := bltB hb6 hb6.size hb
      clear hb R6 hb6 x1 y1
      have hc0 := R7.cell 0
      have hc1 := R7.cell 1
      have hf0 := R7.frozen 0
      have hf1 := R7.frozen 1
      obtain ⟨j5, t1, t2, hb8⟩ := fr_store R7 s1 s2 hb7 (by omega)
      go_wp2_with fail
      refine bodyPost_ret (v := .tuple #[.agg #[.slice A5 n5 c5, .slice B5 m5 d5], .bool true]) ?_ rfl ?_
      · have e0 := j5.cell 0
        have e1 := j5.cell 1
        simp [results, Tryz.f14, go_sem, e0, e1]
      · exact ⟨A5, n5, c5, B5, m5, d5, rfl, t1, t2, hb8⟩

end Go.Proofs.YthkgeafidbihmaaGreatDoor
