/-
  Fractions: Quo.
-/
import Derived.Test.YthkgeafidbihmaaGreatDoorFracA
namespace Go.Proofs.YthkgeafidbihmaaGreatDoor
open Go.RowKit Go.Shelf
set_option linter.unusedVariables false
set_option linter.unusedSimpArgs false
attribute [local go_sem] Oper.semAt_some

theorem digs_len_of {n : Nat} (h : 0 < n) : 0 < (digs n).length := by
  rw [digs_pos (by omega)]
  simp
theorem digs_len_pos {n : Nat} (h : 0 < (digs n).length) : 0 < n := by
  rcases Nat.eq_zero_or_pos n with h0 | h0
  · subst h0
    rw [digs_zero] at h
    simp at h
  · exact h0

set_option maxRecDepth 100000 in
set_option maxHeartbeats 2000000 in
theorem fquo_any (w : World) (A1 B1 A2 B2' : Option Addr) (n1 c1 m1 d1 n2 c2 m2 d2 : Nat) (l1 k1 l2 k2 : List Nat) (h1 : Rd w w.heap.size A1 n1 c1 l1) (g1 : Rd w w.heap.size B1 m1 d1 k1) (h2 : Rd w w.heap.size A2 n2 c2 l2) (g2 : Rd w w.heap.size B2' m2 d2 k2)
    (hn1 : n1 ≤ 25000) (hm1 : m1 ≤ 25000) (hn2 : n2 ≤ 25000) (hm2 : m2 ≤ 25000) :
    Calls Tryz.prog 13 #[.agg #[.slice A1 n1 c1, .slice B1 m1 d1], .agg #[.slice A2 n2 c2, .slice B2' m2 d2]] w (RetFrO w (decide (0 < frN l2 k2)) (frN l1 k1 * frD l2 k2) (frD l1 k1 * frN l2 k2)) := by
  obtain ⟨w0, hw0⟩ : ∃ w0, w0 = ((w.alloc (.cells #[.slice A1 n1 c1, .slice B1 m1 d1] 24)).alloc (.cells #[.slice A2 n2 c2, .slice B2' m2 d2] 24)).alloc (.cells #[.slice none 0 0, .slice none 0 0] 24) := ⟨_, rfl⟩
  have hb0 : Below w.heap.size w w0 := by rw [hw0]; exact (((Below.refl _ _).alloc (Nat.le_refl _) _).alloc (by simp) _).alloc (by simp; omega) _
  have J0 : B2 w0 w.heap.size A1 n1 c1 B1 m1 d1 A2 n2 c2 B2' m2 d2 := by
    rw [hw0]
    refine ⟨((Blk.new w _ _).alloc _).alloc _, Blk.alloc ?_ _⟩
    have := Blk.new (w.alloc (.cells #[.slice A1 n1 c1, .slice B1 m1 d1] 24)) 24 #[.slice A2 n2 c2, .slice B2' m2 d2]
    rw [World.size_alloc] at this
    exact this
  have R0 : Blk w0 (w.heap.size + 2) 24 #[.slice none 0 0, .slice none 0 0] := by
    rw [hw0]
    have := Blk.new ((w.alloc (.cells #[.slice A1 n1 c1, .slice B1 m1 d1] 24)).alloc (.cells #[.slice A2 n2 c2, .slice B2' m2 d2] 24)) 24 #[.slice none 0 0, .slice none 0 0]
    rw [World.size_alloc, World.size_alloc] at this
    exact this
  have h1 := (h1.on hb0).drew
  have g1 := (g1.on hb0).drew
  have h2 := (h2.on hb0).drew
  have g2 := (g2.on hb0).drew
  have J0 : B2 w0.drew w.heap.size A1 n1 c1 B1 m1 d1 A2 n2 c2 B2' m2 d2 := ⟨J0.a.drew, J0.b.drew⟩
  have R0 := R0.drew
  have hb0 := hb0.drew
  have HL := Lib.hid (And.intro (frN_len (k := k1) h1.dig) (And.intro (frD_len (l := l1) g1.dig) (And.intro (frN_len (k := k2) h2.dig) (And.intro (frD_len (l := l2) g2.dig) (And.intro h1.len (And.intro g1.len (And.intro h2.len g2.len)))))))
  go_enter Tryz.func13, Tryz.ntmps13
  go_wp2_with fail
  rw [← hw0]
  clear hw0
  have hS := J0.s
  unfold S4 at hS
  refine wp_region_noPanic ?_
  refine ord_begin 4 (fun wx => wx.cell? ⟨w.heap.size, 0, none⟩ = some (.slice A1 n1 c1) ∧ wx.cell? ⟨w.heap.size, 1, none⟩ = some (.slice B1 m1 d1) ∧ wx.cell? ⟨w.heap.size + 1, 0, none⟩ = some (.slice A2 n2 c2) ∧ wx.cell? ⟨w.heap.size + 1, 1, none⟩ = some (.slice B2' m2 d2)) (by kernel_rfl) ?_
  refine ord_take (i := 0) (v := ?_) (by kernel_rfl) rfl (by decide) (by kernel_rfl) (by kernel_rfl) (fun _ _ _ h => h) (Or.inl ⟨by rfl, ?_⟩) hS ?_
  rotate_left
  · intro wz hz; (try dsimp only at hz); (try go_split_ands); go_simp; (try with_reducible rfl)
  try simp only [Act.put, List.getElem_toArray, List.getElem_cons_zero, List.getElem_cons_succ, List.setIfInBounds_toArray, List.set_cons_zero, List.set_cons_succ]
  refine ord_take (i := 2) (v := ?_) (by kernel_rfl) rfl (by decide) (by kernel_rfl) (by kernel_rfl) (fun _ _ _ h => h) (Or.inl ⟨by rfl, ?_⟩) hS ?_
  rotate_left
  · intro wz hz; (try dsimp only at hz); (try go_split_ands); go_simp; (try with_reducible rfl)
  try simp only [Act.put, List.getElem_toArray, List.getElem_cons_zero, List.getElem_cons_succ, List.setIfInBounds_toArray, List.set_cons_zero, List.set_cons_succ]
  refine ord_step (i := 1) rfl (by decide) (by kernel_rfl) (by rfl) (fun K hK => ?_)
  go_simp
  refine (ftaken_any _ _ _ _ _ _ _ _ _ h1 g1 (by omega) (by omega)).mono ?_
  rintro e W1 ⟨A3, n3, c3, B3, m3, d3, rfl, q1, q2, hb⟩
  have J1 := J0.on hb
  have R1 := R0.below hb R0.lt
  have h2 := h2.on hb
  have g2 := g2.on hb
  have hb1 := bltB hb0 hb0.size hb
  have hS1 := J1.s
  unfold S4 at hS1
  clear hb hb0 J0 R0 h1 g1
  refine hK _ _ hS1 ?_
  clear hK K
  try simp only [Act.put, List.getElem_toArray, List.getElem_cons_zero, List.getElem_cons_succ, List.setIfInBounds_toArray, List.set_cons_zero, List.set_cons_succ]
  refine ord_step (i := 3) rfl (by decide) (by kernel_rfl) (by rfl) (fun K hK => ?_)
  go_simp
  refine (ftaken_any _ _ _ _ _ _ _ _ _ h2 g2 (by omega) (by omega)).mono ?_
  rintro e W2 ⟨A4, n4, c4, B4, m4, d4, rfl, q3, q4, hb⟩
  have J2 := J1.on hb
  have R2 := R1.below hb R1.lt
  have q1 := q1.on hb
  have q2 := q2.on hb
  have hb2 := bltB hb1 hb1.size hb
  have hS2 := J2.s
  unfold S4 at hS2
  clear hb hb1 J1 R1 h2 g2 hS1 hS
  refine hK _ _ hS2 ?_
  clear hK K
  try simp only [Act.put, List.getElem_toArray, List.getElem_cons_zero, List.getElem_cons_succ, List.setIfInBounds_toArray, List.set_cons_zero, List.set_cons_succ]
  refine ord_rest (by kernel_rfl) ?_
  obtain ⟨j1, j2, p1, p2, p3, p4, hb3⟩ := fr_store2 J2.a J2.b (by omega) q1 q2 q3 q4 hb2 (Nat.le_refl _)
  have R3 := (R2.far (p := ⟨w.heap.size, 0, none⟩) (by simp) (.slice A3 n3 c3)).far (p := ⟨w.heap.size, 1, none⟩) (by simp) (.slice B3 m3 d3)
  have hc0 := J2.a.cell 0
  have hc1 := J2.a.cell 1
  have hf0 := J2.a.frozen 0
  have hf1 := J2.a.frozen 1
  clear hS2 J2 q1 q2 q3 q4 hb2 R2
  refine any_step (i := 4) rfl (by kernel_rfl) (by rfl) (fun K hK => ?_)
  go_simp
  refine hK _ _ ?_
  clear hK K
  try simp only [Act.put, List.getElem_toArray, List.getElem_cons_zero, List.getElem_cons_succ, List.setIfInBounds_toArray, List.set_cons_zero, List.set_cons_succ]
  generalize (W2.setCell ⟨w.heap.size, 0, none⟩ (.slice A3 n3 c3)).setCell ⟨w.heap.size, 1, none⟩ (.slice B3 m3 d3) = W3 at *
  clear hc0 hc1 hf0 hf1
  obtain ⟨i1, i2, p3, p4, p1, p2, hb4⟩ := fr_store2 j2 j1 (by omega) p3 p4 p1 p2 hb3 (by omega)
  have R4 := (R3.far (p := ⟨w.heap.size + 1, 0, none⟩) (by simp) (.slice A4 n4 c4)).far (p := ⟨w.heap.size + 1, 1, none⟩) (by simp) (.slice B4 m4 d4)
  have hc0 := j2.cell 0
  have hc1 := j2.cell 1
  have hf0 := j2.frozen 0
  have hf1 := j2.frozen 1
  clear hb3 j1 j2 R3
  refine any_step (i := 5) rfl (by kernel_rfl) (by rfl) (fun K hK => ?_)
  go_simp
  refine hK _ _ ?_
  clear hK K
  try simp only [Act.put, List.getElem_toArray, List.getElem_cons_zero, List.getElem_cons_succ, List.setIfInBounds_toArray, List.set_cons_zero, List.set_cons_succ]
  generalize (W3.setCell ⟨w.heap.size + 1, 0, none⟩ (.slice A4 n4 c4)).setCell ⟨w.heap.size + 1, 1, none⟩ (.slice B4 m4 d4) = W4 at *
  clear hc0 hc1 hf0 hf1
  refine wpAny_done (by kernel_rfl) ?_ _
  refine NoPanic.normal ?_
  have J : B2 W4 w.heap.size A3 n3 c3 B3 m3 d3 A4 n4 c4 B4 m4 d4 := ⟨i2, i1⟩
  have hn3 : n3 ≤ 25000 := by have h1 := p1.len; have h2 := HL.out; omega
  have hm3 : m3 ≤ 25001 := by have h1 := p2.len; have h2 := HL.out; omega
  have hn4 : n4 ≤ 25000 := by have h1 := p3.len; have h2 := HL.out; omega
  have hm4 : m4 ≤ 25001 := by have h1 := p4.len; have h2 := HL.out; omega
  have hl4 := p3.len
  clear i1 i2
  have hc0 := J.b.cell 0
  rcases Nat.eq_zero_or_pos n4 with h4 | h4
  · have HN : Hid (decide (0 < frN l2 k2) = false) := Lib.hid (by rw [decide_eq_false_iff_not]; intro hp; have := digs_len_of hp; omega)
    have hz : ((n4 : Int) == 0) = true := by simp; omega
    go_wp2_with fail
    refine (nought_any _).mono ?_
    rintro e X3 ⟨A5, n5, c5, B5, m5, d5, rfl, s1, s2, hb⟩
    have R5 := R4.below hb R4.lt
    have hb5 := bltB hb4 hb4.size hb
    clear hb p1 p2 p3 p4 hb4 R4 J hc0
    obtain ⟨j5, t1, t2, hb6⟩ := fr_store R5 s1 s2 hb5 (by omega)
    have hc0 := R5.cell 0
    have hc1 := R5.cell 1
    have hf0 := R5.frozen 0
    have hf1 := R5.frozen 1
    clear R5 s1 s2 hb5
    go_wp2_with fail
    refine bodyPost_ret (v := .tuple #[.agg #[.slice A5 n5 c5, .slice B5 m5 d5], .bool false]) ?_ rfl ?_
    · have e0 := j5.cell 0
      have e1 := j5.cell 1
      simp [results, Tryz.f13, go_sem, e0, e1]
    · exact ⟨A5, n5, c5, B5, m5, d5, by rw [HN.out], by rw [HN.out]; exact t1, by rw [HN.out]; exact t2, hb6⟩
  · have h5 : 0 < frN l2 k2 := digs_len_pos (by omega)
    have HN : Hid (decide (0 < frN l2 k2) = true) := Lib.hid (decide_eq_true h5)
    have h5 := Lib.hid h5
    have hz : ((n4 : Int) == 0) = false := by simp; omega
    go_wp2_with fail
    have J := (⟨J.a.drew, J.b.drew⟩ : B2 W4.drew w.heap.size A3 n3 c3 B3 m3 d3 A4 n4 c4 B4 m4 d4)
    have R4 := R4.drew
    have p1 := p1.drew
    have p2 := p2.drew
    have p3 := p3.drew
    have p4 := p4.drew
    have hb4 := hb4.drew
    have hS := J.s
    unfold S4 at hS
    clear hc0
    refine wp_region_noPanic ?_
    refine ord_begin 10 (fun wx => wx.cell? ⟨w.heap.size, 0, none⟩ = some (.slice A3 n3 c3) ∧ wx.cell? ⟨w.heap.size, 1, none⟩ = some (.slice B3 m3 d3) ∧ wx.cell? ⟨w.heap.size + 1, 0, none⟩ = some (.slice A4 n4 c4) ∧ wx.cell? ⟨w.heap.size + 1, 1, none⟩ = some (.slice B4 m4 d4)) (by kernel_rfl) ?_
    refine ord_take (i := 0) (v := ?_) (by kernel_rfl) rfl (by decide) (by kernel_rfl) (by kernel_rfl) (fun _ _ _ h => h) (Or.inl ⟨by rfl, ?_⟩) hS ?_
    rotate_left
    · intro wz hz; (try dsimp only at hz); (try go_split_ands); go_simp; (try with_reducible rfl)
    try simp only [Act.put, List.getElem_toArray, List.getElem_cons_zero, List.getElem_cons_succ, List.setIfInBounds_toArray, List.set_cons_zero, List.set_cons_succ]
    refine ord_take (i := 1) (v := ?_) (by kernel_rfl) rfl (by decide) (by kernel_rfl) (by kernel_rfl) (fun _ _ _ h => h) (Or.inl ⟨by rfl, ?_⟩) hS ?_
    rotate_left
    · intro wz hz; (try dsimp only at hz); (try go_split_ands); go_simp; (try with_reducible rfl)
    try simp only [Act.put, List.getElem_toArray, List.getElem_cons_zero, List.getElem_cons_succ, List.setIfInBounds_toArray, List.set_cons_zero, List.set_cons_succ]
    refine ord_take (i := 2) (v := ?_) (by kernel_rfl) rfl (by decide) (by kernel_rfl) (by kernel_rfl) (fun _ _ _ h => h) (Or.inl ⟨by rfl, ?_⟩) hS ?_
    rotate_left
    · intro wz hz; (try dsimp only at hz); (try go_split_ands); go_simp; (try with_reducible rfl)
    try simp only [Act.put, List.getElem_toArray, List.getElem_cons_zero, List.getElem_cons_succ, List.setIfInBounds_toArray, List.set_cons_zero, List.set_cons_succ]
    refine ord_take (i := 3) (v := ?_) (by kernel_rfl) rfl (by decide) (by kernel_rfl) (by kernel_rfl) (fun _ _ _ h => h) (Or.inl ⟨by rfl, ?_⟩) hS ?_
    rotate_left
    · intro wz hz; (try dsimp only at hz); (try go_split_ands); go_simp; (try with_reducible rfl)
    try simp only [Act.put, List.getElem_toArray, List.getElem_cons_zero, List.getElem_cons_succ, List.setIfInBounds_toArray, List.set_cons_zero, List.set_cons_succ]
    refine ord_take (i := 5) (v := ?_) (by kernel_rfl) rfl (by decide) (by kernel_rfl) (by kernel_rfl) (fun _ _ _ h => h) (Or.inl ⟨by rfl, ?_⟩) hS ?_
    rotate_left
    · intro wz hz; (try dsimp only at hz); (try go_split_ands); go_simp; (try with_reducible rfl)
    try simp only [Act.put, List.getElem_toArray, List.getElem_cons_zero, List.getElem_cons_succ, List.setIfInBounds_toArray, List.set_cons_zero, List.set_cons_succ]
    refine ord_take (i := 6) (v := ?_) (by kernel_rfl) rfl (by decide) (by kernel_rfl) (by kernel_rfl) (fun _ _ _ h => h) (Or.inl ⟨by rfl, ?_⟩) hS ?_
    rotate_left
    · intro wz hz; (try dsimp only at hz); (try go_split_ands); go_simp; (try with_reducible rfl)
    try simp only [Act.put, List.getElem_toArray, List.getElem_cons_zero, List.getElem_cons_succ, List.setIfInBounds_toArray, List.set_cons_zero, List.set_cons_succ]
    refine ord_take (i := 7) (v := ?_) (by kernel_rfl) rfl (by decide) (by kernel_rfl) (by kernel_rfl) (fun _ _ _ h => h) (Or.inl ⟨by rfl, ?_⟩) hS ?_
    rotate_left
    · intro wz hz; (try dsimp only at hz); (try go_split_ands); go_simp; (try with_reducible rfl)
    try simp only [Act.put, List.getElem_toArray, List.getElem_cons_zero, List.getElem_cons_succ, List.setIfInBounds_toArray, List.set_cons_zero, List.set_cons_succ]
    refine ord_take (i := 8) (v := ?_) (by kernel_rfl) rfl (by decide) (by kernel_rfl) (by kernel_rfl) (fun _ _ _ h => h) (Or.inl ⟨by rfl, ?_⟩) hS ?_
    rotate_left
    · intro wz hz; (try dsimp only at hz); (try go_split_ands); go_simp; (try with_reducible rfl)
    try simp only [Act.put, List.getElem_toArray, List.getElem_cons_zero, List.getElem_cons_succ, List.setIfInBounds_toArray, List.set_cons_zero, List.set_cons_succ]
    refine ord_step (i := 4) rfl (by decide) (by kernel_rfl) (by rfl) (fun K hK => ?_)
    go_simp
    refine (mul_any _ _ _ _ _ _ _ _ _ p1 p4 (by omega) (by omega)).mono ?_
    rintro e X1 ⟨A_x, n_x, c_x, rfl, r_x, hb⟩
    rw [tv_digs, tv_digs] at r_x
    have p1 := p1.on hb
    have p2 := p2.on hb
    have p3 := p3.on hb
    have p4 := p4.on hb
    have J := J.on hb
    have R4 := R4.below hb R4.lt
    have hb4 := bltB hb4 hb4.size hb
    have hS_x := J.s
    unfold S4 at hS_x
    clear hb
    refine hK _ _ hS_x ?_
    clear hK K
    try simp only [Act.put, List.getElem_toArray, List.getElem_cons_zero, List.getElem_cons_succ, List.setIfInBounds_toArray, List.set_cons_zero, List.set_cons_succ]
    refine ord_step (i := 9) rfl (by decide) (by kernel_rfl) (by rfl) (fun K hK => ?_)
    go_simp
    refine (mul_any _ _ _ _ _ _ _ _ _ p2 p3 (by omega) (by omega)).mono ?_
    rintro e X2 ⟨A_y, n_y, c_y, rfl, r_y, hb⟩
    rw [tv_digs, tv_digs] at r_y
    have p1 := p1.on hb
    have p2 := p2.on hb
    have p3 := p3.on hb
    have p4 := p4.on hb
    have r_x := r_x.on hb
    have J := J.on hb
    have R4 := R4.below hb R4.lt
    have hb4 := bltB hb4 hb4.size hb
    have hS_y := J.s
    unfold S4 at hS_y
    clear hb
    refine hK _ _ hS_y ?_
    clear hK K
    try simp only [Act.put, List.getElem_toArray, List.getElem_cons_zero, List.getElem_cons_succ, List.setIfInBounds_toArray, List.set_cons_zero, List.set_cons_succ]
    refine ord_rest (by kernel_rfl) ?_
    refine any_step (i := 10) rfl (by kernel_rfl) (by rfl) (fun K hK => ?_)
    go_simp
    have hnx : n_x ≤ 60000 := by have h1 := len_mul (frN l1 k1) (frD l2 k2); have h2 := r_x.len; have h3 := HL.out; omega
    have hny : n_y ≤ 60000 := by have h1 := len_mul (frD l1 k1) (frN l2 k2); have h2 := r_y.len; have h3 := HL.out; omega
    refine (flow_any _ _ _ _ _ _ _ _ _ r_x r_y (by omega) (by omega) (Nat.mul_pos (frD_pos _ _) h5.out)).mono ?_
    rintro e X3 ⟨A5, n5, c5, B5, m5, d5, rfl, s1, s2, hb⟩
    have R5 := R4.below hb R4.lt
    have hb5 := bltB hb4 hb4.size hb
    clear hb r_x r_y p1 p2 p3 p4 hb4 R4 J hS hS_x hS_y
    refine hK _ _ ?_
    clear hK K
    try simp only [Act.put, List.getElem_toArray, List.getElem_cons_zero, List.getElem_cons_succ, List.setIfInBounds_toArray, List.set_cons_zero, List.set_cons_succ]
    obtain ⟨j5, t1, t2, hb6⟩ := fr_store R5 s1 s2 hb5 (by omega)
    have hc0 := R5.cell 0
    have hc1 := R5.cell 1
    have hf0 := R5.frozen 0
    have hf1 := R5.frozen 1
    clear R5 s1 s2 hb5
    refine any_step (i := 11) rfl (by kernel_rfl) (by rfl) (fun K hK => ?_)
    go_simp
    refine hK _ _ ?_
    clear hK K
    try simp only [Act.put, List.getElem_toArray, List.getElem_cons_zero, List.getElem_cons_succ, List.setIfInBounds_toArray, List.set_cons_zero, List.set_cons_succ]
    generalize (X3.setCell ⟨w.heap.size + 2, 0, none⟩ (.slice A5 n5 c5)).setCell ⟨w.heap.size + 2, 1, none⟩ (.slice B5 m5 d5) = X4 at *
    clear hc0 hc1 hf0 hf1
    refine wpAny_take (i := 12) (v := ?_) rfl (by kernel_rfl) (by kernel_rfl) (by kernel_rfl) (fun _ _ _ h => h) (Or.inl ⟨by rfl, ?_⟩) ?_
    rotate_left
    · intro wz; go_simp; (try with_reducible rfl)
    try simp only [Act.put, List.getElem_toArray, List.getElem_cons_zero, List.getElem_cons_succ, List.setIfInBounds_toArray, List.set_cons_zero, List.set_cons_succ]
    refine wpAny_done (by kernel_rfl) ?_ _
    refine NoPanic.normal ?_
    go_wp2_with fail
    refine bodyPost_ret (v := .tuple #[.agg #[.slice A5 n5 c5, .slice B5 m5 d5], .bool true]) ?_ rfl ?_
    · have e0 := j5.cell 0
      have e1 := j5.cell 1
      simp [results, Tryz.f13, go_sem, e0, e1]
    · exact ⟨A5, n5, c5, B5, m5, d5, by rw [HN.out], by rw [HN.out]; exact t1, by rw [HN.out]; exact t2, hb6⟩

end Go.Proofs.YthkgeafidbihmaaGreatDoor
