/-
  Fractions: cross, Cmp, Mul.
-/
import Derived.Test.YthkgeafidbihmaaGreatDoorFracR
namespace Go.Proofs.YthkgeafidbihmaaGreatDoor
open Go.RowKit Go.Shelf
set_option linter.unusedVariables false
set_option linter.unusedSimpArgs false
attribute [local go_sem] Oper.semAt_some

theorem frN_len {l k : List Nat} (hd : Dig l) : (digs (frN l k)).length ≤ l.length := by
  unfold frN
  split
  · rename_i hr
    unfold frR at hr
    simp only [Bool.and_eq_true] at hr
    rw [tv_right hr.1, digs_val hd hr.1]
    exact Nat.le_refl _
  · rw [digs_zero]; simp
theorem frD_len {l k : List Nat} (hd : Dig k) : (digs (frD l k)).length ≤ k.length + 1 := by
  unfold frD
  split
  · rename_i hr
    unfold frR at hr
    simp only [Bool.and_eq_true] at hr
    rw [tv_right hr.2.1, digs_val hd hr.2.1]
    omega
  · have := digs_len_le (n := 1) (k := 1) (by decide)
    omega

/-- Two fractions' boxes. -/
structure B2 (w : World) (G : Nat) (A1 : Option Addr) (n1 c1 : Nat) (B1 : Option Addr) (m1 d1 : Nat) (A2 : Option Addr) (n2 c2 : Nat) (E2 : Option Addr) (m2 d2 : Nat) : Prop where
  a : Blk w G 24 #[.slice A1 n1 c1, .slice B1 m1 d1]
  b : Blk w (G + 1) 24 #[.slice A2 n2 c2, .slice E2 m2 d2]

def S4 (G : Nat) (A1 : Option Addr) (n1 c1 : Nat) (B1 : Option Addr) (m1 d1 : Nat) (A2 : Option Addr) (n2 c2 : Nat) (E2 : Option Addr) (m2 d2 : Nat) (wx : World) : Prop :=
  wx.cell? ⟨G, 0, none⟩ = some (.slice A1 n1 c1) ∧ wx.cell? ⟨G, 1, none⟩ = some (.slice B1 m1 d1) ∧ wx.cell? ⟨G + 1, 0, none⟩ = some (.slice A2 n2 c2) ∧ wx.cell? ⟨G + 1, 1, none⟩ = some (.slice E2 m2 d2)

section
variable {w w' : World} {G n1 c1 m1 d1 n2 c2 m2 d2 : Nat} {A1 B1 A2 B2' : Option Addr}
theorem B2.on (h : B2 w G A1 n1 c1 B1 m1 d1 A2 n2 c2 B2' m2 d2) (hb : Below w.heap.size w w') : B2 w' G A1 n1 c1 B1 m1 d1 A2 n2 c2 B2' m2 d2 := ⟨h.a.below hb h.a.lt, h.b.below hb h.b.lt⟩
theorem B2.s (h : B2 w G A1 n1 c1 B1 m1 d1 A2 n2 c2 B2' m2 d2) : S4 G A1 n1 c1 B1 m1 d1 A2 n2 c2 B2' m2 d2 w := ⟨h.a.cell 0, h.a.cell 1, h.b.cell 0, h.b.cell 1⟩
end

/-- A fraction is stored in one of two boxes: what lies behind it. -/
theorem fr_store2 {w w2 : World} {G H : Nat} {t t' : TypeId} {A0 B0 A B A9 B9 C D : Option Addr} {n0 c0 m0 d0 n c m d n9 c9 m9 d9 p p' q q' : Nat} {l k l' k' : List Nat} (hB : Blk w2 G t #[.slice A0 n0 c0, .slice B0 m0 d0]) (hH : Blk w2 H t' #[.slice A9 n9 c9, .slice B9 m9 d9]) (hne : H ≠ G)
    (r1 : Rd w2 w2.heap.size A n c l) (r2 : Rd w2 w2.heap.size B m d k) (r3 : Rd w2 w2.heap.size C p p' l') (r4 : Rd w2 w2.heap.size D q q' k') (hb : Below w.heap.size w w2) (hG : w.heap.size ≤ G) :
    let W := (w2.setCell ⟨G, 0, none⟩ (.slice A n c)).setCell ⟨G, 1, none⟩ (.slice B m d)
    Blk W G t #[.slice A n c, .slice B m d] ∧ Blk W H t' #[.slice A9 n9 c9, .slice B9 m9 d9] ∧ Rd W W.heap.size A n c l ∧ Rd W W.heap.size B m d k ∧ Rd W W.heap.size C p p' l' ∧ Rd W W.heap.size D q q' k' ∧ Below w.heap.size w W := by
  obtain ⟨h1, h2, h3, h4⟩ := fr_store hB r1 r2 hb hG
  obtain ⟨_, h5, h6, _⟩ := fr_store (A := A) (n := n) (c := c) (B := B) (m := m) (d := d) hB r1 r2 hb hG
  have hs0 : (w2.setCell ⟨G, 0, none⟩ (.slice A n c)).cell? ⟨G, 1, none⟩ = some (.slice B0 m0 d0) := (hB.set_ 0 (.slice A n c)).cell 1
  have hc0 : w2.cell? ⟨G, 0, none⟩ = some (.slice A0 n0 c0) := hB.cell 0
  exact ⟨h1, (hH.far (p := ⟨G, 0, none⟩) hne _).far (p := ⟨G, 1, none⟩) hne _, h2, h3, (r3.sets hc0 (.slice A n c)).sets hs0 (.slice B m d), (r4.sets hc0 (.slice A n c)).sets hs0 (.slice B m d), h4⟩

/-- Three naturals are handed back. -/
def RetX (w : World) (x y z : Nat) (e : Ending) (w' : World) : Prop :=
  ∃ A n c B m d C p q, e = .returned (.tuple #[.slice A n c, .slice B m d, .slice C p q]) ∧ Rd w' w'.heap.size A n c (digs x) ∧ Rd w' w'.heap.size B m d (digs y) ∧ Rd w' w'.heap.size C p q (digs z) ∧ Below w.heap.size w w'

set_option maxRecDepth 100000 in
set_option maxHeartbeats 2000000 in
theorem cross_any (w : World) (A1 B1 A2 B2' : Option Addr) (n1 c1 m1 d1 n2 c2 m2 d2 : Nat) (l1 k1 l2 k2 : List Nat) (h1 : Rd w w.heap.size A1 n1 c1 l1) (g1 : Rd w w.heap.size B1 m1 d1 k1) (h2 : Rd w w.heap.size A2 n2 c2 l2) (g2 : Rd w w.heap.size B2' m2 d2 k2)
    (hn1 : n1 ≤ 50000) (hm1 : m1 ≤ 50000) (hn2 : n2 ≤ 50000) (hm2 : m2 ≤ 50000) :
    Calls Tryz.prog 36 #[.agg #[.slice A1 n1 c1, .slice B1 m1 d1], .agg #[.slice A2 n2 c2, .slice B2' m2 d2]] w (RetX w (frN l1 k1 * frD l2 k2) (frN l2 k2 * frD l1 k1) (frD l1 k1 * frD l2 k2)) := by
  obtain ⟨w0, hw0⟩ : ∃ w0, w0 = (w.alloc (.cells #[.slice A1 n1 c1, .slice B1 m1 d1] 24)).alloc (.cells #[.slice A2 n2 c2, .slice B2' m2 d2] 24) := ⟨_, rfl⟩
  have hb0 : Below w.heap.size w w0 := by rw [hw0]; exact ((Below.refl _ _).alloc (Nat.le_refl _) _).alloc (by simp) _
  have J0 : B2 w0 w.heap.size A1 n1 c1 B1 m1 d1 A2 n2 c2 B2' m2 d2 := by
    rw [hw0]
    refine ⟨(Blk.new w _ _).alloc _, ?_⟩
    have := Blk.new (w.alloc (.cells #[.slice A1 n1 c1, .slice B1 m1 d1] 24)) 24 #[.slice A2 n2 c2, .slice B2' m2 d2]
    rw [World.size_alloc] at this
    exact this
  have h1 := (h1.on hb0).drew
  have g1 := (g1.on hb0).drew
  have h2 := (h2.on hb0).drew
  have g2 := (g2.on hb0).drew
  have J0 : B2 w0.drew w.heap.size A1 n1 c1 B1 m1 d1 A2 n2 c2 B2' m2 d2 := ⟨J0.a.drew, J0.b.drew⟩
  have hb0 := hb0.drew
  have HL := Lib.hid (And.intro (frN_len (k := k1) h1.dig) (And.intro (frD_len (l := l1) g1.dig) (And.intro (frN_len (k := k2) h2.dig) (And.intro (frD_len (l := l2) g2.dig) (And.intro h1.len (And.intro g1.len (And.intro h2.len g2.len)))))))
  go_enter Tryz.func36, Tryz.ntmps36
  go_wp2_with fail
  rw [← hw0]
  clear hw0
  have hS := J0.s
  unfold S4 at hS
  refine wp_region_noPanic ?_
  refine ord_begin 4 (fun wx => wx.cell? ⟨w.heap.size, 0, none⟩ = some (.slice A1 n1 c1) ∧ wx.cell? ⟨w.heap.size, 1, none⟩ = some (.slice B1 m1 d1) ∧ wx.cell? ⟨w.heap.size + 1, 0, none⟩ = some (.slice A2 n2 c2) ∧ wx.cell? ⟨w.heap.size + 1, 1, none⟩ = some (.slice B2' m2 d2)) (by kernel_rfl) ?_
  refine ord_take (i := 0) (v := ?_) (by kernel_rfl) rfl (by decide) (by kernel_rfl) (by kernel_rfl) (fun _ _ _ h => h) (Or.inl ⟨by rfl, ?_⟩) hS ?_
  rotate_left
  · intro wz hz; (try dsimp only at hz); (try go_split_ands); go_simp; (try with_reducible rfl)
  try simp only [Act.put, List.getElem_toArray, List.getElem_cons_zero, List.getElem_cons_succ, List.setIfInBounds_toArray, List.set_cons_zero, List.set_cons_succ]
  refine ord_take (i := 2) (v := ?_) (by kernel_rfl) rfl (by decide) (by kernel_rfl) (by kernel_rfl) (fun _ _ _ h => h) (Or.inl ⟨by rfl, ?_⟩) hS ?_
  rotate_left
  · intro wz hz; (try dsimp only at hz); (try go_split_ands); go_simp; (try with_reducible rfl)
  try simp only [Act.put, List.getElem_toArray, List.getElem_cons_zero, List.getElem_cons_succ, List.setIfInBounds_toArray, List.set_cons_zero, List.set_cons_succ]
  refine ord_step (i := 1) rfl (by decide) (by kernel_rfl) (by rfl) (fun K hK => ?_)
  go_simp
  refine (ftaken_any _ _ _ _ _ _ _ _ _ h1 g1 (by omega) (by omega)).mono ?_
  rintro e W1 ⟨A3, n3, c3, B3, m3, d3, rfl, q1, q2, hb⟩
  have J1 := J0.on hb
  have h2 := h2.on hb
  have g2 := g2.on hb
  have hb1 := bltB hb0 hb0.size hb
  have hS1 := J1.s
  unfold S4 at hS1
  clear hb hb0 J0 h1 g1
  refine hK _ _ hS1 ?_
  clear hK K
  try simp only [Act.put, List.getElem_toArray, List.getElem_cons_zero, List.getElem_cons_succ, List.setIfInBounds_toArray, List.set_cons_zero, List.set_cons_succ]
  refine ord_step (i := 3) rfl (by decide) (by kernel_rfl) (by rfl) (fun K hK => ?_)
  go_simp
  refine (ftaken_any _ _ _ _ _ _ _ _ _ h2 g2 (by omega) (by omega)).mono ?_
  rintro e W2 ⟨A4, n4, c4, B4, m4, d4, rfl, q3, q4, hb⟩
  have J2 := J1.on hb
  have q1 := q1.on hb
  have q2 := q2.on hb
  have hb2 := bltB hb1 hb1.size hb
  have hS2 := J2.s
  unfold S4 at hS2
  clear hb hb1 J1 h2 g2 hS1 hS
  refine hK _ _ hS2 ?_
  clear hK K
  try simp only [Act.put, List.getElem_toArray, List.getElem_cons_zero, List.getElem_cons_succ, List.setIfInBounds_toArray, List.set_cons_zero, List.set_cons_succ]
  refine ord_rest (by kernel_rfl) ?_
  obtain ⟨j1, j2, p1, p2, p3, p4, hb3⟩ := fr_store2 J2.a J2.b (by omega) q1 q2 q3 q4 hb2 (Nat.le_refl _)
  have hc0 := J2.a.cell 0
  have hc1 := J2.a.cell 1
  have hf0 := J2.a.frozen 0
  have hf1 := J2.a.frozen 1
  clear hS2 J2 q1 q2 q3 q4 hb2
  refine any_step (i := 4) rfl (by kernel_rfl) (by rfl) (fun K hK => ?_)
  go_simp
  refine hK _ _ ?_
  clear hK K
  try simp only [Act.put, List.getElem_toArray, List.getElem_cons_zero, List.getElem_cons_succ, List.setIfInBounds_toArray, List.set_cons_zero, List.set_cons_succ]
  generalize (W2.setCell ⟨w.heap.size, 0, none⟩ (.slice A3 n3 c3)).setCell ⟨w.heap.size, 1, none⟩ (.slice B3 m3 d3) = W3 at *
  clear hc0 hc1 hf0 hf1
  obtain ⟨i1, i2, p3, p4, p1, p2, hb4⟩ := fr_store2 j2 j1 (by omega) p3 p4 p1 p2 hb3 (by omega)
  have hc0 := j2.cell 0
  have hc1 := j2.cell 1
  have hf0 := j2.frozen 0
  have hf1 := j2.frozen 1
  clear hb3 j1 j2
  refine any_step (i := 5) rfl (by kernel_rfl) (by rfl) (fun K hK => ?_)
  go_simp
  refine hK _ _ ?_
  clear hK K
  try simp only [Act.put, List.getElem_toArray, List.getElem_cons_zero, List.getElem_cons_succ, List.setIfInBounds_toArray, List.set_cons_zero, List.set_cons_succ]
  generalize (W3.setCell ⟨w.heap.size + 1, 0, none⟩ (.slice A4 n4 c4)).setCell ⟨w.heap.size + 1, 1, none⟩ (.slice B4 m4 d4) = W4 at *
  clear hc0 hc1 hf0 hf1
  refine wpAny_done (by kernel_rfl) ?_ _
  refine NoPanic.normal ?_
  have J : B2 W4 w.heap.size A3 n3 c3 B3 m3 d3 A4 n4 c4 B4 m4 d4 := ⟨i2, i1⟩
  have hn3 : n3 ≤ 50000 := by have h1 := p1.len; have h2 := HL.out; omega
  have hm3 : m3 ≤ 50001 := by have h1 := p2.len; have h2 := HL.out; omega
  have hn4 : n4 ≤ 50000 := by have h1 := p3.len; have h2 := HL.out; omega
  have hm4 : m4 ≤ 50001 := by have h1 := p4.len; have h2 := HL.out; omega
  clear i1 i2
  go_wp2_with fail
  have J := (⟨J.a.drew, J.b.drew⟩ : B2 W4.drew w.heap.size A3 n3 c3 B3 m3 d3 A4 n4 c4 B4 m4 d4)
  have p1 := p1.drew
  have p2 := p2.drew
  have p3 := p3.drew
  have p4 := p4.drew
  have hb4 := hb4.drew
  have hS := J.s
  unfold S4 at hS
  refine wp_region_noPanic ?_
  refine ord_begin 15 (fun wx => wx.cell? ⟨w.heap.size, 0, none⟩ = some (.slice A3 n3 c3) ∧ wx.cell? ⟨w.heap.size, 1, none⟩ = some (.slice B3 m3 d3) ∧ wx.cell? ⟨w.heap.size + 1, 0, none⟩ = some (.slice A4 n4 c4) ∧ wx.cell? ⟨w.heap.size + 1, 1, none⟩ = some (.slice B4 m4 d4)) (by kernel_rfl) ?_
  refine ord_take (i := 0) (v := ?_) (by kernel_rfl) rfl (by decide) (by kernel_rfl) (by kernel_rfl) (fun _ _ _ h => h) (Or.inl ⟨by rfl, ?_⟩) hS ?_
  rotate_left
  · intro wz hz; (try dsimp only at hz); (try go_split_ands); go_simp; (try with_reducible rfl)
  try simp only [Act.put, List.getElem_toArray, List.getElem_cons_zero, List.getElem_cons_succ, List.setIfInBounds_toArray, List.set_cons_zero, List.set_cons_succ]
  refine ord_take (i := 1) (v := ?_) (by kernel_rfl) rfl (by decide) (by kernel_rfl) (by kernel_rfl) (fun _ _ _ h => h) (Or.inl ⟨by rfl, ?_⟩) hS ?_
  rotate_left
  · intro wz hz; (try dsimp only at hz); (try go_split_ands); go_simp; (try with_reducible rfl)
  try simp only [Act.put, List.getElem_toArray, List.getElem_cons_zero, List.getElem_cons_succ, List.setIfInBounds_toArray, List.set_cons_zero, List.set_cons_succ]
  refine ord_take (i := 2) (v := ?_) (by kernel_rfl) rfl (by decide) (by kernel_rfl) (by kernel_rfl) (fun _ _ _ h => h) (Or.inl ⟨by rfl, ?_⟩) hS ?_
  rotate_left
  · intro wz hz; (try dsimp only at hz); (try go_split_ands); go_simp; (try with_reducible rfl)
  try simp only [Act.put, List.getElem_toArray, List.getElem_cons_zero, List.getElem_cons_succ, List.setIfInBounds_toArray, List.set_cons_zero, List.set_cons_succ]
  refine ord_take (i := 3) (v := ?_) (by kernel_rfl) rfl (by decide) (by kernel_rfl) (by kernel_rfl) (fun _ _ _ h => h) (Or.inl ⟨by rfl, ?_⟩) hS ?_
  rotate_left
  · intro wz hz; (try dsimp only at hz); (try go_split_ands); go_simp; (try with_reducible rfl)
  try simp only [Act.put, List.getElem_toArray, List.getElem_cons_zero, List.getElem_cons_succ, List.setIfInBounds_toArray, List.set_cons_zero, List.set_cons_succ]
  refine ord_take (i := 5) (v := ?_) (by kernel_rfl) rfl (by decide) (by kernel_rfl) (by kernel_rfl) (fun _ _ _ h => h) (Or.inl ⟨by rfl, ?_⟩) hS ?_
  rotate_left
  · intro wz hz; (try dsimp only at hz); (try go_split_ands); go_simp; (try with_reducible rfl)
  try simp only [Act.put, List.getElem_toArray, List.getElem_cons_zero, List.getElem_cons_succ, List.setIfInBounds_toArray, List.set_cons_zero, List.set_cons_succ]
  refine ord_take (i := 6) (v := ?_) (by kernel_rfl) rfl (by decide) (by kernel_rfl) (by kernel_rfl) (fun _ _ _ h => h) (Or.inl ⟨by rfl, ?_⟩) hS ?_
  rotate_left
  · intro wz hz; (try dsimp only at hz); (try go_split_ands); go_simp; (try with_reducible rfl)
  try simp only [Act.put, List.getElem_toArray, List.getElem_cons_zero, List.getElem_cons_succ, List.setIfInBounds_toArray, List.set_cons_zero, List.set_cons_succ]
  refine ord_take (i := 7) (v := ?_) (by kernel_rfl) rfl (by decide) (by kernel_rfl) (by kernel_rfl) (fun _ _ _ h => h) (Or.inl ⟨by rfl, ?_⟩) hS ?_
  rotate_left
  · intro wz hz; (try dsimp only at hz); (try go_split_ands); go_simp; (try with_reducible rfl)
  try simp only [Act.put, List.getElem_toArray, List.getElem_cons_zero, List.getElem_cons_succ, List.setIfInBounds_toArray, List.set_cons_zero, List.set_cons_succ]
  refine ord_take (i := 8) (v := ?_) (by kernel_rfl) rfl (by decide) (by kernel_rfl) (by kernel_rfl) (fun _ _ _ h => h) (Or.inl ⟨by rfl, ?_⟩) hS ?_
  rotate_left
  · intro wz hz; (try dsimp only at hz); (try go_split_ands); go_simp; (try with_reducible rfl)
  try simp only [Act.put, List.getElem_toArray, List.getElem_cons_zero, List.getElem_cons_succ, List.setIfInBounds_toArray, List.set_cons_zero, List.set_cons_succ]
  refine ord_take (i := 10) (v := ?_) (by kernel_rfl) rfl (by decide) (by kernel_rfl) (by kernel_rfl) (fun _ _ _ h => h) (Or.inl ⟨by rfl, ?_⟩) hS ?_
  rotate_left
  · intro wz hz; (try dsimp only at hz); (try go_split_ands); go_simp; (try with_reducible rfl)
  try simp only [Act.put, List.getElem_toArray, List.getElem_cons_zero, List.getElem_cons_succ, List.setIfInBounds_toArray, List.set_cons_zero, List.set_cons_succ]
  refine ord_take (i := 11) (v := ?_) (by kernel_rfl) rfl (by decide) (by kernel_rfl) (by kernel_rfl) (fun _ _ _ h => h) (Or.inl ⟨by rfl, ?_⟩) hS ?_
  rotate_left
  · intro wz hz; (try dsimp only at hz); (try go_split_ands); go_simp; (try with_reducible rfl)
  try simp only [Act.put, List.getElem_toArray, List.getElem_cons_zero, List.getElem_cons_succ, List.setIfInBounds_toArray, List.set_cons_zero, List.set_cons_succ]
  refine ord_take (i := 12) (v := ?_) (by kernel_rfl) rfl (by decide) (by kernel_rfl) (by kernel_rfl) (fun _ _ _ h => h) (Or.inl ⟨by rfl, ?_⟩) hS ?_
  rotate_left
  · intro wz hz; (try dsimp only at hz); (try go_split_ands); go_simp; (try with_reducible rfl)
  try simp only [Act.put, List.getElem_toArray, List.getElem_cons_zero, List.getElem_cons_succ, List.setIfInBounds_toArray, List.set_cons_zero, List.set_cons_succ]
  refine ord_take (i := 13) (v := ?_) (by kernel_rfl) rfl (by decide) (by kernel_rfl) (by kernel_rfl) (fun _ _ _ h => h) (Or.inl ⟨by rfl, ?_⟩) hS ?_
  rotate_left
  · intro wz hz; (try dsimp only at hz); (try go_split_ands); go_simp; (try with_reducible rfl)
  try simp only [Act.put, List.getElem_toArray, List.getElem_cons_zero, List.getElem_cons_succ, List.setIfInBounds_toArray, List.set_cons_zero, List.set_cons_succ]
  refine ord_step (i := 4) rfl (by decide) (by kernel_rfl) (by rfl) (fun K hK => ?_)
  go_simp
  refine (mul_any _ _ _ _ _ _ _ _ _ p1 p4 (by omega) (by omega)).mono ?_
  rintro e X1 ⟨A_x, n_x, c_x, rfl, r_x, hb⟩
  rw [tv_digs, tv_digs] at r_x
  have p1 := p1.on hb
  have p2 := p2.on hb
  have p3 := p3.on hb
  have p4 := p4.on hb
  have J := J.on hb
  have hb4 := bltB hb4 hb4.size hb
  have hS_x := J.s
  unfold S4 at hS_x
  clear hb
  refine hK _ _ hS_x ?_
  clear hK K
  try simp only [Act.put, List.getElem_toArray, List.getElem_cons_zero, List.getElem_cons_succ, List.setIfInBounds_toArray, List.set_cons_zero, List.set_cons_succ]
  refine ord_step (i := 9) rfl (by decide) (by kernel_rfl) (by rfl) (fun K hK => ?_)
  go_simp
  refine (mul_any _ _ _ _ _ _ _ _ _ p3 p2 (by omega) (by omega)).mono ?_
  rintro e X2 ⟨A_y, n_y, c_y, rfl, r_y, hb⟩
  rw [tv_digs, tv_digs] at r_y
  have p1 := p1.on hb
  have p2 := p2.on hb
  have p3 := p3.on hb
  have p4 := p4.on hb
  have r_x := r_x.on hb
  have J := J.on hb
  have hb4 := bltB hb4 hb4.size hb
  have hS_y := J.s
  unfold S4 at hS_y
  clear hb
  refine hK _ _ hS_y ?_
  clear hK K
  try simp only [Act.put, List.getElem_toArray, List.getElem_cons_zero, List.getElem_cons_succ, List.setIfInBounds_toArray, List.set_cons_zero, List.set_cons_succ]
  refine ord_step (i := 14) rfl (by decide) (by kernel_rfl) (by rfl) (fun K hK => ?_)
  go_simp
  refine (mul_any _ _ _ _ _ _ _ _ _ p2 p4 (by omega) (by omega)).mono ?_
  rintro e X3 ⟨A_z, n_z, c_z, rfl, r_z, hb⟩
  rw [tv_digs, tv_digs] at r_z
  have p1 := p1.on hb
  have p2 := p2.on hb
  have p3 := p3.on hb
  have p4 := p4.on hb
  have r_x := r_x.on hb
  have r_y := r_y.on hb
  have J := J.on hb
  have hb4 := bltB hb4 hb4.size hb
  have hS_z := J.s
  unfold S4 at hS_z
  clear hb
  refine hK _ _ hS_z ?_
  clear hK K
  try simp only [Act.put, List.getElem_toArray, List.getElem_cons_zero, List.getElem_cons_succ, List.setIfInBounds_toArray, List.set_cons_zero, List.set_cons_succ]
  refine ord_rest (by kernel_rfl) ?_
  refine wpAny_take (i := 15) (v := ?_) rfl (by kernel_rfl) (by kernel_rfl) (by kernel_rfl) (fun _ _ _ h => h) (Or.inl ⟨by rfl, ?_⟩) ?_
  rotate_left
  · intro wz; go_simp; (try with_reducible rfl)
  try simp only [Act.put, List.getElem_toArray, List.getElem_cons_zero, List.getElem_cons_succ, List.setIfInBounds_toArray, List.set_cons_zero, List.set_cons_succ]
  refine wpAny_take (i := 16) (v := ?_) rfl (by kernel_rfl) (by kernel_rfl) (by kernel_rfl) (fun _ _ _ h => h) (Or.inl ⟨by rfl, ?_⟩) ?_
  rotate_left
  · intro wz; go_simp; (try with_reducible rfl)
  try simp only [Act.put, List.getElem_toArray, List.getElem_cons_zero, List.getElem_cons_succ, List.setIfInBounds_toArray, List.set_cons_zero, List.set_cons_succ]
  refine wpAny_take (i := 17) (v := ?_) rfl (by kernel_rfl) (by kernel_rfl) (by kernel_rfl) (fun _ _ _ h => h) (Or.inl ⟨by rfl, ?_⟩) ?_
  rotate_left
  · intro wz; go_simp; (try with_reducible rfl)
  try simp only [Act.put, List.getElem_toArray, List.getElem_cons_zero, List.getElem_cons_succ, List.setIfInBounds_toArray, List.set_cons_zero, List.set_cons_succ]
  refine wpAny_done (by kernel_rfl) ?_ _
  refine NoPanic.normal ?_
  have HF : Hid (RetX w (frN l1 k1 * frD l2 k2) (frN l2 k2 * frD l1 k1) (frD l1 k1 * frD l2 k2) (.returned (.tuple #[.slice A_x n_x c_x, .slice A_y n_y c_y, .slice A_z n_z c_z])) X3) := Lib.hid ⟨_, _, _, _, _, _, _, _, _, rfl, r_x, r_y, r_z, hb4⟩
  clear r_x r_y r_z p1 p2 p3 p4
  go_wp2_with fail
  go_ret3
  exact HF.out

end Go.Proofs.YthkgeafidbihmaaGreatDoor
