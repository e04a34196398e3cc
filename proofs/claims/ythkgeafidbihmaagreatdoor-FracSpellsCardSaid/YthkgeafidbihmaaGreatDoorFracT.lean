/-
  Fractions: Text.
-/
import Derived.Test.YthkgeafidbihmaaGreatDoorFracC
import Derived.Test.YthkgeafidbihmaaGreatDoorText
namespace Go.Proofs.YthkgeafidbihmaaGreatDoor
open Go.RowKit Go.Shelf
set_option linter.unusedVariables false
set_option linter.unusedSimpArgs false
attribute [local go_sem] Oper.semAt_some

/-- A fraction's text. -/
def fTxt (N D : Nat) : List UInt8 := if D = 1 then Lib.decDigits N else Lib.decDigits N ++ (47 :: Lib.decDigits D)

theorem fr_bytes (a b : List UInt8) : (⟨a.toArray⟩ : ByteArray) ++ ⟨#[47]⟩ ++ ⟨b.toArray⟩ = ⟨(a ++ 47 :: b).toArray⟩ := by
  apply ByteArray.ext
  simp

theorem ftext_any (w : World) (hT : Tab w) (A B : Option Addr) (n c m d : Nat) (l k : List Nat) (h1 : Rd w w.heap.size A n c l) (h2 : Rd w w.heap.size B m d k) (hn : n ≤ 50000) (hm : m ≤ 50000) :
    Calls Tryz.prog 9 #[.agg #[.slice A n c, .slice B m d]] w fun e w' => e = .returned (txt (fTxt (frN l k) (frD l k))) ∧ Below w.heap.size w w' := by
  have HL := Lib.hid (And.intro (frN_len (k := k) h1.dig) (And.intro (frD_len (l := l) h2.dig) (And.intro h1.len h2.len)))
  have HT := Lib.hid hT
  clear hT
  obtain ⟨w0, hw0⟩ : ∃ w0, w0 = w.alloc (.cells #[.slice A n c, .slice B m d] 24) := ⟨_, rfl⟩
  have hB0 : Blk w0 w.heap.size 24 #[.slice A n c, .slice B m d] := by rw [hw0]; exact Blk.new w _ _
  have hb0 : Below w.heap.size w w0 := by rw [hw0]; exact (Below.refl _ _).alloc (Nat.le_refl _) _
  have h1 := h1.on hb0
  have h2 := h2.on hb0
  have hc0 := hB0.cell 0
  have hc1 := hB0.cell 1
  go_enter Tryz.func9, Tryz.ntmps9
  go_wp2_with fail
  rw [← hw0]
  clear hw0
  go_wp2_with fail
  refine (ftaken_any _ _ _ _ _ _ _ _ _ h1 h2 (by omega) (by omega)).mono ?_
  rintro e w1 ⟨A2, n2, c2, B2, m2, d2, rfl, r1, r2, hb⟩
  have hB1 := hB0.below hb hB0.lt
  have hb1 := bltB hb0 hb0.size hb
  have hn2 : n2 ≤ 60000 := by have h1 := r1.len; have h2 := HL.out; omega
  have hm2 : m2 ≤ 60000 := by have h1 := r2.len; have h2 := HL.out; omega
  have hf0 := hB1.frozen 0
  have hf1 := hB1.frozen 1
  have hc0 := hB1.cell 0
  have hc1 := hB1.cell 1
  obtain ⟨h4, r1, r2, hb4⟩ := fr_store hB1 r1 r2 hb1 (by omega)
  clear hb hB0 hb0 h1 h2
  go_wp2_with fail
  generalize (w1.setCell ⟨w.heap.size, 0, none⟩ (.slice A2 n2 c2)).setCell ⟨w.heap.size, 1, none⟩ (.slice B2 m2 d2) = W3 at *
  have hc0 := h4.cell 0
  have hc1 := h4.cell 1
  clear hf0 hf1 hB1 hb1
  go_wp2_with fail
  -- REST
  have h4 := h4.drew
  have r1 := r1.drew
  have r2 := r2.drew
  have hb4 := hb4.drew
  clear hc0 hc1
  have hS : W3.drew.cell? ⟨w.heap.size, 0, none⟩ = some (.slice A2 n2 c2) ∧ W3.drew.cell? ⟨w.heap.size, 1, none⟩ = some (.slice B2 m2 d2) := ⟨h4.cell 0, h4.cell 1⟩
  refine wp_region_noPanic ?_
  refine ord_begin 4 (fun wx => wx.cell? ⟨w.heap.size, 0, none⟩ = some (.slice A2 n2 c2) ∧ wx.cell? ⟨w.heap.size, 1, none⟩ = some (.slice B2 m2 d2)) (by kernel_rfl) ?_
  refine ord_take (i := 0) (v := ?_) (by kernel_rfl) rfl (by decide) (by kernel_rfl) (by kernel_rfl) (fun _ _ _ h => h) (Or.inl ⟨by rfl, ?_⟩) hS ?_
  rotate_left
  · intro wz hz; (try dsimp only at hz); (try go_split_ands); go_simp; (try with_reducible rfl)
  try simp only [Act.put, List.getElem_toArray, List.getElem_cons_zero, List.getElem_cons_succ, List.setIfInBounds_toArray, List.set_cons_zero, List.set_cons_succ]
  refine ord_take (i := 1) (v := ?_) (by kernel_rfl) rfl (by decide) (by kernel_rfl) (by kernel_rfl) (fun _ _ _ h => h) (Or.inl ⟨by rfl, ?_⟩) hS ?_
  rotate_left
  · intro wz hz; (try dsimp only at hz); (try go_split_ands); go_simp; (try with_reducible rfl)
  try simp only [Act.put, List.getElem_toArray, List.getElem_cons_zero, List.getElem_cons_succ, List.setIfInBounds_toArray, List.set_cons_zero, List.set_cons_succ]
  refine ord_step (i := 2) rfl (by decide) (by kernel_rfl) (by rfl) (fun K hK => ?_)
  go_simp
  refine (one_any _).mono ?_
  rintro e X1 ⟨A3, n3, c3, rfl, x1, hb⟩
  have h4 := h4.below hb h4.lt
  have r1 := r1.on hb
  have r2 := r2.on hb
  have hb4 := bltB hb4 hb4.size hb
  have hn3 : n3 ≤ 60000 := by have := rd_le x1 (show 1 < 4294967296 ^ 1 by decide); omega
  have hS1 : X1.cell? ⟨w.heap.size, 0, none⟩ = some (.slice A2 n2 c2) ∧ X1.cell? ⟨w.heap.size, 1, none⟩ = some (.slice B2 m2 d2) := ⟨h4.cell 0, h4.cell 1⟩
  clear hb
  refine hK _ _ hS1 ?_
  clear hK K
  try simp only [Act.put, List.getElem_toArray, List.getElem_cons_zero, List.getElem_cons_succ, List.setIfInBounds_toArray, List.set_cons_zero, List.set_cons_succ]
  refine ord_step (i := 3) rfl (by decide) (by kernel_rfl) (by rfl) (fun K hK => ?_)
  go_simp
  refine (cmp_any _ _ _ _ _ _ _ _ _ r2 x1 (by omega) (by omega)).mono ?_
  rintro e X2 ⟨rfl, hb⟩
  rw [tv_digs, tv_digs]
  have h4 := h4.below hb h4.lt
  have r1 := r1.on hb
  have r2 := r2.on hb
  have hb4 := bltB hb4 hb4.size hb
  have HC : Hid ((cmpI ((frD l k : Nat) : Int) ((1 : Nat) : Int) == 0) = decide (frD l k = 1)) := Lib.hid (by
    rw [cmpI_nat]
    by_cases h : frD l k = 1
    · rw [decide_eq_true h, if_neg (by omega), if_neg (by omega)]; rfl
    · rw [decide_eq_false h]; split <;> (try split) <;> first | rfl | omega)
  generalize cmpI ((frD l k : Nat) : Int) ((1 : Nat) : Int) = cz at HC ⊢
  have hS2 : X2.cell? ⟨w.heap.size, 0, none⟩ = some (.slice A2 n2 c2) ∧ X2.cell? ⟨w.heap.size, 1, none⟩ = some (.slice B2 m2 d2) := ⟨h4.cell 0, h4.cell 1⟩
  clear hb x1 hS hS1
  refine hK _ _ hS2 ?_
  clear hK K
  try simp only [Act.put, List.getElem_toArray, List.getElem_cons_zero, List.getElem_cons_succ, List.setIfInBounds_toArray, List.set_cons_zero, List.set_cons_succ]
  refine ord_rest (by kernel_rfl) ?_
  refine wpAny_take (i := 4) (v := ?_) rfl (by kernel_rfl) (by kernel_rfl) (by kernel_rfl) (fun _ _ _ h => h) (Or.inl ⟨by rfl, ?_⟩) ?_
  rotate_left
  · intro wz; go_simp; (try with_reducible rfl)
  try simp only [Act.put, List.getElem_toArray, List.getElem_cons_zero, List.getElem_cons_succ, List.setIfInBounds_toArray, List.set_cons_zero, List.set_cons_succ]
  refine wpAny_done (by kernel_rfl) ?_ _
  refine NoPanic.normal ?_
  have hc0 := h4.cell 0
  have hc1 := h4.cell 1
  clear hS2
  rcases hq : (cz == 0) with _ | _
  · have HD : Hid (fTxt (frN l k) (frD l k) = Lib.decDigits (frN l k) ++ (47 :: Lib.decDigits (frD l k))) := Lib.hid (by
      have := HC.out
      rw [hq] at this
      unfold fTxt
      rw [if_neg (of_decide_eq_false this.symm)])
    go_wp2_with fail
    have h4 := h4.drew
    have r1 := r1.drew
    have r2 := r2.drew
    have hb4 := hb4.drew
    clear hc0 hc1
    have hlA := dec_len_digs (X := frN l k) r1.len
    have hlB := dec_len_digs (X := frD l k) r2.len
    have hS : X2.drew.cell? ⟨w.heap.size, 0, none⟩ = some (.slice A2 n2 c2) ∧ X2.drew.cell? ⟨w.heap.size, 1, none⟩ = some (.slice B2 m2 d2) := ⟨h4.cell 0, h4.cell 1⟩
    refine wp_region_noPanic ?_
    refine ord_begin 7 (fun wx => wx.cell? ⟨w.heap.size, 0, none⟩ = some (.slice A2 n2 c2) ∧ wx.cell? ⟨w.heap.size, 1, none⟩ = some (.slice B2 m2 d2)) (by kernel_rfl) ?_
    refine ord_take (i := 0) (v := ?_) (by kernel_rfl) rfl (by decide) (by kernel_rfl) (by kernel_rfl) (fun _ _ _ h => h) (Or.inl ⟨by rfl, ?_⟩) hS ?_
    rotate_left
    · intro wz hz; (try dsimp only at hz); (try go_split_ands); go_simp; (try with_reducible rfl)
    try simp only [Act.put, List.getElem_toArray, List.getElem_cons_zero, List.getElem_cons_succ, List.setIfInBounds_toArray, List.set_cons_zero, List.set_cons_succ]
    refine ord_take (i := 1) (v := ?_) (by kernel_rfl) rfl (by decide) (by kernel_rfl) (by kernel_rfl) (fun _ _ _ h => h) (Or.inl ⟨by rfl, ?_⟩) hS ?_
    rotate_left
    · intro wz hz; (try dsimp only at hz); (try go_split_ands); go_simp; (try with_reducible rfl)
    try simp only [Act.put, List.getElem_toArray, List.getElem_cons_zero, List.getElem_cons_succ, List.setIfInBounds_toArray, List.set_cons_zero, List.set_cons_succ]
    refine ord_take (i := 4) (v := ?_) (by kernel_rfl) rfl (by decide) (by kernel_rfl) (by kernel_rfl) (fun _ _ _ h => h) (Or.inl ⟨by rfl, ?_⟩) hS ?_
    rotate_left
    · intro wz hz; (try dsimp only at hz); (try go_split_ands); go_simp; (try with_reducible rfl)
    try simp only [Act.put, List.getElem_toArray, List.getElem_cons_zero, List.getElem_cons_succ, List.setIfInBounds_toArray, List.set_cons_zero, List.set_cons_succ]
    refine ord_take (i := 5) (v := ?_) (by kernel_rfl) rfl (by decide) (by kernel_rfl) (by kernel_rfl) (fun _ _ _ h => h) (Or.inl ⟨by rfl, ?_⟩) hS ?_
    rotate_left
    · intro wz hz; (try dsimp only at hz); (try go_split_ands); go_simp; (try with_reducible rfl)
    try simp only [Act.put, List.getElem_toArray, List.getElem_cons_zero, List.getElem_cons_succ, List.setIfInBounds_toArray, List.set_cons_zero, List.set_cons_succ]
    refine ord_step (i := 2) rfl (by decide) (by kernel_rfl) (by rfl) (fun K hK => ?_)
    go_simp
    refine (text_any _ (HT.out.on hb4) _ _ _ _ r1 hn2).mono ?_
    rintro e X3 ⟨rfl, hb⟩
    rw [tv_digs, txt]
    have h4 := h4.below hb h4.lt
    have r2 := r2.on hb
    have hb4 := bltB hb4 hb4.size hb
    have hS1 : X3.cell? ⟨w.heap.size, 0, none⟩ = some (.slice A2 n2 c2) ∧ X3.cell? ⟨w.heap.size, 1, none⟩ = some (.slice B2 m2 d2) := ⟨h4.cell 0, h4.cell 1⟩
    clear hb
    refine hK _ _ hS1 ?_
    clear hK K
    try simp only [Act.put, List.getElem_toArray, List.getElem_cons_zero, List.getElem_cons_succ, List.setIfInBounds_toArray, List.set_cons_zero, List.set_cons_succ]
    refine ord_take (i := 3) (v := ?_) (by kernel_rfl) rfl (by decide) (by kernel_rfl) (by kernel_rfl) (fun _ _ _ h => h) (Or.inl ⟨by rfl, ?_⟩) hS1 ?_
    rotate_left
    · intro wz hz; (try dsimp only at hz); (try go_split_ands); go_simp; rw [if_neg (by omega)]
    try simp only [Act.put, List.getElem_toArray, List.getElem_cons_zero, List.getElem_cons_succ, List.setIfInBounds_toArray, List.set_cons_zero, List.set_cons_succ]
    refine ord_step (i := 6) rfl (by decide) (by kernel_rfl) (by rfl) (fun K hK => ?_)
    go_simp
    refine (text_any _ (HT.out.on hb4) _ _ _ _ r2 hm2).mono ?_
    rintro e X4 ⟨rfl, hb⟩
    rw [tv_digs, txt]
    have h4 := h4.below hb h4.lt
    have hb4 := bltB hb4 hb4.size hb
    have hS2 : X4.cell? ⟨w.heap.size, 0, none⟩ = some (.slice A2 n2 c2) ∧ X4.cell? ⟨w.heap.size, 1, none⟩ = some (.slice B2 m2 d2) := ⟨h4.cell 0, h4.cell 1⟩
    clear hb
    refine hK _ _ hS2 ?_
    clear hK K
    try simp only [Act.put, List.getElem_toArray, List.getElem_cons_zero, List.getElem_cons_succ, List.setIfInBounds_toArray, List.set_cons_zero, List.set_cons_succ]
    refine ord_rest (by kernel_rfl) ?_
    refine wpAny_take (i := 7) (v := ?_) rfl (by kernel_rfl) (by kernel_rfl) (by kernel_rfl) (fun _ _ _ h => h) (Or.inl ⟨by rfl, ?_⟩) ?_
    rotate_left
    · intro wz; go_simp; rw [if_neg (by omega)]
    try simp only [Act.put, List.getElem_toArray, List.getElem_cons_zero, List.getElem_cons_succ, List.setIfInBounds_toArray, List.set_cons_zero, List.set_cons_succ]
    refine wpAny_take (i := 8) (v := ?_) rfl (by kernel_rfl) (by kernel_rfl) (by kernel_rfl) (fun _ _ _ h => h) (Or.inl ⟨by rfl, ?_⟩) ?_
    rotate_left
    · intro wz; go_simp; (try with_reducible rfl)
    try simp only [Act.put, List.getElem_toArray, List.getElem_cons_zero, List.getElem_cons_succ, List.setIfInBounds_toArray, List.set_cons_zero, List.set_cons_succ]
    refine wpAny_done (by kernel_rfl) ?_ _
    refine NoPanic.normal ?_
    have HB := Lib.hid hb4
    clear hb4 h4 hS hS1 hS2
    go_wp2_with fail
    go_ret
    exact ⟨by rw [HD.out, txt, ← fr_bytes]; rfl, HB.out⟩
  · have HD : Hid (fTxt (frN l k) (frD l k) = Lib.decDigits (frN l k)) := Lib.hid (by
      have := HC.out
      rw [hq] at this
      unfold fTxt
      rw [if_pos (of_decide_eq_true this.symm)])
    go_wp2_with fail
    refine (text_any _ (HT.out.on hb4) _ _ _ _ r1 hn2).mono ?_
    rintro e w4 ⟨rfl, hb⟩
    rw [tv_digs, txt]
    have hb5 := Lib.hid (bltB hb4 hb4.size hb)
    clear hb hb4 r1 r2 h4 hc0 hc1
    go_wp2_with fail
    go_ret
    exact ⟨by rw [HD.out]; rfl, hb5.out⟩

end Go.Proofs.YthkgeafidbihmaaGreatDoor
