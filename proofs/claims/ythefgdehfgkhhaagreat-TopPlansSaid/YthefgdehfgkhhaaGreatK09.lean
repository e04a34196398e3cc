/-
  Graphs: Right.
-/
import Derived.Test.YthefgdehfgkhhaaGreatK01
import Derived.Test.YthefgdehfgkhhaaGreatK08
namespace Go.Proofs.YthefgdehfgkhhaaGreat
open Go.RowKit Go.Shelf
set_option linter.unusedVariables false
set_option linter.unusedSimpArgs false
theorem rightG_yes {g : List Ed} (h : ∀ j, j < g.length → rightAt g j = true) : rightG g = true := by
 unfold rightG
 rw [List.all_eq_true]
 intro j hj
 exact h j (List.mem_range.1 hj)
theorem rightG_no {g : List Ed} {j : Nat} (hj : j < g.length) (h : rightAt g j = false) : rightG g = false := by
 unfold rightG
 rw [List.all_eq_false]
 exact ⟨j, List.mem_range.2 hj, by rw [h]; decide⟩
theorem right_zero (g : List Ed) : rightAt g 0 = edgeB (eAt g 0) := by
 unfold rightAt
 simp
theorem right_one (g : List Ed) (k : Nat) : rightAt g (k + 1) = (edgeB (eAt g (k + 1)) && (decide (orderI (eAt g k) (eAt g (k + 1)) < 0) && (decide ((eAt g k).c ≠ (eAt g (k + 1)).c) ||
 ((decide (k = 0) || decide ((eAt g (k - 1)).c ≠ (eAt g (k + 1)).c)) && (decide ((eAt g k).f = (eAt g (k + 1)).t) && (decide ((eAt g k).t = (eAt g (k + 1)).f) && decide ((eAt g k).r = (eAt g (k + 1)).r))))))) := by
 unfold rightAt
 have e1 : decide (k + 1 = 0) = false := by simp
 have e2 : decide (k + 1 ≤ 1) = decide (k = 0) := by rw [decide_eq_decide]; omega
 rw [e1, e2]
 simp
set_option maxRecDepth 100000 in
set_option maxHeartbeats 2000000 in
theorem gright_any (w : World) (A : Option Addr) (n c : Nat) (g : List Ed) (h : RE w A n c g) (hn : n ≤ 1048576) : Calls Tryz.prog 25 #[.slice A n c] w fun e w' => e = .returned (.bool (rightG g)) ∧ Below w.heap.size w w' := by
 have HL := Lib.hid h
 have hlen := h.elen
 have Hlen := Lib.hid hlen
 clear h hlen
 go_enter Tryz.func25, Tryz.ntmps25
 go_wp2_with fail
 go_loopw [8] (fun iv wr => ∃ i : Nat, i ≤ n ∧ iv = .int .i64 i ∧ Hid (∀ j, j < i → rightAt g j = true) ∧ Below w.heap.size w wr) (fun iv _ => n - (intOf iv).toNat)
 case atStart => exact ⟨0, Nat.zero_le _, rfl, Lib.hid (fun j hj => by omega), Below.refl _ _⟩
 case round =>
  obtain ⟨i, hi, rfl, HA, hB⟩ := hrel
  by_cases hlt : i < n
  ·obtain ⟨b, off, e, hA, hb, hx, hat, a0, a1, a2, a3, a4, a5, a6, a7, a8⟩ := (HL.out.on hB).edge hlt
   have HE := Lib.hid hat
   have HJ := Lib.hid (show i < g.length by rw [Hlen.out]; exact hlt)
   subst hA
   clear hx hat
   have hlt' : (i : Int) < (n : Int) := by omega
   obtain ⟨f, t, ch, r, p0, p1, p2, p3, p4⟩ := e
   dsimp only at a0 a1 a2 a3 a4 a5 a6 a7 a8
   go_wp2_with fail
   obtain ⟨W1, hW1⟩ : ∃ W, W = wr.alloc (.cells #[.int .i64 f, .int .i64 t, .int .i64 ch, .int .i64 r, .int .i64 p0, .int .i64 p1, .int .i64 p2, .int .i64 p3, .int .i64 p4] 56) := ⟨_, rfl⟩
   have hb1 : Below wr.heap.size wr W1 := by rw [hW1]; exact (Below.refl _ _).alloc (Nat.le_refl _) _
   have k4 : Blk W1 wr.heap.size 56 #[.int .i64 f, .int .i64 t, .int .i64 ch, .int .i64 r, .int .i64 p0, .int .i64 p1, .int .i64 p2, .int .i64 p3, .int .i64 p4] := by rw [hW1]; exact Blk.new wr _ _
   obtain ⟨G, hG⟩ : ∃ G, wr.heap.size = G := ⟨_, rfl⟩
   rw [← hW1, hG]
   rw [hG] at k4
   have hbW : b < W1.heap.size := Nat.lt_of_lt_of_le hb hb1.size
   have hB1 := Lib.hid (bltB hB hB.size hb1)
   clear hW1 hG hb1 a0 a1 a2 a3 a4 a5 a6 a7 a8
   rcases hed : edgeB ⟨f, t, ch, r, p0, p1, p2, p3, p4⟩ with _ | _
   ·have HF : Hid (rightG g = false) := Lib.hid (rightG_no HJ.out (by
     rcases i with _ | k
     ·rw [right_zero, HE.out, hed]
     ·rw [right_one, HE.out, hed]; rfl))
    refine wp_region_noPanic ?_
    refine ord_begin 16 (fun wx => Below W1.heap.size W1 wx) (by kernel_rfl) ?_
    have hx0 : Below W1.heap.size W1 W1.drew := (Below.refl _ _).drew
    refine ord_take (i := 0) (v := ?_) (by kernel_rfl) rfl (by decide) (by kernel_rfl) (by kernel_rfl) (fun _ _ _ h => h) (Or.inl ⟨by rfl, ?_⟩) hx0 ?_
    rotate_left
    ·intro wz hz; have j4 := k4.below hz k4.lt; have q0 := j4.cell 0; have q1 := j4.cell 1; have q2 := j4.cell 2; have q3 := j4.cell 3; have q4 := j4.cell 4; have q5 := j4.cell 5; have q6 := j4.cell 6; have q7 := j4.cell 7; have q8 := j4.cell 8; go_simp; (try with_reducible rfl)
    try simp only [Act.put, pu]
    refine ord_step (i := 1) rfl (by decide) (by kernel_rfl) (by rfl) (fun K hK => ?_)
    go_simp
    refine (edge_any ⟨f, t, ch, r, p0, p1, p2, p3, p4⟩ _).mono ?_
    rintro y Xa_1 ⟨rfl, hb⟩
    rw [hed]
    have hx1 := bltB hx0 hx0.size hb
    clear hb hx0
    refine hK _ _ hx1 ?_
    clear hK K
    try simp only [Act.put, pu]
    refine ord_take (i := 2) (v := ?_) (by kernel_rfl) rfl (by decide) (by kernel_rfl) (by kernel_rfl) (fun _ _ _ h => h) (Or.inl ⟨by rfl, ?_⟩) hx1 ?_
    rotate_left
    ·intro wz hz; go_simp; (try with_reducible rfl)
    try simp only [Act.put, pu]
    refine ord_take (i := 3) (v := ?_) (by kernel_rfl) rfl (by decide) (by kernel_rfl) (by kernel_rfl) (fun _ _ _ h => h) (Or.inl ⟨by rfl, ?_⟩) hx1 ?_
    rotate_left
    ·intro wz hz; go_simp; (try with_reducible rfl)
    try simp only [Act.put, pu]
    refine ord_take (i := 4) (v := undef) (by kernel_rfl) rfl (by decide) (by kernel_rfl) (by kernel_rfl) (fun _ _ _ h => h) (Or.inr ⟨by rfl, rfl⟩) hx1 ?_
    try simp only [Act.put, pu]
    refine ord_take (i := 5) (v := undef) (by kernel_rfl) rfl (by decide) (by kernel_rfl) (by kernel_rfl) (fun _ _ _ h => h) (Or.inr ⟨by rfl, rfl⟩) hx1 ?_
    try simp only [Act.put, pu]
    refine ord_take (i := 6) (v := undef) (by kernel_rfl) rfl (by decide) (by kernel_rfl) (by kernel_rfl) (fun _ _ _ h => h) (Or.inr ⟨by rfl, rfl⟩) hx1 ?_
    try simp only [Act.put, pu]
    refine ord_take (i := 7) (v := undef) (by kernel_rfl) rfl (by decide) (by kernel_rfl) (by kernel_rfl) (fun _ _ _ h => h) (Or.inr ⟨by rfl, rfl⟩) hx1 ?_
    try simp only [Act.put, pu]
    refine ord_take (i := 8) (v := undef) (by kernel_rfl) rfl (by decide) (by kernel_rfl) (by kernel_rfl) (fun _ _ _ h => h) (Or.inr ⟨by rfl, rfl⟩) hx1 ?_
    try simp only [Act.put, pu]
    refine ord_take (i := 9) (v := undef) (by kernel_rfl) rfl (by decide) (by kernel_rfl) (by kernel_rfl) (fun _ _ _ h => h) (Or.inr ⟨by rfl, rfl⟩) hx1 ?_
    try simp only [Act.put, pu]
    refine ord_take (i := 10) (v := undef) (by kernel_rfl) rfl (by decide) (by kernel_rfl) (by kernel_rfl) (fun _ _ _ h => h) (Or.inr ⟨by rfl, rfl⟩) hx1 ?_
    try simp only [Act.put, pu]
    refine ord_take (i := 11) (v := undef) (by kernel_rfl) rfl (by decide) (by kernel_rfl) (by kernel_rfl) (fun _ _ _ h => h) (Or.inr ⟨by rfl, rfl⟩) hx1 ?_
    try simp only [Act.put, pu]
    refine ord_take (i := 12) (v := undef) (by kernel_rfl) rfl (by decide) (by kernel_rfl) (by kernel_rfl) (fun _ _ _ h => h) (Or.inr ⟨by rfl, rfl⟩) hx1 ?_
    try simp only [Act.put, pu]
    refine ord_take (i := 13) (v := undef) (by kernel_rfl) rfl (by decide) (by kernel_rfl) (by kernel_rfl) (fun _ _ _ h => h) (Or.inr ⟨by rfl, rfl⟩) hx1 ?_
    try simp only [Act.put, pu]
    refine ord_take (i := 14) (v := undef) (by kernel_rfl) rfl (by decide) (by kernel_rfl) (by kernel_rfl) (fun _ _ _ h => h) (Or.inr ⟨by rfl, rfl⟩) hx1 ?_
    try simp only [Act.put, pu]
    refine ord_take (i := 15) (v := undef) (by kernel_rfl) rfl (by decide) (by kernel_rfl) (by kernel_rfl) (fun _ _ _ h => h) (Or.inr ⟨by rfl, rfl⟩) hx1 ?_
    try simp only [Act.put, pu]
    refine ord_rest (by kernel_rfl) ?_
    refine wpAny_take (i := 16) (v := ?_) rfl (by kernel_rfl) (by kernel_rfl) (by kernel_rfl) (fun _ _ _ h => h) (Or.inl ⟨by rfl, ?_⟩) ?_
    rotate_left
    ·intro wz; go_simp; (try with_reducible rfl)
    try simp only [Act.put, pu]
    refine wpAny_done (by kernel_rfl) ?_ _
    refine NoPanic.normal ?_
    have HB := Lib.hid (bltB hB1.out hB1.out.size hx1)
    clear hx1
    go_wp2_with fail
    go_ret
    exact ⟨by rw [HF.out]; rfl, HB.out⟩
   ·rcases i with _ | k
    ·have HZ : Hid (∀ j, j < 0 + 1 → rightAt g j = true) := Lib.hid (fun j hj => by
      obtain rfl : j = 0 := by omega
      rw [right_zero, HE.out, hed])
     have g0 : ¬ (0 : Int) < ((0 : Nat) : Int) := by omega
     refine wp_region_noPanic ?_
     refine ord_begin 16 (fun wx => Below W1.heap.size W1 wx) (by kernel_rfl) ?_
     have hx0 : Below W1.heap.size W1 W1.drew := (Below.refl _ _).drew
     refine ord_take (i := 0) (v := ?_) (by kernel_rfl) rfl (by decide) (by kernel_rfl) (by kernel_rfl) (fun _ _ _ h => h) (Or.inl ⟨by rfl, ?_⟩) hx0 ?_
     rotate_left
     ·intro wz hz; have j4 := k4.below hz k4.lt; have q0 := j4.cell 0; have q1 := j4.cell 1; have q2 := j4.cell 2; have q3 := j4.cell 3; have q4 := j4.cell 4; have q5 := j4.cell 5; have q6 := j4.cell 6; have q7 := j4.cell 7; have q8 := j4.cell 8; go_simp; (try with_reducible rfl)
     try simp only [Act.put, pu]
     refine ord_step (i := 1) rfl (by decide) (by kernel_rfl) (by rfl) (fun K hK => ?_)
     go_simp
     refine (edge_any ⟨f, t, ch, r, p0, p1, p2, p3, p4⟩ _).mono ?_
     rintro y Xb_1 ⟨rfl, hb⟩
     rw [hed]
     have hx1 := bltB hx0 hx0.size hb
     clear hb hx0
     refine hK _ _ hx1 ?_
     clear hK K
     try simp only [Act.put, pu]
     refine ord_take (i := 2) (v := ?_) (by kernel_rfl) rfl (by decide) (by kernel_rfl) (by kernel_rfl) (fun _ _ _ h => h) (Or.inl ⟨by rfl, ?_⟩) hx1 ?_
     rotate_left
     ·intro wz hz; go_simp; (try with_reducible rfl)
     try simp only [Act.put, pu]
     refine ord_take (i := 3) (v := ?_) (by kernel_rfl) rfl (by decide) (by kernel_rfl) (by kernel_rfl) (fun _ _ _ h => h) (Or.inl ⟨by rfl, ?_⟩) hx1 ?_
     rotate_left
     ·intro wz hz; go_simp; (try with_reducible rfl)
     try simp only [Act.put, pu]
     refine ord_take (i := 4) (v := ?_) (by kernel_rfl) rfl (by decide) (by kernel_rfl) (by kernel_rfl) (fun _ _ _ h => h) (Or.inl ⟨by rfl, ?_⟩) hx1 ?_
     rotate_left
     ·intro wz hz; go_simp; (try with_reducible rfl)
     try simp only [Act.put, pu]
     refine ord_take (i := 5) (v := ?_) (by kernel_rfl) rfl (by decide) (by kernel_rfl) (by kernel_rfl) (fun _ _ _ h => h) (Or.inl ⟨by rfl, ?_⟩) hx1 ?_
     rotate_left
     ·intro wz hz; go_simp; (try with_reducible rfl)
     try simp only [Act.put, pu]
     refine ord_take (i := 6) (v := ?_) (by kernel_rfl) rfl (by decide) (by kernel_rfl) (by kernel_rfl) (fun _ _ _ h => h) (Or.inl ⟨by rfl, ?_⟩) hx1 ?_
     rotate_left
     ·intro wz hz; go_simp; (try with_reducible rfl)
     try simp only [Act.put, pu]
     refine ord_take (i := 7) (v := undef) (by kernel_rfl) rfl (by decide) (by kernel_rfl) (by kernel_rfl) (fun _ _ _ h => h) (Or.inr ⟨by rfl, rfl⟩) hx1 ?_
     try simp only [Act.put, pu]
     refine ord_take (i := 8) (v := undef) (by kernel_rfl) rfl (by decide) (by kernel_rfl) (by kernel_rfl) (fun _ _ _ h => h) (Or.inr ⟨by rfl, rfl⟩) hx1 ?_
     try simp only [Act.put, pu]
     refine ord_take (i := 9) (v := undef) (by kernel_rfl) rfl (by decide) (by kernel_rfl) (by kernel_rfl) (fun _ _ _ h => h) (Or.inr ⟨by rfl, rfl⟩) hx1 ?_
     try simp only [Act.put, pu]
     refine ord_take (i := 10) (v := undef) (by kernel_rfl) rfl (by decide) (by kernel_rfl) (by kernel_rfl) (fun _ _ _ h => h) (Or.inr ⟨by rfl, rfl⟩) hx1 ?_
     try simp only [Act.put, pu]
     refine ord_take (i := 11) (v := undef) (by kernel_rfl) rfl (by decide) (by kernel_rfl) (by kernel_rfl) (fun _ _ _ h => h) (Or.inr ⟨by rfl, rfl⟩) hx1 ?_
     try simp only [Act.put, pu]
     refine ord_take (i := 12) (v := undef) (by kernel_rfl) rfl (by decide) (by kernel_rfl) (by kernel_rfl) (fun _ _ _ h => h) (Or.inr ⟨by rfl, rfl⟩) hx1 ?_
     try simp only [Act.put, pu]
     refine ord_take (i := 13) (v := undef) (by kernel_rfl) rfl (by decide) (by kernel_rfl) (by kernel_rfl) (fun _ _ _ h => h) (Or.inr ⟨by rfl, rfl⟩) hx1 ?_
     try simp only [Act.put, pu]
     refine ord_take (i := 14) (v := undef) (by kernel_rfl) rfl (by decide) (by kernel_rfl) (by kernel_rfl) (fun _ _ _ h => h) (Or.inr ⟨by rfl, rfl⟩) hx1 ?_
     try simp only [Act.put, pu]
     refine ord_take (i := 15) (v := ?_) (by kernel_rfl) rfl (by decide) (by kernel_rfl) (by kernel_rfl) (fun _ _ _ h => h) (Or.inl ⟨by rfl, ?_⟩) hx1 ?_
     rotate_left
     ·intro wz hz; go_simp; (try with_reducible rfl)
     try simp only [Act.put, pu]
     refine ord_rest (by kernel_rfl) ?_
     refine wpAny_take (i := 16) (v := ?_) rfl (by kernel_rfl) (by kernel_rfl) (by kernel_rfl) (fun _ _ _ h => h) (Or.inl ⟨by rfl, ?_⟩) ?_
     rotate_left
     ·intro wz; go_simp; (try with_reducible rfl)
     try simp only [Act.put, pu]
     refine wpAny_done (by kernel_rfl) ?_ _
     refine NoPanic.normal ?_
     have HB := Lib.hid (bltB hB1.out hB1.out.size hx1)
     replace k4 := k4.below hx1 k4.lt
     clear hx1
     have c2 := k4.cell 2
     go_wp2_with fail
     clear k4
     refine region_still (by kernel_rfl) (by kernel_rfl) ?_
     replace c2 := (show Xb_1.drew.cell? _ = _ from c2)
     replace HB := Lib.hid HB.out.drew
     generalize Xb_1.drew = Xb_1d at c2 HB ⊢
     with_reducible refine still_take ?_ ?_
     ·rfl
     intro K hK
     go_simp
     refine hK _ ?_
     clear hK K
     try simp only [Act.put, pu]
     with_reducible refine still_take ?_ ?_
     ·rfl
     intro K hK
     go_simp
     refine hK _ ?_
     clear hK K
     try simp only [Act.put, pu]
     with_reducible refine still_take ?_ ?_
     ·rfl
     intro K hK
     go_simp
     refine hK _ ?_
     clear hK K
     try simp only [Act.put, pu]
     with_reducible refine still_skip ?_ ?_
     ·rfl
     try simp only [Act.put, pu]
     with_reducible refine still_skip ?_ ?_
     ·rfl
     try simp only [Act.put, pu]
     with_reducible refine still_skip ?_ ?_
     ·rfl
     try simp only [Act.put, pu]
     with_reducible refine still_skip ?_ ?_
     ·rfl
     try simp only [Act.put, pu]
     with_reducible refine still_skip ?_ ?_
     ·rfl
     try simp only [Act.put, pu]
     with_reducible refine still_skip ?_ ?_
     ·rfl
     try simp only [Act.put, pu]
     with_reducible refine still_skip ?_ ?_
     ·rfl
     try simp only [Act.put, pu]
     with_reducible refine still_skip ?_ ?_
     ·rfl
     try simp only [Act.put, pu]
     with_reducible refine still_skip ?_ ?_
     ·rfl
     try simp only [Act.put, pu]
     with_reducible refine still_take ?_ ?_
     ·rfl
     intro K hK
     go_simp
     refine hK _ ?_
     clear hK K
     try simp only [Act.put, pu]
     with_reducible refine wpStill_nil ?_
     go_wp2_with fail
     go_roundw
     case rel => exact ⟨1, by omega, by go_num, HZ, HB.out⟩
     case measure => first | (simp [intOf]; done) | (simp [intOf]; omega)
    ·obtain ⟨d, hbd, hxd, hatd, d0, d1, d2, d3, d4, d5, d6, d7, d8⟩ := (HL.out.on hB1.out).edge_at (show k < n by omega)
     have HD := Lib.hid hatd
     obtain ⟨f', t', ch', r', p0', p1', p2', p3', p4'⟩ := d
     dsimp only at d0 d1 d2 d3 d4 d5 d6 d7 d8
     clear hxd hatd hbd
     have HRT := Lib.hid (right_one g k)
     rw [HE.out, HD.out, hed, Bool.true_and] at HRT
     have hw1 : IntKind.i64.wrap (k : Int) = (k : Int) := IntWalk.i64_in _ (by omega)
     have hkn : k < n := by omega
     have hg0 : (0 : Int) < ((k + 1 : Nat) : Int) := by omega
     obtain ⟨oz, hoz⟩ : ∃ z, orderI ⟨f', t', ch', r', p0', p1', p2', p3', p4'⟩ ⟨f, t, ch, r, p0, p1, p2, p3, p4⟩ = z := ⟨_, rfl⟩
     rw [hoz] at HRT
     by_cases hor : oz < 0
     ·skip
      rw [decide_eq_true hor, Bool.true_and] at HRT
      have hor2 : ¬ 0 ≤ oz := by omega
      refine wp_region_noPanic ?_
      refine ord_begin 16 (fun wx => Below W1.heap.size W1 wx) (by kernel_rfl) ?_
      have hx0 : Below W1.heap.size W1 W1.drew := (Below.refl _ _).drew
      refine ord_take (i := 0) (v := ?_) (by kernel_rfl) rfl (by decide) (by kernel_rfl) (by kernel_rfl) (fun _ _ _ h => h) (Or.inl ⟨by rfl, ?_⟩) hx0 ?_
      rotate_left
      ·intro wz hz; have j4 := k4.below hz k4.lt; have q0 := j4.cell 0; have q1 := j4.cell 1; have q2 := j4.cell 2; have q3 := j4.cell 3; have q4 := j4.cell 4; have q5 := j4.cell 5; have q6 := j4.cell 6; have q7 := j4.cell 7; have q8 := j4.cell 8; go_simp; (try with_reducible rfl)
      try simp only [Act.put, pu]
      refine ord_step (i := 1) rfl (by decide) (by kernel_rfl) (by rfl) (fun K hK => ?_)
      go_simp
      refine (edge_any ⟨f, t, ch, r, p0, p1, p2, p3, p4⟩ _).mono ?_
      rintro y Xd_1 ⟨rfl, hb⟩
      rw [hed]
      have hx1 := bltB hx0 hx0.size hb
      clear hb hx0
      refine hK _ _ hx1 ?_
      clear hK K
      try simp only [Act.put, pu]
      refine ord_take (i := 2) (v := ?_) (by kernel_rfl) rfl (by decide) (by kernel_rfl) (by kernel_rfl) (fun _ _ _ h => h) (Or.inl ⟨by rfl, ?_⟩) hx1 ?_
      rotate_left
      ·intro wz hz; go_simp; (try with_reducible rfl)
      try simp only [Act.put, pu]
      refine ord_take (i := 3) (v := ?_) (by kernel_rfl) rfl (by decide) (by kernel_rfl) (by kernel_rfl) (fun _ _ _ h => h) (Or.inl ⟨by rfl, ?_⟩) hx1 ?_
      rotate_left
      ·intro wz hz; go_simp; (try with_reducible rfl)
      try simp only [Act.put, pu]
      refine ord_take (i := 4) (v := ?_) (by kernel_rfl) rfl (by decide) (by kernel_rfl) (by kernel_rfl) (fun _ _ _ h => h) (Or.inl ⟨by rfl, ?_⟩) hx1 ?_
      rotate_left
      ·intro wz hz; go_simp; (try with_reducible rfl)
      try simp only [Act.put, pu]
      refine ord_take (i := 5) (v := ?_) (by kernel_rfl) rfl (by decide) (by kernel_rfl) (by kernel_rfl) (fun _ _ _ h => h) (Or.inl ⟨by rfl, ?_⟩) hx1 ?_
      rotate_left
      ·intro wz hz; go_simp; (try with_reducible rfl)
      try simp only [Act.put, pu]
      refine ord_take (i := 6) (v := ?_) (by kernel_rfl) rfl (by decide) (by kernel_rfl) (by kernel_rfl) (fun _ _ _ h => h) (Or.inl ⟨by rfl, ?_⟩) hx1 ?_
      rotate_left
      ·intro wz hz; go_simp; (try with_reducible rfl)
      try simp only [Act.put, pu]
      refine ord_take (i := 7) (v := ?_) (by kernel_rfl) rfl (by decide) (by kernel_rfl) (by kernel_rfl) (fun _ _ _ h => h) (Or.inl ⟨by rfl, ?_⟩) hx1 ?_
      rotate_left
      ·intro wz hz; go_simp; (try with_reducible rfl)
      try simp only [Act.put, pu]
      refine ord_take (i := 8) (v := ?_) (by kernel_rfl) rfl (by decide) (by kernel_rfl) (by kernel_rfl) (fun _ _ _ h => h) (Or.inl ⟨by rfl, ?_⟩) hx1 ?_
      rotate_left
      ·intro wz hz; go_simp; (try with_reducible rfl)
      try simp only [Act.put, pu]
      refine ord_take (i := 9) (v := ?_) (by kernel_rfl) rfl (by decide) (by kernel_rfl) (by kernel_rfl) (fun _ _ _ h => h) (Or.inl ⟨by rfl, ?_⟩) hx1 ?_
      rotate_left
      ·intro wz hz; go_simp; (try with_reducible rfl)
      try simp only [Act.put, pu]
      refine ord_take (i := 10) (v := ?_) (by kernel_rfl) rfl (by decide) (by kernel_rfl) (by kernel_rfl) (fun _ _ _ h => h) (Or.inl ⟨by rfl, ?_⟩) hx1 ?_
      rotate_left
      ·intro wz hz; go_simp; (try with_reducible rfl)
      try simp only [Act.put, pu]
      refine ord_take (i := 11) (v := ?_) (by kernel_rfl) rfl (by decide) (by kernel_rfl) (by kernel_rfl) (fun _ _ _ h => h) (Or.inl ⟨by rfl, ?_⟩) hx1 ?_
      rotate_left
      ·intro wz hz; have dq0 := (hz.cell (p := ⟨b, _, none⟩) hbW).trans d0; have dq1 := (hz.cell (p := ⟨b, _, none⟩) hbW).trans d1; have dq2 := (hz.cell (p := ⟨b, _, none⟩) hbW).trans d2; have dq3 := (hz.cell (p := ⟨b, _, none⟩) hbW).trans d3; have dq4 := (hz.cell (p := ⟨b, _, none⟩) hbW).trans d4; have dq5 := (hz.cell (p := ⟨b, _, none⟩) hbW).trans d5; have dq6 := (hz.cell (p := ⟨b, _, none⟩) hbW).trans d6; have dq7 := (hz.cell (p := ⟨b, _, none⟩) hbW).trans d7; have dq8 := (hz.cell (p := ⟨b, _, none⟩) hbW).trans d8; go_simp; (try with_reducible rfl)
      try simp only [Act.put, pu]
      refine ord_take (i := 12) (v := ?_) (by kernel_rfl) rfl (by decide) (by kernel_rfl) (by kernel_rfl) (fun _ _ _ h => h) (Or.inl ⟨by rfl, ?_⟩) hx1 ?_
      rotate_left
      ·intro wz hz; have j4 := k4.below hz k4.lt; have q0 := j4.cell 0; have q1 := j4.cell 1; have q2 := j4.cell 2; have q3 := j4.cell 3; have q4 := j4.cell 4; have q5 := j4.cell 5; have q6 := j4.cell 6; have q7 := j4.cell 7; have q8 := j4.cell 8; go_simp; (try with_reducible rfl)
      try simp only [Act.put, pu]
      refine ord_step (i := 13) rfl (by decide) (by kernel_rfl) (by rfl) (fun K hK => ?_)
      go_simp
      refine (order_any ⟨f', t', ch', r', p0', p1', p2', p3', p4'⟩ ⟨f, t, ch, r, p0, p1, p2, p3, p4⟩ _).mono ?_
      rintro y Xd_2 ⟨rfl, hb⟩
      rw [hoz]
      have hx2 := bltB hx1 hx1.size hb
      clear hb hx1
      refine hK _ _ hx2 ?_
      clear hK K
      try simp only [Act.put, pu]
      refine ord_take (i := 14) (v := ?_) (by kernel_rfl) rfl (by decide) (by kernel_rfl) (by kernel_rfl) (fun _ _ _ h => h) (Or.inl ⟨by rfl, ?_⟩) hx2 ?_
      rotate_left
      ·intro wz hz; go_simp; (try with_reducible rfl)
      try simp only [Act.put, pu]
      refine ord_take (i := 15) (v := ?_) (by kernel_rfl) rfl (by decide) (by kernel_rfl) (by kernel_rfl) (fun _ _ _ h => h) (Or.inl ⟨by rfl, ?_⟩) hx2 ?_
      rotate_left
      ·intro wz hz; go_simp; (try with_reducible rfl)
      try simp only [Act.put, pu]
      refine ord_rest (by kernel_rfl) ?_
      refine wpAny_take (i := 16) (v := ?_) rfl (by kernel_rfl) (by kernel_rfl) (by kernel_rfl) (fun _ _ _ h => h) (Or.inl ⟨by rfl, ?_⟩) ?_
      rotate_left
      ·intro wz; go_simp; (try with_reducible rfl)
      try simp only [Act.put, pu]
      refine wpAny_done (by kernel_rfl) ?_ _
      refine NoPanic.normal ?_
      have HB := Lib.hid (bltB hB1.out hB1.out.size hx2)
      replace k4 := k4.below hx2 k4.lt
      replace d0 := (hx2.cell (p := ⟨b, _, none⟩) hbW).trans d0
      replace d1 := (hx2.cell (p := ⟨b, _, none⟩) hbW).trans d1
      replace d2 := (hx2.cell (p := ⟨b, _, none⟩) hbW).trans d2
      replace d3 := (hx2.cell (p := ⟨b, _, none⟩) hbW).trans d3
      replace d4 := (hx2.cell (p := ⟨b, _, none⟩) hbW).trans d4
      replace d5 := (hx2.cell (p := ⟨b, _, none⟩) hbW).trans d5
      replace d6 := (hx2.cell (p := ⟨b, _, none⟩) hbW).trans d6
      replace d7 := (hx2.cell (p := ⟨b, _, none⟩) hbW).trans d7
      replace d8 := (hx2.cell (p := ⟨b, _, none⟩) hbW).trans d8
      have hbX : b < Xd_2.heap.size := Nat.lt_of_lt_of_le hbW hx2.size
      clear hx2
      dsimp only at HRT
      have c0 := k4.cell 0
      have c1 := k4.cell 1
      have c2 := k4.cell 2
      have c3 := k4.cell 3
      go_wp2_with fail
      by_cases hcc : ch' = ch
      ·subst hcc
       rw [decide_eq_false (show ¬ ch' ≠ ch' from fun h => h rfl), Bool.false_or] at HRT
       refine region_still (by kernel_rfl) (by kernel_rfl) ?_
       replace d0 := (show Xd_2.drew.cell? _ = _ from d0)
       replace d1 := (show Xd_2.drew.cell? _ = _ from d1)
       replace d2 := (show Xd_2.drew.cell? _ = _ from d2)
       replace d3 := (show Xd_2.drew.cell? _ = _ from d3)
       replace d4 := (show Xd_2.drew.cell? _ = _ from d4)
       replace d5 := (show Xd_2.drew.cell? _ = _ from d5)
       replace d6 := (show Xd_2.drew.cell? _ = _ from d6)
       replace d7 := (show Xd_2.drew.cell? _ = _ from d7)
       replace d8 := (show Xd_2.drew.cell? _ = _ from d8)
       replace c0 := (show Xd_2.drew.cell? _ = _ from c0)
       replace c1 := (show Xd_2.drew.cell? _ = _ from c1)
       replace c2 := (show Xd_2.drew.cell? _ = _ from c2)
       replace c3 := (show Xd_2.drew.cell? _ = _ from c3)
       replace HB := Lib.hid HB.out.drew
       replace k4 := k4.drew
       generalize Xd_2.drew = Xd_2d at d0 d1 d2 d3 d4 d5 d6 d7 d8 c0 c1 c2 c3 HB k4 ⊢
       with_reducible refine still_take ?_ ?_
       ·rfl
       intro K hK
       go_simp
       refine hK _ ?_
       clear hK K
       try simp only [Act.put, pu]
       with_reducible refine still_take ?_ ?_
       ·rfl
       intro K hK
       go_simp
       refine hK _ ?_
       clear hK K
       try simp only [Act.put, pu]
       with_reducible refine still_take ?_ ?_
       ·rfl
       intro K hK
       go_simp
       refine hK _ ?_
       clear hK K
       try simp only [Act.put, pu]
       with_reducible refine still_take ?_ ?_
       ·rfl
       intro K hK
       go_simp
       refine hK _ ?_
       clear hK K
       try simp only [Act.put, pu]
       with_reducible refine still_take ?_ ?_
       ·rfl
       intro K hK
       go_simp
       refine hK _ ?_
       clear hK K
       try simp only [Act.put, pu]
       with_reducible refine still_take ?_ ?_
       ·rfl
       intro K hK
       go_simp
       refine hK _ ?_
       clear hK K
       try simp only [Act.put, pu]
       with_reducible refine still_take ?_ ?_
       ·rfl
       intro K hK
       go_simp
       refine hK _ ?_
       clear hK K
       try simp only [Act.put, pu]
       with_reducible refine still_take ?_ ?_
       ·rfl
       intro K hK
       go_simp
       refine hK _ ?_
       clear hK K
       try simp only [Act.put, pu]
       with_reducible refine still_take ?_ ?_
       ·rfl
       intro K hK
       go_simp
       refine hK _ ?_
       clear hK K
       try simp only [Act.put, pu]
       with_reducible refine still_take ?_ ?_
       ·rfl
       intro K hK
       go_simp
       refine hK _ ?_
       clear hK K
       try simp only [Act.put, pu]
       with_reducible refine still_take ?_ ?_
       ·rfl
       intro K hK
       go_simp
       refine hK _ ?_
       clear hK K
       try simp only [Act.put, pu]
       with_reducible refine still_take ?_ ?_
       ·rfl
       intro K hK
       go_simp
       refine hK _ ?_
       clear hK K
       try simp only [Act.put, pu]
       with_reducible refine still_take ?_ ?_
       ·rfl
       intro K hK
       go_simp
       refine hK _ ?_
       clear hK K
       try simp only [Act.put, pu]
       with_reducible refine wpStill_nil ?_
       go_wp2_with fail
       obtain ⟨W2, hW2⟩ : ∃ W, W = Xd_2d.alloc (.cells #[.int .i64 f', .int .i64 t', .int .i64 ch', .int .i64 r', .int .i64 p0', .int .i64 p1', .int .i64 p2', .int .i64 p3', .int .i64 p4'] 56) := ⟨_, rfl⟩
       have hb2 : Below Xd_2d.heap.size Xd_2d W2 := by rw [hW2]; exact (Below.refl _ _).alloc (Nat.le_refl _) _
       have k5 : Blk W2 Xd_2d.heap.size 56 #[.int .i64 f', .int .i64 t', .int .i64 ch', .int .i64 r', .int .i64 p0', .int .i64 p1', .int .i64 p2', .int .i64 p3', .int .i64 p4'] := by rw [hW2]; exact Blk.new Xd_2d _ _
       obtain ⟨G5, hG5⟩ : ∃ G, Xd_2d.heap.size = G := ⟨_, rfl⟩
       rw [← hW2, hG5]
       rw [hG5] at k5
       replace HB := Lib.hid (bltB HB.out HB.out.size hb2)
       replace k4 := k4.below hb2 k4.lt
       rcases k with _ | m
       ·rw [show decide ((0 : Nat) = 0) = true from rfl, Bool.true_or, Bool.true_and] at HRT
        clear hW2 hG5 hb2
        clear d0 d1 d2 d3 d4 d5 d6 d7 d8 c0 c1 c2 c3
        have c0 := k4.cell 0
        have c1 := k4.cell 1
        have c2 := k4.cell 2
        have c3 := k4.cell 3
        have e0 := k5.cell 0
        have e1 := k5.cell 1
        have e3 := k5.cell 3
        go_wp2_with fail
        by_cases hq1 : f' = t
        ·by_cases hq2 : t' = f
         ·by_cases hq3 : r' = r
          ·have HZ : Hid (∀ j, j < 0 + 2 → rightAt g j = true) := Lib.hid (fun j hj => by
            rcases Nat.lt_or_ge j (0 + 1) with h | h
            ·exact HA.out j h
            ·obtain rfl : j = 0 + 1 := by omega
             rw [HRT.out, decide_eq_true hq1, decide_eq_true hq2, decide_eq_true hq3]; rfl)
           have g1 : (f' != t) = false := by simpa using hq1
           have h1 : (f' == t) = true := by simpa using hq1
           have g2 : (t' != f) = false := by simpa using hq2
           have h2 : (t' == f) = true := by simpa using hq2
           have g3 : (r' != r) = false := by simpa using hq3
           have h3 : (r' == r) = true := by simpa using hq3
           clear hq1 hq2 hq3 HRT
           refine region_still (by kernel_rfl) (by kernel_rfl) ?_
           replace c0 := (show W2.drew.cell? _ = _ from c0)
           replace c1 := (show W2.drew.cell? _ = _ from c1)
           replace c2 := (show W2.drew.cell? _ = _ from c2)
           replace c3 := (show W2.drew.cell? _ = _ from c3)
           replace e0 := (show W2.drew.cell? _ = _ from e0)
           replace e1 := (show W2.drew.cell? _ = _ from e1)
           replace e3 := (show W2.drew.cell? _ = _ from e3)
           replace HB := Lib.hid HB.out.drew
           generalize W2.drew = W2d at c0 c1 c2 c3 e0 e1 e3 HB ⊢
           with_reducible refine still_take ?_ ?_
           ·rfl
           intro K hK
           go_simp
           refine hK _ ?_
           clear hK K
           try simp only [Act.put, pu]
           with_reducible refine still_take ?_ ?_
           ·rfl
           intro K hK
           go_simp
           refine hK _ ?_
           clear hK K
           try simp only [Act.put, pu]
           with_reducible refine still_take ?_ ?_
           ·rfl
           intro K hK
           go_simp
           refine hK _ ?_
           clear hK K
           try simp only [Act.put, pu]
           with_reducible refine still_skip ?_ ?_
           ·rfl
           try simp only [Act.put, pu]
           with_reducible refine still_skip ?_ ?_
           ·rfl
           try simp only [Act.put, pu]
           with_reducible refine still_skip ?_ ?_
           ·rfl
           try simp only [Act.put, pu]
           with_reducible refine still_skip ?_ ?_
           ·rfl
           try simp only [Act.put, pu]
           with_reducible refine still_skip ?_ ?_
           ·rfl
           try simp only [Act.put, pu]
           with_reducible refine still_skip ?_ ?_
           ·rfl
           try simp only [Act.put, pu]
           with_reducible refine still_skip ?_ ?_
           ·rfl
           try simp only [Act.put, pu]
           with_reducible refine still_skip ?_ ?_
           ·rfl
           try simp only [Act.put, pu]
           with_reducible refine still_skip ?_ ?_
           ·rfl
           try simp only [Act.put, pu]
           with_reducible refine still_take ?_ ?_
           ·rfl
           intro K hK
           go_simp
           refine hK _ ?_
           clear hK K
           try simp only [Act.put, pu]
           with_reducible refine still_take ?_ ?_
           ·rfl
           intro K hK
           go_simp
           refine hK _ ?_
           clear hK K
           try simp only [Act.put, pu]
           with_reducible refine still_take ?_ ?_
           ·rfl
           intro K hK
           go_simp
           refine hK _ ?_
           clear hK K
           try simp only [Act.put, pu]
           with_reducible refine still_take ?_ ?_
           ·rfl
           intro K hK
           go_simp
           refine hK _ ?_
           clear hK K
           try simp only [Act.put, pu]
           with_reducible refine still_take ?_ ?_
           ·rfl
           intro K hK
           go_simp
           refine hK _ ?_
           clear hK K
           try simp only [Act.put, pu]
           with_reducible refine still_take ?_ ?_
           ·rfl
           intro K hK
           go_simp
           refine hK _ ?_
           clear hK K
           try simp only [Act.put, pu]
           with_reducible refine still_take ?_ ?_
           ·rfl
           intro K hK
           go_simp
           refine hK _ ?_
           clear hK K
           try simp only [Act.put, pu]
           with_reducible refine still_take ?_ ?_
           ·rfl
           intro K hK
           go_simp
           refine hK _ ?_
           clear hK K
           try simp only [Act.put, pu]
           with_reducible refine still_take ?_ ?_
           ·rfl
           intro K hK
           go_simp
           refine hK _ ?_
           clear hK K
           try simp only [Act.put, pu]
           with_reducible refine still_take ?_ ?_
           ·rfl
           intro K hK
           go_simp
           refine hK _ ?_
           clear hK K
           try simp only [Act.put, pu]
           with_reducible refine still_take ?_ ?_
           ·rfl
           intro K hK
           go_simp
           refine hK _ ?_
           clear hK K
           try simp only [Act.put, pu]
           with_reducible refine still_take ?_ ?_
           ·rfl
           intro K hK
           go_simp
           refine hK _ ?_
           clear hK K
           try simp only [Act.put, pu]
           with_reducible refine still_take ?_ ?_
           ·rfl
           intro K hK
           go_simp
           refine hK _ ?_
           clear hK K
           try simp only [Act.put, pu]
           with_reducible refine still_take ?_ ?_
           ·rfl
           intro K hK
           go_simp
           refine hK _ ?_
           clear hK K
           try simp only [Act.put, pu]
           with_reducible refine still_take ?_ ?_
           ·rfl
           intro K hK
           go_simp
           refine hK _ ?_
           clear hK K
           try simp only [Act.put, pu]
           with_reducible refine still_take ?_ ?_
           ·rfl
           intro K hK
           go_simp
           refine hK _ ?_
           clear hK K
           try simp only [Act.put, pu]
           with_reducible refine still_take ?_ ?_
           ·rfl
           intro K hK
           go_simp
           refine hK _ ?_
           clear hK K
           try simp only [Act.put, pu]
           with_reducible refine still_take ?_ ?_
           ·rfl
           intro K hK
           go_simp
           refine hK _ ?_
           clear hK K
           try simp only [Act.put, pu]
           with_reducible refine still_take ?_ ?_
           ·rfl
           intro K hK
           go_simp
           refine hK _ ?_
           clear hK K
           try simp only [Act.put, pu]
           with_reducible refine still_take ?_ ?_
           ·rfl
           intro K hK
           go_simp
           refine hK _ ?_
           clear hK K
           try simp only [Act.put, pu]
           with_reducible refine still_take ?_ ?_
           ·rfl
           intro K hK
           go_simp
           refine hK _ ?_
           clear hK K
           try simp only [Act.put, pu]
           with_reducible refine still_take ?_ ?_
           ·rfl
           intro K hK
           go_simp
           refine hK _ ?_
           clear hK K
           try simp only [Act.put, pu]
           with_reducible refine wpStill_nil ?_
           go_wp2_with fail
           go_roundw
           case rel => exact ⟨0 + 2, by omega, by go_num, HZ, HB.out⟩
           case measure => first | (simp [intOf]; done) | (simp [intOf]; omega)
          ·have HF : Hid (rightG g = false) := Lib.hid (rightG_no HJ.out (by rw [HRT.out, decide_eq_true hq1, decide_eq_true hq2, decide_eq_false hq3]; rfl))
           have g1 : (f' != t) = false := by simpa using hq1
           have h1 : (f' == t) = true := by simpa using hq1
           have g2 : (t' != f) = false := by simpa using hq2
           have h2 : (t' == f) = true := by simpa using hq2
           have g3 : (r' != r) = true := by simpa using hq3
           have h3 : (r' == r) = false := by simpa using hq3
           clear hq1 hq2 hq3 HRT
           refine region_still (by kernel_rfl) (by kernel_rfl) ?_
           replace c0 := (show W2.drew.cell? _ = _ from c0)
           replace c1 := (show W2.drew.cell? _ = _ from c1)
           replace c2 := (show W2.drew.cell? _ = _ from c2)
           replace c3 := (show W2.drew.cell? _ = _ from c3)
           replace e0 := (show W2.drew.cell? _ = _ from e0)
           replace e1 := (show W2.drew.cell? _ = _ from e1)
           replace e3 := (show W2.drew.cell? _ = _ from e3)
           replace HB := Lib.hid HB.out.drew
           generalize W2.drew = W2d at c0 c1 c2 c3 e0 e1 e3 HB ⊢
           with_reducible refine still_take ?_ ?_
           ·rfl
           intro K hK
           go_simp
           refine hK _ ?_
           clear hK K
           try simp only [Act.put, pu]
           with_reducible refine still_take ?_ ?_
           ·rfl
           intro K hK
           go_simp
           refine hK _ ?_
           clear hK K
           try simp only [Act.put, pu]
           with_reducible refine still_take ?_ ?_
           ·rfl
           intro K hK
           go_simp
           refine hK _ ?_
           clear hK K
           try simp only [Act.put, pu]
           with_reducible refine still_skip ?_ ?_
           ·rfl
           try simp only [Act.put, pu]
           with_reducible refine still_skip ?_ ?_
           ·rfl
           try simp only [Act.put, pu]
           with_reducible refine still_skip ?_ ?_
           ·rfl
           try simp only [Act.put, pu]
           with_reducible refine still_skip ?_ ?_
           ·rfl
           try simp only [Act.put, pu]
           with_reducible refine still_skip ?_ ?_
           ·rfl
           try simp only [Act.put, pu]
           with_reducible refine still_skip ?_ ?_
           ·rfl
           try simp only [Act.put, pu]
           with_reducible refine still_skip ?_ ?_
           ·rfl
           try simp only [Act.put, pu]
           with_reducible refine still_skip ?_ ?_
           ·rfl
           try simp only [Act.put, pu]
           with_reducible refine still_skip ?_ ?_
           ·rfl
           try simp only [Act.put, pu]
           with_reducible refine still_take ?_ ?_
           ·rfl
           intro K hK
           go_simp
           refine hK _ ?_
           clear hK K
           try simp only [Act.put, pu]
           with_reducible refine still_take ?_ ?_
           ·rfl
           intro K hK
           go_simp
           refine hK _ ?_
           clear hK K
           try simp only [Act.put, pu]
           with_reducible refine still_take ?_ ?_
           ·rfl
           intro K hK
           go_simp
           refine hK _ ?_
           clear hK K
           try simp only [Act.put, pu]
           with_reducible refine still_take ?_ ?_
           ·rfl
           intro K hK
           go_simp
           refine hK _ ?_
           clear hK K
           try simp only [Act.put, pu]
           with_reducible refine still_take ?_ ?_
           ·rfl
           intro K hK
           go_simp
           refine hK _ ?_
           clear hK K
           try simp only [Act.put, pu]
           with_reducible refine still_take ?_ ?_
           ·rfl
           intro K hK
           go_simp
           refine hK _ ?_
           clear hK K
           try simp only [Act.put, pu]
           with_reducible refine still_take ?_ ?_
           ·rfl
           intro K hK
           go_simp
           refine hK _ ?_
           clear hK K
           try simp only [Act.put, pu]
           with_reducible refine still_take ?_ ?_
           ·rfl
           intro K hK
           go_simp
           refine hK _ ?_
           clear hK K
           try simp only [Act.put, pu]
           with_reducible refine still_take ?_ ?_
           ·rfl
           intro K hK
           go_simp
           refine hK _ ?_
           clear hK K
           try simp only [Act.put, pu]
           with_reducible refine still_take ?_ ?_
           ·rfl
           intro K hK
           go_simp
           refine hK _ ?_
           clear hK K
           try simp only [Act.put, pu]
           with_reducible refine still_take ?_ ?_
           ·rfl
           intro K hK
           go_simp
           refine hK _ ?_
           clear hK K
           try simp only [Act.put, pu]
           with_reducible refine still_take ?_ ?_
           ·rfl
           intro K hK
           go_simp
           refine hK _ ?_
           clear hK K
           try simp only [Act.put, pu]
           with_reducible refine still_take ?_ ?_
           ·rfl
           intro K hK
           go_simp
           refine hK _ ?_
           clear hK K
           try simp only [Act.put, pu]
           with_reducible refine still_take ?_ ?_
           ·rfl
           intro K hK
           go_simp
           refine hK _ ?_
           clear hK K
           try simp only [Act.put, pu]
           with_reducible refine still_take ?_ ?_
           ·rfl
           intro K hK
           go_simp
           refine hK _ ?_
           clear hK K
           try simp only [Act.put, pu]
           with_reducible refine still_take ?_ ?_
           ·rfl
           intro K hK
           go_simp
           refine hK _ ?_
           clear hK K
           try simp only [Act.put, pu]
           with_reducible refine still_take ?_ ?_
           ·rfl
           intro K hK
           go_simp
           refine hK _ ?_
           clear hK K
           try simp only [Act.put, pu]
           with_reducible refine still_take ?_ ?_
           ·rfl
           intro K hK
           go_simp
           refine hK _ ?_
           clear hK K
           try simp only [Act.put, pu]
           with_reducible refine still_take ?_ ?_
           ·rfl
           intro K hK
           go_simp
           refine hK _ ?_
           clear hK K
           try simp only [Act.put, pu]
           with_reducible refine still_take ?_ ?_
           ·rfl
           intro K hK
           go_simp
           refine hK _ ?_
           clear hK K
           try simp only [Act.put, pu]
           with_reducible refine still_take ?_ ?_
           ·rfl
           intro K hK
           go_simp
           refine hK _ ?_
           clear hK K
           try simp only [Act.put, pu]
           with_reducible refine still_take ?_ ?_
           ·rfl
           intro K hK
           go_simp
           refine hK _ ?_
           clear hK K
           try simp only [Act.put, pu]
           with_reducible refine wpStill_nil ?_
           go_wp2_with fail
           go_ret
           exact ⟨by rw [HF.out]; rfl, HB.out⟩
         ·have HF : Hid (rightG g = false) := Lib.hid (rightG_no HJ.out (by rw [HRT.out, decide_eq_true hq1, decide_eq_false hq2]; rfl))
          have g1 : (f' != t) = false := by simpa using hq1
          have h1 : (f' == t) = true := by simpa using hq1
          have g2 : (t' != f) = true := by simpa using hq2
          have h2 : (t' == f) = false := by simpa using hq2
          clear hq1 hq2 HRT
          refine region_still (by kernel_rfl) (by kernel_rfl) ?_
          replace c0 := (show W2.drew.cell? _ = _ from c0)
          replace c1 := (show W2.drew.cell? _ = _ from c1)
          replace c2 := (show W2.drew.cell? _ = _ from c2)
          replace c3 := (show W2.drew.cell? _ = _ from c3)
          replace e0 := (show W2.drew.cell? _ = _ from e0)
          replace e1 := (show W2.drew.cell? _ = _ from e1)
          replace e3 := (show W2.drew.cell? _ = _ from e3)
          replace HB := Lib.hid HB.out.drew
          generalize W2.drew = W2d at c0 c1 c2 c3 e0 e1 e3 HB ⊢
          with_reducible refine still_take ?_ ?_
          ·rfl
          intro K hK
          go_simp
          refine hK _ ?_
          clear hK K
          try simp only [Act.put, pu]
          with_reducible refine still_take ?_ ?_
          ·rfl
          intro K hK
          go_simp
          refine hK _ ?_
          clear hK K
          try simp only [Act.put, pu]
          with_reducible refine still_take ?_ ?_
          ·rfl
          intro K hK
          go_simp
          refine hK _ ?_
          clear hK K
          try simp only [Act.put, pu]
          with_reducible refine still_skip ?_ ?_
          ·rfl
          try simp only [Act.put, pu]
          with_reducible refine still_skip ?_ ?_
          ·rfl
          try simp only [Act.put, pu]
          with_reducible refine still_skip ?_ ?_
          ·rfl
          try simp only [Act.put, pu]
          with_reducible refine still_skip ?_ ?_
          ·rfl
          try simp only [Act.put, pu]
          with_reducible refine still_skip ?_ ?_
          ·rfl
          try simp only [Act.put, pu]
          with_reducible refine still_skip ?_ ?_
          ·rfl
          try simp only [Act.put, pu]
          with_reducible refine still_skip ?_ ?_
          ·rfl
          try simp only [Act.put, pu]
          with_reducible refine still_skip ?_ ?_
          ·rfl
          try simp only [Act.put, pu]
          with_reducible refine still_skip ?_ ?_
          ·rfl
          try simp only [Act.put, pu]
          with_reducible refine still_take ?_ ?_
          ·rfl
          intro K hK
          go_simp
          refine hK _ ?_
          clear hK K
          try simp only [Act.put, pu]
          with_reducible refine still_take ?_ ?_
          ·rfl
          intro K hK
          go_simp
          refine hK _ ?_
          clear hK K
          try simp only [Act.put, pu]
          with_reducible refine still_take ?_ ?_
          ·rfl
          intro K hK
          go_simp
          refine hK _ ?_
          clear hK K
          try simp only [Act.put, pu]
          with_reducible refine still_take ?_ ?_
          ·rfl
          intro K hK
          go_simp
          refine hK _ ?_
          clear hK K
          try simp only [Act.put, pu]
          with_reducible refine still_take ?_ ?_
          ·rfl
          intro K hK
          go_simp
          refine hK _ ?_
          clear hK K
          try simp only [Act.put, pu]
          with_reducible refine still_take ?_ ?_
          ·rfl
          intro K hK
          go_simp
          refine hK _ ?_
          clear hK K
          try simp only [Act.put, pu]
          with_reducible refine still_take ?_ ?_
          ·rfl
          intro K hK
          go_simp
          refine hK _ ?_
          clear hK K
          try simp only [Act.put, pu]
          with_reducible refine still_take ?_ ?_
          ·rfl
          intro K hK
          go_simp
          refine hK _ ?_
          clear hK K
          try simp only [Act.put, pu]
          with_reducible refine still_take ?_ ?_
          ·rfl
          intro K hK
          go_simp
          refine hK _ ?_
          clear hK K
          try simp only [Act.put, pu]
          with_reducible refine still_take ?_ ?_
          ·rfl
          intro K hK
          go_simp
          refine hK _ ?_
          clear hK K
          try simp only [Act.put, pu]
          with_reducible refine still_take ?_ ?_
          ·rfl
          intro K hK
          go_simp
          refine hK _ ?_
          clear hK K
          try simp only [Act.put, pu]
          with_reducible refine still_take ?_ ?_
          ·rfl
          intro K hK
          go_simp
          refine hK _ ?_
          clear hK K
          try simp only [Act.put, pu]
          with_reducible refine still_take ?_ ?_
          ·rfl
          intro K hK
          go_simp
          refine hK _ ?_
          clear hK K
          try simp only [Act.put, pu]
          with_reducible refine still_take ?_ ?_
          ·rfl
          intro K hK
          go_simp
          refine hK _ ?_
          clear hK K
          try simp only [Act.put, pu]
          with_reducible refine still_take ?_ ?_
          ·rfl
          intro K hK
          go_simp
          refine hK _ ?_
          clear hK K
          try simp only [Act.put, pu]
          with_reducible refine still_take ?_ ?_
          ·rfl
          intro K hK
          go_simp
          refine hK _ ?_
          clear hK K
          try simp only [Act.put, pu]
          with_reducible refine still_skip ?_ ?_
          ·rfl
          try simp only [Act.put, pu]
          with_reducible refine still_skip ?_ ?_
          ·rfl
          try simp only [Act.put, pu]
          with_reducible refine still_skip ?_ ?_
          ·rfl
          try simp only [Act.put, pu]
          with_reducible refine still_skip ?_ ?_
          ·rfl
          try simp only [Act.put, pu]
          with_reducible refine still_skip ?_ ?_
          ·rfl
          try simp only [Act.put, pu]
          with_reducible refine still_take ?_ ?_
          ·rfl
          intro K hK
          go_simp
          refine hK _ ?_
          clear hK K
          try simp only [Act.put, pu]
          with_reducible refine wpStill_nil ?_
          go_wp2_with fail
          go_ret
          exact ⟨by rw [HF.out]; rfl, HB.out⟩
        ·have HF : Hid (rightG g = false) := Lib.hid (rightG_no HJ.out (by rw [HRT.out, decide_eq_false hq1]; rfl))
         have g1 : (f' != t) = true := by simpa using hq1
         have h1 : (f' == t) = false := by simpa using hq1
         clear hq1 HRT
         refine region_still (by kernel_rfl) (by kernel_rfl) ?_
         replace c0 := (show W2.drew.cell? _ = _ from c0)
         replace c1 := (show W2.drew.cell? _ = _ from c1)
         replace c2 := (show W2.drew.cell? _ = _ from c2)
         replace c3 := (show W2.drew.cell? _ = _ from c3)
         replace e0 := (show W2.drew.cell? _ = _ from e0)
         replace e1 := (show W2.drew.cell? _ = _ from e1)
         replace e3 := (show W2.drew.cell? _ = _ from e3)
         replace HB := Lib.hid HB.out.drew
         generalize W2.drew = W2d at c0 c1 c2 c3 e0 e1 e3 HB ⊢
         with_reducible refine still_take ?_ ?_
         ·rfl
         intro K hK
         go_simp
         refine hK _ ?_
         clear hK K
         try simp only [Act.put, pu]
         with_reducible refine still_take ?_ ?_
         ·rfl
         intro K hK
         go_simp
         refine hK _ ?_
         clear hK K
         try simp only [Act.put, pu]
         with_reducible refine still_take ?_ ?_
         ·rfl
         intro K hK
         go_simp
         refine hK _ ?_
         clear hK K
         try simp only [Act.put, pu]
         with_reducible refine still_skip ?_ ?_
         ·rfl
         try simp only [Act.put, pu]
         with_reducible refine still_skip ?_ ?_
         ·rfl
         try simp only [Act.put, pu]
         with_reducible refine still_skip ?_ ?_
         ·rfl
         try simp only [Act.put, pu]
         with_reducible refine still_skip ?_ ?_
         ·rfl
         try simp only [Act.put, pu]
         with_reducible refine still_skip ?_ ?_
         ·rfl
         try simp only [Act.put, pu]
         with_reducible refine still_skip ?_ ?_
         ·rfl
         try simp only [Act.put, pu]
         with_reducible refine still_skip ?_ ?_
         ·rfl
         try simp only [Act.put, pu]
         with_reducible refine still_skip ?_ ?_
         ·rfl
         try simp only [Act.put, pu]
         with_reducible refine still_skip ?_ ?_
         ·rfl
         try simp only [Act.put, pu]
         with_reducible refine still_take ?_ ?_
         ·rfl
         intro K hK
         go_simp
         refine hK _ ?_
         clear hK K
         try simp only [Act.put, pu]
         with_reducible refine still_take ?_ ?_
         ·rfl
         intro K hK
         go_simp
         refine hK _ ?_
         clear hK K
         try simp only [Act.put, pu]
         with_reducible refine still_take ?_ ?_
         ·rfl
         intro K hK
         go_simp
         refine hK _ ?_
         clear hK K
         try simp only [Act.put, pu]
         with_reducible refine still_take ?_ ?_
         ·rfl
         intro K hK
         go_simp
         refine hK _ ?_
         clear hK K
         try simp only [Act.put, pu]
         with_reducible refine still_take ?_ ?_
         ·rfl
         intro K hK
         go_simp
         refine hK _ ?_
         clear hK K
         try simp only [Act.put, pu]
         with_reducible refine still_take ?_ ?_
         ·rfl
         intro K hK
         go_simp
         refine hK _ ?_
         clear hK K
         try simp only [Act.put, pu]
         with_reducible refine still_take ?_ ?_
         ·rfl
         intro K hK
         go_simp
         refine hK _ ?_
         clear hK K
         try simp only [Act.put, pu]
         with_reducible refine still_take ?_ ?_
         ·rfl
         intro K hK
         go_simp
         refine hK _ ?_
         clear hK K
         try simp only [Act.put, pu]
         with_reducible refine still_take ?_ ?_
         ·rfl
         intro K hK
         go_simp
         refine hK _ ?_
         clear hK K
         try simp only [Act.put, pu]
         with_reducible refine still_skip ?_ ?_
         ·rfl
         try simp only [Act.put, pu]
         with_reducible refine still_skip ?_ ?_
         ·rfl
         try simp only [Act.put, pu]
         with_reducible refine still_skip ?_ ?_
         ·rfl
         try simp only [Act.put, pu]
         with_reducible refine still_skip ?_ ?_
         ·rfl
         try simp only [Act.put, pu]
         with_reducible refine still_skip ?_ ?_
         ·rfl
         try simp only [Act.put, pu]
         with_reducible refine still_take ?_ ?_
         ·rfl
         intro K hK
         go_simp
         refine hK _ ?_
         clear hK K
         try simp only [Act.put, pu]
         with_reducible refine still_take ?_ ?_
         ·rfl
         intro K hK
         go_simp
         refine hK _ ?_
         clear hK K
         try simp only [Act.put, pu]
         with_reducible refine still_skip ?_ ?_
         ·rfl
         try simp only [Act.put, pu]
         with_reducible refine still_skip ?_ ?_
         ·rfl
         try simp only [Act.put, pu]
         with_reducible refine still_skip ?_ ?_
         ·rfl
         try simp only [Act.put, pu]
         with_reducible refine still_skip ?_ ?_
         ·rfl
         try simp only [Act.put, pu]
         with_reducible refine still_skip ?_ ?_
         ·rfl
         try simp only [Act.put, pu]
         with_reducible refine still_take ?_ ?_
         ·rfl
         intro K hK
         go_simp
         refine hK _ ?_
         clear hK K
         try simp only [Act.put, pu]
         with_reducible refine wpStill_nil ?_
         go_wp2_with fail
         go_ret
         exact ⟨by rw [HF.out]; rfl, HB.out⟩
       ·obtain ⟨e2, _, _, hat2, _, _, z2, _⟩ := (HL.out.on HB.out).edge_at (show m < n by omega)
        obtain ⟨x2, hx2⟩ : ∃ x, e2.c = x := ⟨_, rfl⟩
        rw [hx2] at z2
        rw [show m + 1 - 1 = m from rfl, hat2, hx2, show decide (m + 1 = 0) = false from rfl, Bool.false_or] at HRT
        clear hat2 hx2 hW2 hG5 hb2
        clear d0 d1 d2 d3 d4 d5 d6 d7 d8 c0 c1 c2 c3
        have c0 := k4.cell 0
        have c1 := k4.cell 1
        have c2 := k4.cell 2
        have c3 := k4.cell 3
        have e0 := k5.cell 0
        have e1 := k5.cell 1
        have e3 := k5.cell 3
        have hw2 : IntKind.i64.wrap ((m : Int) + 1 + 1 - 2) = (m : Int) := by rw [show (m : Int) + 1 + 1 - 2 = (m : Int) by omega]; exact IntWalk.i64_in _ (by omega)
        have hw3 : IntKind.i64.wrap ((m : Nat) : Int) = (m : Int) := IntWalk.i64_in _ (by omega)
        have hmn : m < n := by omega
        have hgt : decide ((1 : Int) < (m : Int) + 1 + 1) = true := decide_eq_true (by omega)
        have hgt2 : (1 : Int) < (m : Int) + 1 + 1 := by omega
        have hgt3 : (0 : Int) < (m : Int) + 1 := by omega
        go_wp2_with fail
        by_cases hqc : x2 = ch'
        ·have HF : Hid (rightG g = false) := Lib.hid (rightG_no HJ.out (by rw [HRT.out, decide_eq_false (fun h => h hqc)]; rfl))
         have g0 : (x2 == ch') = true := by simpa using hqc
         have g9 : (x2 != ch') = false := by simpa using hqc
         clear hqc HRT
         refine region_still (by kernel_rfl) (by kernel_rfl) ?_
         replace c0 := (show W2.drew.cell? _ = _ from c0)
         replace c1 := (show W2.drew.cell? _ = _ from c1)
         replace c2 := (show W2.drew.cell? _ = _ from c2)
         replace c3 := (show W2.drew.cell? _ = _ from c3)
         replace e0 := (show W2.drew.cell? _ = _ from e0)
         replace e1 := (show W2.drew.cell? _ = _ from e1)
         replace e3 := (show W2.drew.cell? _ = _ from e3)
         replace z2 := (show W2.drew.cell? _ = _ from z2)
         replace HB := Lib.hid HB.out.drew
         generalize W2.drew = W2d at c0 c1 c2 c3 e0 e1 e3 z2 HB ⊢
         with_reducible refine still_take ?_ ?_
         ·rfl
         intro K hK
         go_simp
         refine hK _ ?_
         clear hK K
         try simp only [Act.put, pu]
         with_reducible refine still_take ?_ ?_
         ·rfl
         intro K hK
         go_simp
         refine hK _ ?_
         clear hK K
         try simp only [Act.put, pu]
         with_reducible refine still_take ?_ ?_
         ·rfl
         intro K hK
         go_simp
         refine hK _ ?_
         clear hK K
         try simp only [Act.put, pu]
         with_reducible refine still_take ?_ ?_
         ·rfl
         intro K hK
         go_simp
         refine hK _ ?_
         clear hK K
         try simp only [Act.put, pu]
         with_reducible refine still_take ?_ ?_
         ·rfl
         intro K hK
         go_simp
         refine hK _ ?_
         clear hK K
         try simp only [Act.put, pu]
         with_reducible refine still_take ?_ ?_
         ·rfl
         intro K hK
         go_simp
         refine hK _ ?_
         clear hK K
         try simp only [Act.put, pu]
         with_reducible refine still_take ?_ ?_
         ·rfl
         intro K hK
         go_simp
         refine hK _ ?_
         clear hK K
         try simp only [Act.put, pu]
         with_reducible refine still_take ?_ ?_
         ·rfl
         intro K hK
         go_simp
         refine hK _ ?_
         clear hK K
         try simp only [Act.put, pu]
         with_reducible refine still_take ?_ ?_
         ·rfl
         intro K hK
         go_simp
         refine hK _ ?_
         clear hK K
         try simp only [Act.put, pu]
         with_reducible refine still_take ?_ ?_
         ·rfl
         intro K hK
         go_simp
         refine hK _ ?_
         clear hK K
         try simp only [Act.put, pu]
         with_reducible refine still_take ?_ ?_
         ·rfl
         intro K hK
         go_simp
         refine hK _ ?_
         clear hK K
         try simp only [Act.put, pu]
         with_reducible refine still_take ?_ ?_
         ·rfl
         intro K hK
         go_simp
         refine hK _ ?_
         clear hK K
         try simp only [Act.put, pu]
         with_reducible refine still_take ?_ ?_
         ·rfl
         intro K hK
         go_simp
         refine hK _ ?_
         clear hK K
         try simp only [Act.put, pu]
         with_reducible refine still_take ?_ ?_
         ·rfl
         intro K hK
         go_simp
         refine hK _ ?_
         clear hK K
         try simp only [Act.put, pu]
         with_reducible refine still_skip ?_ ?_
         ·rfl
         try simp only [Act.put, pu]
         with_reducible refine still_skip ?_ ?_
         ·rfl
         try simp only [Act.put, pu]
         with_reducible refine still_skip ?_ ?_
         ·rfl
         try simp only [Act.put, pu]
         with_reducible refine still_skip ?_ ?_
         ·rfl
         try simp only [Act.put, pu]
         with_reducible refine still_skip ?_ ?_
         ·rfl
         try simp only [Act.put, pu]
         with_reducible refine still_take ?_ ?_
         ·rfl
         intro K hK
         go_simp
         refine hK _ ?_
         clear hK K
         try simp only [Act.put, pu]
         with_reducible refine still_take ?_ ?_
         ·rfl
         intro K hK
         go_simp
         refine hK _ ?_
         clear hK K
         try simp only [Act.put, pu]
         with_reducible refine still_skip ?_ ?_
         ·rfl
         try simp only [Act.put, pu]
         with_reducible refine still_skip ?_ ?_
         ·rfl
         try simp only [Act.put, pu]
         with_reducible refine still_skip ?_ ?_
         ·rfl
         try simp only [Act.put, pu]
         with_reducible refine still_skip ?_ ?_
         ·rfl
         try simp only [Act.put, pu]
         with_reducible refine still_skip ?_ ?_
         ·rfl
         try simp only [Act.put, pu]
         with_reducible refine still_take ?_ ?_
         ·rfl
         intro K hK
         go_simp
         refine hK _ ?_
         clear hK K
         try simp only [Act.put, pu]
         with_reducible refine still_take ?_ ?_
         ·rfl
         intro K hK
         go_simp
         refine hK _ ?_
         clear hK K
         try simp only [Act.put, pu]
         with_reducible refine still_skip ?_ ?_
         ·rfl
         try simp only [Act.put, pu]
         with_reducible refine still_skip ?_ ?_
         ·rfl
         try simp only [Act.put, pu]
         with_reducible refine still_skip ?_ ?_
         ·rfl
         try simp only [Act.put, pu]
         with_reducible refine still_skip ?_ ?_
         ·rfl
         try simp only [Act.put, pu]
         with_reducible refine still_skip ?_ ?_
         ·rfl
         try simp only [Act.put, pu]
         with_reducible refine still_take ?_ ?_
         ·rfl
         intro K hK
         go_simp
         refine hK _ ?_
         clear hK K
         try simp only [Act.put, pu]
         with_reducible refine wpStill_nil ?_
         go_wp2_with fail
         go_ret
         exact ⟨by rw [HF.out]; rfl, HB.out⟩
        ·rw [decide_eq_true hqc, Bool.true_and] at HRT
         have g0 : (x2 == ch') = false := by simpa using hqc
         have g9 : (x2 != ch') = true := by simpa using hqc
         clear hqc
         by_cases hq1 : f' = t
         ·by_cases hq2 : t' = f
          ·by_cases hq3 : r' = r
           ·have HZ : Hid (∀ j, j < (m + 1) + 2 → rightAt g j = true) := Lib.hid (fun j hj => by
             rcases Nat.lt_or_ge j ((m + 1) + 1) with h | h
             ·exact HA.out j h
             ·obtain rfl : j = (m + 1) + 1 := by omega
              rw [HRT.out, decide_eq_true hq1, decide_eq_true hq2, decide_eq_true hq3]; rfl)
            have g1 : (f' != t) = false := by simpa using hq1
            have h1 : (f' == t) = true := by simpa using hq1
            have g2 : (t' != f) = false := by simpa using hq2
            have h2 : (t' == f) = true := by simpa using hq2
            have g3 : (r' != r) = false := by simpa using hq3
            have h3 : (r' == r) = true := by simpa using hq3
            clear hq1 hq2 hq3 HRT
            refine region_still (by kernel_rfl) (by kernel_rfl) ?_
            replace c0 := (show W2.drew.cell? _ = _ from c0)
            replace c1 := (show W2.drew.cell? _ = _ from c1)
            replace c2 := (show W2.drew.cell? _ = _ from c2)
            replace c3 := (show W2.drew.cell? _ = _ from c3)
            replace e0 := (show W2.drew.cell? _ = _ from e0)
            replace e1 := (show W2.drew.cell? _ = _ from e1)
            replace e3 := (show W2.drew.cell? _ = _ from e3)
            replace z2 := (show W2.drew.cell? _ = _ from z2)
            replace HB := Lib.hid HB.out.drew
            generalize W2.drew = W2d at c0 c1 c2 c3 e0 e1 e3 z2 HB ⊢
            with_reducible refine still_take ?_ ?_
            ·rfl
            intro K hK
            go_simp
            refine hK _ ?_
            clear hK K
            try simp only [Act.put, pu]
            with_reducible refine still_take ?_ ?_
            ·rfl
            intro K hK
            go_simp
            refine hK _ ?_
            clear hK K
            try simp only [Act.put, pu]
            with_reducible refine still_take ?_ ?_
            ·rfl
            intro K hK
            go_simp
            refine hK _ ?_
            clear hK K
            try simp only [Act.put, pu]
            with_reducible refine still_take ?_ ?_
            ·rfl
            intro K hK
            go_simp
            refine hK _ ?_
            clear hK K
            try simp only [Act.put, pu]
            with_reducible refine still_take ?_ ?_
            ·rfl
            intro K hK
            go_simp
            refine hK _ ?_
            clear hK K
            try simp only [Act.put, pu]
            with_reducible refine still_take ?_ ?_
            ·rfl
            intro K hK
            go_simp
            refine hK _ ?_
            clear hK K
            try simp only [Act.put, pu]
            with_reducible refine still_take ?_ ?_
            ·rfl
            intro K hK
            go_simp
            refine hK _ ?_
            clear hK K
            try simp only [Act.put, pu]
            with_reducible refine still_take ?_ ?_
            ·rfl
            intro K hK
            go_simp
            refine hK _ ?_
            clear hK K
            try simp only [Act.put, pu]
            with_reducible refine still_take ?_ ?_
            ·rfl
            intro K hK
            go_simp
            refine hK _ ?_
            clear hK K
            try simp only [Act.put, pu]
            with_reducible refine still_take ?_ ?_
            ·rfl
            intro K hK
            go_simp
            refine hK _ ?_
            clear hK K
            try simp only [Act.put, pu]
            with_reducible refine still_take ?_ ?_
            ·rfl
            intro K hK
            go_simp
            refine hK _ ?_
            clear hK K
            try simp only [Act.put, pu]
            with_reducible refine still_take ?_ ?_
            ·rfl
            intro K hK
            go_simp
            refine hK _ ?_
            clear hK K
            try simp only [Act.put, pu]
            with_reducible refine still_take ?_ ?_
            ·rfl
            intro K hK
            go_simp
            refine hK _ ?_
            clear hK K
            try simp only [Act.put, pu]
            with_reducible refine still_take ?_ ?_
            ·rfl
            intro K hK
            go_simp
            refine hK _ ?_
            clear hK K
            try simp only [Act.put, pu]
            with_reducible refine still_take ?_ ?_
            ·rfl
            intro K hK
            go_simp
            refine hK _ ?_
            clear hK K
            try simp only [Act.put, pu]
            with_reducible refine still_take ?_ ?_
            ·rfl
            intro K hK
            go_simp
            refine hK _ ?_
            clear hK K
            try simp only [Act.put, pu]
            with_reducible refine still_take ?_ ?_
            ·rfl
            intro K hK
            go_simp
            refine hK _ ?_
            clear hK K
            try simp only [Act.put, pu]
            with_reducible refine still_take ?_ ?_
            ·rfl
            intro K hK
            go_simp
            refine hK _ ?_
            clear hK K
            try simp only [Act.put, pu]
            with_reducible refine still_take ?_ ?_
            ·rfl
            intro K hK
            go_simp
            refine hK _ ?_
            clear hK K
            try simp only [Act.put, pu]
            with_reducible refine still_take ?_ ?_
            ·rfl
            intro K hK
            go_simp
            refine hK _ ?_
            clear hK K
            try simp only [Act.put, pu]
            with_reducible refine still_take ?_ ?_
            ·rfl
            intro K hK
            go_simp
            refine hK _ ?_
            clear hK K
            try simp only [Act.put, pu]
            with_reducible refine still_take ?_ ?_
            ·rfl
            intro K hK
            go_simp
            refine hK _ ?_
            clear hK K
            try simp only [Act.put, pu]
            with_reducible refine still_take ?_ ?_
            ·rfl
            intro K hK
            go_simp
            refine hK _ ?_
            clear hK K
            try simp only [Act.put, pu]
            with_reducible refine still_take ?_ ?_
            ·rfl
            intro K hK
            go_simp
            refine hK _ ?_
            clear hK K
            try simp only [Act.put, pu]
            with_reducible refine still_take ?_ ?_
            ·rfl
            intro K hK
            go_simp
            refine hK _ ?_
            clear hK K
            try simp only [Act.put, pu]
            with_reducible refine still_take ?_ ?_
            ·rfl
            intro K hK
            go_simp
            refine hK _ ?_
            clear hK K
            try simp only [Act.put, pu]
            with_reducible refine still_take ?_ ?_
            ·rfl
            intro K hK
            go_simp
            refine hK _ ?_
            clear hK K
            try simp only [Act.put, pu]
            with_reducible refine still_take ?_ ?_
            ·rfl
            intro K hK
            go_simp
            refine hK _ ?_
            clear hK K
            try simp only [Act.put, pu]
            with_reducible refine still_take ?_ ?_
            ·rfl
            intro K hK
            go_simp
            refine hK _ ?_
            clear hK K
            try simp only [Act.put, pu]
            with_reducible refine still_take ?_ ?_
            ·rfl
            intro K hK
            go_simp
            refine hK _ ?_
            clear hK K
            try simp only [Act.put, pu]
            with_reducible refine still_take ?_ ?_
            ·rfl
            intro K hK
            go_simp
            refine hK _ ?_
            clear hK K
            try simp only [Act.put, pu]
            with_reducible refine still_take ?_ ?_
            ·rfl
            intro K hK
            go_simp
            refine hK _ ?_
            clear hK K
            try simp only [Act.put, pu]
            with_reducible refine still_take ?_ ?_
            ·rfl
            intro K hK
            go_simp
            refine hK _ ?_
            clear hK K
            try simp only [Act.put, pu]
            with_reducible refine still_take ?_ ?_
            ·rfl
            intro K hK
            go_simp
            refine hK _ ?_
            clear hK K
            try simp only [Act.put, pu]
            with_reducible refine wpStill_nil ?_
            go_wp2_with fail
            go_roundw
            case rel => exact ⟨(m + 1) + 2, by omega, by go_num, HZ, HB.out⟩
            case measure => first | (simp [intOf]; done) | (simp [intOf]; omega)
           ·have HF : Hid (rightG g = false) := Lib.hid (rightG_no HJ.out (by rw [HRT.out, decide_eq_true hq1, decide_eq_true hq2, decide_eq_false hq3]; rfl))
            have g1 : (f' != t) = false := by simpa using hq1
            have h1 : (f' == t) = true := by simpa using hq1
            have g2 : (t' != f) = false := by simpa using hq2
            have h2 : (t' == f) = true := by simpa using hq2
            have g3 : (r' != r) = true := by simpa using hq3
            have h3 : (r' == r) = false := by simpa using hq3
            clear hq1 hq2 hq3 HRT
            refine region_still (by kernel_rfl) (by kernel_rfl) ?_
            replace c0 := (show W2.drew.cell? _ = _ from c0)
            replace c1 := (show W2.drew.cell? _ = _ from c1)
            replace c2 := (show W2.drew.cell? _ = _ from c2)
            replace c3 := (show W2.drew.cell? _ = _ from c3)
            replace e0 := (show W2.drew.cell? _ = _ from e0)
            replace e1 := (show W2.drew.cell? _ = _ from e1)
            replace e3 := (show W2.drew.cell? _ = _ from e3)
            replace z2 := (show W2.drew.cell? _ = _ from z2)
            replace HB := Lib.hid HB.out.drew
            generalize W2.drew = W2d at c0 c1 c2 c3 e0 e1 e3 z2 HB ⊢
            with_reducible refine still_take ?_ ?_
            ·rfl
            intro K hK
            go_simp
            refine hK _ ?_
            clear hK K
            try simp only [Act.put, pu]
            with_reducible refine still_take ?_ ?_
            ·rfl
            intro K hK
            go_simp
            refine hK _ ?_
            clear hK K
            try simp only [Act.put, pu]
            with_reducible refine still_take ?_ ?_
            ·rfl
            intro K hK
            go_simp
            refine hK _ ?_
            clear hK K
            try simp only [Act.put, pu]
            with_reducible refine still_take ?_ ?_
            ·rfl
            intro K hK
            go_simp
            refine hK _ ?_
            clear hK K
            try simp only [Act.put, pu]
            with_reducible refine still_take ?_ ?_
            ·rfl
            intro K hK
            go_simp
            refine hK _ ?_
            clear hK K
            try simp only [Act.put, pu]
            with_reducible refine still_take ?_ ?_
            ·rfl
            intro K hK
            go_simp
            refine hK _ ?_
            clear hK K
            try simp only [Act.put, pu]
            with_reducible refine still_take ?_ ?_
            ·rfl
            intro K hK
            go_simp
            refine hK _ ?_
            clear hK K
            try simp only [Act.put, pu]
            with_reducible refine still_take ?_ ?_
            ·rfl
            intro K hK
            go_simp
            refine hK _ ?_
            clear hK K
            try simp only [Act.put, pu]
            with_reducible refine still_take ?_ ?_
            ·rfl
            intro K hK
            go_simp
            refine hK _ ?_
            clear hK K
            try simp only [Act.put, pu]
            with_reducible refine still_take ?_ ?_
            ·rfl
            intro K hK
            go_simp
            refine hK _ ?_
            clear hK K
            try simp only [Act.put, pu]
            with_reducible refine still_take ?_ ?_
            ·rfl
            intro K hK
            go_simp
            refine hK _ ?_
            clear hK K
            try simp only [Act.put, pu]
            with_reducible refine still_take ?_ ?_
            ·rfl
            intro K hK
            go_simp
            refine hK _ ?_
            clear hK K
            try simp only [Act.put, pu]
            with_reducible refine still_take ?_ ?_
            ·rfl
            intro K hK
            go_simp
            refine hK _ ?_
            clear hK K
            try simp only [Act.put, pu]
            with_reducible refine still_take ?_ ?_
            ·rfl
            intro K hK
            go_simp
            refine hK _ ?_
            clear hK K
            try simp only [Act.put, pu]
            with_reducible refine still_take ?_ ?_
            ·rfl
            intro K hK
            go_simp
            refine hK _ ?_
            clear hK K
            try simp only [Act.put, pu]
            with_reducible refine still_take ?_ ?_
            ·rfl
            intro K hK
            go_simp
            refine hK _ ?_
            clear hK K
            try simp only [Act.put, pu]
            with_reducible refine still_take ?_ ?_
            ·rfl
            intro K hK
            go_simp
            refine hK _ ?_
            clear hK K
            try simp only [Act.put, pu]
            with_reducible refine still_take ?_ ?_
            ·rfl
            intro K hK
            go_simp
            refine hK _ ?_
            clear hK K
            try simp only [Act.put, pu]
            with_reducible refine still_take ?_ ?_
            ·rfl
            intro K hK
            go_simp
            refine hK _ ?_
            clear hK K
            try simp only [Act.put, pu]
            with_reducible refine still_take ?_ ?_
            ·rfl
            intro K hK
            go_simp
            refine hK _ ?_
            clear hK K
            try simp only [Act.put, pu]
            with_reducible refine still_take ?_ ?_
            ·rfl
            intro K hK
            go_simp
            refine hK _ ?_
            clear hK K
            try simp only [Act.put, pu]
            with_reducible refine still_take ?_ ?_
            ·rfl
            intro K hK
            go_simp
            refine hK _ ?_
            clear hK K
            try simp only [Act.put, pu]
            with_reducible refine still_take ?_ ?_
            ·rfl
            intro K hK
            go_simp
            refine hK _ ?_
            clear hK K
            try simp only [Act.put, pu]
            with_reducible refine still_take ?_ ?_
            ·rfl
            intro K hK
            go_simp
            refine hK _ ?_
            clear hK K
            try simp only [Act.put, pu]
            with_reducible refine still_take ?_ ?_
            ·rfl
            intro K hK
            go_simp
            refine hK _ ?_
            clear hK K
            try simp only [Act.put, pu]
            with_reducible refine still_take ?_ ?_
            ·rfl
            intro K hK
            go_simp
            refine hK _ ?_
            clear hK K
            try simp only [Act.put, pu]
            with_reducible refine still_take ?_ ?_
            ·rfl
            intro K hK
            go_simp
            refine hK _ ?_
            clear hK K
            try simp only [Act.put, pu]
            with_reducible refine still_take ?_ ?_
            ·rfl
            intro K hK
            go_simp
            refine hK _ ?_
            clear hK K
            try simp only [Act.put, pu]
            with_reducible refine still_take ?_ ?_
            ·rfl
            intro K hK
            go_simp
            refine hK _ ?_
            clear hK K
            try simp only [Act.put, pu]
            with_reducible refine still_take ?_ ?_
            ·rfl
            intro K hK
            go_simp
            refine hK _ ?_
            clear hK K
            try simp only [Act.put, pu]
            with_reducible refine still_take ?_ ?_
            ·rfl
            intro K hK
            go_simp
            refine hK _ ?_
            clear hK K
            try simp only [Act.put, pu]
            with_reducible refine still_take ?_ ?_
            ·rfl
            intro K hK
            go_simp
            refine hK _ ?_
            clear hK K
            try simp only [Act.put, pu]
            with_reducible refine still_take ?_ ?_
            ·rfl
            intro K hK
            go_simp
            refine hK _ ?_
            clear hK K
            try simp only [Act.put, pu]
            with_reducible refine still_take ?_ ?_
            ·rfl
            intro K hK
            go_simp
            refine hK _ ?_
            clear hK K
            try simp only [Act.put, pu]
            with_reducible refine wpStill_nil ?_
            go_wp2_with fail
            go_ret
            exact ⟨by rw [HF.out]; rfl, HB.out⟩
          ·have HF : Hid (rightG g = false) := Lib.hid (rightG_no HJ.out (by rw [HRT.out, decide_eq_true hq1, decide_eq_false hq2]; rfl))
           have g1 : (f' != t) = false := by simpa using hq1
           have h1 : (f' == t) = true := by simpa using hq1
           have g2 : (t' != f) = true := by simpa using hq2
           have h2 : (t' == f) = false := by simpa using hq2
           clear hq1 hq2 HRT
           refine region_still (by kernel_rfl) (by kernel_rfl) ?_
           replace c0 := (show W2.drew.cell? _ = _ from c0)
           replace c1 := (show W2.drew.cell? _ = _ from c1)
           replace c2 := (show W2.drew.cell? _ = _ from c2)
           replace c3 := (show W2.drew.cell? _ = _ from c3)
           replace e0 := (show W2.drew.cell? _ = _ from e0)
           replace e1 := (show W2.drew.cell? _ = _ from e1)
           replace e3 := (show W2.drew.cell? _ = _ from e3)
           replace z2 := (show W2.drew.cell? _ = _ from z2)
           replace HB := Lib.hid HB.out.drew
           generalize W2.drew = W2d at c0 c1 c2 c3 e0 e1 e3 z2 HB ⊢
           with_reducible refine still_take ?_ ?_
           ·rfl
           intro K hK
           go_simp
           refine hK _ ?_
           clear hK K
           try simp only [Act.put, pu]
           with_reducible refine still_take ?_ ?_
           ·rfl
           intro K hK
           go_simp
           refine hK _ ?_
           clear hK K
           try simp only [Act.put, pu]
           with_reducible refine still_take ?_ ?_
           ·rfl
           intro K hK
           go_simp
           refine hK _ ?_
           clear hK K
           try simp only [Act.put, pu]
           with_reducible refine still_take ?_ ?_
           ·rfl
           intro K hK
           go_simp
           refine hK _ ?_
           clear hK K
           try simp only [Act.put, pu]
           with_reducible refine still_take ?_ ?_
           ·rfl
           intro K hK
           go_simp
           refine hK _ ?_
           clear hK K
           try simp only [Act.put, pu]
           with_reducible refine still_take ?_ ?_
           ·rfl
           intro K hK
           go_simp
           refine hK _ ?_
           clear hK K
           try simp only [Act.put, pu]
           with_reducible refine still_take ?_ ?_
           ·rfl
           intro K hK
           go_simp
           refine hK _ ?_
           clear hK K
           try simp only [Act.put, pu]
           with_reducible refine still_take ?_ ?_
           ·rfl
           intro K hK
           go_simp
           refine hK _ ?_
           clear hK K
           try simp only [Act.put, pu]
           with_reducible refine still_take ?_ ?_
           ·rfl
           intro K hK
           go_simp
           refine hK _ ?_
           clear hK K
           try simp only [Act.put, pu]
           with_reducible refine still_take ?_ ?_
           ·rfl
           intro K hK
           go_simp
           refine hK _ ?_
           clear hK K
           try simp only [Act.put, pu]
           with_reducible refine still_take ?_ ?_
           ·rfl
           intro K hK
           go_simp
           refine hK _ ?_
           clear hK K
           try simp only [Act.put, pu]
           with_reducible refine still_take ?_ ?_
           ·rfl
           intro K hK
           go_simp
           refine hK _ ?_
           clear hK K
           try simp only [Act.put, pu]
           with_reducible refine still_take ?_ ?_
           ·rfl
           intro K hK
           go_simp
           refine hK _ ?_
           clear hK K
           try simp only [Act.put, pu]
           with_reducible refine still_take ?_ ?_
           ·rfl
           intro K hK
           go_simp
           refine hK _ ?_
           clear hK K
           try simp only [Act.put, pu]
           with_reducible refine still_take ?_ ?_
           ·rfl
           intro K hK
           go_simp
           refine hK _ ?_
           clear hK K
           try simp only [Act.put, pu]
           with_reducible refine still_take ?_ ?_
           ·rfl
           intro K hK
           go_simp
           refine hK _ ?_
           clear hK K
           try simp only [Act.put, pu]
           with_reducible refine still_take ?_ ?_
           ·rfl
           intro K hK
           go_simp
           refine hK _ ?_
           clear hK K
           try simp only [Act.put, pu]
           with_reducible refine still_take ?_ ?_
           ·rfl
           intro K hK
           go_simp
           refine hK _ ?_
           clear hK K
           try simp only [Act.put, pu]
           with_reducible refine still_take ?_ ?_
           ·rfl
           intro K hK
           go_simp
           refine hK _ ?_
           clear hK K
           try simp only [Act.put, pu]
           with_reducible refine still_take ?_ ?_
           ·rfl
           intro K hK
           go_simp
           refine hK _ ?_
           clear hK K
           try simp only [Act.put, pu]
           with_reducible refine still_take ?_ ?_
           ·rfl
           intro K hK
           go_simp
           refine hK _ ?_
           clear hK K
           try simp only [Act.put, pu]
           with_reducible refine still_take ?_ ?_
           ·rfl
           intro K hK
           go_simp
           refine hK _ ?_
           clear hK K
           try simp only [Act.put, pu]
           with_reducible refine still_take ?_ ?_
           ·rfl
           intro K hK
           go_simp
           refine hK _ ?_
           clear hK K
           try simp only [Act.put, pu]
           with_reducible refine still_take ?_ ?_
           ·rfl
           intro K hK
           go_simp
           refine hK _ ?_
           clear hK K
           try simp only [Act.put, pu]
           with_reducible refine still_take ?_ ?_
           ·rfl
           intro K hK
           go_simp
           refine hK _ ?_
           clear hK K
           try simp only [Act.put, pu]
           with_reducible refine still_take ?_ ?_
           ·rfl
           intro K hK
           go_simp
           refine hK _ ?_
           clear hK K
           try simp only [Act.put, pu]
           with_reducible refine still_take ?_ ?_
           ·rfl
           intro K hK
           go_simp
           refine hK _ ?_
           clear hK K
           try simp only [Act.put, pu]
           with_reducible refine still_take ?_ ?_
           ·rfl
           intro K hK
           go_simp
           refine hK _ ?_
           clear hK K
           try simp only [Act.put, pu]
           with_reducible refine still_skip ?_ ?_
           ·rfl
           try simp only [Act.put, pu]
           with_reducible refine still_skip ?_ ?_
           ·rfl
           try simp only [Act.put, pu]
           with_reducible refine still_skip ?_ ?_
           ·rfl
           try simp only [Act.put, pu]
           with_reducible refine still_skip ?_ ?_
           ·rfl
           try simp only [Act.put, pu]
           with_reducible refine still_skip ?_ ?_
           ·rfl
           try simp only [Act.put, pu]
           with_reducible refine still_take ?_ ?_
           ·rfl
           intro K hK
           go_simp
           refine hK _ ?_
           clear hK K
           try simp only [Act.put, pu]
           with_reducible refine wpStill_nil ?_
           go_wp2_with fail
           go_ret
           exact ⟨by rw [HF.out]; rfl, HB.out⟩
         ·have HF : Hid (rightG g = false) := Lib.hid (rightG_no HJ.out (by rw [HRT.out, decide_eq_false hq1]; rfl))
          have g1 : (f' != t) = true := by simpa using hq1
          have h1 : (f' == t) = false := by simpa using hq1
          clear hq1 HRT
          refine region_still (by kernel_rfl) (by kernel_rfl) ?_
          replace c0 := (show W2.drew.cell? _ = _ from c0)
          replace c1 := (show W2.drew.cell? _ = _ from c1)
          replace c2 := (show W2.drew.cell? _ = _ from c2)
          replace c3 := (show W2.drew.cell? _ = _ from c3)
          replace e0 := (show W2.drew.cell? _ = _ from e0)
          replace e1 := (show W2.drew.cell? _ = _ from e1)
          replace e3 := (show W2.drew.cell? _ = _ from e3)
          replace z2 := (show W2.drew.cell? _ = _ from z2)
          replace HB := Lib.hid HB.out.drew
          generalize W2.drew = W2d at c0 c1 c2 c3 e0 e1 e3 z2 HB ⊢
          with_reducible refine still_take ?_ ?_
          ·rfl
          intro K hK
          go_simp
          refine hK _ ?_
          clear hK K
          try simp only [Act.put, pu]
          with_reducible refine still_take ?_ ?_
          ·rfl
          intro K hK
          go_simp
          refine hK _ ?_
          clear hK K
          try simp only [Act.put, pu]
          with_reducible refine still_take ?_ ?_
          ·rfl
          intro K hK
          go_simp
          refine hK _ ?_
          clear hK K
          try simp only [Act.put, pu]
          with_reducible refine still_take ?_ ?_
          ·rfl
          intro K hK
          go_simp
          refine hK _ ?_
          clear hK K
          try simp only [Act.put, pu]
          with_reducible refine still_take ?_ ?_
          ·rfl
          intro K hK
          go_simp
          refine hK _ ?_
          clear hK K
          try simp only [Act.put, pu]
          with_reducible refine still_take ?_ ?_
          ·rfl
          intro K hK
          go_simp
          refine hK _ ?_
          clear hK K
          try simp only [Act.put, pu]
          with_reducible refine still_take ?_ ?_
          ·rfl
          intro K hK
          go_simp
          refine hK _ ?_
          clear hK K
          try simp only [Act.put, pu]
          with_reducible refine still_take ?_ ?_
          ·rfl
          intro K hK
          go_simp
          refine hK _ ?_
          clear hK K
          try simp only [Act.put, pu]
          with_reducible refine still_take ?_ ?_
          ·rfl
          intro K hK
          go_simp
          refine hK _ ?_
          clear hK K
          try simp only [Act.put, pu]
          with_reducible refine still_take ?_ ?_
          ·rfl
          intro K hK
          go_simp
          refine hK _ ?_
          clear hK K
          try simp only [Act.put, pu]
          with_reducible refine still_take ?_ ?_
          ·rfl
          intro K hK
          go_simp
          refine hK _ ?_
          clear hK K
          try simp only [Act.put, pu]
          with_reducible refine still_take ?_ ?_
          ·rfl
          intro K hK
          go_simp
          refine hK _ ?_
          clear hK K
          try simp only [Act.put, pu]
          with_reducible refine still_take ?_ ?_
          ·rfl
          intro K hK
          go_simp
          refine hK _ ?_
          clear hK K
          try simp only [Act.put, pu]
          with_reducible refine still_take ?_ ?_
          ·rfl
          intro K hK
          go_simp
          refine hK _ ?_
          clear hK K
          try simp only [Act.put, pu]
          with_reducible refine still_take ?_ ?_
          ·rfl
          intro K hK
          go_simp
          refine hK _ ?_
          clear hK K
          try simp only [Act.put, pu]
          with_reducible refine still_take ?_ ?_
          ·rfl
          intro K hK
          go_simp
          refine hK _ ?_
          clear hK K
          try simp only [Act.put, pu]
          with_reducible refine still_take ?_ ?_
          ·rfl
          intro K hK
          go_simp
          refine hK _ ?_
          clear hK K
          try simp only [Act.put, pu]
          with_reducible refine still_take ?_ ?_
          ·rfl
          intro K hK
          go_simp
          refine hK _ ?_
          clear hK K
          try simp only [Act.put, pu]
          with_reducible refine still_take ?_ ?_
          ·rfl
          intro K hK
          go_simp
          refine hK _ ?_
          clear hK K
          try simp only [Act.put, pu]
          with_reducible refine still_take ?_ ?_
          ·rfl
          intro K hK
          go_simp
          refine hK _ ?_
          clear hK K
          try simp only [Act.put, pu]
          with_reducible refine still_take ?_ ?_
          ·rfl
          intro K hK
          go_simp
          refine hK _ ?_
          clear hK K
          try simp only [Act.put, pu]
          with_reducible refine still_skip ?_ ?_
          ·rfl
          try simp only [Act.put, pu]
          with_reducible refine still_skip ?_ ?_
          ·rfl
          try simp only [Act.put, pu]
          with_reducible refine still_skip ?_ ?_
          ·rfl
          try simp only [Act.put, pu]
          with_reducible refine still_skip ?_ ?_
          ·rfl
          try simp only [Act.put, pu]
          with_reducible refine still_skip ?_ ?_
          ·rfl
          try simp only [Act.put, pu]
          with_reducible refine still_take ?_ ?_
          ·rfl
          intro K hK
          go_simp
          refine hK _ ?_
          clear hK K
          try simp only [Act.put, pu]
          with_reducible refine still_take ?_ ?_
          ·rfl
          intro K hK
          go_simp
          refine hK _ ?_
          clear hK K
          try simp only [Act.put, pu]
          with_reducible refine still_skip ?_ ?_
          ·rfl
          try simp only [Act.put, pu]
          with_reducible refine still_skip ?_ ?_
          ·rfl
          try simp only [Act.put, pu]
          with_reducible refine still_skip ?_ ?_
          ·rfl
          try simp only [Act.put, pu]
          with_reducible refine still_skip ?_ ?_
          ·rfl
          try simp only [Act.put, pu]
          with_reducible refine still_skip ?_ ?_
          ·rfl
          try simp only [Act.put, pu]
          with_reducible refine still_take ?_ ?_
          ·rfl
          intro K hK
          go_simp
          refine hK _ ?_
          clear hK K
          try simp only [Act.put, pu]
          with_reducible refine wpStill_nil ?_
          go_wp2_with fail
          go_ret
          exact ⟨by rw [HF.out]; rfl, HB.out⟩
      ·have HZ : Hid (∀ j, j < k + 2 → rightAt g j = true) := Lib.hid (fun j hj => by
        rcases Nat.lt_or_ge j (k + 1) with h | h
        ·exact HA.out j h
        ·obtain rfl : j = k + 1 := by omega
         rw [HRT.out, decide_eq_true (show ch' ≠ ch from hcc)]; rfl)
       have g1 : (ch' != ch) = true := by simpa using hcc
       have g2 : (ch' == ch) = false := by simpa using hcc
       clear hcc HRT
       refine region_still (by kernel_rfl) (by kernel_rfl) ?_
       replace d0 := (show Xd_2.drew.cell? _ = _ from d0)
       replace d1 := (show Xd_2.drew.cell? _ = _ from d1)
       replace d2 := (show Xd_2.drew.cell? _ = _ from d2)
       replace d3 := (show Xd_2.drew.cell? _ = _ from d3)
       replace d4 := (show Xd_2.drew.cell? _ = _ from d4)
       replace d5 := (show Xd_2.drew.cell? _ = _ from d5)
       replace d6 := (show Xd_2.drew.cell? _ = _ from d6)
       replace d7 := (show Xd_2.drew.cell? _ = _ from d7)
       replace d8 := (show Xd_2.drew.cell? _ = _ from d8)
       replace c0 := (show Xd_2.drew.cell? _ = _ from c0)
       replace c1 := (show Xd_2.drew.cell? _ = _ from c1)
       replace c2 := (show Xd_2.drew.cell? _ = _ from c2)
       replace c3 := (show Xd_2.drew.cell? _ = _ from c3)
       replace HB := Lib.hid HB.out.drew
       replace k4 := k4.drew
       generalize Xd_2.drew = Xd_2d at d0 d1 d2 d3 d4 d5 d6 d7 d8 c0 c1 c2 c3 HB k4 ⊢
       with_reducible refine still_take ?_ ?_
       ·rfl
       intro K hK
       go_simp
       refine hK _ ?_
       clear hK K
       try simp only [Act.put, pu]
       with_reducible refine still_take ?_ ?_
       ·rfl
       intro K hK
       go_simp
       refine hK _ ?_
       clear hK K
       try simp only [Act.put, pu]
       with_reducible refine still_take ?_ ?_
       ·rfl
       intro K hK
       go_simp
       refine hK _ ?_
       clear hK K
       try simp only [Act.put, pu]
       with_reducible refine still_take ?_ ?_
       ·rfl
       intro K hK
       go_simp
       refine hK _ ?_
       clear hK K
       try simp only [Act.put, pu]
       with_reducible refine still_take ?_ ?_
       ·rfl
       intro K hK
       go_simp
       refine hK _ ?_
       clear hK K
       try simp only [Act.put, pu]
       with_reducible refine still_take ?_ ?_
       ·rfl
       intro K hK
       go_simp
       refine hK _ ?_
       clear hK K
       try simp only [Act.put, pu]
       with_reducible refine still_take ?_ ?_
       ·rfl
       intro K hK
       go_simp
       refine hK _ ?_
       clear hK K
       try simp only [Act.put, pu]
       with_reducible refine still_take ?_ ?_
       ·rfl
       intro K hK
       go_simp
       refine hK _ ?_
       clear hK K
       try simp only [Act.put, pu]
       with_reducible refine still_take ?_ ?_
       ·rfl
       intro K hK
       go_simp
       refine hK _ ?_
       clear hK K
       try simp only [Act.put, pu]
       with_reducible refine still_take ?_ ?_
       ·rfl
       intro K hK
       go_simp
       refine hK _ ?_
       clear hK K
       try simp only [Act.put, pu]
       with_reducible refine still_take ?_ ?_
       ·rfl
       intro K hK
       go_simp
       refine hK _ ?_
       clear hK K
       try simp only [Act.put, pu]
       with_reducible refine still_take ?_ ?_
       ·rfl
       intro K hK
       go_simp
       refine hK _ ?_
       clear hK K
       try simp only [Act.put, pu]
       with_reducible refine still_take ?_ ?_
       ·rfl
       intro K hK
       go_simp
       refine hK _ ?_
       clear hK K
       try simp only [Act.put, pu]
       with_reducible refine wpStill_nil ?_
       go_wp2_with fail
       go_roundw
       case rel => exact ⟨k + 2, by omega, by go_num, HZ, HB.out⟩
       case measure => first | (simp [intOf]; done) | (simp [intOf]; omega)
     ·have HF : Hid (rightG g = false) := Lib.hid (rightG_no HJ.out (by rw [HRT.out, decide_eq_false hor]; rfl))
      have hor2 : 0 ≤ oz := by omega
      refine wp_region_noPanic ?_
      refine ord_begin 16 (fun wx => Below W1.heap.size W1 wx) (by kernel_rfl) ?_
      have hx0 : Below W1.heap.size W1 W1.drew := (Below.refl _ _).drew
      refine ord_take (i := 0) (v := ?_) (by kernel_rfl) rfl (by decide) (by kernel_rfl) (by kernel_rfl) (fun _ _ _ h => h) (Or.inl ⟨by rfl, ?_⟩) hx0 ?_
      rotate_left
      ·intro wz hz; have j4 := k4.below hz k4.lt; have q0 := j4.cell 0; have q1 := j4.cell 1; have q2 := j4.cell 2; have q3 := j4.cell 3; have q4 := j4.cell 4; have q5 := j4.cell 5; have q6 := j4.cell 6; have q7 := j4.cell 7; have q8 := j4.cell 8; go_simp; (try with_reducible rfl)
      try simp only [Act.put, pu]
      refine ord_step (i := 1) rfl (by decide) (by kernel_rfl) (by rfl) (fun K hK => ?_)
      go_simp
      refine (edge_any ⟨f, t, ch, r, p0, p1, p2, p3, p4⟩ _).mono ?_
      rintro y Xc_1 ⟨rfl, hb⟩
      rw [hed]
      have hx1 := bltB hx0 hx0.size hb
      clear hb hx0
      refine hK _ _ hx1 ?_
      clear hK K
      try simp only [Act.put, pu]
      refine ord_take (i := 2) (v := ?_) (by kernel_rfl) rfl (by decide) (by kernel_rfl) (by kernel_rfl) (fun _ _ _ h => h) (Or.inl ⟨by rfl, ?_⟩) hx1 ?_
      rotate_left
      ·intro wz hz; go_simp; (try with_reducible rfl)
      try simp only [Act.put, pu]
      refine ord_take (i := 3) (v := ?_) (by kernel_rfl) rfl (by decide) (by kernel_rfl) (by kernel_rfl) (fun _ _ _ h => h) (Or.inl ⟨by rfl, ?_⟩) hx1 ?_
      rotate_left
      ·intro wz hz; go_simp; (try with_reducible rfl)
      try simp only [Act.put, pu]
      refine ord_take (i := 4) (v := ?_) (by kernel_rfl) rfl (by decide) (by kernel_rfl) (by kernel_rfl) (fun _ _ _ h => h) (Or.inl ⟨by rfl, ?_⟩) hx1 ?_
      rotate_left
      ·intro wz hz; go_simp; (try with_reducible rfl)
      try simp only [Act.put, pu]
      refine ord_take (i := 5) (v := ?_) (by kernel_rfl) rfl (by decide) (by kernel_rfl) (by kernel_rfl) (fun _ _ _ h => h) (Or.inl ⟨by rfl, ?_⟩) hx1 ?_
      rotate_left
      ·intro wz hz; go_simp; (try with_reducible rfl)
      try simp only [Act.put, pu]
      refine ord_take (i := 6) (v := ?_) (by kernel_rfl) rfl (by decide) (by kernel_rfl) (by kernel_rfl) (fun _ _ _ h => h) (Or.inl ⟨by rfl, ?_⟩) hx1 ?_
      rotate_left
      ·intro wz hz; go_simp; (try with_reducible rfl)
      try simp only [Act.put, pu]
      refine ord_take (i := 7) (v := ?_) (by kernel_rfl) rfl (by decide) (by kernel_rfl) (by kernel_rfl) (fun _ _ _ h => h) (Or.inl ⟨by rfl, ?_⟩) hx1 ?_
      rotate_left
      ·intro wz hz; go_simp; (try with_reducible rfl)
      try simp only [Act.put, pu]
      refine ord_take (i := 8) (v := ?_) (by kernel_rfl) rfl (by decide) (by kernel_rfl) (by kernel_rfl) (fun _ _ _ h => h) (Or.inl ⟨by rfl, ?_⟩) hx1 ?_
      rotate_left
      ·intro wz hz; go_simp; (try with_reducible rfl)
      try simp only [Act.put, pu]
      refine ord_take (i := 9) (v := ?_) (by kernel_rfl) rfl (by decide) (by kernel_rfl) (by kernel_rfl) (fun _ _ _ h => h) (Or.inl ⟨by rfl, ?_⟩) hx1 ?_
      rotate_left
      ·intro wz hz; go_simp; (try with_reducible rfl)
      try simp only [Act.put, pu]
      refine ord_take (i := 10) (v := ?_) (by kernel_rfl) rfl (by decide) (by kernel_rfl) (by kernel_rfl) (fun _ _ _ h => h) (Or.inl ⟨by rfl, ?_⟩) hx1 ?_
      rotate_left
      ·intro wz hz; go_simp; (try with_reducible rfl)
      try simp only [Act.put, pu]
      refine ord_take (i := 11) (v := ?_) (by kernel_rfl) rfl (by decide) (by kernel_rfl) (by kernel_rfl) (fun _ _ _ h => h) (Or.inl ⟨by rfl, ?_⟩) hx1 ?_
      rotate_left
      ·intro wz hz; have dq0 := (hz.cell (p := ⟨b, _, none⟩) hbW).trans d0; have dq1 := (hz.cell (p := ⟨b, _, none⟩) hbW).trans d1; have dq2 := (hz.cell (p := ⟨b, _, none⟩) hbW).trans d2; have dq3 := (hz.cell (p := ⟨b, _, none⟩) hbW).trans d3; have dq4 := (hz.cell (p := ⟨b, _, none⟩) hbW).trans d4; have dq5 := (hz.cell (p := ⟨b, _, none⟩) hbW).trans d5; have dq6 := (hz.cell (p := ⟨b, _, none⟩) hbW).trans d6; have dq7 := (hz.cell (p := ⟨b, _, none⟩) hbW).trans d7; have dq8 := (hz.cell (p := ⟨b, _, none⟩) hbW).trans d8; go_simp; (try with_reducible rfl)
      try simp only [Act.put, pu]
      refine ord_take (i := 12) (v := ?_) (by kernel_rfl) rfl (by decide) (by kernel_rfl) (by kernel_rfl) (fun _ _ _ h => h) (Or.inl ⟨by rfl, ?_⟩) hx1 ?_
      rotate_left
      ·intro wz hz; have j4 := k4.below hz k4.lt; have q0 := j4.cell 0; have q1 := j4.cell 1; have q2 := j4.cell 2; have q3 := j4.cell 3; have q4 := j4.cell 4; have q5 := j4.cell 5; have q6 := j4.cell 6; have q7 := j4.cell 7; have q8 := j4.cell 8; go_simp; (try with_reducible rfl)
      try simp only [Act.put, pu]
      refine ord_step (i := 13) rfl (by decide) (by kernel_rfl) (by rfl) (fun K hK => ?_)
      go_simp
      refine (order_any ⟨f', t', ch', r', p0', p1', p2', p3', p4'⟩ ⟨f, t, ch, r, p0, p1, p2, p3, p4⟩ _).mono ?_
      rintro y Xc_2 ⟨rfl, hb⟩
      rw [hoz]
      have hx2 := bltB hx1 hx1.size hb
      clear hb hx1
      refine hK _ _ hx2 ?_
      clear hK K
      try simp only [Act.put, pu]
      refine ord_take (i := 14) (v := ?_) (by kernel_rfl) rfl (by decide) (by kernel_rfl) (by kernel_rfl) (fun _ _ _ h => h) (Or.inl ⟨by rfl, ?_⟩) hx2 ?_
      rotate_left
      ·intro wz hz; go_simp; (try with_reducible rfl)
      try simp only [Act.put, pu]
      refine ord_take (i := 15) (v := ?_) (by kernel_rfl) rfl (by decide) (by kernel_rfl) (by kernel_rfl) (fun _ _ _ h => h) (Or.inl ⟨by rfl, ?_⟩) hx2 ?_
      rotate_left
      ·intro wz hz; go_simp; (try with_reducible rfl)
      try simp only [Act.put, pu]
      refine ord_rest (by kernel_rfl) ?_
      refine wpAny_take (i := 16) (v := ?_) rfl (by kernel_rfl) (by kernel_rfl) (by kernel_rfl) (fun _ _ _ h => h) (Or.inl ⟨by rfl, ?_⟩) ?_
      rotate_left
      ·intro wz; go_simp; (try with_reducible rfl)
      try simp only [Act.put, pu]
      refine wpAny_done (by kernel_rfl) ?_ _
      refine NoPanic.normal ?_
      have HB := Lib.hid (bltB hB1.out hB1.out.size hx2)
      clear hx2
      go_wp2_with fail
      go_ret
      exact ⟨by rw [HF.out]; rfl, HB.out⟩
  ·have HF : Hid (rightG g = true) := Lib.hid (rightG_yes fun j hj => HA.out j (by rw [Hlen.out] at hj; omega))
   go_wp2_with fail
   go_ret
   exact ⟨by rw [HF.out]; rfl, hB⟩
end Go.Proofs.YthefgdehfgkhhaaGreat
