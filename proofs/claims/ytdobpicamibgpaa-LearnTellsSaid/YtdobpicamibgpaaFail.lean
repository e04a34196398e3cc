/-
  A mind: Failed, Passed.
-/
import Derived.Test.YtdobpicamibgpaaBounds
namespace Go.Proofs.Ytdobpicamibgpaa
open Go.RowKit Go.Maps
set_option linter.unusedVariables false
set_option linter.unusedSimpArgs false
attribute [local go_sem] Oper.semAt_some

/-- What a note put leaves behind. -/
theorem MindAt.put {w : World} {p b n : Nat} {L : Notes} (h : MindAt w p b n L) (hn : n < 1000000) {f c x y z : Int} (hf : isI f) (hc : isI c) (hx : isI x) (hy : isI y) (hz : isI z) :
    ∃ w', (Instr.mapUpdate 58 (.map (some b)) (.agg #[.int .i64 f, .int .i64 c]) (.agg #[.int .i64 x, .int .i64 y, .int .i64 z])).run Try.prog w = .ok () w' ∧ MindAt w' p b (n + 1) (putL L (f, c) (x, y, z)) ∧ w.grownBy w' (some b) := by
  obtain ⟨D, h1, h2⟩ := h.own
  obtain ⟨w', hrun, hown', hturn⟩ := h1.store lawWay Try.underlying58 (by unfold maxLen; omega) (keyOf_way hf hc) (noteElem_mk x y z)
  have hg := hturn.grown
  refine ⟨w', hrun, ⟨?_, ⟨_, hown', h2.put (h1.tidy lawWay) hf hc hx hy hz⟩, h.ne⟩, hg⟩
  exact (hg.block p h.box.lt (fun e => h.ne (by injection e))).trans h.box

theorem MindAt.more {w : World} {p b n m : Nat} {L : Notes} (h : MindAt w p b n L) (hm : n ≤ m) : MindAt w p b m L :=
  ⟨h.box, by obtain ⟨D, h1, h2⟩ := h.own; exact ⟨D, h1.mono hm, h2⟩, h.ne⟩
theorem MindAt.lt {w : World} {p b n : Nat} {L : Notes} (h : MindAt w p b n L) : b < w.heap.size := by
  obtain ⟨D, h1, h2⟩ := h.own; exact h1.lt

theorem below_grown {w w' : World} (h : Below w.heap.size w w') (r : Option Nat) : w.grownBy w' r := ⟨h.os, h.tape, h.output, h.size, fun i hi _ => h.block i hi⟩
theorem below_then {w a w' : World} {b : Nat} (h : Below w.heap.size w a) (k : a.grownBy w' (some b)) : w.grownBy w' (some b) :=
  (below_grown h (some b)).andThen k (fun j hj => .inr (by rw [← hj]))

set_option maxRecDepth 100000 in
set_option maxHeartbeats 2000000 in
theorem failed_any (w : World) (p b n : Nat) (L : Notes) (h : MindAt w p b n L) (hgd : Good L) (hn : n < 1000000) (e : Ed) (x : Int) : Calls Try.prog 22 #[.pointer (some ⟨p, 0, none⟩), e.v, .int .i64 x] w fun y w' => y = .returned (.tuple #[]) ∧ MindAt w' p b (n + 1) (failL L e.e4 x) ∧ w.grownBy w' (some b) := by
  obtain ⟨f, t, c, r, p0, p1, p2, p3, p4⟩ := e
  have hb0 : Below w.heap.size w (w.alloc (.cells #[.int .i64 f, .int .i64 t, .int .i64 c, .int .i64 r, .int .i64 p0, .int .i64 p1, .int .i64 p2, .int .i64 p3, .int .i64 p4] 26)) := (Below.refl _ _).alloc (Nat.le_refl _) _
  have J0 : Blk (w.alloc (.cells #[.int .i64 f, .int .i64 t, .int .i64 c, .int .i64 r, .int .i64 p0, .int .i64 p1, .int .i64 p2, .int .i64 p3, .int .i64 p4] 26)) w.heap.size 26 #[.int .i64 f, .int .i64 t, .int .i64 c, .int .i64 r, .int .i64 p0, .int .i64 p1, .int .i64 p2, .int .i64 p3, .int .i64 p4] := Blk.new w _ _
  have hM0 := h.on hb0
  obtain ⟨w0, hw0⟩ : ∃ w0, w0 = w.alloc (.cells #[.int .i64 f, .int .i64 t, .int .i64 c, .int .i64 r, .int .i64 p0, .int .i64 p1, .int .i64 p2, .int .i64 p3, .int .i64 p4] 26) := ⟨_, rfl⟩
  rw [← hw0] at hb0 J0 hM0
  have j0 := J0.cell 0
  have j1 := J0.cell 1
  have j2 := J0.cell 2
  have j3 := J0.cell 3
  have j4 := J0.cell 4
  have j5 := J0.cell 5
  have j6 := J0.cell 6
  have j7 := J0.cell 7
  have j8 := J0.cell 8
  simp only [Ed.v, Ed.cs]
  go_enter Try.func22, Try.ntmps22
  go_wp2_with fail
  rw [← hw0]
  clear hw0
  go_wp2_with fail
  refine (some_any ⟨f, t, c, r, p0, p1, p2, p3, p4⟩ x w0).mono ?_
  rintro y w1 ⟨rfl, hb⟩
  have J := J0.below hb J0.lt
  have hM := hM0.on hb
  have hb1 := bltB hb0 hb0.size hb
  clear hb j0 j1 j2 j3 j4 j5 j6 j7 j8 hM0 h
  rcases hm : someB ⟨f, t, c, r, p0, p1, p2, p3, p4⟩ x with _ | _
  · have HB : Hid (failL L (Ed.e4 ⟨f, t, c, r, p0, p1, p2, p3, p4⟩) x = L) := Lib.hid (by unfold failL; rw [if_neg]; intro hh; have : someB ⟨f, t, c, r, p0, p1, p2, p3, p4⟩ x = true := hh; rw [hm] at this; cases this)
    have HM := Lib.hid hM
    clear hM
    go_wp2_with fail
    exact bodyPost_end (v := .tuple #[]) (by simp [results, Try.f22, go_sem]) rfl ⟨rfl, by rw [HB.out]; exact HM.out.more (Nat.le_succ _), below_grown hb1 _⟩
  · have hmy : E4.may (Ed.e4 ⟨f, t, c, r, p0, p1, p2, p3, p4⟩) x = true := hm
    have HB : Hid (failL L (Ed.e4 ⟨f, t, c, r, p0, p1, p2, p3, p4⟩) x = putL L (f, c) (min (cnt L (f, c) r).1 (x - 1), min (cnt L (f, c) r).2 x, r)) := Lib.hid (by unfold failL; rw [if_pos hmy]; rfl)
    have hs := may_spec.1 hmy
    simp only [Ed.e4] at hs
    have hfk : isI f := isI_of hs.1.1.1 (by omega)
    have hc : isI c := isI_of hs.1.2.2.2.1.1 hs.1.2.2.2.1.2
    have hr0 := hs.1.2.2.2.2.1
    have hr1 := hs.1.2.2.2.2.2
    have hx0 := hs.2.1
    have hx1 := hs.2.2
    clear hs hm hmy
    go_wp2_with fail
    refine wp_region_noPanic ?_
    refine ord_begin 7 (fun wx => Below w1.heap.size w1 wx) (by kernel_rfl) ?_
    have hT : Below w1.heap.size w1 w1.drew := (Below.refl _ _).drew
    refine ord_take (i := 0) (v := ?_) (by kernel_rfl) rfl (by decide) (by kernel_rfl) (by kernel_rfl) (fun _ _ _ h => h) (Or.inl ⟨by rfl, ?_⟩) hT ?_
    rotate_left
    · intro wz hz; go_simp; (try with_reducible rfl)
    try simp only [Act.put, List.getElem_toArray, List.getElem_cons_zero, List.getElem_cons_succ, List.setIfInBounds_toArray, List.set_cons_zero, List.set_cons_succ]
    refine ord_take (i := 1) (v := ?_) (by kernel_rfl) rfl (by decide) (by kernel_rfl) (by kernel_rfl) (fun _ _ _ h => h) (Or.inl ⟨by rfl, ?_⟩) hT ?_
    rotate_left
    · intro wz hz; have j := J.below hz J.lt; have q0 := j.cell 0; have q1 := j.cell 1; have q2 := j.cell 2; have q3 := j.cell 3; have q4 := j.cell 4; have q5 := j.cell 5; have q6 := j.cell 6; have q7 := j.cell 7; have q8 := j.cell 8; go_simp; (try with_reducible rfl)
    try simp only [Act.put, List.getElem_toArray, List.getElem_cons_zero, List.getElem_cons_succ, List.setIfInBounds_toArray, List.set_cons_zero, List.set_cons_succ]
    refine ord_take (i := 3) (v := ?_) (by kernel_rfl) rfl (by decide) (by kernel_rfl) (by kernel_rfl) (fun _ _ _ h => h) (Or.inl ⟨by rfl, ?_⟩) hT ?_
    rotate_left
    · intro wz hz; go_simp; (try with_reducible rfl)
    try simp only [Act.put, List.getElem_toArray, List.getElem_cons_zero, List.getElem_cons_succ, List.setIfInBounds_toArray, List.set_cons_zero, List.set_cons_succ]
    refine ord_take (i := 4) (v := ?_) (by kernel_rfl) rfl (by decide) (by kernel_rfl) (by kernel_rfl) (fun _ _ _ h => h) (Or.inl ⟨by rfl, ?_⟩) hT ?_
    rotate_left
    · intro wz hz; have j := J.below hz J.lt; have q3 := j.cell 3; go_simp; (try with_reducible rfl)
    try simp only [Act.put, List.getElem_toArray, List.getElem_cons_zero, List.getElem_cons_succ, List.setIfInBounds_toArray, List.set_cons_zero, List.set_cons_succ]
    refine ord_funnel (F := ?F) (k := 1) #[true, true, true, true, true, true, true, false] (fun G2 W => Blk W G2 72 #[.int .i64 0, .int .i64 0, .int .i64 0] ∧ Below w1.heap.size w1 W ∧ w1.heap.size ≤ G2) ?_ ?_
    rotate_left
    · intro HQ
      refine ord_step2 (i := 2) (k := 6) rfl rfl (by decide) (by decide) (by kernel_rfl) (by rfl) (by rfl) (fun K hK => ?_) (fun K hK => ?_)
      · go_simp
        refine (there_any ⟨f, t, c, r, p0, p1, p2, p3, p4⟩ _).mono ?_
        rintro y X1 ⟨rfl, hb⟩
        have hx1 := bltB hT hT.size hb
        clear hb
        refine hK _ _ hx1 ?_
        clear hK K
        try simp only [Act.put, List.getElem_toArray, List.getElem_cons_zero, List.getElem_cons_succ, List.setIfInBounds_toArray, List.set_cons_zero, List.set_cons_succ]
        refine ord_step2 (i := 5) (k := 6) rfl rfl (by decide) (by decide) (by kernel_rfl) (by rfl) (by rfl) (fun K hK => ?_) (fun K hK => ?_)
        · go_simp
          refine (of_note_any _ p b n L (hM.on hx1) hgd f c r hfk hc hr0 hr1).mono ?_
          rintro y X2 ⟨rfl, hb⟩
          have hx2 := bltB hx1 hx1.size hb
          clear hb
          refine hK _ _ hx2 ?_
          clear hK K
          try simp only [Act.put, List.getElem_toArray, List.getElem_cons_zero, List.getElem_cons_succ, List.setIfInBounds_toArray, List.set_cons_zero, List.set_cons_succ]
          refine ord_step (i := 6) rfl (by decide) (by kernel_rfl) (by rfl) (fun K hK => ?_)
          go_simp
          obtain ⟨G2, hG2⟩ : ∃ G2, X2.heap.size = G2 := ⟨_, rfl⟩
          have hN : Blk (X2.alloc (.cells #[.int .i64 0, .int .i64 0, .int .i64 0] 72)) G2 72 #[.int .i64 0, .int .i64 0, .int .i64 0] := hG2 ▸ Blk.new X2 _ _
          rw [hG2]
          refine hK _ _ (hx2.alloc hx2.size _) ?_
          clear hK K
          try simp only [Act.put, List.getElem_toArray, List.getElem_cons_zero, List.getElem_cons_succ, List.setIfInBounds_toArray, List.set_cons_zero, List.set_cons_succ]
          refine ord_relist #[true, true, true, true, true, true, true, false] (by kernel_rfl) ?_
          exact HQ _ _ ⟨hN, hx2.alloc hx2.size _, hG2 ▸ hx2.size⟩
        · go_simp
          obtain ⟨G2, hG2⟩ : ∃ G2, X1.heap.size = G2 := ⟨_, rfl⟩
          have hN : Blk (X1.alloc (.cells #[.int .i64 0, .int .i64 0, .int .i64 0] 72)) G2 72 #[.int .i64 0, .int .i64 0, .int .i64 0] := hG2 ▸ Blk.new X1 _ _
          rw [hG2]
          have hx2 := hx1.alloc hx1.size (.cells #[.int .i64 0, .int .i64 0, .int .i64 0] 72)
          have hG : w1.heap.size ≤ G2 := hG2 ▸ hx1.size
          refine hK _ _ hx2 ?_
          clear hK K
          try simp only [Act.put, List.getElem_toArray, List.getElem_cons_zero, List.getElem_cons_succ, List.setIfInBounds_toArray, List.set_cons_zero, List.set_cons_succ]
          refine ord_step (i := 5) rfl (by decide) (by kernel_rfl) (by rfl) (fun K hK => ?_)
          go_simp
          refine (of_note_any _ p b n L (hM.on hx2) hgd f c r hfk hc hr0 hr1).mono ?_
          rintro y X3 ⟨rfl, hb⟩
          have hx3 := bltB hx2 hx2.size hb
          have hN3 := hN.below hb hN.lt
          clear hb
          refine hK _ _ hx3 ?_
          clear hK K
          try simp only [Act.put, List.getElem_toArray, List.getElem_cons_zero, List.getElem_cons_succ, List.setIfInBounds_toArray, List.set_cons_zero, List.set_cons_succ]
          refine ord_relist #[true, true, true, true, true, true, true, false] (by kernel_rfl) ?_
          exact HQ _ _ ⟨hN3, hx3, hG⟩
      · go_simp
        obtain ⟨G2, hG2⟩ : ∃ G2, w1.heap.size = G2 := ⟨_, rfl⟩
        have hN : Blk (w1.alloc (.cells #[.int .i64 0, .int .i64 0, .int .i64 0] 72)).drew G2 72 #[.int .i64 0, .int .i64 0, .int .i64 0] := hG2 ▸ (Blk.new w1 _ _).drew
        rw [hG2]
        have hx1 : Below w1.heap.size w1 (w1.alloc (.cells #[.int .i64 0, .int .i64 0, .int .i64 0] 72)).drew := ((Below.refl _ _).alloc (Nat.le_refl _) _).drew
        have hG : w1.heap.size ≤ G2 := Nat.le_of_eq hG2
        refine hK _ _ hx1 ?_
        clear hK K
        try simp only [Act.put, List.getElem_toArray, List.getElem_cons_zero, List.getElem_cons_succ, List.setIfInBounds_toArray, List.set_cons_zero, List.set_cons_succ]
        refine ord_step (i := 2) rfl (by decide) (by kernel_rfl) (by rfl) (fun K hK => ?_)
        go_simp
        refine (there_any ⟨f, t, c, r, p0, p1, p2, p3, p4⟩ _).mono ?_
        rintro y X2 ⟨rfl, hb⟩
        have hx2 := bltB hx1 hx1.size hb
        have hN2 := hN.below hb hN.lt
        clear hb
        refine hK _ _ hx2 ?_
        clear hK K
        try simp only [Act.put, List.getElem_toArray, List.getElem_cons_zero, List.getElem_cons_succ, List.setIfInBounds_toArray, List.set_cons_zero, List.set_cons_succ]
        refine ord_step (i := 5) rfl (by decide) (by kernel_rfl) (by rfl) (fun K hK => ?_)
        go_simp
        refine (of_note_any _ p b n L (hM.on hx2) hgd f c r hfk hc hr0 hr1).mono ?_
        rintro y X3 ⟨rfl, hb⟩
        have hx3 := bltB hx2 hx2.size hb
        have hN3 := hN2.below hb hN2.lt
        clear hb
        refine hK _ _ hx3 ?_
        clear hK K
        try simp only [Act.put, List.getElem_toArray, List.getElem_cons_zero, List.getElem_cons_succ, List.setIfInBounds_toArray, List.set_cons_zero, List.set_cons_succ]
        refine ord_relist #[true, true, true, true, true, true, true, false] (by kernel_rfl) ?_
        exact HQ _ _ ⟨hN3, hx3, hG⟩
    rintro G2 W2 ⟨hN0, hb2, hG2⟩
    simp only [noteV, wayV]
    refine ord_rest (by kernel_rfl) ?_
    have hc0 := hN0.cell 0
    have hc1 := hN0.cell 1
    have hc2 := hN0.cell 2
    have hf0 := hN0.frozen 0
    have hf1 := hN0.frozen 1
    have hf2 := hN0.frozen 2
    refine any_step (i := 7) rfl (by kernel_rfl) (by rfl) (fun K hK => ?_)
    go_simp
    refine hK _ _ ?_
    clear hK K
    try simp only [Act.put, List.getElem_toArray, List.getElem_cons_zero, List.getElem_cons_succ, List.setIfInBounds_toArray, List.set_cons_zero, List.set_cons_succ]
    have hN : Blk (((W2.setCell ⟨G2, 0, none⟩ (.int .i64 (cnt L (f, c) r).1)).setCell ⟨G2, 1, none⟩ (.int .i64 (cnt L (f, c) r).2)).setCell ⟨G2, 2, none⟩ (.int .i64 r)) G2 72 #[.int .i64 (cnt L (f, c) r).1, .int .i64 (cnt L (f, c) r).2, .int .i64 r] := ((hN0.set_ 0 _).set_ 1 _).set_ 2 _
    have hb3 := ((hb2.setCell (p := ⟨G2, 0, none⟩) hG2 (.int .i64 (cnt L (f, c) r).1)).setCell (p := ⟨G2, 1, none⟩) hG2 (.int .i64 (cnt L (f, c) r).2)).setCell (p := ⟨G2, 2, none⟩) hG2 (.int .i64 r)
    generalize ((W2.setCell ⟨G2, 0, none⟩ (.int .i64 (cnt L (f, c) r).1)).setCell ⟨G2, 1, none⟩ (.int .i64 (cnt L (f, c) r).2)).setCell ⟨G2, 2, none⟩ (.int .i64 r) = W3 at *
    clear hc0 hc1 hc2 hf0 hf1 hf2 hN0 hb2
    refine wpAny_done (by kernel_rfl) ?_ _
    refine NoPanic.normal ?_
    have hcnt := cnt_ok hgd (f, c) hr0
    obtain ⟨lo, hlo⟩ : ∃ lo, (cnt L (f, c) r).1 = lo := ⟨_, rfl⟩
    obtain ⟨hi, hhi⟩ : ∃ hi, (cnt L (f, c) r).2 = hi := ⟨_, rfl⟩
    rw [hlo, hhi] at hcnt
    rw [hlo, hhi] at HB
    rw [hlo, hhi] at hN
    simp only [hlo, hhi]
    clear hlo hhi
    obtain ⟨z1, hz1, hv1⟩ := min_named lo (x - 1)
    obtain ⟨z2, hz2, hv2⟩ := min_named hi x
    have hi1 : isI z1 := by unfold isI; omega
    have hi2 : isI z2 := by unfold isI; omega
    have hi3 : isI r := by unfold isI; omega
    rw [← hz1, ← hz2] at HB
    clear hz1 hz2
    have hwr : IntKind.i64.wrap (x - 1) = x - 1 := IntWalk.i64_in _ (by omega)
    have hJ := J.below hb3 J.lt
    have hM := hM.on hb3
    have hb4 := bltB hb1 hb1.size hb3
    have hlN := hN.lt
    clear hb3 J
    have J := hJ
    clear hJ
    go_wp2_with fail
    refine wp_region_noPanic ?_
    refine ord_begin 18 (fun wx => Below W3.heap.size W3 wx) (by kernel_rfl) ?_
    have hT : Below W3.heap.size W3 W3.drew := (Below.refl _ _).drew
    refine ord_take (i := 0) (v := ?_) (by kernel_rfl) rfl (by decide) (by kernel_rfl) (by kernel_rfl) (fun _ _ _ h => h) (Or.inl ⟨by rfl, ?_⟩) hT ?_
    rotate_left
    · intro wz hz; go_simp; (try with_reducible rfl)
    try simp only [Act.put, List.getElem_toArray, List.getElem_cons_zero, List.getElem_cons_succ, List.setIfInBounds_toArray, List.set_cons_zero, List.set_cons_succ]
    refine ord_take (i := 1) (v := ?_) (by kernel_rfl) rfl (by decide) (by kernel_rfl) (by kernel_rfl) (fun _ _ _ h => h) (Or.inl ⟨by rfl, ?_⟩) hT ?_
    rotate_left
    · intro wz hz; have j := hM.box.below hz hM.box.lt; have q := j.cell 0; go_simp; (try with_reducible rfl)
    try simp only [Act.put, List.getElem_toArray, List.getElem_cons_zero, List.getElem_cons_succ, List.setIfInBounds_toArray, List.set_cons_zero, List.set_cons_succ]
    refine ord_take (i := 2) (v := ?_) (by kernel_rfl) rfl (by decide) (by kernel_rfl) (by kernel_rfl) (fun _ _ _ h => h) (Or.inl ⟨by rfl, ?_⟩) hT ?_
    rotate_left
    · intro wz hz; go_simp; (try with_reducible rfl)
    try simp only [Act.put, List.getElem_toArray, List.getElem_cons_zero, List.getElem_cons_succ, List.setIfInBounds_toArray, List.set_cons_zero, List.set_cons_succ]
    refine ord_take (i := 3) (v := ?_) (by kernel_rfl) rfl (by decide) (by kernel_rfl) (by kernel_rfl) (fun _ _ _ h => h) (Or.inl ⟨by rfl, ?_⟩) hT ?_
    rotate_left
    · intro wz hz; have j := hM.box.below hz hM.box.lt; have q := j.cell 0; go_simp; (try with_reducible rfl)
    try simp only [Act.put, List.getElem_toArray, List.getElem_cons_zero, List.getElem_cons_succ, List.setIfInBounds_toArray, List.set_cons_zero, List.set_cons_succ]
    refine ord_take (i := 4) (v := ?_) (by kernel_rfl) rfl (by decide) (by kernel_rfl) (by kernel_rfl) (fun _ _ _ h => h) (Or.inl ⟨by rfl, ?_⟩) hT ?_
    rotate_left
    · intro wz hz; have j := J.below hz J.lt; have q0 := j.cell 0; have q1 := j.cell 1; have q2 := j.cell 2; have q3 := j.cell 3; have q4 := j.cell 4; have q5 := j.cell 5; have q6 := j.cell 6; have q7 := j.cell 7; have q8 := j.cell 8; go_simp; (try with_reducible rfl)
    try simp only [Act.put, List.getElem_toArray, List.getElem_cons_zero, List.getElem_cons_succ, List.setIfInBounds_toArray, List.set_cons_zero, List.set_cons_succ]
    refine ord_take (i := 6) (v := ?_) (by kernel_rfl) rfl (by decide) (by kernel_rfl) (by kernel_rfl) (fun _ _ _ h => h) (Or.inl ⟨by rfl, ?_⟩) hT ?_
    rotate_left
    · intro wz hz; go_simp; (try with_reducible rfl)
    try simp only [Act.put, List.getElem_toArray, List.getElem_cons_zero, List.getElem_cons_succ, List.setIfInBounds_toArray, List.set_cons_zero, List.set_cons_succ]
    refine ord_take (i := 7) (v := ?_) (by kernel_rfl) rfl (by decide) (by kernel_rfl) (by kernel_rfl) (fun _ _ _ h => h) (Or.inl ⟨by rfl, ?_⟩) hT ?_
    rotate_left
    · intro wz hz; have j := hN.below hz hN.lt; have q0 := j.cell 0; have q1 := j.cell 1; go_simp; (try with_reducible rfl)
    try simp only [Act.put, List.getElem_toArray, List.getElem_cons_zero, List.getElem_cons_succ, List.setIfInBounds_toArray, List.set_cons_zero, List.set_cons_succ]
    refine ord_take (i := 8) (v := ?_) (by kernel_rfl) rfl (by decide) (by kernel_rfl) (by kernel_rfl) (fun _ _ _ h => h) (Or.inl ⟨by rfl, ?_⟩) hT ?_
    rotate_left
    · intro wz hz; go_simp; (try with_reducible rfl)
    try simp only [Act.put, List.getElem_toArray, List.getElem_cons_zero, List.getElem_cons_succ, List.setIfInBounds_toArray, List.set_cons_zero, List.set_cons_succ]
    refine ord_take (i := 9) (v := ?_) (by kernel_rfl) rfl (by decide) (by kernel_rfl) (by kernel_rfl) (fun _ _ _ h => h) (Or.inl ⟨by rfl, ?_⟩) hT ?_
    rotate_left
    · intro wz hz; go_simp; (try with_reducible rfl)
    try simp only [Act.put, List.getElem_toArray, List.getElem_cons_zero, List.getElem_cons_succ, List.setIfInBounds_toArray, List.set_cons_zero, List.set_cons_succ]
    refine ord_take (i := 10) (v := ?_) (by kernel_rfl) rfl (by decide) (by kernel_rfl) (by kernel_rfl) (fun _ _ _ h => h) (Or.inl ⟨by rfl, ?_⟩) hT ?_
    rotate_left
    · intro wz hz; go_simp; (try with_reducible rfl)
    try simp only [Act.put, List.getElem_toArray, List.getElem_cons_zero, List.getElem_cons_succ, List.setIfInBounds_toArray, List.set_cons_zero, List.set_cons_succ]
    refine ord_take (i := 11) (v := ?_) (by kernel_rfl) rfl (by decide) (by kernel_rfl) (by kernel_rfl) (fun _ _ _ h => h) (Or.inl ⟨by rfl, ?_⟩) hT ?_
    rotate_left
    · intro wz hz; go_simp; (try with_reducible rfl)
    try simp only [Act.put, List.getElem_toArray, List.getElem_cons_zero, List.getElem_cons_succ, List.setIfInBounds_toArray, List.set_cons_zero, List.set_cons_succ]
    refine ord_take (i := 12) (v := ?_) (by kernel_rfl) rfl (by decide) (by kernel_rfl) (by kernel_rfl) (fun _ _ _ h => h) (Or.inl ⟨by rfl, ?_⟩) hT ?_
    rotate_left
    · intro wz hz; have j := hN.below hz hN.lt; have q0 := j.cell 0; have q1 := j.cell 1; go_simp; (try with_reducible rfl)
    try simp only [Act.put, List.getElem_toArray, List.getElem_cons_zero, List.getElem_cons_succ, List.setIfInBounds_toArray, List.set_cons_zero, List.set_cons_succ]
    refine ord_take (i := 13) (v := ?_) (by kernel_rfl) rfl (by decide) (by kernel_rfl) (by kernel_rfl) (fun _ _ _ h => h) (Or.inl ⟨by rfl, ?_⟩) hT ?_
    rotate_left
    · intro wz hz; go_simp; (try with_reducible rfl)
    try simp only [Act.put, List.getElem_toArray, List.getElem_cons_zero, List.getElem_cons_succ, List.setIfInBounds_toArray, List.set_cons_zero, List.set_cons_succ]
    refine ord_take (i := 14) (v := ?_) (by kernel_rfl) rfl (by decide) (by kernel_rfl) (by kernel_rfl) (fun _ _ _ h => h) (Or.inl ⟨by rfl, ?_⟩) hT ?_
    rotate_left
    · intro wz hz; go_simp; (try with_reducible rfl)
    try simp only [Act.put, List.getElem_toArray, List.getElem_cons_zero, List.getElem_cons_succ, List.setIfInBounds_toArray, List.set_cons_zero, List.set_cons_succ]
    refine ord_take (i := 15) (v := ?_) (by kernel_rfl) rfl (by decide) (by kernel_rfl) (by kernel_rfl) (fun _ _ _ h => h) (Or.inl ⟨by rfl, ?_⟩) hT ?_
    rotate_left
    · intro wz hz; go_simp; (try with_reducible rfl)
    try simp only [Act.put, List.getElem_toArray, List.getElem_cons_zero, List.getElem_cons_succ, List.setIfInBounds_toArray, List.set_cons_zero, List.set_cons_succ]
    refine ord_take (i := 16) (v := ?_) (by kernel_rfl) rfl (by decide) (by kernel_rfl) (by kernel_rfl) (fun _ _ _ h => h) (Or.inl ⟨by rfl, ?_⟩) hT ?_
    rotate_left
    · intro wz hz; have j := J.below hz J.lt; have q3 := j.cell 3; go_simp; (try with_reducible rfl)
    try simp only [Act.put, List.getElem_toArray, List.getElem_cons_zero, List.getElem_cons_succ, List.setIfInBounds_toArray, List.set_cons_zero, List.set_cons_succ]
    refine ord_take (i := 17) (v := ?_) (by kernel_rfl) rfl (by decide) (by kernel_rfl) (by kernel_rfl) (fun _ _ _ h => h) (Or.inl ⟨by rfl, ?_⟩) hT ?_
    rotate_left
    · intro wz hz; go_simp; (try with_reducible rfl)
    try simp only [Act.put, List.getElem_toArray, List.getElem_cons_zero, List.getElem_cons_succ, List.setIfInBounds_toArray, List.set_cons_zero, List.set_cons_succ]
    refine ord_step (i := 5) rfl (by decide) (by kernel_rfl) (by rfl) (fun K hK => ?_)
    go_simp
    refine (there_any ⟨f, t, c, r, p0, p1, p2, p3, p4⟩ _).mono ?_
    rintro y W4 ⟨rfl, hb⟩
    have hx := bltB hT hT.size hb
    clear hb
    refine hK _ _ hx ?_
    clear hK K
    try simp only [Act.put, List.getElem_toArray, List.getElem_cons_zero, List.getElem_cons_succ, List.setIfInBounds_toArray, List.set_cons_zero, List.set_cons_succ]
    refine ord_rest (by kernel_rfl) ?_
    have hM2 := hM.on hx
    obtain ⟨W5, hrun, hM3, hg⟩ := hM2.put hn hfk hc hi1 hi2 hi3
    simp only [wayV]
    refine any_step (i := 18) rfl (by kernel_rfl) (by rfl) (fun K hK => ?_)
    go_simp
    refine hK _ _ ?_
    clear hK K
    try simp only [Act.put, List.getElem_toArray, List.getElem_cons_zero, List.getElem_cons_succ, List.setIfInBounds_toArray, List.set_cons_zero, List.set_cons_succ]
    refine wpAny_done (by kernel_rfl) ?_ _
    refine NoPanic.normal ?_
    have hfin := below_then (bltB hb4 hb4.size hx) hg
    have HM := Lib.hid hM3
    clear hM3 hM2 hM hrun hg hx J hN
    go_wp2_with fail
    exact bodyPost_end (v := .tuple #[]) (by simp [results, Try.f22, go_sem]) rfl ⟨rfl, by rw [HB.out]; exact HM.out, hfin⟩

set_option maxRecDepth 100000 in
set_option maxHeartbeats 2000000 in
theorem passed_any (w : World) (p b n : Nat) (L : Notes) (h : MindAt w p b n L) (hgd : Good L) (hn : n < 1000000) (e : Ed) (x : Int) : Calls Try.prog 27 #[.pointer (some ⟨p, 0, none⟩), e.v, .int .i64 x] w fun y w' => y = .returned (.tuple #[]) ∧ MindAt w' p b (n + 1) (passL L e.e4 x) ∧ w.grownBy w' (some b) := by
  obtain ⟨f, t, c, r, p0, p1, p2, p3, p4⟩ := e
  have hb0 : Below w.heap.size w (w.alloc (.cells #[.int .i64 f, .int .i64 t, .int .i64 c, .int .i64 r, .int .i64 p0, .int .i64 p1, .int .i64 p2, .int .i64 p3, .int .i64 p4] 26)) := (Below.refl _ _).alloc (Nat.le_refl _) _
  have J0 : Blk (w.alloc (.cells #[.int .i64 f, .int .i64 t, .int .i64 c, .int .i64 r, .int .i64 p0, .int .i64 p1, .int .i64 p2, .int .i64 p3, .int .i64 p4] 26)) w.heap.size 26 #[.int .i64 f, .int .i64 t, .int .i64 c, .int .i64 r, .int .i64 p0, .int .i64 p1, .int .i64 p2, .int .i64 p3, .int .i64 p4] := Blk.new w _ _
  have hM0 := h.on hb0
  obtain ⟨w0, hw0⟩ : ∃ w0, w0 = w.alloc (.cells #[.int .i64 f, .int .i64 t, .int .i64 c, .int .i64 r, .int .i64 p0, .int .i64 p1, .int .i64 p2, .int .i64 p3, .int .i64 p4] 26) := ⟨_, rfl⟩
  rw [← hw0] at hb0 J0 hM0
  have j0 := J0.cell 0
  have j1 := J0.cell 1
  have j2 := J0.cell 2
  have j3 := J0.cell 3
  have j4 := J0.cell 4
  have j5 := J0.cell 5
  have j6 := J0.cell 6
  have j7 := J0.cell 7
  have j8 := J0.cell 8
  simp only [Ed.v, Ed.cs]
  go_enter Try.func27, Try.ntmps27
  go_wp2_with fail
  rw [← hw0]
  clear hw0
  go_wp2_with fail
  refine (some_any ⟨f, t, c, r, p0, p1, p2, p3, p4⟩ x w0).mono ?_
  rintro y w1 ⟨rfl, hb⟩
  have J := J0.below hb J0.lt
  have hM := hM0.on hb
  have hb1 := bltB hb0 hb0.size hb
  clear hb j0 j1 j2 j3 j4 j5 j6 j7 j8 hM0 h
  rcases hm : someB ⟨f, t, c, r, p0, p1, p2, p3, p4⟩ x with _ | _
  · have HB : Hid (passL L (Ed.e4 ⟨f, t, c, r, p0, p1, p2, p3, p4⟩) x = L) := Lib.hid (by unfold passL; rw [if_neg]; intro hh; have : someB ⟨f, t, c, r, p0, p1, p2, p3, p4⟩ x = true := hh; rw [hm] at this; cases this)
    have HM := Lib.hid hM
    clear hM
    go_wp2_with fail
    exact bodyPost_end (v := .tuple #[]) (by simp [results, Try.f27, go_sem]) rfl ⟨rfl, by rw [HB.out]; exact HM.out.more (Nat.le_succ _), below_grown hb1 _⟩
  · have hmy : E4.may (Ed.e4 ⟨f, t, c, r, p0, p1, p2, p3, p4⟩) x = true := hm
    have HB : Hid (passL L (Ed.e4 ⟨f, t, c, r, p0, p1, p2, p3, p4⟩) x = putL L (f, c) (max (cnt L (f, c) r).1 x, max (cnt L (f, c) r).2 (x + 1), r)) := Lib.hid (by unfold passL; rw [if_pos hmy]; rfl)
    have hs := may_spec.1 hmy
    simp only [Ed.e4] at hs
    have hfk : isI f := isI_of hs.1.1.1 (by omega)
    have hc : isI c := isI_of hs.1.2.2.2.1.1 hs.1.2.2.2.1.2
    have hr0 := hs.1.2.2.2.2.1
    have hr1 := hs.1.2.2.2.2.2
    have hx0 := hs.2.1
    have hx1 := hs.2.2
    clear hs hm hmy
    go_wp2_with fail
    refine wp_region_noPanic ?_
    refine ord_begin 7 (fun wx => Below w1.heap.size w1 wx) (by kernel_rfl) ?_
    have hT : Below w1.heap.size w1 w1.drew := (Below.refl _ _).drew
    refine ord_take (i := 0) (v := ?_) (by kernel_rfl) rfl (by decide) (by kernel_rfl) (by kernel_rfl) (fun _ _ _ h => h) (Or.inl ⟨by rfl, ?_⟩) hT ?_
    rotate_left
    · intro wz hz; go_simp; (try with_reducible rfl)
    try simp only [Act.put, List.getElem_toArray, List.getElem_cons_zero, List.getElem_cons_succ, List.setIfInBounds_toArray, List.set_cons_zero, List.set_cons_succ]
    refine ord_take (i := 1) (v := ?_) (by kernel_rfl) rfl (by decide) (by kernel_rfl) (by kernel_rfl) (fun _ _ _ h => h) (Or.inl ⟨by rfl, ?_⟩) hT ?_
    rotate_left
    · intro wz hz; have j := J.below hz J.lt; have q0 := j.cell 0; have q1 := j.cell 1; have q2 := j.cell 2; have q3 := j.cell 3; have q4 := j.cell 4; have q5 := j.cell 5; have q6 := j.cell 6; have q7 := j.cell 7; have q8 := j.cell 8; go_simp; (try with_reducible rfl)
    try simp only [Act.put, List.getElem_toArray, List.getElem_cons_zero, List.getElem_cons_succ, List.setIfInBounds_toArray, List.set_cons_zero, List.set_cons_succ]
    refine ord_take (i := 3) (v := ?_) (by kernel_rfl) rfl (by decide) (by kernel_rfl) (by kernel_rfl) (fun _ _ _ h => h) (Or.inl ⟨by rfl, ?_⟩) hT ?_
    rotate_left
    · intro wz hz; go_simp; (try with_reducible rfl)
    try simp only [Act.put, List.getElem_toArray, List.getElem_cons_zero, List.getElem_cons_succ, List.setIfInBounds_toArray, List.set_cons_zero, List.set_cons_succ]
    refine ord_take (i := 4) (v := ?_) (by kernel_rfl) rfl (by decide) (by kernel_rfl) (by kernel_rfl) (fun _ _ _ h => h) (Or.inl ⟨by rfl, ?_⟩) hT ?_
    rotate_left
    · intro wz hz; have j := J.below hz J.lt; have q3 := j.cell 3; go_simp; (try with_reducible rfl)
    try simp only [Act.put, List.getElem_toArray, List.getElem_cons_zero, List.getElem_cons_succ, List.setIfInBounds_toArray, List.set_cons_zero, List.set_cons_succ]
    refine ord_funnel (F := ?F) (k := 1) #[true, true, true, true, true, true, true, false] (fun G2 W => Blk W G2 72 #[.int .i64 0, .int .i64 0, .int .i64 0] ∧ Below w1.heap.size w1 W ∧ w1.heap.size ≤ G2) ?_ ?_
    rotate_left
    · intro HQ
      refine ord_step2 (i := 2) (k := 6) rfl rfl (by decide) (by decide) (by kernel_rfl) (by rfl) (by rfl) (fun K hK => ?_) (fun K hK => ?_)
      · go_simp
        refine (there_any ⟨f, t, c, r, p0, p1, p2, p3, p4⟩ _).mono ?_
        rintro y X1 ⟨rfl, hb⟩
        have hx1 := bltB hT hT.size hb
        clear hb
        refine hK _ _ hx1 ?_
        clear hK K
        try simp only [Act.put, List.getElem_toArray, List.getElem_cons_zero, List.getElem_cons_succ, List.setIfInBounds_toArray, List.set_cons_zero, List.set_cons_succ]
        refine ord_step2 (i := 5) (k := 6) rfl rfl (by decide) (by decide) (by kernel_rfl) (by rfl) (by rfl) (fun K hK => ?_) (fun K hK => ?_)
        · go_simp
          refine (of_note_any _ p b n L (hM.on hx1) hgd f c r hfk hc hr0 hr1).mono ?_
          rintro y X2 ⟨rfl, hb⟩
          have hx2 := bltB hx1 hx1.size hb
          clear hb
          refine hK _ _ hx2 ?_
          clear hK K
          try simp only [Act.put, List.getElem_toArray, List.getElem_cons_zero, List.getElem_cons_succ, List.setIfInBounds_toArray, List.set_cons_zero, List.set_cons_succ]
          refine ord_step (i := 6) rfl (by decide) (by kernel_rfl) (by rfl) (fun K hK => ?_)
          go_simp
          obtain ⟨G2, hG2⟩ : ∃ G2, X2.heap.size = G2 := ⟨_, rfl⟩
          have hN : Blk (X2.alloc (.cells #[.int .i64 0, .int .i64 0, .int .i64 0] 72)) G2 72 #[.int .i64 0, .int .i64 0, .int .i64 0] := hG2 ▸ Blk.new X2 _ _
          rw [hG2]
          refine hK _ _ (hx2.alloc hx2.size _) ?_
          clear hK K
          try simp only [Act.put, List.getElem_toArray, List.getElem_cons_zero, List.getElem_cons_succ, List.setIfInBounds_toArray, List.set_cons_zero, List.set_cons_succ]
          refine ord_relist #[true, true, true, true, true, true, true, false] (by kernel_rfl) ?_
          exact HQ _ _ ⟨hN, hx2.alloc hx2.size _, hG2 ▸ hx2.size⟩
        · go_simp
          obtain ⟨G2, hG2⟩ : ∃ G2, X1.heap.size = G2 := ⟨_, rfl⟩
          have hN : Blk (X1.alloc (.cells #[.int .i64 0, .int .i64 0, .int .i64 0] 72)) G2 72 #[.int .i64 0, .int .i64 0, .int .i64 0] := hG2 ▸ Blk.new X1 _ _
          rw [hG2]
          have hx2 := hx1.alloc hx1.size (.cells #[.int .i64 0, .int .i64 0, .int .i64 0] 72)
          have hG : w1.heap.size ≤ G2 := hG2 ▸ hx1.size
          refine hK _ _ hx2 ?_
          clear hK K
          try simp only [Act.put, List.getElem_toArray, List.getElem_cons_zero, List.getElem_cons_succ, List.setIfInBounds_toArray, List.set_cons_zero, List.set_cons_succ]
          refine ord_step (i := 5) rfl (by decide) (by kernel_rfl) (by rfl) (fun K hK => ?_)
          go_simp
          refine (of_note_any _ p b n L (hM.on hx2) hgd f c r hfk hc hr0 hr1).mono ?_
          rintro y X3 ⟨rfl, hb⟩
          have hx3 := bltB hx2 hx2.size hb
          have hN3 := hN.below hb hN.lt
          clear hb
          refine hK _ _ hx3 ?_
          clear hK K
          try simp only [Act.put, List.getElem_toArray, List.getElem_cons_zero, List.getElem_cons_succ, List.setIfInBounds_toArray, List.set_cons_zero, List.set_cons_succ]
          refine ord_relist #[true, true, true, true, true, true, true, false] (by kernel_rfl) ?_
          exact HQ _ _ ⟨hN3, hx3, hG⟩
      · go_simp
        obtain ⟨G2, hG2⟩ : ∃ G2, w1.heap.size = G2 := ⟨_, rfl⟩
        have hN : Blk (w1.alloc (.cells #[.int .i64 0, .int .i64 0, .int .i64 0] 72)).drew G2 72 #[.int .i64 0, .int .i64 0, .int .i64 0] := hG2 ▸ (Blk.new w1 _ _).drew
        rw [hG2]
        have hx1 : Below w1.heap.size w1 (w1.alloc (.cells #[.int .i64 0, .int .i64 0, .int .i64 0] 72)).drew := ((Below.refl _ _).alloc (Nat.le_refl _) _).drew
        have hG : w1.heap.size ≤ G2 := Nat.le_of_eq hG2
        refine hK _ _ hx1 ?_
        clear hK K
        try simp only [Act.put, List.getElem_toArray, List.getElem_cons_zero, List.getElem_cons_succ, List.setIfInBounds_toArray, List.set_cons_zero, List.set_cons_succ]
        refine ord_step (i := 2) rfl (by decide) (by kernel_rfl) (by rfl) (fun K hK => ?_)
        go_simp
        refine (there_any ⟨f, t, c, r, p0, p1, p2, p3, p4⟩ _).mono ?_
        rintro y X2 ⟨rfl, hb⟩
        have hx2 := bltB hx1 hx1.size hb
        have hN2 := hN.below hb hN.lt
        clear hb
        refine hK _ _ hx2 ?_
        clear hK K
        try simp only [Act.put, List.getElem_toArray, List.getElem_cons_zero, List.getElem_cons_succ, List.setIfInBounds_toArray, List.set_cons_zero, List.set_cons_succ]
        refine ord_step (i := 5) rfl (by decide) (by kernel_rfl) (by rfl) (fun K hK => ?_)
        go_simp
        refine (of_note_any _ p b n L (hM.on hx2) hgd f c r hfk hc hr0 hr1).mono ?_
        rintro y X3 ⟨rfl, hb⟩
        have hx3 := bltB hx2 hx2.size hb
        have hN3 := hN2.below hb hN2.lt
        clear hb
        refine hK _ _ hx3 ?_
        clear hK K
        try simp only [Act.put, List.getElem_toArray, List.getElem_cons_zero, List.getElem_cons_succ, List.setIfInBounds_toArray, List.set_cons_zero, List.set_cons_succ]
        refine ord_relist #[true, true, true, true, true, true, true, false] (by kernel_rfl) ?_
        exact HQ _ _ ⟨hN3, hx3, hG⟩
    rintro G2 W2 ⟨hN0, hb2, hG2⟩
    simp only [noteV, wayV]
    refine ord_rest (by kernel_rfl) ?_
    have hc0 := hN0.cell 0
    have hc1 := hN0.cell 1
    have hc2 := hN0.cell 2
    have hf0 := hN0.frozen 0
    have hf1 := hN0.frozen 1
    have hf2 := hN0.frozen 2
    refine any_step (i := 7) rfl (by kernel_rfl) (by rfl) (fun K hK => ?_)
    go_simp
    refine hK _ _ ?_
    clear hK K
    try simp only [Act.put, List.getElem_toArray, List.getElem_cons_zero, List.getElem_cons_succ, List.setIfInBounds_toArray, List.set_cons_zero, List.set_cons_succ]
    have hN : Blk (((W2.setCell ⟨G2, 0, none⟩ (.int .i64 (cnt L (f, c) r).1)).setCell ⟨G2, 1, none⟩ (.int .i64 (cnt L (f, c) r).2)).setCell ⟨G2, 2, none⟩ (.int .i64 r)) G2 72 #[.int .i64 (cnt L (f, c) r).1, .int .i64 (cnt L (f, c) r).2, .int .i64 r] := ((hN0.set_ 0 _).set_ 1 _).set_ 2 _
    have hb3 := ((hb2.setCell (p := ⟨G2, 0, none⟩) hG2 (.int .i64 (cnt L (f, c) r).1)).setCell (p := ⟨G2, 1, none⟩) hG2 (.int .i64 (cnt L (f, c) r).2)).setCell (p := ⟨G2, 2, none⟩) hG2 (.int .i64 r)
    generalize ((W2.setCell ⟨G2, 0, none⟩ (.int .i64 (cnt L (f, c) r).1)).setCell ⟨G2, 1, none⟩ (.int .i64 (cnt L (f, c) r).2)).setCell ⟨G2, 2, none⟩ (.int .i64 r) = W3 at *
    clear hc0 hc1 hc2 hf0 hf1 hf2 hN0 hb2
    refine wpAny_done (by kernel_rfl) ?_ _
    refine NoPanic.normal ?_
    have hcnt := cnt_ok hgd (f, c) hr0
    obtain ⟨lo, hlo⟩ : ∃ lo, (cnt L (f, c) r).1 = lo := ⟨_, rfl⟩
    obtain ⟨hi, hhi⟩ : ∃ hi, (cnt L (f, c) r).2 = hi := ⟨_, rfl⟩
    rw [hlo, hhi] at hcnt
    rw [hlo, hhi] at HB
    rw [hlo, hhi] at hN
    simp only [hlo, hhi]
    clear hlo hhi
    obtain ⟨z1, hz1, hv1⟩ := max_named lo x
    obtain ⟨z2, hz2, hv2⟩ := max_named hi (x + 1)
    have hi1 : isI z1 := by unfold isI; omega
    have hi2 : isI z2 := by unfold isI; omega
    have hi3 : isI r := by unfold isI; omega
    rw [← hz1, ← hz2] at HB
    clear hz1 hz2
    have hwr : IntKind.i64.wrap (x + 1) = x + 1 := IntWalk.i64_in _ (by omega)
    have hJ := J.below hb3 J.lt
    have hM := hM.on hb3
    have hb4 := bltB hb1 hb1.size hb3
    have hlN := hN.lt
    clear hb3 J
    have J := hJ
    clear hJ
    go_wp2_with fail
    refine wp_region_noPanic ?_
    refine ord_begin 18 (fun wx => Below W3.heap.size W3 wx) (by kernel_rfl) ?_
    have hT : Below W3.heap.size W3 W3.drew := (Below.refl _ _).drew
    refine ord_take (i := 0) (v := ?_) (by kernel_rfl) rfl (by decide) (by kernel_rfl) (by kernel_rfl) (fun _ _ _ h => h) (Or.inl ⟨by rfl, ?_⟩) hT ?_
    rotate_left
    · intro wz hz; go_simp; (try with_reducible rfl)
    try simp only [Act.put, List.getElem_toArray, List.getElem_cons_zero, List.getElem_cons_succ, List.setIfInBounds_toArray, List.set_cons_zero, List.set_cons_succ]
    refine ord_take (i := 1) (v := ?_) (by kernel_rfl) rfl (by decide) (by kernel_rfl) (by kernel_rfl) (fun _ _ _ h => h) (Or.inl ⟨by rfl, ?_⟩) hT ?_
    rotate_left
    · intro wz hz; have j := hM.box.below hz hM.box.lt; have q := j.cell 0; go_simp; (try with_reducible rfl)
    try simp only [Act.put, List.getElem_toArray, List.getElem_cons_zero, List.getElem_cons_succ, List.setIfInBounds_toArray, List.set_cons_zero, List.set_cons_succ]
    refine ord_take (i := 2) (v := ?_) (by kernel_rfl) rfl (by decide) (by kernel_rfl) (by kernel_rfl) (fun _ _ _ h => h) (Or.inl ⟨by rfl, ?_⟩) hT ?_
    rotate_left
    · intro wz hz; go_simp; (try with_reducible rfl)
    try simp only [Act.put, List.getElem_toArray, List.getElem_cons_zero, List.getElem_cons_succ, List.setIfInBounds_toArray, List.set_cons_zero, List.set_cons_succ]
    refine ord_take (i := 3) (v := ?_) (by kernel_rfl) rfl (by decide) (by kernel_rfl) (by kernel_rfl) (fun _ _ _ h => h) (Or.inl ⟨by rfl, ?_⟩) hT ?_
    rotate_left
    · intro wz hz; have j := hM.box.below hz hM.box.lt; have q := j.cell 0; go_simp; (try with_reducible rfl)
    try simp only [Act.put, List.getElem_toArray, List.getElem_cons_zero, List.getElem_cons_succ, List.setIfInBounds_toArray, List.set_cons_zero, List.set_cons_succ]
    refine ord_take (i := 4) (v := ?_) (by kernel_rfl) rfl (by decide) (by kernel_rfl) (by kernel_rfl) (fun _ _ _ h => h) (Or.inl ⟨by rfl, ?_⟩) hT ?_
    rotate_left
    · intro wz hz; have j := J.below hz J.lt; have q0 := j.cell 0; have q1 := j.cell 1; have q2 := j.cell 2; have q3 := j.cell 3; have q4 := j.cell 4; have q5 := j.cell 5; have q6 := j.cell 6; have q7 := j.cell 7; have q8 := j.cell 8; go_simp; (try with_reducible rfl)
    try simp only [Act.put, List.getElem_toArray, List.getElem_cons_zero, List.getElem_cons_succ, List.setIfInBounds_toArray, List.set_cons_zero, List.set_cons_succ]
    refine ord_take (i := 6) (v := ?_) (by kernel_rfl) rfl (by decide) (by kernel_rfl) (by kernel_rfl) (fun _ _ _ h => h) (Or.inl ⟨by rfl, ?_⟩) hT ?_
    rotate_left
    · intro wz hz; go_simp; (try with_reducible rfl)
    try simp only [Act.put, List.getElem_toArray, List.getElem_cons_zero, List.getElem_cons_succ, List.setIfInBounds_toArray, List.set_cons_zero, List.set_cons_succ]
    refine ord_take (i := 7) (v := ?_) (by kernel_rfl) rfl (by decide) (by kernel_rfl) (by kernel_rfl) (fun _ _ _ h => h) (Or.inl ⟨by rfl, ?_⟩) hT ?_
    rotate_left
    · intro wz hz; have j := hN.below hz hN.lt; have q0 := j.cell 0; have q1 := j.cell 1; go_simp; (try with_reducible rfl)
    try simp only [Act.put, List.getElem_toArray, List.getElem_cons_zero, List.getElem_cons_succ, List.setIfInBounds_toArray, List.set_cons_zero, List.set_cons_succ]
    refine ord_take (i := 8) (v := ?_) (by kernel_rfl) rfl (by decide) (by kernel_rfl) (by kernel_rfl) (fun _ _ _ h => h) (Or.inl ⟨by rfl, ?_⟩) hT ?_
    rotate_left
    · intro wz hz; go_simp; (try with_reducible rfl)
    try simp only [Act.put, List.getElem_toArray, List.getElem_cons_zero, List.getElem_cons_succ, List.setIfInBounds_toArray, List.set_cons_zero, List.set_cons_succ]
    refine ord_take (i := 9) (v := ?_) (by kernel_rfl) rfl (by decide) (by kernel_rfl) (by kernel_rfl) (fun _ _ _ h => h) (Or.inl ⟨by rfl, ?_⟩) hT ?_
    rotate_left
    · intro wz hz; go_simp; (try with_reducible rfl)
    try simp only [Act.put, List.getElem_toArray, List.getElem_cons_zero, List.getElem_cons_succ, List.setIfInBounds_toArray, List.set_cons_zero, List.set_cons_succ]
    refine ord_take (i := 10) (v := ?_) (by kernel_rfl) rfl (by decide) (by kernel_rfl) (by kernel_rfl) (fun _ _ _ h => h) (Or.inl ⟨by rfl, ?_⟩) hT ?_
    rotate_left
    · intro wz hz; go_simp; (try with_reducible rfl)
    try simp only [Act.put, List.getElem_toArray, List.getElem_cons_zero, List.getElem_cons_succ, List.setIfInBounds_toArray, List.set_cons_zero, List.set_cons_succ]
    refine ord_take (i := 11) (v := ?_) (by kernel_rfl) rfl (by decide) (by kernel_rfl) (by kernel_rfl) (fun _ _ _ h => h) (Or.inl ⟨by rfl, ?_⟩) hT ?_
    rotate_left
    · intro wz hz; have j := hN.below hz hN.lt; have q0 := j.cell 0; have q1 := j.cell 1; go_simp; (try with_reducible rfl)
    try simp only [Act.put, List.getElem_toArray, List.getElem_cons_zero, List.getElem_cons_succ, List.setIfInBounds_toArray, List.set_cons_zero, List.set_cons_succ]
    refine ord_take (i := 12) (v := ?_) (by kernel_rfl) rfl (by decide) (by kernel_rfl) (by kernel_rfl) (fun _ _ _ h => h) (Or.inl ⟨by rfl, ?_⟩) hT ?_
    rotate_left
    · intro wz hz; go_simp; (try with_reducible rfl)
    try simp only [Act.put, List.getElem_toArray, List.getElem_cons_zero, List.getElem_cons_succ, List.setIfInBounds_toArray, List.set_cons_zero, List.set_cons_succ]
    refine ord_take (i := 13) (v := ?_) (by kernel_rfl) rfl (by decide) (by kernel_rfl) (by kernel_rfl) (fun _ _ _ h => h) (Or.inl ⟨by rfl, ?_⟩) hT ?_
    rotate_left
    · intro wz hz; go_simp; (try with_reducible rfl)
    try simp only [Act.put, List.getElem_toArray, List.getElem_cons_zero, List.getElem_cons_succ, List.setIfInBounds_toArray, List.set_cons_zero, List.set_cons_succ]
    refine ord_take (i := 14) (v := ?_) (by kernel_rfl) rfl (by decide) (by kernel_rfl) (by kernel_rfl) (fun _ _ _ h => h) (Or.inl ⟨by rfl, ?_⟩) hT ?_
    rotate_left
    · intro wz hz; go_simp; (try with_reducible rfl)
    try simp only [Act.put, List.getElem_toArray, List.getElem_cons_zero, List.getElem_cons_succ, List.setIfInBounds_toArray, List.set_cons_zero, List.set_cons_succ]
    refine ord_take (i := 15) (v := ?_) (by kernel_rfl) rfl (by decide) (by kernel_rfl) (by kernel_rfl) (fun _ _ _ h => h) (Or.inl ⟨by rfl, ?_⟩) hT ?_
    rotate_left
    · intro wz hz; go_simp; (try with_reducible rfl)
    try simp only [Act.put, List.getElem_toArray, List.getElem_cons_zero, List.getElem_cons_succ, List.setIfInBounds_toArray, List.set_cons_zero, List.set_cons_succ]
    refine ord_take (i := 16) (v := ?_) (by kernel_rfl) rfl (by decide) (by kernel_rfl) (by kernel_rfl) (fun _ _ _ h => h) (Or.inl ⟨by rfl, ?_⟩) hT ?_
    rotate_left
    · intro wz hz; have j := J.below hz J.lt; have q3 := j.cell 3; go_simp; (try with_reducible rfl)
    try simp only [Act.put, List.getElem_toArray, List.getElem_cons_zero, List.getElem_cons_succ, List.setIfInBounds_toArray, List.set_cons_zero, List.set_cons_succ]
    refine ord_take (i := 17) (v := ?_) (by kernel_rfl) rfl (by decide) (by kernel_rfl) (by kernel_rfl) (fun _ _ _ h => h) (Or.inl ⟨by rfl, ?_⟩) hT ?_
    rotate_left
    · intro wz hz; go_simp; (try with_reducible rfl)
    try simp only [Act.put, List.getElem_toArray, List.getElem_cons_zero, List.getElem_cons_succ, List.setIfInBounds_toArray, List.set_cons_zero, List.set_cons_succ]
    refine ord_step (i := 5) rfl (by decide) (by kernel_rfl) (by rfl) (fun K hK => ?_)
    go_simp
    refine (there_any ⟨f, t, c, r, p0, p1, p2, p3, p4⟩ _).mono ?_
    rintro y W4 ⟨rfl, hb⟩
    have hx := bltB hT hT.size hb
    clear hb
    refine hK _ _ hx ?_
    clear hK K
    try simp only [Act.put, List.getElem_toArray, List.getElem_cons_zero, List.getElem_cons_succ, List.setIfInBounds_toArray, List.set_cons_zero, List.set_cons_succ]
    refine ord_rest (by kernel_rfl) ?_
    have hM2 := hM.on hx
    obtain ⟨W5, hrun, hM3, hg⟩ := hM2.put hn hfk hc hi1 hi2 hi3
    simp only [wayV]
    refine any_step (i := 18) rfl (by kernel_rfl) (by rfl) (fun K hK => ?_)
    go_simp
    refine hK _ _ ?_
    clear hK K
    try simp only [Act.put, List.getElem_toArray, List.getElem_cons_zero, List.getElem_cons_succ, List.setIfInBounds_toArray, List.set_cons_zero, List.set_cons_succ]
    refine wpAny_done (by kernel_rfl) ?_ _
    refine NoPanic.normal ?_
    have hfin := below_then (bltB hb4 hb4.size hx) hg
    have HM := Lib.hid hM3
    clear hM3 hM2 hM hrun hg hx J hN
    go_wp2_with fail
    exact bodyPost_end (v := .tuple #[]) (by simp [results, Try.f27, go_sem]) rfl ⟨rfl, by rw [HB.out]; exact HM.out, hfin⟩

end Go.Proofs.Ytdobpicamibgpaa
