/-
  A mind: Moved.
-/
import Derived.Test.YthefgdehfgkhhaaGreatK01
import Derived.Test.YthefgdehfgkhhaaGreatK07
namespace Go.Proofs.YthefgdehfgkhhaaGreat
open Go.RowKit Go.Maps
set_option linter.unusedVariables false
set_option linter.unusedSimpArgs false
attribute [local go_sem] Oper.semAt_some
theorem Blk.grown {w w' : World} {g b : Nat} {t : TypeId} {cs : Array Value} (h : Blk w g t cs) (hg : w.grownBy w' (some b)) (hne : g ≠ b) : Blk w' g t cs :=
 (hg.block g h.lt (fun e => hne (by injection e))).trans h
set_option maxRecDepth 100000 in
set_option maxHeartbeats 4000000 in
theorem moved_any (w : World) (p b n : Nat) (L : Notes) (h : MindAt w p b n L) (hgd : Good L) (hn : n < 900000) (e : Ed) (x : Int) : Calls Tryz.prog 38 #[.pointer (some ⟨p, 0, none⟩), e.v, .int .i64 x] w fun y w' => y = .returned (.tuple #[]) ∧ MindAt w' p b (n + 2) (moveL L e.e4 x) ∧ w.grownBy w' (some b) := by
 obtain ⟨f, t, c, r, p0, p1, p2, p3, p4⟩ := e
 have hbw := h.lt
 have hb0 : Below w.heap.size w (w.alloc (.cells #[.int .i64 f, .int .i64 t, .int .i64 c, .int .i64 r, .int .i64 p0, .int .i64 p1, .int .i64 p2, .int .i64 p3, .int .i64 p4] 56)) := (Below.refl _ _).alloc (Nat.le_refl _) _
 have J0 : Blk (w.alloc (.cells #[.int .i64 f, .int .i64 t, .int .i64 c, .int .i64 r, .int .i64 p0, .int .i64 p1, .int .i64 p2, .int .i64 p3, .int .i64 p4] 56)) w.heap.size 56 #[.int .i64 f, .int .i64 t, .int .i64 c, .int .i64 r, .int .i64 p0, .int .i64 p1, .int .i64 p2, .int .i64 p3, .int .i64 p4] := Blk.new w _ _
 have hM0 := h.on hb0
 obtain ⟨w0, hw0⟩ : ∃ w0, w0 = w.alloc (.cells #[.int .i64 f, .int .i64 t, .int .i64 c, .int .i64 r, .int .i64 p0, .int .i64 p1, .int .i64 p2, .int .i64 p3, .int .i64 p4] 56) := ⟨_, rfl⟩
 rw [← hw0] at hb0 J0 hM0
 have j0 := J0.cell 0
 have j1 := J0.cell 1
 have j2 := J0.cell 2
 have j3 := J0.cell 3
 have j4 := J0.cell 4
 have j5 := J0.cell 5
 have j6 := J0.cell 6
 have j7 := J0.cell 7
 have j8 := J0.cell 8
 simp only [Ed.v, Ed.cs]
 go_enter Tryz.func38, Tryz.ntmps38
 go_wp2_with fail
 rw [← hw0]
 clear hw0
 go_wp2_with fail
 refine (some_any ⟨f, t, c, r, p0, p1, p2, p3, p4⟩ x w0).mono ?_
 rintro y w1 ⟨rfl, hb⟩
 have J := J0.below hb J0.lt
 have hM := hM0.on hb
 have hb1 := bltB hb0 hb0.size hb
 clear hb j0 j1 j2 j3 j4 j5 j6 j7 j8 hM0 h
 rcases hm : someB ⟨f, t, c, r, p0, p1, p2, p3, p4⟩ x with _ | _
 ·have HB : Hid (moveL L (Ed.e4 ⟨f, t, c, r, p0, p1, p2, p3, p4⟩) x = L) := Lib.hid (by unfold moveL; rw [if_neg]; intro hh; have : someB ⟨f, t, c, r, p0, p1, p2, p3, p4⟩ x = true := hh; rw [hm] at this; cases this)
  have HM := Lib.hid hM
  clear hM
  go_wp2_with fail
  exact bodyPost_ret (v := .tuple #[]) (by simp [results, Tryz.f38, go_sem]) rfl ⟨rfl, by rw [HB.out]; exact HM.out.more (by omega), below_grown hb1 _⟩
 ·have hmy : E4.may (Ed.e4 ⟨f, t, c, r, p0, p1, p2, p3, p4⟩) x = true := hm
  have hs := may_spec.1 hmy
  simp only [Ed.e4] at hs
  have hfk : isI f := isI_of hs.1.1.1 (by omega)
  have htk : isI t := isI_of hs.1.2.1.1 (by omega)
  have hc : isI c := isI_of hs.1.2.2.2.1.1 hs.1.2.2.2.1.2
  have hr0 := hs.1.2.2.2.2.1
  have hr1 := hs.1.2.2.2.2.2
  have hx0 := hs.2.1
  have hx1 := hs.2.2
  have HB : Hid (moveL L (Ed.e4 ⟨f, t, c, r, p0, p1, p2, p3, p4⟩) x = putL (putL L (f, c) (max ((cnt L (f, c) r).1 - x) 0, max ((cnt L (f, c) r).2 - x) (max ((cnt L (f, c) r).1 - x) 0 + 1), r)) (t, c) (min ((cnt L (t, c) r).1 + x) r, min ((cnt L (t, c) r).2 + x) (r + 1), r)) := Lib.hid (by unfold moveL; rw [if_pos hmy]; rfl)
  clear hs hm hmy
  go_wp2_with fail
  refine wp_region_noPanic ?_
  refine ord_begin 14 (fun wx => Below w1.heap.size w1 wx) (by kernel_rfl) ?_
  have hT : Below w1.heap.size w1 w1.drew := (Below.refl _ _).drew
  generalize w1.drew = X0 at *
  refine ord_take (i := 0) (v := ?_) (by kernel_rfl) rfl (by decide) (by kernel_rfl) (by kernel_rfl) (fun _ _ _ h => h) (Or.inl ⟨by rfl, ?_⟩) hT ?_
  rotate_left
  ·intro wz hz; go_simp; (try with_reducible rfl)
  try simp only [Act.put, pu]
  refine ord_take (i := 1) (v := ?_) (by kernel_rfl) rfl (by decide) (by kernel_rfl) (by kernel_rfl) (fun _ _ _ h => h) (Or.inl ⟨by rfl, ?_⟩) hT ?_
  rotate_left
  ·intro wz hz; have j := J.below hz J.lt; have q0 := j.cell 0; have q1 := j.cell 1; have q2 := j.cell 2; have q3 := j.cell 3; have q4 := j.cell 4; have q5 := j.cell 5; have q6 := j.cell 6; have q7 := j.cell 7; have q8 := j.cell 8; go_simp; (try with_reducible rfl)
  try simp only [Act.put, pu]
  refine ord_take (i := 3) (v := ?_) (by kernel_rfl) rfl (by decide) (by kernel_rfl) (by kernel_rfl) (fun _ _ _ h => h) (Or.inl ⟨by rfl, ?_⟩) hT ?_
  rotate_left
  ·intro wz hz; go_simp; (try with_reducible rfl)
  try simp only [Act.put, pu]
  refine ord_take (i := 4) (v := ?_) (by kernel_rfl) rfl (by decide) (by kernel_rfl) (by kernel_rfl) (fun _ _ _ h => h) (Or.inl ⟨by rfl, ?_⟩) hT ?_
  rotate_left
  ·intro wz hz; have j := J.below hz J.lt; have q3 := j.cell 3; go_simp; (try with_reducible rfl)
  try simp only [Act.put, pu]
  refine ord_take (i := 6) (v := ?_) (by kernel_rfl) rfl (by decide) (by kernel_rfl) (by kernel_rfl) (fun _ _ _ h => h) (Or.inl ⟨by rfl, ?_⟩) hT ?_
  rotate_left
  ·intro wz hz; go_simp; (try with_reducible rfl)
  try simp only [Act.put, pu]
  refine ord_take (i := 7) (v := ?_) (by kernel_rfl) rfl (by decide) (by kernel_rfl) (by kernel_rfl) (fun _ _ _ h => h) (Or.inl ⟨by rfl, ?_⟩) hT ?_
  rotate_left
  ·intro wz hz; have j := J.below hz J.lt; have q0 := j.cell 0; have q1 := j.cell 1; have q2 := j.cell 2; have q3 := j.cell 3; have q4 := j.cell 4; have q5 := j.cell 5; have q6 := j.cell 6; have q7 := j.cell 7; have q8 := j.cell 8; go_simp; (try with_reducible rfl)
  try simp only [Act.put, pu]
  refine ord_take (i := 9) (v := ?_) (by kernel_rfl) rfl (by decide) (by kernel_rfl) (by kernel_rfl) (fun _ _ _ h => h) (Or.inl ⟨by rfl, ?_⟩) hT ?_
  rotate_left
  ·intro wz hz; go_simp; (try with_reducible rfl)
  try simp only [Act.put, pu]
  refine ord_take (i := 10) (v := ?_) (by kernel_rfl) rfl (by decide) (by kernel_rfl) (by kernel_rfl) (fun _ _ _ h => h) (Or.inl ⟨by rfl, ?_⟩) hT ?_
  rotate_left
  ·intro wz hz; have j := J.below hz J.lt; have q3 := j.cell 3; go_simp; (try with_reducible rfl)
  try simp only [Act.put, pu]
  refine ord_funnel2 (F := ?F) (k := 2) #[true, true, true, true, true, true, true, true, true, true, true, true, true, true, false, false] (fun G12 G13 W => Blk W G12 122 #[.int .i64 0, .int .i64 0, .int .i64 0] ∧ Blk W G13 122 #[.int .i64 0, .int .i64 0, .int .i64 0] ∧ G12 ≠ G13 ∧ Below w1.heap.size w1 W ∧ w1.heap.size ≤ G12 ∧ w1.heap.size ≤ G13) ?_ ?_
  rotate_left
  ·intro HQ
   refine ord_step3 (i := 2) (k := 12) (m := 13) rfl rfl rfl (by decide) (by decide) (by decide) (by kernel_rfl) (by rfl) (by rfl) (by rfl) (fun K hK => ?_) (fun K hK => ?_) (fun K hK => ?_)
   ·go_simp
    refine (there_any ⟨f, t, c, r, p0, p1, p2, p3, p4⟩ _).mono ?_
    rintro y Y0 ⟨rfl, hb⟩
    have hy0 := bltB hT hT.size hb
    clear hb
    refine hK _ _ hy0 ?_
    clear hK K
    try simp only [Act.put, pu]
    refine ord_step3 (i := 5) (k := 12) (m := 13) rfl rfl rfl (by decide) (by decide) (by decide) (by kernel_rfl) (by rfl) (by rfl) (by rfl) (fun K hK => ?_) (fun K hK => ?_) (fun K hK => ?_)
    ·go_simp
     refine (of_note_any _ p b n L (hM.on hy0) hgd f c r hfk hc hr0 hr1).mono ?_
     rintro y Y1 ⟨rfl, hb⟩
     have hy1 := bltB hy0 hy0.size hb
     clear hb
     refine hK _ _ hy1 ?_
     clear hK K
     try simp only [Act.put, pu]
     refine ord_step3 (i := 8) (k := 12) (m := 13) rfl rfl rfl (by decide) (by decide) (by decide) (by kernel_rfl) (by rfl) (by rfl) (by rfl) (fun K hK => ?_) (fun K hK => ?_) (fun K hK => ?_)
     ·go_simp
      refine (lback_any ⟨f, t, c, r, p0, p1, p2, p3, p4⟩ _).mono ?_
      rintro y Y2 ⟨rfl, hb⟩
      have hy2 := bltB hy1 hy1.size hb
      clear hb
      refine hK _ _ hy2 ?_
      clear hK K
      try simp only [Act.put, pu]
      refine ord_step3 (i := 11) (k := 12) (m := 13) rfl rfl rfl (by decide) (by decide) (by decide) (by kernel_rfl) (by rfl) (by rfl) (by rfl) (fun K hK => ?_) (fun K hK => ?_) (fun K hK => ?_)
      ·go_simp
       refine (of_note_any _ p b n L (hM.on hy2) hgd t c r htk hc hr0 hr1).mono ?_
       rintro y Y3 ⟨rfl, hb⟩
       have hy3 := bltB hy2 hy2.size hb
       clear hb
       refine hK _ _ hy3 ?_
       clear hK K
       try simp only [Act.put, pu]
       refine ord_step2 (i := 12) (k := 13) rfl rfl (by decide) (by decide) (by kernel_rfl) (by rfl) (by rfl) (fun K hK => ?_) (fun K hK => ?_)
       ·go_simp
        obtain ⟨G12, hG12⟩ : ∃ G, Y3.heap.size = G := ⟨_, rfl⟩
        have hn12_4 : Blk (Y3.alloc (.cells #[.int .i64 0, .int .i64 0, .int .i64 0] 122)) G12 122 #[.int .i64 0, .int .i64 0, .int .i64 0] := hG12 ▸ Blk.new Y3 _ _
        have hy4 := hy3.alloc hy3.size (.cells #[.int .i64 0, .int .i64 0, .int .i64 0] 122)
        have hl12 : w1.heap.size ≤ G12 := hG12 ▸ hy3.size
        rw [hG12]
        generalize Y3.alloc (.cells #[.int .i64 0, .int .i64 0, .int .i64 0] 122) = Y4 at *
        refine hK _ _ hy4 ?_
        clear hK K
        try simp only [Act.put, pu]
        refine ord_step (i := 13) rfl (by decide) (by kernel_rfl) (by rfl) (fun K hK => ?_)
        go_simp
        obtain ⟨G13, hG13⟩ : ∃ G, Y4.heap.size = G := ⟨_, rfl⟩
        have hn13_5 : Blk (Y4.alloc (.cells #[.int .i64 0, .int .i64 0, .int .i64 0] 122)) G13 122 #[.int .i64 0, .int .i64 0, .int .i64 0] := hG13 ▸ Blk.new Y4 _ _
        have hy5 := hy4.alloc hy4.size (.cells #[.int .i64 0, .int .i64 0, .int .i64 0] 122)
        have hl13 : w1.heap.size ≤ G13 := hG13 ▸ hy4.size
        rw [hG13]
        have hn12_5 := hn12_4.alloc (.cells #[.int .i64 0, .int .i64 0, .int .i64 0] 122)
        have hne : G12 ≠ G13 := by have := hn12_4.lt; omega
        generalize Y4.alloc (.cells #[.int .i64 0, .int .i64 0, .int .i64 0] 122) = Y5 at *
        refine hK _ _ hy5 ?_
        clear hK K
        try simp only [Act.put, pu]
        refine ord_relist #[true, true, true, true, true, true, true, true, true, true, true, true, true, true, false, false] (by kernel_rfl) ?_
        exact HQ G12 G13 _ ⟨hn12_5, hn13_5, hne, hy5, hl12, hl13⟩
       ·go_simp
        obtain ⟨G13, hG13⟩ : ∃ G, Y3.heap.size = G := ⟨_, rfl⟩
        have hn13_4 : Blk (Y3.alloc (.cells #[.int .i64 0, .int .i64 0, .int .i64 0] 122)) G13 122 #[.int .i64 0, .int .i64 0, .int .i64 0] := hG13 ▸ Blk.new Y3 _ _
        have hy4 := hy3.alloc hy3.size (.cells #[.int .i64 0, .int .i64 0, .int .i64 0] 122)
        have hl13 : w1.heap.size ≤ G13 := hG13 ▸ hy3.size
        rw [hG13]
        generalize Y3.alloc (.cells #[.int .i64 0, .int .i64 0, .int .i64 0] 122) = Y4 at *
        refine hK _ _ hy4 ?_
        clear hK K
        try simp only [Act.put, pu]
        refine ord_step (i := 12) rfl (by decide) (by kernel_rfl) (by rfl) (fun K hK => ?_)
        go_simp
        obtain ⟨G12, hG12⟩ : ∃ G, Y4.heap.size = G := ⟨_, rfl⟩
        have hn12_5 : Blk (Y4.alloc (.cells #[.int .i64 0, .int .i64 0, .int .i64 0] 122)) G12 122 #[.int .i64 0, .int .i64 0, .int .i64 0] := hG12 ▸ Blk.new Y4 _ _
        have hy5 := hy4.alloc hy4.size (.cells #[.int .i64 0, .int .i64 0, .int .i64 0] 122)
        have hl12 : w1.heap.size ≤ G12 := hG12 ▸ hy4.size
        rw [hG12]
        have hn13_5 := hn13_4.alloc (.cells #[.int .i64 0, .int .i64 0, .int .i64 0] 122)
        have hne : G12 ≠ G13 := by have := hn13_4.lt; omega
        generalize Y4.alloc (.cells #[.int .i64 0, .int .i64 0, .int .i64 0] 122) = Y5 at *
        refine hK _ _ hy5 ?_
        clear hK K
        try simp only [Act.put, pu]
        refine ord_relist #[true, true, true, true, true, true, true, true, true, true, true, true, true, true, false, false] (by kernel_rfl) ?_
        exact HQ G12 G13 _ ⟨hn12_5, hn13_5, hne, hy5, hl12, hl13⟩
      ·go_simp
       obtain ⟨G12, hG12⟩ : ∃ G, Y2.heap.size = G := ⟨_, rfl⟩
       have hn12_3 : Blk (Y2.alloc (.cells #[.int .i64 0, .int .i64 0, .int .i64 0] 122)) G12 122 #[.int .i64 0, .int .i64 0, .int .i64 0] := hG12 ▸ Blk.new Y2 _ _
       have hy3 := hy2.alloc hy2.size (.cells #[.int .i64 0, .int .i64 0, .int .i64 0] 122)
       have hl12 : w1.heap.size ≤ G12 := hG12 ▸ hy2.size
       rw [hG12]
       generalize Y2.alloc (.cells #[.int .i64 0, .int .i64 0, .int .i64 0] 122) = Y3 at *
       refine hK _ _ hy3 ?_
       clear hK K
       try simp only [Act.put, pu]
       refine ord_step2 (i := 11) (k := 13) rfl rfl (by decide) (by decide) (by kernel_rfl) (by rfl) (by rfl) (fun K hK => ?_) (fun K hK => ?_)
       ·go_simp
        refine (of_note_any _ p b n L (hM.on hy3) hgd t c r htk hc hr0 hr1).mono ?_
        rintro y Y4 ⟨rfl, hb⟩
        have hy4 := bltB hy3 hy3.size hb
        have hn12_4 := hn12_3.below hb hn12_3.lt
        clear hb
        refine hK _ _ hy4 ?_
        clear hK K
        try simp only [Act.put, pu]
        refine ord_step (i := 13) rfl (by decide) (by kernel_rfl) (by rfl) (fun K hK => ?_)
        go_simp
        obtain ⟨G13, hG13⟩ : ∃ G, Y4.heap.size = G := ⟨_, rfl⟩
        have hn13_5 : Blk (Y4.alloc (.cells #[.int .i64 0, .int .i64 0, .int .i64 0] 122)) G13 122 #[.int .i64 0, .int .i64 0, .int .i64 0] := hG13 ▸ Blk.new Y4 _ _
        have hy5 := hy4.alloc hy4.size (.cells #[.int .i64 0, .int .i64 0, .int .i64 0] 122)
        have hl13 : w1.heap.size ≤ G13 := hG13 ▸ hy4.size
        rw [hG13]
        have hn12_5 := hn12_4.alloc (.cells #[.int .i64 0, .int .i64 0, .int .i64 0] 122)
        have hne : G12 ≠ G13 := by have := hn12_4.lt; omega
        generalize Y4.alloc (.cells #[.int .i64 0, .int .i64 0, .int .i64 0] 122) = Y5 at *
        refine hK _ _ hy5 ?_
        clear hK K
        try simp only [Act.put, pu]
        refine ord_relist #[true, true, true, true, true, true, true, true, true, true, true, true, true, true, false, false] (by kernel_rfl) ?_
        exact HQ G12 G13 _ ⟨hn12_5, hn13_5, hne, hy5, hl12, hl13⟩
       ·go_simp
        obtain ⟨G13, hG13⟩ : ∃ G, Y3.heap.size = G := ⟨_, rfl⟩
        have hn13_4 : Blk (Y3.alloc (.cells #[.int .i64 0, .int .i64 0, .int .i64 0] 122)) G13 122 #[.int .i64 0, .int .i64 0, .int .i64 0] := hG13 ▸ Blk.new Y3 _ _
        have hy4 := hy3.alloc hy3.size (.cells #[.int .i64 0, .int .i64 0, .int .i64 0] 122)
        have hl13 : w1.heap.size ≤ G13 := hG13 ▸ hy3.size
        rw [hG13]
        have hn12_4 := hn12_3.alloc (.cells #[.int .i64 0, .int .i64 0, .int .i64 0] 122)
        have hne : G12 ≠ G13 := by have := hn12_3.lt; omega
        generalize Y3.alloc (.cells #[.int .i64 0, .int .i64 0, .int .i64 0] 122) = Y4 at *
        refine hK _ _ hy4 ?_
        clear hK K
        try simp only [Act.put, pu]
        refine ord_step (i := 11) rfl (by decide) (by kernel_rfl) (by rfl) (fun K hK => ?_)
        go_simp
        refine (of_note_any _ p b n L (hM.on hy4) hgd t c r htk hc hr0 hr1).mono ?_
        rintro y Y5 ⟨rfl, hb⟩
        have hy5 := bltB hy4 hy4.size hb
        have hn12_5 := hn12_4.below hb hn12_4.lt
        have hn13_5 := hn13_4.below hb hn13_4.lt
        clear hb
        refine hK _ _ hy5 ?_
        clear hK K
        try simp only [Act.put, pu]
        refine ord_relist #[true, true, true, true, true, true, true, true, true, true, true, true, true, true, false, false] (by kernel_rfl) ?_
        exact HQ G12 G13 _ ⟨hn12_5, hn13_5, hne, hy5, hl12, hl13⟩
      ·go_simp
       obtain ⟨G13, hG13⟩ : ∃ G, Y2.heap.size = G := ⟨_, rfl⟩
       have hn13_3 : Blk (Y2.alloc (.cells #[.int .i64 0, .int .i64 0, .int .i64 0] 122)) G13 122 #[.int .i64 0, .int .i64 0, .int .i64 0] := hG13 ▸ Blk.new Y2 _ _
       have hy3 := hy2.alloc hy2.size (.cells #[.int .i64 0, .int .i64 0, .int .i64 0] 122)
       have hl13 : w1.heap.size ≤ G13 := hG13 ▸ hy2.size
       rw [hG13]
       generalize Y2.alloc (.cells #[.int .i64 0, .int .i64 0, .int .i64 0] 122) = Y3 at *
       refine hK _ _ hy3 ?_
       clear hK K
       try simp only [Act.put, pu]
       refine ord_step2 (i := 11) (k := 12) rfl rfl (by decide) (by decide) (by kernel_rfl) (by rfl) (by rfl) (fun K hK => ?_) (fun K hK => ?_)
       ·go_simp
        refine (of_note_any _ p b n L (hM.on hy3) hgd t c r htk hc hr0 hr1).mono ?_
        rintro y Y4 ⟨rfl, hb⟩
        have hy4 := bltB hy3 hy3.size hb
        have hn13_4 := hn13_3.below hb hn13_3.lt
        clear hb
        refine hK _ _ hy4 ?_
        clear hK K
        try simp only [Act.put, pu]
        refine ord_step (i := 12) rfl (by decide) (by kernel_rfl) (by rfl) (fun K hK => ?_)
        go_simp
        obtain ⟨G12, hG12⟩ : ∃ G, Y4.heap.size = G := ⟨_, rfl⟩
        have hn12_5 : Blk (Y4.alloc (.cells #[.int .i64 0, .int .i64 0, .int .i64 0] 122)) G12 122 #[.int .i64 0, .int .i64 0, .int .i64 0] := hG12 ▸ Blk.new Y4 _ _
        have hy5 := hy4.alloc hy4.size (.cells #[.int .i64 0, .int .i64 0, .int .i64 0] 122)
        have hl12 : w1.heap.size ≤ G12 := hG12 ▸ hy4.size
        rw [hG12]
        have hn13_5 := hn13_4.alloc (.cells #[.int .i64 0, .int .i64 0, .int .i64 0] 122)
        have hne : G12 ≠ G13 := by have := hn13_4.lt; omega
        generalize Y4.alloc (.cells #[.int .i64 0, .int .i64 0, .int .i64 0] 122) = Y5 at *
        refine hK _ _ hy5 ?_
        clear hK K
        try simp only [Act.put, pu]
        refine ord_relist #[true, true, true, true, true, true, true, true, true, true, true, true, true, true, false, false] (by kernel_rfl) ?_
        exact HQ G12 G13 _ ⟨hn12_5, hn13_5, hne, hy5, hl12, hl13⟩
       ·go_simp
        obtain ⟨G12, hG12⟩ : ∃ G, Y3.heap.size = G := ⟨_, rfl⟩
        have hn12_4 : Blk (Y3.alloc (.cells #[.int .i64 0, .int .i64 0, .int .i64 0] 122)) G12 122 #[.int .i64 0, .int .i64 0, .int .i64 0] := hG12 ▸ Blk.new Y3 _ _
        have hy4 := hy3.alloc hy3.size (.cells #[.int .i64 0, .int .i64 0, .int .i64 0] 122)
        have hl12 : w1.heap.size ≤ G12 := hG12 ▸ hy3.size
        rw [hG12]
        have hn13_4 := hn13_3.alloc (.cells #[.int .i64 0, .int .i64 0, .int .i64 0] 122)
        have hne : G12 ≠ G13 := by have := hn13_3.lt; omega
        generalize Y3.alloc (.cells #[.int .i64 0, .int .i64 0, .int .i64 0] 122) = Y4 at *
        refine hK _ _ hy4 ?_
        clear hK K
        try simp only [Act.put, pu]
        refine ord_step (i := 11) rfl (by decide) (by kernel_rfl) (by rfl) (fun K hK => ?_)
        go_simp
        refine (of_note_any _ p b n L (hM.on hy4) hgd t c r htk hc hr0 hr1).mono ?_
        rintro y Y5 ⟨rfl, hb⟩
        have hy5 := bltB hy4 hy4.size hb
        have hn13_5 := hn13_4.below hb hn13_4.lt
        have hn12_5 := hn12_4.below hb hn12_4.lt
        clear hb
        refine hK _ _ hy5 ?_
        clear hK K
        try simp only [Act.put, pu]
        refine ord_relist #[true, true, true, true, true, true, true, true, true, true, true, true, true, true, false, false] (by kernel_rfl) ?_
        exact HQ G12 G13 _ ⟨hn12_5, hn13_5, hne, hy5, hl12, hl13⟩
     ·go_simp
      obtain ⟨G12, hG12⟩ : ∃ G, Y1.heap.size = G := ⟨_, rfl⟩
      have hn12_2 : Blk (Y1.alloc (.cells #[.int .i64 0, .int .i64 0, .int .i64 0] 122)) G12 122 #[.int .i64 0, .int .i64 0, .int .i64 0] := hG12 ▸ Blk.new Y1 _ _
      have hy2 := hy1.alloc hy1.size (.cells #[.int .i64 0, .int .i64 0, .int .i64 0] 122)
      have hl12 : w1.heap.size ≤ G12 := hG12 ▸ hy1.size
      rw [hG12]
      generalize Y1.alloc (.cells #[.int .i64 0, .int .i64 0, .int .i64 0] 122) = Y2 at *
      refine hK _ _ hy2 ?_
      clear hK K
      try simp only [Act.put, pu]
      refine ord_step2 (i := 8) (k := 13) rfl rfl (by decide) (by decide) (by kernel_rfl) (by rfl) (by rfl) (fun K hK => ?_) (fun K hK => ?_)
      ·go_simp
       refine (lback_any ⟨f, t, c, r, p0, p1, p2, p3, p4⟩ _).mono ?_
       rintro y Y3 ⟨rfl, hb⟩
       have hy3 := bltB hy2 hy2.size hb
       have hn12_3 := hn12_2.below hb hn12_2.lt
       clear hb
       refine hK _ _ hy3 ?_
       clear hK K
       try simp only [Act.put, pu]
       refine ord_step2 (i := 11) (k := 13) rfl rfl (by decide) (by decide) (by kernel_rfl) (by rfl) (by rfl) (fun K hK => ?_) (fun K hK => ?_)
       ·go_simp
        refine (of_note_any _ p b n L (hM.on hy3) hgd t c r htk hc hr0 hr1).mono ?_
        rintro y Y4 ⟨rfl, hb⟩
        have hy4 := bltB hy3 hy3.size hb
        have hn12_4 := hn12_3.below hb hn12_3.lt
        clear hb
        refine hK _ _ hy4 ?_
        clear hK K
        try simp only [Act.put, pu]
        refine ord_step (i := 13) rfl (by decide) (by kernel_rfl) (by rfl) (fun K hK => ?_)
        go_simp
        obtain ⟨G13, hG13⟩ : ∃ G, Y4.heap.size = G := ⟨_, rfl⟩
        have hn13_5 : Blk (Y4.alloc (.cells #[.int .i64 0, .int .i64 0, .int .i64 0] 122)) G13 122 #[.int .i64 0, .int .i64 0, .int .i64 0] := hG13 ▸ Blk.new Y4 _ _
        have hy5 := hy4.alloc hy4.size (.cells #[.int .i64 0, .int .i64 0, .int .i64 0] 122)
        have hl13 : w1.heap.size ≤ G13 := hG13 ▸ hy4.size
        rw [hG13]
        have hn12_5 := hn12_4.alloc (.cells #[.int .i64 0, .int .i64 0, .int .i64 0] 122)
        have hne : G12 ≠ G13 := by have := hn12_4.lt; omega
        generalize Y4.alloc (.cells #[.int .i64 0, .int .i64 0, .int .i64 0] 122) = Y5 at *
        refine hK _ _ hy5 ?_
        clear hK K
        try simp only [Act.put, pu]
        refine ord_relist #[true, true, true, true, true, true, true, true, true, true, true, true, true, true, false, false] (by kernel_rfl) ?_
        exact HQ G12 G13 _ ⟨hn12_5, hn13_5, hne, hy5, hl12, hl13⟩
       ·go_simp
        obtain ⟨G13, hG13⟩ : ∃ G, Y3.heap.size = G := ⟨_, rfl⟩
        have hn13_4 : Blk (Y3.alloc (.cells #[.int .i64 0, .int .i64 0, .int .i64 0] 122)) G13 122 #[.int .i64 0, .int .i64 0, .int .i64 0] := hG13 ▸ Blk.new Y3 _ _
        have hy4 := hy3.alloc hy3.size (.cells #[.int .i64 0, .int .i64 0, .int .i64 0] 122)
        have hl13 : w1.heap.size ≤ G13 := hG13 ▸ hy3.size
        rw [hG13]
        have hn12_4 := hn12_3.alloc (.cells #[.int .i64 0, .int .i64 0, .int .i64 0] 122)
        have hne : G12 ≠ G13 := by have := hn12_3.lt; omega
        generalize Y3.alloc (.cells #[.int .i64 0, .int .i64 0, .int .i64 0] 122) = Y4 at *
        refine hK _ _ hy4 ?_
        clear hK K
        try simp only [Act.put, pu]
        refine ord_step (i := 11) rfl (by decide) (by kernel_rfl) (by rfl) (fun K hK => ?_)
        go_simp
        refine (of_note_any _ p b n L (hM.on hy4) hgd t c r htk hc hr0 hr1).mono ?_
        rintro y Y5 ⟨rfl, hb⟩
        have hy5 := bltB hy4 hy4.size hb
        have hn12_5 := hn12_4.below hb hn12_4.lt
        have hn13_5 := hn13_4.below hb hn13_4.lt
        clear hb
        refine hK _ _ hy5 ?_
        clear hK K
        try simp only [Act.put, pu]
        refine ord_relist #[true, true, true, true, true, true, true, true, true, true, true, true, true, true, false, false] (by kernel_rfl) ?_
        exact HQ G12 G13 _ ⟨hn12_5, hn13_5, hne, hy5, hl12, hl13⟩
      ·go_simp
       obtain ⟨G13, hG13⟩ : ∃ G, Y2.heap.size = G := ⟨_, rfl⟩
       have hn13_3 : Blk (Y2.alloc (.cells #[.int .i64 0, .int .i64 0, .int .i64 0] 122)) G13 122 #[.int .i64 0, .int .i64 0, .int .i64 0] := hG13 ▸ Blk.new Y2 _ _
       have hy3 := hy2.alloc hy2.size (.cells #[.int .i64 0, .int .i64 0, .int .i64 0] 122)
       have hl13 : w1.heap.size ≤ G13 := hG13 ▸ hy2.size
       rw [hG13]
       have hn12_3 := hn12_2.alloc (.cells #[.int .i64 0, .int .i64 0, .int .i64 0] 122)
       have hne : G12 ≠ G13 := by have := hn12_2.lt; omega
       generalize Y2.alloc (.cells #[.int .i64 0, .int .i64 0, .int .i64 0] 122) = Y3 at *
       refine hK _ _ hy3 ?_
       clear hK K
       try simp only [Act.put, pu]
       refine ord_step (i := 8) rfl (by decide) (by kernel_rfl) (by rfl) (fun K hK => ?_)
       go_simp
       refine (lback_any ⟨f, t, c, r, p0, p1, p2, p3, p4⟩ _).mono ?_
       rintro y Y4 ⟨rfl, hb⟩
       have hy4 := bltB hy3 hy3.size hb
       have hn12_4 := hn12_3.below hb hn12_3.lt
       have hn13_4 := hn13_3.below hb hn13_3.lt
       clear hb
       refine hK _ _ hy4 ?_
       clear hK K
       try simp only [Act.put, pu]
       refine ord_step (i := 11) rfl (by decide) (by kernel_rfl) (by rfl) (fun K hK => ?_)
       go_simp
       refine (of_note_any _ p b n L (hM.on hy4) hgd t c r htk hc hr0 hr1).mono ?_
       rintro y Y5 ⟨rfl, hb⟩
       have hy5 := bltB hy4 hy4.size hb
       have hn12_5 := hn12_4.below hb hn12_4.lt
       have hn13_5 := hn13_4.below hb hn13_4.lt
       clear hb
       refine hK _ _ hy5 ?_
       clear hK K
       try simp only [Act.put, pu]
       refine ord_relist #[true, true, true, true, true, true, true, true, true, true, true, true, true, true, false, false] (by kernel_rfl) ?_
       exact HQ G12 G13 _ ⟨hn12_5, hn13_5, hne, hy5, hl12, hl13⟩
     ·go_simp
      obtain ⟨G13, hG13⟩ : ∃ G, Y1.heap.size = G := ⟨_, rfl⟩
      have hn13_2 : Blk (Y1.alloc (.cells #[.int .i64 0, .int .i64 0, .int .i64 0] 122)) G13 122 #[.int .i64 0, .int .i64 0, .int .i64 0] := hG13 ▸ Blk.new Y1 _ _
      have hy2 := hy1.alloc hy1.size (.cells #[.int .i64 0, .int .i64 0, .int .i64 0] 122)
      have hl13 : w1.heap.size ≤ G13 := hG13 ▸ hy1.size
      rw [hG13]
      generalize Y1.alloc (.cells #[.int .i64 0, .int .i64 0, .int .i64 0] 122) = Y2 at *
      refine hK _ _ hy2 ?_
      clear hK K
      try simp only [Act.put, pu]
      refine ord_step2 (i := 8) (k := 12) rfl rfl (by decide) (by decide) (by kernel_rfl) (by rfl) (by rfl) (fun K hK => ?_) (fun K hK => ?_)
      ·go_simp
       refine (lback_any ⟨f, t, c, r, p0, p1, p2, p3, p4⟩ _).mono ?_
       rintro y Y3 ⟨rfl, hb⟩
       have hy3 := bltB hy2 hy2.size hb
       have hn13_3 := hn13_2.below hb hn13_2.lt
       clear hb
       refine hK _ _ hy3 ?_
       clear hK K
       try simp only [Act.put, pu]
       refine ord_step2 (i := 11) (k := 12) rfl rfl (by decide) (by decide) (by kernel_rfl) (by rfl) (by rfl) (fun K hK => ?_) (fun K hK => ?_)
       ·go_simp
        refine (of_note_any _ p b n L (hM.on hy3) hgd t c r htk hc hr0 hr1).mono ?_
        rintro y Y4 ⟨rfl, hb⟩
        have hy4 := bltB hy3 hy3.size hb
        have hn13_4 := hn13_3.below hb hn13_3.lt
        clear hb
        refine hK _ _ hy4 ?_
        clear hK K
        try simp only [Act.put, pu]
        refine ord_step (i := 12) rfl (by decide) (by kernel_rfl) (by rfl) (fun K hK => ?_)
        go_simp
        obtain ⟨G12, hG12⟩ : ∃ G, Y4.heap.size = G := ⟨_, rfl⟩
        have hn12_5 : Blk (Y4.alloc (.cells #[.int .i64 0, .int .i64 0, .int .i64 0] 122)) G12 122 #[.int .i64 0, .int .i64 0, .int .i64 0] := hG12 ▸ Blk.new Y4 _ _
        have hy5 := hy4.alloc hy4.size (.cells #[.int .i64 0, .int .i64 0, .int .i64 0] 122)
        have hl12 : w1.heap.size ≤ G12 := hG12 ▸ hy4.size
        rw [hG12]
        have hn13_5 := hn13_4.alloc (.cells #[.int .i64 0, .int .i64 0, .int .i64 0] 122)
        have hne : G12 ≠ G13 := by have := hn13_4.lt; omega
        generalize Y4.alloc (.cells #[.int .i64 0, .int .i64 0, .int .i64 0] 122) = Y5 at *
        refine hK _ _ hy5 ?_
        clear hK K
        try simp only [Act.put, pu]
        refine ord_relist #[true, true, true, true, true, true, true, true, true, true, true, true, true, true, false, false] (by kernel_rfl) ?_
        exact HQ G12 G13 _ ⟨hn12_5, hn13_5, hne, hy5, hl12, hl13⟩
       ·go_simp
        obtain ⟨G12, hG12⟩ : ∃ G, Y3.heap.size = G := ⟨_, rfl⟩
        have hn12_4 : Blk (Y3.alloc (.cells #[.int .i64 0, .int .i64 0, .int .i64 0] 122)) G12 122 #[.int .i64 0, .int .i64 0, .int .i64 0] := hG12 ▸ Blk.new Y3 _ _
        have hy4 := hy3.alloc hy3.size (.cells #[.int .i64 0, .int .i64 0, .int .i64 0] 122)
        have hl12 : w1.heap.size ≤ G12 := hG12 ▸ hy3.size
        rw [hG12]
        have hn13_4 := hn13_3.alloc (.cells #[.int .i64 0, .int .i64 0, .int .i64 0] 122)
        have hne : G12 ≠ G13 := by have := hn13_3.lt; omega
        generalize Y3.alloc (.cells #[.int .i64 0, .int .i64 0, .int .i64 0] 122) = Y4 at *
        refine hK _ _ hy4 ?_
        clear hK K
        try simp only [Act.put, pu]
        refine ord_step (i := 11) rfl (by decide) (by kernel_rfl) (by rfl) (fun K hK => ?_)
        go_simp
        refine (of_note_any _ p b n L (hM.on hy4) hgd t c r htk hc hr0 hr1).mono ?_
        rintro y Y5 ⟨rfl, hb⟩
        have hy5 := bltB hy4 hy4.size hb
        have hn13_5 := hn13_4.below hb hn13_4.lt
        have hn12_5 := hn12_4.below hb hn12_4.lt
        clear hb
        refine hK _ _ hy5 ?_
        clear hK K
        try simp only [Act.put, pu]
        refine ord_relist #[true, true, true, true, true, true, true, true, true, true, true, true, true, true, false, false] (by kernel_rfl) ?_
        exact HQ G12 G13 _ ⟨hn12_5, hn13_5, hne, hy5, hl12, hl13⟩
      ·go_simp
       obtain ⟨G12, hG12⟩ : ∃ G, Y2.heap.size = G := ⟨_, rfl⟩
       have hn12_3 : Blk (Y2.alloc (.cells #[.int .i64 0, .int .i64 0, .int .i64 0] 122)) G12 122 #[.int .i64 0, .int .i64 0, .int .i64 0] := hG12 ▸ Blk.new Y2 _ _
       have hy3 := hy2.alloc hy2.size (.cells #[.int .i64 0, .int .i64 0, .int .i64 0] 122)
       have hl12 : w1.heap.size ≤ G12 := hG12 ▸ hy2.size
       rw [hG12]
       have hn13_3 := hn13_2.alloc (.cells #[.int .i64 0, .int .i64 0, .int .i64 0] 122)
       have hne : G12 ≠ G13 := by have := hn13_2.lt; omega
       generalize Y2.alloc (.cells #[.int .i64 0, .int .i64 0, .int .i64 0] 122) = Y3 at *
       refine hK _ _ hy3 ?_
       clear hK K
       try simp only [Act.put, pu]
       refine ord_step (i := 8) rfl (by decide) (by kernel_rfl) (by rfl) (fun K hK => ?_)
       go_simp
       refine (lback_any ⟨f, t, c, r, p0, p1, p2, p3, p4⟩ _).mono ?_
       rintro y Y4 ⟨rfl, hb⟩
       have hy4 := bltB hy3 hy3.size hb
       have hn13_4 := hn13_3.below hb hn13_3.lt
       have hn12_4 := hn12_3.below hb hn12_3.lt
       clear hb
       refine hK _ _ hy4 ?_
       clear hK K
       try simp only [Act.put, pu]
       refine ord_step (i := 11) rfl (by decide) (by kernel_rfl) (by rfl) (fun K hK => ?_)
       go_simp
       refine (of_note_any _ p b n L (hM.on hy4) hgd t c r htk hc hr0 hr1).mono ?_
       rintro y Y5 ⟨rfl, hb⟩
       have hy5 := bltB hy4 hy4.size hb
       have hn13_5 := hn13_4.below hb hn13_4.lt
       have hn12_5 := hn12_4.below hb hn12_4.lt
       clear hb
       refine hK _ _ hy5 ?_
       clear hK K
       try simp only [Act.put, pu]
       refine ord_relist #[true, true, true, true, true, true, true, true, true, true, true, true, true, true, false, false] (by kernel_rfl) ?_
       exact HQ G12 G13 _ ⟨hn12_5, hn13_5, hne, hy5, hl12, hl13⟩
    ·go_simp
     obtain ⟨G12, hG12⟩ : ∃ G, Y0.heap.size = G := ⟨_, rfl⟩
     have hn12_1 : Blk (Y0.alloc (.cells #[.int .i64 0, .int .i64 0, .int .i64 0] 122)) G12 122 #[.int .i64 0, .int .i64 0, .int .i64 0] := hG12 ▸ Blk.new Y0 _ _
     have hy1 := hy0.alloc hy0.size (.cells #[.int .i64 0, .int .i64 0, .int .i64 0] 122)
     have hl12 : w1.heap.size ≤ G12 := hG12 ▸ hy0.size
     rw [hG12]
     generalize Y0.alloc (.cells #[.int .i64 0, .int .i64 0, .int .i64 0] 122) = Y1 at *
     refine hK _ _ hy1 ?_
     clear hK K
     try simp only [Act.put, pu]
     refine ord_step2 (i := 5) (k := 13) rfl rfl (by decide) (by decide) (by kernel_rfl) (by rfl) (by rfl) (fun K hK => ?_) (fun K hK => ?_)
     ·go_simp
      refine (of_note_any _ p b n L (hM.on hy1) hgd f c r hfk hc hr0 hr1).mono ?_
      rintro y Y2 ⟨rfl, hb⟩
      have hy2 := bltB hy1 hy1.size hb
      have hn12_2 := hn12_1.below hb hn12_1.lt
      clear hb
      refine hK _ _ hy2 ?_
      clear hK K
      try simp only [Act.put, pu]
      refine ord_step2 (i := 8) (k := 13) rfl rfl (by decide) (by decide) (by kernel_rfl) (by rfl) (by rfl) (fun K hK => ?_) (fun K hK => ?_)
      ·go_simp
       refine (lback_any ⟨f, t, c, r, p0, p1, p2, p3, p4⟩ _).mono ?_
       rintro y Y3 ⟨rfl, hb⟩
       have hy3 := bltB hy2 hy2.size hb
       have hn12_3 := hn12_2.below hb hn12_2.lt
       clear hb
       refine hK _ _ hy3 ?_
       clear hK K
       try simp only [Act.put, pu]
       refine ord_step2 (i := 11) (k := 13) rfl rfl (by decide) (by decide) (by kernel_rfl) (by rfl) (by rfl) (fun K hK => ?_) (fun K hK => ?_)
       ·go_simp
        refine (of_note_any _ p b n L (hM.on hy3) hgd t c r htk hc hr0 hr1).mono ?_
        rintro y Y4 ⟨rfl, hb⟩
        have hy4 := bltB hy3 hy3.size hb
        have hn12_4 := hn12_3.below hb hn12_3.lt
        clear hb
        refine hK _ _ hy4 ?_
        clear hK K
        try simp only [Act.put, pu]
        refine ord_step (i := 13) rfl (by decide) (by kernel_rfl) (by rfl) (fun K hK => ?_)
        go_simp
        obtain ⟨G13, hG13⟩ : ∃ G, Y4.heap.size = G := ⟨_, rfl⟩
        have hn13_5 : Blk (Y4.alloc (.cells #[.int .i64 0, .int .i64 0, .int .i64 0] 122)) G13 122 #[.int .i64 0, .int .i64 0, .int .i64 0] := hG13 ▸ Blk.new Y4 _ _
        have hy5 := hy4.alloc hy4.size (.cells #[.int .i64 0, .int .i64 0, .int .i64 0] 122)
        have hl13 : w1.heap.size ≤ G13 := hG13 ▸ hy4.size
        rw [hG13]
        have hn12_5 := hn12_4.alloc (.cells #[.int .i64 0, .int .i64 0, .int .i64 0] 122)
        have hne : G12 ≠ G13 := by have := hn12_4.lt; omega
        generalize Y4.alloc (.cells #[.int .i64 0, .int .i64 0, .int .i64 0] 122) = Y5 at *
        refine hK _ _ hy5 ?_
        clear hK K
        try simp only [Act.put, pu]
        refine ord_relist #[true, true, true, true, true, true, true, true, true, true, true, true, true, true, false, false] (by kernel_rfl) ?_
        exact HQ G12 G13 _ ⟨hn12_5, hn13_5, hne, hy5, hl12, hl13⟩
       ·go_simp
        obtain ⟨G13, hG13⟩ : ∃ G, Y3.heap.size = G := ⟨_, rfl⟩
        have hn13_4 : Blk (Y3.alloc (.cells #[.int .i64 0, .int .i64 0, .int .i64 0] 122)) G13 122 #[.int .i64 0, .int .i64 0, .int .i64 0] := hG13 ▸ Blk.new Y3 _ _
        have hy4 := hy3.alloc hy3.size (.cells #[.int .i64 0, .int .i64 0, .int .i64 0] 122)
        have hl13 : w1.heap.size ≤ G13 := hG13 ▸ hy3.size
        rw [hG13]
        have hn12_4 := hn12_3.alloc (.cells #[.int .i64 0, .int .i64 0, .int .i64 0] 122)
        have hne : G12 ≠ G13 := by have := hn12_3.lt; omega
        generalize Y3.alloc (.cells #[.int .i64 0, .int .i64 0, .int .i64 0] 122) = Y4 at *
        refine hK _ _ hy4 ?_
        clear hK K
        try simp only [Act.put, pu]
        refine ord_step (i := 11) rfl (by decide) (by kernel_rfl) (by rfl) (fun K hK => ?_)
        go_simp
        refine (of_note_any _ p b n L (hM.on hy4) hgd t c r htk hc hr0 hr1).mono ?_
        rintro y Y5 ⟨rfl, hb⟩
        have hy5 := bltB hy4 hy4.size hb
        have hn12_5 := hn12_4.below hb hn12_4.lt
        have hn13_5 := hn13_4.below hb hn13_4.lt
        clear hb
        refine hK _ _ hy5 ?_
        clear hK K
        try simp only [Act.put, pu]
        refine ord_relist #[true, true, true, true, true, true, true, true, true, true, true, true, true, true, false, false] (by kernel_rfl) ?_
        exact HQ G12 G13 _ ⟨hn12_5, hn13_5, hne, hy5, hl12, hl13⟩
      ·go_simp
       obtain ⟨G13, hG13⟩ : ∃ G, Y2.heap.size = G := ⟨_, rfl⟩
       have hn13_3 : Blk (Y2.alloc (.cells #[.int .i64 0, .int .i64 0, .int .i64 0] 122)) G13 122 #[.int .i64 0, .int .i64 0, .int .i64 0] := hG13 ▸ Blk.new Y2 _ _
       have hy3 := hy2.alloc hy2.size (.cells #[.int .i64 0, .int .i64 0, .int .i64 0] 122)
       have hl13 : w1.heap.size ≤ G13 := hG13 ▸ hy2.size
       rw [hG13]
       have hn12_3 := hn12_2.alloc (.cells #[.int .i64 0, .int .i64 0, .int .i64 0] 122)
       have hne : G12 ≠ G13 := by have := hn12_2.lt; omega
       generalize Y2.alloc (.cells #[.int .i64 0, .int .i64 0, .int .i64 0] 122) = Y3 at *
       refine hK _ _ hy3 ?_
       clear hK K
       try simp only [Act.put, pu]
       refine ord_step (i := 8) rfl (by decide) (by kernel_rfl) (by rfl) (fun K hK => ?_)
       go_simp
       refine (lback_any ⟨f, t, c, r, p0, p1, p2, p3, p4⟩ _).mono ?_
       rintro y Y4 ⟨rfl, hb⟩
       have hy4 := bltB hy3 hy3.size hb
       have hn12_4 := hn12_3.below hb hn12_3.lt
       have hn13_4 := hn13_3.below hb hn13_3.lt
       clear hb
       refine hK _ _ hy4 ?_
       clear hK K
       try simp only [Act.put, pu]
       refine ord_step (i := 11) rfl (by decide) (by kernel_rfl) (by rfl) (fun K hK => ?_)
       go_simp
       refine (of_note_any _ p b n L (hM.on hy4) hgd t c r htk hc hr0 hr1).mono ?_
       rintro y Y5 ⟨rfl, hb⟩
       have hy5 := bltB hy4 hy4.size hb
       have hn12_5 := hn12_4.below hb hn12_4.lt
       have hn13_5 := hn13_4.below hb hn13_4.lt
       clear hb
       refine hK _ _ hy5 ?_
       clear hK K
       try simp only [Act.put, pu]
       refine ord_relist #[true, true, true, true, true, true, true, true, true, true, true, true, true, true, false, false] (by kernel_rfl) ?_
       exact HQ G12 G13 _ ⟨hn12_5, hn13_5, hne, hy5, hl12, hl13⟩
     ·go_simp
      obtain ⟨G13, hG13⟩ : ∃ G, Y1.heap.size = G := ⟨_, rfl⟩
      have hn13_2 : Blk (Y1.alloc (.cells #[.int .i64 0, .int .i64 0, .int .i64 0] 122)) G13 122 #[.int .i64 0, .int .i64 0, .int .i64 0] := hG13 ▸ Blk.new Y1 _ _
      have hy2 := hy1.alloc hy1.size (.cells #[.int .i64 0, .int .i64 0, .int .i64 0] 122)
      have hl13 : w1.heap.size ≤ G13 := hG13 ▸ hy1.size
      rw [hG13]
      have hn12_2 := hn12_1.alloc (.cells #[.int .i64 0, .int .i64 0, .int .i64 0] 122)
      have hne : G12 ≠ G13 := by have := hn12_1.lt; omega
      generalize Y1.alloc (.cells #[.int .i64 0, .int .i64 0, .int .i64 0] 122) = Y2 at *
      refine hK _ _ hy2 ?_
      clear hK K
      try simp only [Act.put, pu]
      refine ord_step (i := 5) rfl (by decide) (by kernel_rfl) (by rfl) (fun K hK => ?_)
      go_simp
      refine (of_note_any _ p b n L (hM.on hy2) hgd f c r hfk hc hr0 hr1).mono ?_
      rintro y Y3 ⟨rfl, hb⟩
      have hy3 := bltB hy2 hy2.size hb
      have hn12_3 := hn12_2.below hb hn12_2.lt
      have hn13_3 := hn13_2.below hb hn13_2.lt
      clear hb
      refine hK _ _ hy3 ?_
      clear hK K
      try simp only [Act.put, pu]
      refine ord_step (i := 8) rfl (by decide) (by kernel_rfl) (by rfl) (fun K hK => ?_)
      go_simp
      refine (lback_any ⟨f, t, c, r, p0, p1, p2, p3, p4⟩ _).mono ?_
      rintro y Y4 ⟨rfl, hb⟩
      have hy4 := bltB hy3 hy3.size hb
      have hn12_4 := hn12_3.below hb hn12_3.lt
      have hn13_4 := hn13_3.below hb hn13_3.lt
      clear hb
      refine hK _ _ hy4 ?_
      clear hK K
      try simp only [Act.put, pu]
      refine ord_step (i := 11) rfl (by decide) (by kernel_rfl) (by rfl) (fun K hK => ?_)
      go_simp
      refine (of_note_any _ p b n L (hM.on hy4) hgd t c r htk hc hr0 hr1).mono ?_
      rintro y Y5 ⟨rfl, hb⟩
      have hy5 := bltB hy4 hy4.size hb
      have hn12_5 := hn12_4.below hb hn12_4.lt
      have hn13_5 := hn13_4.below hb hn13_4.lt
      clear hb
      refine hK _ _ hy5 ?_
      clear hK K
      try simp only [Act.put, pu]
      refine ord_relist #[true, true, true, true, true, true, true, true, true, true, true, true, true, true, false, false] (by kernel_rfl) ?_
      exact HQ G12 G13 _ ⟨hn12_5, hn13_5, hne, hy5, hl12, hl13⟩
    ·go_simp
     obtain ⟨G13, hG13⟩ : ∃ G, Y0.heap.size = G := ⟨_, rfl⟩
     have hn13_1 : Blk (Y0.alloc (.cells #[.int .i64 0, .int .i64 0, .int .i64 0] 122)) G13 122 #[.int .i64 0, .int .i64 0, .int .i64 0] := hG13 ▸ Blk.new Y0 _ _
     have hy1 := hy0.alloc hy0.size (.cells #[.int .i64 0, .int .i64 0, .int .i64 0] 122)
     have hl13 : w1.heap.size ≤ G13 := hG13 ▸ hy0.size
     rw [hG13]
     generalize Y0.alloc (.cells #[.int .i64 0, .int .i64 0, .int .i64 0] 122) = Y1 at *
     refine hK _ _ hy1 ?_
     clear hK K
     try simp only [Act.put, pu]
     refine ord_step2 (i := 5) (k := 12) rfl rfl (by decide) (by decide) (by kernel_rfl) (by rfl) (by rfl) (fun K hK => ?_) (fun K hK => ?_)
     ·go_simp
      refine (of_note_any _ p b n L (hM.on hy1) hgd f c r hfk hc hr0 hr1).mono ?_
      rintro y Y2 ⟨rfl, hb⟩
      have hy2 := bltB hy1 hy1.size hb
      have hn13_2 := hn13_1.below hb hn13_1.lt
      clear hb
      refine hK _ _ hy2 ?_
      clear hK K
      try simp only [Act.put, pu]
      refine ord_step2 (i := 8) (k := 12) rfl rfl (by decide) (by decide) (by kernel_rfl) (by rfl) (by rfl) (fun K hK => ?_) (fun K hK => ?_)
      ·go_simp
       refine (lback_any ⟨f, t, c, r, p0, p1, p2, p3, p4⟩ _).mono ?_
       rintro y Y3 ⟨rfl, hb⟩
       have hy3 := bltB hy2 hy2.size hb
       have hn13_3 := hn13_2.below hb hn13_2.lt
       clear hb
       refine hK _ _ hy3 ?_
       clear hK K
       try simp only [Act.put, pu]
       refine ord_step2 (i := 11) (k := 12) rfl rfl (by decide) (by decide) (by kernel_rfl) (by rfl) (by rfl) (fun K hK => ?_) (fun K hK => ?_)
       ·go_simp
        refine (of_note_any _ p b n L (hM.on hy3) hgd t c r htk hc hr0 hr1).mono ?_
        rintro y Y4 ⟨rfl, hb⟩
        have hy4 := bltB hy3 hy3.size hb
        have hn13_4 := hn13_3.below hb hn13_3.lt
        clear hb
        refine hK _ _ hy4 ?_
        clear hK K
        try simp only [Act.put, pu]
        refine ord_step (i := 12) rfl (by decide) (by kernel_rfl) (by rfl) (fun K hK => ?_)
        go_simp
        obtain ⟨G12, hG12⟩ : ∃ G, Y4.heap.size = G := ⟨_, rfl⟩
        have hn12_5 : Blk (Y4.alloc (.cells #[.int .i64 0, .int .i64 0, .int .i64 0] 122)) G12 122 #[.int .i64 0, .int .i64 0, .int .i64 0] := hG12 ▸ Blk.new Y4 _ _
        have hy5 := hy4.alloc hy4.size (.cells #[.int .i64 0, .int .i64 0, .int .i64 0] 122)
        have hl12 : w1.heap.size ≤ G12 := hG12 ▸ hy4.size
        rw [hG12]
        have hn13_5 := hn13_4.alloc (.cells #[.int .i64 0, .int .i64 0, .int .i64 0] 122)
        have hne : G12 ≠ G13 := by have := hn13_4.lt; omega
        generalize Y4.alloc (.cells #[.int .i64 0, .int .i64 0, .int .i64 0] 122) = Y5 at *
        refine hK _ _ hy5 ?_
        clear hK K
        try simp only [Act.put, pu]
        refine ord_relist #[true, true, true, true, true, true, true, true, true, true, true, true, true, true, false, false] (by kernel_rfl) ?_
        exact HQ G12 G13 _ ⟨hn12_5, hn13_5, hne, hy5, hl12, hl13⟩
       ·go_simp
        obtain ⟨G12, hG12⟩ : ∃ G, Y3.heap.size = G := ⟨_, rfl⟩
        have hn12_4 : Blk (Y3.alloc (.cells #[.int .i64 0, .int .i64 0, .int .i64 0] 122)) G12 122 #[.int .i64 0, .int .i64 0, .int .i64 0] := hG12 ▸ Blk.new Y3 _ _
        have hy4 := hy3.alloc hy3.size (.cells #[.int .i64 0, .int .i64 0, .int .i64 0] 122)
        have hl12 : w1.heap.size ≤ G12 := hG12 ▸ hy3.size
        rw [hG12]
        have hn13_4 := hn13_3.alloc (.cells #[.int .i64 0, .int .i64 0, .int .i64 0] 122)
        have hne : G12 ≠ G13 := by have := hn13_3.lt; omega
        generalize Y3.alloc (.cells #[.int .i64 0, .int .i64 0, .int .i64 0] 122) = Y4 at *
        refine hK _ _ hy4 ?_
        clear hK K
        try simp only [Act.put, pu]
        refine ord_step (i := 11) rfl (by decide) (by kernel_rfl) (by rfl) (fun K hK => ?_)
        go_simp
        refine (of_note_any _ p b n L (hM.on hy4) hgd t c r htk hc hr0 hr1).mono ?_
        rintro y Y5 ⟨rfl, hb⟩
        have hy5 := bltB hy4 hy4.size hb
        have hn13_5 := hn13_4.below hb hn13_4.lt
        have hn12_5 := hn12_4.below hb hn12_4.lt
        clear hb
        refine hK _ _ hy5 ?_
        clear hK K
        try simp only [Act.put, pu]
        refine ord_relist #[true, true, true, true, true, true, true, true, true, true, true, true, true, true, false, false] (by kernel_rfl) ?_
        exact HQ G12 G13 _ ⟨hn12_5, hn13_5, hne, hy5, hl12, hl13⟩
      ·go_simp
       obtain ⟨G12, hG12⟩ : ∃ G, Y2.heap.size = G := ⟨_, rfl⟩
       have hn12_3 : Blk (Y2.alloc (.cells #[.int .i64 0, .int .i64 0, .int .i64 0] 122)) G12 122 #[.int .i64 0, .int .i64 0, .int .i64 0] := hG12 ▸ Blk.new Y2 _ _
       have hy3 := hy2.alloc hy2.size (.cells #[.int .i64 0, .int .i64 0, .int .i64 0] 122)
       have hl12 : w1.heap.size ≤ G12 := hG12 ▸ hy2.size
       rw [hG12]
       have hn13_3 := hn13_2.alloc (.cells #[.int .i64 0, .int .i64 0, .int .i64 0] 122)
       have hne : G12 ≠ G13 := by have := hn13_2.lt; omega
       generalize Y2.alloc (.cells #[.int .i64 0, .int .i64 0, .int .i64 0] 122) = Y3 at *
       refine hK _ _ hy3 ?_
       clear hK K
       try simp only [Act.put, pu]
       refine ord_step (i := 8) rfl (by decide) (by kernel_rfl) (by rfl) (fun K hK => ?_)
       go_simp
       refine (lback_any ⟨f, t, c, r, p0, p1, p2, p3, p4⟩ _).mono ?_
       rintro y Y4 ⟨rfl, hb⟩
       have hy4 := bltB hy3 hy3.size hb
       have hn13_4 := hn13_3.below hb hn13_3.lt
       have hn12_4 := hn12_3.below hb hn12_3.lt
       clear hb
       refine hK _ _ hy4 ?_
       clear hK K
       try simp only [Act.put, pu]
       refine ord_step (i := 11) rfl (by decide) (by kernel_rfl) (by rfl) (fun K hK => ?_)
       go_simp
       refine (of_note_any _ p b n L (hM.on hy4) hgd t c r htk hc hr0 hr1).mono ?_
       rintro y Y5 ⟨rfl, hb⟩
       have hy5 := bltB hy4 hy4.size hb
       have hn13_5 := hn13_4.below hb hn13_4.lt
       have hn12_5 := hn12_4.below hb hn12_4.lt
       clear hb
       refine hK _ _ hy5 ?_
       clear hK K
       try simp only [Act.put, pu]
       refine ord_relist #[true, true, true, true, true, true, true, true, true, true, true, true, true, true, false, false] (by kernel_rfl) ?_
       exact HQ G12 G13 _ ⟨hn12_5, hn13_5, hne, hy5, hl12, hl13⟩
     ·go_simp
      obtain ⟨G12, hG12⟩ : ∃ G, Y1.heap.size = G := ⟨_, rfl⟩
      have hn12_2 : Blk (Y1.alloc (.cells #[.int .i64 0, .int .i64 0, .int .i64 0] 122)) G12 122 #[.int .i64 0, .int .i64 0, .int .i64 0] := hG12 ▸ Blk.new Y1 _ _
      have hy2 := hy1.alloc hy1.size (.cells #[.int .i64 0, .int .i64 0, .int .i64 0] 122)
      have hl12 : w1.heap.size ≤ G12 := hG12 ▸ hy1.size
      rw [hG12]
      have hn13_2 := hn13_1.alloc (.cells #[.int .i64 0, .int .i64 0, .int .i64 0] 122)
      have hne : G12 ≠ G13 := by have := hn13_1.lt; omega
      generalize Y1.alloc (.cells #[.int .i64 0, .int .i64 0, .int .i64 0] 122) = Y2 at *
      refine hK _ _ hy2 ?_
      clear hK K
      try simp only [Act.put, pu]
      refine ord_step (i := 5) rfl (by decide) (by kernel_rfl) (by rfl) (fun K hK => ?_)
      go_simp
      refine (of_note_any _ p b n L (hM.on hy2) hgd f c r hfk hc hr0 hr1).mono ?_
      rintro y Y3 ⟨rfl, hb⟩
      have hy3 := bltB hy2 hy2.size hb
      have hn13_3 := hn13_2.below hb hn13_2.lt
      have hn12_3 := hn12_2.below hb hn12_2.lt
      clear hb
      refine hK _ _ hy3 ?_
      clear hK K
      try simp only [Act.put, pu]
      refine ord_step (i := 8) rfl (by decide) (by kernel_rfl) (by rfl) (fun K hK => ?_)
      go_simp
      refine (lback_any ⟨f, t, c, r, p0, p1, p2, p3, p4⟩ _).mono ?_
      rintro y Y4 ⟨rfl, hb⟩
      have hy4 := bltB hy3 hy3.size hb
      have hn13_4 := hn13_3.below hb hn13_3.lt
      have hn12_4 := hn12_3.below hb hn12_3.lt
      clear hb
      refine hK _ _ hy4 ?_
      clear hK K
      try simp only [Act.put, pu]
      refine ord_step (i := 11) rfl (by decide) (by kernel_rfl) (by rfl) (fun K hK => ?_)
      go_simp
      refine (of_note_any _ p b n L (hM.on hy4) hgd t c r htk hc hr0 hr1).mono ?_
      rintro y Y5 ⟨rfl, hb⟩
      have hy5 := bltB hy4 hy4.size hb
      have hn13_5 := hn13_4.below hb hn13_4.lt
      have hn12_5 := hn12_4.below hb hn12_4.lt
      clear hb
      refine hK _ _ hy5 ?_
      clear hK K
      try simp only [Act.put, pu]
      refine ord_relist #[true, true, true, true, true, true, true, true, true, true, true, true, true, true, false, false] (by kernel_rfl) ?_
      exact HQ G12 G13 _ ⟨hn12_5, hn13_5, hne, hy5, hl12, hl13⟩
   ·go_simp
    obtain ⟨G12, hG12⟩ : ∃ G, X0.heap.size = G := ⟨_, rfl⟩
    have hn12_0 : Blk (X0.alloc (.cells #[.int .i64 0, .int .i64 0, .int .i64 0] 122)) G12 122 #[.int .i64 0, .int .i64 0, .int .i64 0] := hG12 ▸ Blk.new X0 _ _
    have hy0 := hT.alloc hT.size (.cells #[.int .i64 0, .int .i64 0, .int .i64 0] 122)
    have hl12 : w1.heap.size ≤ G12 := hG12 ▸ hT.size
    rw [hG12]
    generalize X0.alloc (.cells #[.int .i64 0, .int .i64 0, .int .i64 0] 122) = Y0 at *
    refine hK _ _ hy0 ?_
    clear hK K
    try simp only [Act.put, pu]
    refine ord_step2 (i := 2) (k := 13) rfl rfl (by decide) (by decide) (by kernel_rfl) (by rfl) (by rfl) (fun K hK => ?_) (fun K hK => ?_)
    ·go_simp
     refine (there_any ⟨f, t, c, r, p0, p1, p2, p3, p4⟩ _).mono ?_
     rintro y Y1 ⟨rfl, hb⟩
     have hy1 := bltB hy0 hy0.size hb
     have hn12_1 := hn12_0.below hb hn12_0.lt
     clear hb
     refine hK _ _ hy1 ?_
     clear hK K
     try simp only [Act.put, pu]
     refine ord_step2 (i := 5) (k := 13) rfl rfl (by decide) (by decide) (by kernel_rfl) (by rfl) (by rfl) (fun K hK => ?_) (fun K hK => ?_)
     ·go_simp
      refine (of_note_any _ p b n L (hM.on hy1) hgd f c r hfk hc hr0 hr1).mono ?_
      rintro y Y2 ⟨rfl, hb⟩
      have hy2 := bltB hy1 hy1.size hb
      have hn12_2 := hn12_1.below hb hn12_1.lt
      clear hb
      refine hK _ _ hy2 ?_
      clear hK K
      try simp only [Act.put, pu]
      refine ord_step2 (i := 8) (k := 13) rfl rfl (by decide) (by decide) (by kernel_rfl) (by rfl) (by rfl) (fun K hK => ?_) (fun K hK => ?_)
      ·go_simp
       refine (lback_any ⟨f, t, c, r, p0, p1, p2, p3, p4⟩ _).mono ?_
       rintro y Y3 ⟨rfl, hb⟩
       have hy3 := bltB hy2 hy2.size hb
       have hn12_3 := hn12_2.below hb hn12_2.lt
       clear hb
       refine hK _ _ hy3 ?_
       clear hK K
       try simp only [Act.put, pu]
       refine ord_step2 (i := 11) (k := 13) rfl rfl (by decide) (by decide) (by kernel_rfl) (by rfl) (by rfl) (fun K hK => ?_) (fun K hK => ?_)
       ·go_simp
        refine (of_note_any _ p b n L (hM.on hy3) hgd t c r htk hc hr0 hr1).mono ?_
        rintro y Y4 ⟨rfl, hb⟩
        have hy4 := bltB hy3 hy3.size hb
        have hn12_4 := hn12_3.below hb hn12_3.lt
        clear hb
        refine hK _ _ hy4 ?_
        clear hK K
        try simp only [Act.put, pu]
        refine ord_step (i := 13) rfl (by decide) (by kernel_rfl) (by rfl) (fun K hK => ?_)
        go_simp
        obtain ⟨G13, hG13⟩ : ∃ G, Y4.heap.size = G := ⟨_, rfl⟩
        have hn13_5 : Blk (Y4.alloc (.cells #[.int .i64 0, .int .i64 0, .int .i64 0] 122)) G13 122 #[.int .i64 0, .int .i64 0, .int .i64 0] := hG13 ▸ Blk.new Y4 _ _
        have hy5 := hy4.alloc hy4.size (.cells #[.int .i64 0, .int .i64 0, .int .i64 0] 122)
        have hl13 : w1.heap.size ≤ G13 := hG13 ▸ hy4.size
        rw [hG13]
        have hn12_5 := hn12_4.alloc (.cells #[.int .i64 0, .int .i64 0, .int .i64 0] 122)
        have hne : G12 ≠ G13 := by have := hn12_4.lt; omega
        generalize Y4.alloc (.cells #[.int .i64 0, .int .i64 0, .int .i64 0] 122) = Y5 at *
        refine hK _ _ hy5 ?_
        clear hK K
        try simp only [Act.put, pu]
        refine ord_relist #[true, true, true, true, true, true, true, true, true, true, true, true, true, true, false, false] (by kernel_rfl) ?_
        exact HQ G12 G13 _ ⟨hn12_5, hn13_5, hne, hy5, hl12, hl13⟩
       ·go_simp
        obtain ⟨G13, hG13⟩ : ∃ G, Y3.heap.size = G := ⟨_, rfl⟩
        have hn13_4 : Blk (Y3.alloc (.cells #[.int .i64 0, .int .i64 0, .int .i64 0] 122)) G13 122 #[.int .i64 0, .int .i64 0, .int .i64 0] := hG13 ▸ Blk.new Y3 _ _
        have hy4 := hy3.alloc hy3.size (.cells #[.int .i64 0, .int .i64 0, .int .i64 0] 122)
        have hl13 : w1.heap.size ≤ G13 := hG13 ▸ hy3.size
        rw [hG13]
        have hn12_4 := hn12_3.alloc (.cells #[.int .i64 0, .int .i64 0, .int .i64 0] 122)
        have hne : G12 ≠ G13 := by have := hn12_3.lt; omega
        generalize Y3.alloc (.cells #[.int .i64 0, .int .i64 0, .int .i64 0] 122) = Y4 at *
        refine hK _ _ hy4 ?_
        clear hK K
        try simp only [Act.put, pu]
        refine ord_step (i := 11) rfl (by decide) (by kernel_rfl) (by rfl) (fun K hK => ?_)
        go_simp
        refine (of_note_any _ p b n L (hM.on hy4) hgd t c r htk hc hr0 hr1).mono ?_
        rintro y Y5 ⟨rfl, hb⟩
        have hy5 := bltB hy4 hy4.size hb
        have hn12_5 := hn12_4.below hb hn12_4.lt
        have hn13_5 := hn13_4.below hb hn13_4.lt
        clear hb
        refine hK _ _ hy5 ?_
        clear hK K
        try simp only [Act.put, pu]
        refine ord_relist #[true, true, true, true, true, true, true, true, true, true, true, true, true, true, false, false] (by kernel_rfl) ?_
        exact HQ G12 G13 _ ⟨hn12_5, hn13_5, hne, hy5, hl12, hl13⟩
      ·go_simp
       obtain ⟨G13, hG13⟩ : ∃ G, Y2.heap.size = G := ⟨_, rfl⟩
       have hn13_3 : Blk (Y2.alloc (.cells #[.int .i64 0, .int .i64 0, .int .i64 0] 122)) G13 122 #[.int .i64 0, .int .i64 0, .int .i64 0] := hG13 ▸ Blk.new Y2 _ _
       have hy3 := hy2.alloc hy2.size (.cells #[.int .i64 0, .int .i64 0, .int .i64 0] 122)
       have hl13 : w1.heap.size ≤ G13 := hG13 ▸ hy2.size
       rw [hG13]
       have hn12_3 := hn12_2.alloc (.cells #[.int .i64 0, .int .i64 0, .int .i64 0] 122)
       have hne : G12 ≠ G13 := by have := hn12_2.lt; omega
       generalize Y2.alloc (.cells #[.int .i64 0, .int .i64 0, .int .i64 0] 122) = Y3 at *
       refine hK _ _ hy3 ?_
       clear hK K
       try simp only [Act.put, pu]
       refine ord_step (i := 8) rfl (by decide) (by kernel_rfl) (by rfl) (fun K hK => ?_)
       go_simp
       refine (lback_any ⟨f, t, c, r, p0, p1, p2, p3, p4⟩ _).mono ?_
       rintro y Y4 ⟨rfl, hb⟩
       have hy4 := bltB hy3 hy3.size hb
       have hn12_4 := hn12_3.below hb hn12_3.lt
       have hn13_4 := hn13_3.below hb hn13_3.lt
       clear hb
       refine hK _ _ hy4 ?_
       clear hK K
       try simp only [Act.put, pu]
       refine ord_step (i := 11) rfl (by decide) (by kernel_rfl) (by rfl) (fun K hK => ?_)
       go_simp
       refine (of_note_any _ p b n L (hM.on hy4) hgd t c r htk hc hr0 hr1).mono ?_
       rintro y Y5 ⟨rfl, hb⟩
       have hy5 := bltB hy4 hy4.size hb
       have hn12_5 := hn12_4.below hb hn12_4.lt
       have hn13_5 := hn13_4.below hb hn13_4.lt
       clear hb
       refine hK _ _ hy5 ?_
       clear hK K
       try simp only [Act.put, pu]
       refine ord_relist #[true, true, true, true, true, true, true, true, true, true, true, true, true, true, false, false] (by kernel_rfl) ?_
       exact HQ G12 G13 _ ⟨hn12_5, hn13_5, hne, hy5, hl12, hl13⟩
     ·go_simp
      obtain ⟨G13, hG13⟩ : ∃ G, Y1.heap.size = G := ⟨_, rfl⟩
      have hn13_2 : Blk (Y1.alloc (.cells #[.int .i64 0, .int .i64 0, .int .i64 0] 122)) G13 122 #[.int .i64 0, .int .i64 0, .int .i64 0] := hG13 ▸ Blk.new Y1 _ _
      have hy2 := hy1.alloc hy1.size (.cells #[.int .i64 0, .int .i64 0, .int .i64 0] 122)
      have hl13 : w1.heap.size ≤ G13 := hG13 ▸ hy1.size
      rw [hG13]
      have hn12_2 := hn12_1.alloc (.cells #[.int .i64 0, .int .i64 0, .int .i64 0] 122)
      have hne : G12 ≠ G13 := by have := hn12_1.lt; omega
      generalize Y1.alloc (.cells #[.int .i64 0, .int .i64 0, .int .i64 0] 122) = Y2 at *
      refine hK _ _ hy2 ?_
      clear hK K
      try simp only [Act.put, pu]
      refine ord_step (i := 5) rfl (by decide) (by kernel_rfl) (by rfl) (fun K hK => ?_)
      go_simp
      refine (of_note_any _ p b n L (hM.on hy2) hgd f c r hfk hc hr0 hr1).mono ?_
      rintro y Y3 ⟨rfl, hb⟩
      have hy3 := bltB hy2 hy2.size hb
      have hn12_3 := hn12_2.below hb hn12_2.lt
      have hn13_3 := hn13_2.below hb hn13_2.lt
      clear hb
      refine hK _ _ hy3 ?_
      clear hK K
      try simp only [Act.put, pu]
      refine ord_step (i := 8) rfl (by decide) (by kernel_rfl) (by rfl) (fun K hK => ?_)
      go_simp
      refine (lback_any ⟨f, t, c, r, p0, p1, p2, p3, p4⟩ _).mono ?_
      rintro y Y4 ⟨rfl, hb⟩
      have hy4 := bltB hy3 hy3.size hb
      have hn12_4 := hn12_3.below hb hn12_3.lt
      have hn13_4 := hn13_3.below hb hn13_3.lt
      clear hb
      refine hK _ _ hy4 ?_
      clear hK K
      try simp only [Act.put, pu]
      refine ord_step (i := 11) rfl (by decide) (by kernel_rfl) (by rfl) (fun K hK => ?_)
      go_simp
      refine (of_note_any _ p b n L (hM.on hy4) hgd t c r htk hc hr0 hr1).mono ?_
      rintro y Y5 ⟨rfl, hb⟩
      have hy5 := bltB hy4 hy4.size hb
      have hn12_5 := hn12_4.below hb hn12_4.lt
      have hn13_5 := hn13_4.below hb hn13_4.lt
      clear hb
      refine hK _ _ hy5 ?_
      clear hK K
      try simp only [Act.put, pu]
      refine ord_relist #[true, true, true, true, true, true, true, true, true, true, true, true, true, true, false, false] (by kernel_rfl) ?_
      exact HQ G12 G13 _ ⟨hn12_5, hn13_5, hne, hy5, hl12, hl13⟩
    ·go_simp
     obtain ⟨G13, hG13⟩ : ∃ G, Y0.heap.size = G := ⟨_, rfl⟩
     have hn13_1 : Blk (Y0.alloc (.cells #[.int .i64 0, .int .i64 0, .int .i64 0] 122)) G13 122 #[.int .i64 0, .int .i64 0, .int .i64 0] := hG13 ▸ Blk.new Y0 _ _
     have hy1 := hy0.alloc hy0.size (.cells #[.int .i64 0, .int .i64 0, .int .i64 0] 122)
     have hl13 : w1.heap.size ≤ G13 := hG13 ▸ hy0.size
     rw [hG13]
     have hn12_1 := hn12_0.alloc (.cells #[.int .i64 0, .int .i64 0, .int .i64 0] 122)
     have hne : G12 ≠ G13 := by have := hn12_0.lt; omega
     generalize Y0.alloc (.cells #[.int .i64 0, .int .i64 0, .int .i64 0] 122) = Y1 at *
     refine hK _ _ hy1 ?_
     clear hK K
     try simp only [Act.put, pu]
     refine ord_step (i := 2) rfl (by decide) (by kernel_rfl) (by rfl) (fun K hK => ?_)
     go_simp
     refine (there_any ⟨f, t, c, r, p0, p1, p2, p3, p4⟩ _).mono ?_
     rintro y Y2 ⟨rfl, hb⟩
     have hy2 := bltB hy1 hy1.size hb
     have hn12_2 := hn12_1.below hb hn12_1.lt
     have hn13_2 := hn13_1.below hb hn13_1.lt
     clear hb
     refine hK _ _ hy2 ?_
     clear hK K
     try simp only [Act.put, pu]
     refine ord_step (i := 5) rfl (by decide) (by kernel_rfl) (by rfl) (fun K hK => ?_)
     go_simp
     refine (of_note_any _ p b n L (hM.on hy2) hgd f c r hfk hc hr0 hr1).mono ?_
     rintro y Y3 ⟨rfl, hb⟩
     have hy3 := bltB hy2 hy2.size hb
     have hn12_3 := hn12_2.below hb hn12_2.lt
     have hn13_3 := hn13_2.below hb hn13_2.lt
     clear hb
     refine hK _ _ hy3 ?_
     clear hK K
     try simp only [Act.put, pu]
     refine ord_step (i := 8) rfl (by decide) (by kernel_rfl) (by rfl) (fun K hK => ?_)
     go_simp
     refine (lback_any ⟨f, t, c, r, p0, p1, p2, p3, p4⟩ _).mono ?_
     rintro y Y4 ⟨rfl, hb⟩
     have hy4 := bltB hy3 hy3.size hb
     have hn12_4 := hn12_3.below hb hn12_3.lt
     have hn13_4 := hn13_3.below hb hn13_3.lt
     clear hb
     refine hK _ _ hy4 ?_
     clear hK K
     try simp only [Act.put, pu]
     refine ord_step (i := 11) rfl (by decide) (by kernel_rfl) (by rfl) (fun K hK => ?_)
     go_simp
     refine (of_note_any _ p b n L (hM.on hy4) hgd t c r htk hc hr0 hr1).mono ?_
     rintro y Y5 ⟨rfl, hb⟩
     have hy5 := bltB hy4 hy4.size hb
     have hn12_5 := hn12_4.below hb hn12_4.lt
     have hn13_5 := hn13_4.below hb hn13_4.lt
     clear hb
     refine hK _ _ hy5 ?_
     clear hK K
     try simp only [Act.put, pu]
     refine ord_relist #[true, true, true, true, true, true, true, true, true, true, true, true, true, true, false, false] (by kernel_rfl) ?_
     exact HQ G12 G13 _ ⟨hn12_5, hn13_5, hne, hy5, hl12, hl13⟩
   ·go_simp
    obtain ⟨G13, hG13⟩ : ∃ G, X0.heap.size = G := ⟨_, rfl⟩
    have hn13_0 : Blk (X0.alloc (.cells #[.int .i64 0, .int .i64 0, .int .i64 0] 122)) G13 122 #[.int .i64 0, .int .i64 0, .int .i64 0] := hG13 ▸ Blk.new X0 _ _
    have hy0 := hT.alloc hT.size (.cells #[.int .i64 0, .int .i64 0, .int .i64 0] 122)
    have hl13 : w1.heap.size ≤ G13 := hG13 ▸ hT.size
    rw [hG13]
    generalize X0.alloc (.cells #[.int .i64 0, .int .i64 0, .int .i64 0] 122) = Y0 at *
    refine hK _ _ hy0 ?_
    clear hK K
    try simp only [Act.put, pu]
    refine ord_step2 (i := 2) (k := 12) rfl rfl (by decide) (by decide) (by kernel_rfl) (by rfl) (by rfl) (fun K hK => ?_) (fun K hK => ?_)
    ·go_simp
     refine (there_any ⟨f, t, c, r, p0, p1, p2, p3, p4⟩ _).mono ?_
     rintro y Y1 ⟨rfl, hb⟩
     have hy1 := bltB hy0 hy0.size hb
     have hn13_1 := hn13_0.below hb hn13_0.lt
     clear hb
     refine hK _ _ hy1 ?_
     clear hK K
     try simp only [Act.put, pu]
     refine ord_step2 (i := 5) (k := 12) rfl rfl (by decide) (by decide) (by kernel_rfl) (by rfl) (by rfl) (fun K hK => ?_) (fun K hK => ?_)
     ·go_simp
      refine (of_note_any _ p b n L (hM.on hy1) hgd f c r hfk hc hr0 hr1).mono ?_
      rintro y Y2 ⟨rfl, hb⟩
      have hy2 := bltB hy1 hy1.size hb
      have hn13_2 := hn13_1.below hb hn13_1.lt
      clear hb
      refine hK _ _ hy2 ?_
      clear hK K
      try simp only [Act.put, pu]
      refine ord_step2 (i := 8) (k := 12) rfl rfl (by decide) (by decide) (by kernel_rfl) (by rfl) (by rfl) (fun K hK => ?_) (fun K hK => ?_)
      ·go_simp
       refine (lback_any ⟨f, t, c, r, p0, p1, p2, p3, p4⟩ _).mono ?_
       rintro y Y3 ⟨rfl, hb⟩
       have hy3 := bltB hy2 hy2.size hb
       have hn13_3 := hn13_2.below hb hn13_2.lt
       clear hb
       refine hK _ _ hy3 ?_
       clear hK K
       try simp only [Act.put, pu]
       refine ord_step2 (i := 11) (k := 12) rfl rfl (by decide) (by decide) (by kernel_rfl) (by rfl) (by rfl) (fun K hK => ?_) (fun K hK => ?_)
       ·go_simp
        refine (of_note_any _ p b n L (hM.on hy3) hgd t c r htk hc hr0 hr1).mono ?_
        rintro y Y4 ⟨rfl, hb⟩
        have hy4 := bltB hy3 hy3.size hb
        have hn13_4 := hn13_3.below hb hn13_3.lt
        clear hb
        refine hK _ _ hy4 ?_
        clear hK K
        try simp only [Act.put, pu]
        refine ord_step (i := 12) rfl (by decide) (by kernel_rfl) (by rfl) (fun K hK => ?_)
        go_simp
        obtain ⟨G12, hG12⟩ : ∃ G, Y4.heap.size = G := ⟨_, rfl⟩
        have hn12_5 : Blk (Y4.alloc (.cells #[.int .i64 0, .int .i64 0, .int .i64 0] 122)) G12 122 #[.int .i64 0, .int .i64 0, .int .i64 0] := hG12 ▸ Blk.new Y4 _ _
        have hy5 := hy4.alloc hy4.size (.cells #[.int .i64 0, .int .i64 0, .int .i64 0] 122)
        have hl12 : w1.heap.size ≤ G12 := hG12 ▸ hy4.size
        rw [hG12]
        have hn13_5 := hn13_4.alloc (.cells #[.int .i64 0, .int .i64 0, .int .i64 0] 122)
        have hne : G12 ≠ G13 := by have := hn13_4.lt; omega
        generalize Y4.alloc (.cells #[.int .i64 0, .int .i64 0, .int .i64 0] 122) = Y5 at *
        refine hK _ _ hy5 ?_
        clear hK K
        try simp only [Act.put, pu]
        refine ord_relist #[true, true, true, true, true, true, true, true, true, true, true, true, true, true, false, false] (by kernel_rfl) ?_
        exact HQ G12 G13 _ ⟨hn12_5, hn13_5, hne, hy5, hl12, hl13⟩
       ·go_simp
        obtain ⟨G12, hG12⟩ : ∃ G, Y3.heap.size = G := ⟨_, rfl⟩
        have hn12_4 : Blk (Y3.alloc (.cells #[.int .i64 0, .int .i64 0, .int .i64 0] 122)) G12 122 #[.int .i64 0, .int .i64 0, .int .i64 0] := hG12 ▸ Blk.new Y3 _ _
        have hy4 := hy3.alloc hy3.size (.cells #[.int .i64 0, .int .i64 0, .int .i64 0] 122)
        have hl12 : w1.heap.size ≤ G12 := hG12 ▸ hy3.size
        rw [hG12]
        have hn13_4 := hn13_3.alloc (.cells #[.int .i64 0, .int .i64 0, .int .i64 0] 122)
        have hne : G12 ≠ G13 := by have := hn13_3.lt; omega
        generalize Y3.alloc (.cells #[.int .i64 0, .int .i64 0, .int .i64 0] 122) = Y4 at *
        refine hK _ _ hy4 ?_
        clear hK K
        try simp only [Act.put, pu]
        refine ord_step (i := 11) rfl (by decide) (by kernel_rfl) (by rfl) (fun K hK => ?_)
        go_simp
        refine (of_note_any _ p b n L (hM.on hy4) hgd t c r htk hc hr0 hr1).mono ?_
        rintro y Y5 ⟨rfl, hb⟩
        have hy5 := bltB hy4 hy4.size hb
        have hn13_5 := hn13_4.below hb hn13_4.lt
        have hn12_5 := hn12_4.below hb hn12_4.lt
        clear hb
        refine hK _ _ hy5 ?_
        clear hK K
        try simp only [Act.put, pu]
        refine ord_relist #[true, true, true, true, true, true, true, true, true, true, true, true, true, true, false, false] (by kernel_rfl) ?_
        exact HQ G12 G13 _ ⟨hn12_5, hn13_5, hne, hy5, hl12, hl13⟩
      ·go_simp
       obtain ⟨G12, hG12⟩ : ∃ G, Y2.heap.size = G := ⟨_, rfl⟩
       have hn12_3 : Blk (Y2.alloc (.cells #[.int .i64 0, .int .i64 0, .int .i64 0] 122)) G12 122 #[.int .i64 0, .int .i64 0, .int .i64 0] := hG12 ▸ Blk.new Y2 _ _
       have hy3 := hy2.alloc hy2.size (.cells #[.int .i64 0, .int .i64 0, .int .i64 0] 122)
       have hl12 : w1.heap.size ≤ G12 := hG12 ▸ hy2.size
       rw [hG12]
       have hn13_3 := hn13_2.alloc (.cells #[.int .i64 0, .int .i64 0, .int .i64 0] 122)
       have hne : G12 ≠ G13 := by have := hn13_2.lt; omega
       generalize Y2.alloc (.cells #[.int .i64 0, .int .i64 0, .int .i64 0] 122) = Y3 at *
       refine hK _ _ hy3 ?_
       clear hK K
       try simp only [Act.put, pu]
       refine ord_step (i := 8) rfl (by decide) (by kernel_rfl) (by rfl) (fun K hK => ?_)
       go_simp
       refine (lback_any ⟨f, t, c, r, p0, p1, p2, p3, p4⟩ _).mono ?_
       rintro y Y4 ⟨rfl, hb⟩
       have hy4 := bltB hy3 hy3.size hb
       have hn13_4 := hn13_3.below hb hn13_3.lt
       have hn12_4 := hn12_3.below hb hn12_3.lt
       clear hb
       refine hK _ _ hy4 ?_
       clear hK K
       try simp only [Act.put, pu]
       refine ord_step (i := 11) rfl (by decide) (by kernel_rfl) (by rfl) (fun K hK => ?_)
       go_simp
       refine (of_note_any _ p b n L (hM.on hy4) hgd t c r htk hc hr0 hr1).mono ?_
       rintro y Y5 ⟨rfl, hb⟩
       have hy5 := bltB hy4 hy4.size hb
       have hn13_5 := hn13_4.below hb hn13_4.lt
       have hn12_5 := hn12_4.below hb hn12_4.lt
       clear hb
       refine hK _ _ hy5 ?_
       clear hK K
       try simp only [Act.put, pu]
       refine ord_relist #[true, true, true, true, true, true, true, true, true, true, true, true, true, true, false, false] (by kernel_rfl) ?_
       exact HQ G12 G13 _ ⟨hn12_5, hn13_5, hne, hy5, hl12, hl13⟩
     ·go_simp
      obtain ⟨G12, hG12⟩ : ∃ G, Y1.heap.size = G := ⟨_, rfl⟩
      have hn12_2 : Blk (Y1.alloc (.cells #[.int .i64 0, .int .i64 0, .int .i64 0] 122)) G12 122 #[.int .i64 0, .int .i64 0, .int .i64 0] := hG12 ▸ Blk.new Y1 _ _
      have hy2 := hy1.alloc hy1.size (.cells #[.int .i64 0, .int .i64 0, .int .i64 0] 122)
      have hl12 : w1.heap.size ≤ G12 := hG12 ▸ hy1.size
      rw [hG12]
      have hn13_2 := hn13_1.alloc (.cells #[.int .i64 0, .int .i64 0, .int .i64 0] 122)
      have hne : G12 ≠ G13 := by have := hn13_1.lt; omega
      generalize Y1.alloc (.cells #[.int .i64 0, .int .i64 0, .int .i64 0] 122) = Y2 at *
      refine hK _ _ hy2 ?_
      clear hK K
      try simp only [Act.put, pu]
      refine ord_step (i := 5) rfl (by decide) (by kernel_rfl) (by rfl) (fun K hK => ?_)
      go_simp
      refine (of_note_any _ p b n L (hM.on hy2) hgd f c r hfk hc hr0 hr1).mono ?_
      rintro y Y3 ⟨rfl, hb⟩
      have hy3 := bltB hy2 hy2.size hb
      have hn13_3 := hn13_2.below hb hn13_2.lt
      have hn12_3 := hn12_2.below hb hn12_2.lt
      clear hb
      refine hK _ _ hy3 ?_
      clear hK K
      try simp only [Act.put, pu]
      refine ord_step (i := 8) rfl (by decide) (by kernel_rfl) (by rfl) (fun K hK => ?_)
      go_simp
      refine (lback_any ⟨f, t, c, r, p0, p1, p2, p3, p4⟩ _).mono ?_
      rintro y Y4 ⟨rfl, hb⟩
      have hy4 := bltB hy3 hy3.size hb
      have hn13_4 := hn13_3.below hb hn13_3.lt
      have hn12_4 := hn12_3.below hb hn12_3.lt
      clear hb
      refine hK _ _ hy4 ?_
      clear hK K
      try simp only [Act.put, pu]
      refine ord_step (i := 11) rfl (by decide) (by kernel_rfl) (by rfl) (fun K hK => ?_)
      go_simp
      refine (of_note_any _ p b n L (hM.on hy4) hgd t c r htk hc hr0 hr1).mono ?_
      rintro y Y5 ⟨rfl, hb⟩
      have hy5 := bltB hy4 hy4.size hb
      have hn13_5 := hn13_4.below hb hn13_4.lt
      have hn12_5 := hn12_4.below hb hn12_4.lt
      clear hb
      refine hK _ _ hy5 ?_
      clear hK K
      try simp only [Act.put, pu]
      refine ord_relist #[true, true, true, true, true, true, true, true, true, true, true, true, true, true, false, false] (by kernel_rfl) ?_
      exact HQ G12 G13 _ ⟨hn12_5, hn13_5, hne, hy5, hl12, hl13⟩
    ·go_simp
     obtain ⟨G12, hG12⟩ : ∃ G, Y0.heap.size = G := ⟨_, rfl⟩
     have hn12_1 : Blk (Y0.alloc (.cells #[.int .i64 0, .int .i64 0, .int .i64 0] 122)) G12 122 #[.int .i64 0, .int .i64 0, .int .i64 0] := hG12 ▸ Blk.new Y0 _ _
     have hy1 := hy0.alloc hy0.size (.cells #[.int .i64 0, .int .i64 0, .int .i64 0] 122)
     have hl12 : w1.heap.size ≤ G12 := hG12 ▸ hy0.size
     rw [hG12]
     have hn13_1 := hn13_0.alloc (.cells #[.int .i64 0, .int .i64 0, .int .i64 0] 122)
     have hne : G12 ≠ G13 := by have := hn13_0.lt; omega
     generalize Y0.alloc (.cells #[.int .i64 0, .int .i64 0, .int .i64 0] 122) = Y1 at *
     refine hK _ _ hy1 ?_
     clear hK K
     try simp only [Act.put, pu]
     refine ord_step (i := 2) rfl (by decide) (by kernel_rfl) (by rfl) (fun K hK => ?_)
     go_simp
     refine (there_any ⟨f, t, c, r, p0, p1, p2, p3, p4⟩ _).mono ?_
     rintro y Y2 ⟨rfl, hb⟩
     have hy2 := bltB hy1 hy1.size hb
     have hn13_2 := hn13_1.below hb hn13_1.lt
     have hn12_2 := hn12_1.below hb hn12_1.lt
     clear hb
     refine hK _ _ hy2 ?_
     clear hK K
     try simp only [Act.put, pu]
     refine ord_step (i := 5) rfl (by decide) (by kernel_rfl) (by rfl) (fun K hK => ?_)
     go_simp
     refine (of_note_any _ p b n L (hM.on hy2) hgd f c r hfk hc hr0 hr1).mono ?_
     rintro y Y3 ⟨rfl, hb⟩
     have hy3 := bltB hy2 hy2.size hb
     have hn13_3 := hn13_2.below hb hn13_2.lt
     have hn12_3 := hn12_2.below hb hn12_2.lt
     clear hb
     refine hK _ _ hy3 ?_
     clear hK K
     try simp only [Act.put, pu]
     refine ord_step (i := 8) rfl (by decide) (by kernel_rfl) (by rfl) (fun K hK => ?_)
     go_simp
     refine (lback_any ⟨f, t, c, r, p0, p1, p2, p3, p4⟩ _).mono ?_
     rintro y Y4 ⟨rfl, hb⟩
     have hy4 := bltB hy3 hy3.size hb
     have hn13_4 := hn13_3.below hb hn13_3.lt
     have hn12_4 := hn12_3.below hb hn12_3.lt
     clear hb
     refine hK _ _ hy4 ?_
     clear hK K
     try simp only [Act.put, pu]
     refine ord_step (i := 11) rfl (by decide) (by kernel_rfl) (by rfl) (fun K hK => ?_)
     go_simp
     refine (of_note_any _ p b n L (hM.on hy4) hgd t c r htk hc hr0 hr1).mono ?_
     rintro y Y5 ⟨rfl, hb⟩
     have hy5 := bltB hy4 hy4.size hb
     have hn13_5 := hn13_4.below hb hn13_4.lt
     have hn12_5 := hn12_4.below hb hn12_4.lt
     clear hb
     refine hK _ _ hy5 ?_
     clear hK K
     try simp only [Act.put, pu]
     refine ord_relist #[true, true, true, true, true, true, true, true, true, true, true, true, true, true, false, false] (by kernel_rfl) ?_
     exact HQ G12 G13 _ ⟨hn12_5, hn13_5, hne, hy5, hl12, hl13⟩
  rintro G6 G7 W2 ⟨hN0, hK0, hne, hb2, hG6, hG7⟩
  simp only [noteV, wayV]
  refine ord_rest (by kernel_rfl) ?_
  have hc0 := hN0.cell 0
  have hc1 := hN0.cell 1
  have hc2 := hN0.cell 2
  have hf0 := hN0.frozen 0
  have hf1 := hN0.frozen 1
  have hf2 := hN0.frozen 2
  refine any_step (i := 14) rfl (by kernel_rfl) (by rfl) (fun K hK => ?_)
  go_simp
  refine hK _ _ ?_
  clear hK K
  try simp only [Act.put, pu]
  have hN0' : Blk (((W2.setCell ⟨G6, 0, none⟩ (.int .i64 (cnt L (f, c) r).1)).setCell ⟨G6, 1, none⟩ (.int .i64 (cnt L (f, c) r).2)).setCell ⟨G6, 2, none⟩ (.int .i64 r)) G6 122 #[.int .i64 (cnt L (f, c) r).1, .int .i64 (cnt L (f, c) r).2, .int .i64 r] := ((hN0.set_ 0 _).set_ 1 _).set_ 2 _
  have hK0' := ((hK0.far (p := ⟨G6, 0, none⟩) hne.symm (.int .i64 (cnt L (f, c) r).1)).far (p := ⟨G6, 1, none⟩) hne.symm (.int .i64 (cnt L (f, c) r).2)).far (p := ⟨G6, 2, none⟩) hne.symm (.int .i64 r)
  have hb3 := ((hb2.setCell (p := ⟨G6, 0, none⟩) hG6 (.int .i64 (cnt L (f, c) r).1)).setCell (p := ⟨G6, 1, none⟩) hG6 (.int .i64 (cnt L (f, c) r).2)).setCell (p := ⟨G6, 2, none⟩) hG6 (.int .i64 r)
  generalize (((W2.setCell ⟨G6, 0, none⟩ (.int .i64 (cnt L (f, c) r).1)).setCell ⟨G6, 1, none⟩ (.int .i64 (cnt L (f, c) r).2)).setCell ⟨G6, 2, none⟩ (.int .i64 r)) = W3 at *
  clear hc0 hc1 hc2 hf0 hf1 hf2 hN0 hK0 hb2
  have hc0 := hK0'.cell 0
  have hc1 := hK0'.cell 1
  have hc2 := hK0'.cell 2
  have hf0 := hK0'.frozen 0
  have hf1 := hK0'.frozen 1
  have hf2 := hK0'.frozen 2
  refine any_step (i := 15) rfl (by kernel_rfl) (by rfl) (fun K hK => ?_)
  go_simp
  refine hK _ _ ?_
  clear hK K
  try simp only [Act.put, pu]
  have hK0'' : Blk (((W3.setCell ⟨G7, 0, none⟩ (.int .i64 (cnt L (t, c) r).1)).setCell ⟨G7, 1, none⟩ (.int .i64 (cnt L (t, c) r).2)).setCell ⟨G7, 2, none⟩ (.int .i64 r)) G7 122 #[.int .i64 (cnt L (t, c) r).1, .int .i64 (cnt L (t, c) r).2, .int .i64 r] := ((hK0'.set_ 0 _).set_ 1 _).set_ 2 _
  have hN0'' := ((hN0'.far (p := ⟨G7, 0, none⟩) hne (.int .i64 (cnt L (t, c) r).1)).far (p := ⟨G7, 1, none⟩) hne (.int .i64 (cnt L (t, c) r).2)).far (p := ⟨G7, 2, none⟩) hne (.int .i64 r)
  have hb4 := ((hb3.setCell (p := ⟨G7, 0, none⟩) hG7 (.int .i64 (cnt L (t, c) r).1)).setCell (p := ⟨G7, 1, none⟩) hG7 (.int .i64 (cnt L (t, c) r).2)).setCell (p := ⟨G7, 2, none⟩) hG7 (.int .i64 r)
  generalize (((W3.setCell ⟨G7, 0, none⟩ (.int .i64 (cnt L (t, c) r).1)).setCell ⟨G7, 1, none⟩ (.int .i64 (cnt L (t, c) r).2)).setCell ⟨G7, 2, none⟩ (.int .i64 r)) = W4 at *
  clear hc0 hc1 hc2 hf0 hf1 hf2 hK0' hN0' hb3
  refine wpAny_done (by kernel_rfl) ?_ _
  refine NoPanic.normal ?_
  have hN := hN0''
  have hK := hK0''
  clear hN0'' hK0''
  have J := J.below hb4 J.lt
  have hM := hM.on hb4
  have hb5 := bltB hb1 hb1.size hb4
  have hbG6 : G6 ≠ b := by have := hb0.size; have := hM.lt; have := hb1.size; omega
  have hbG7 : G7 ≠ b := by have := hb1.size; omega
  have hbG0 : w.heap.size ≠ b := by omega
  clear hb4
  have hcnt := cnt_ok hgd (f, c) hr0
  have hcnt2 := cnt_ok hgd (t, c) hr0
  obtain ⟨lo, hlo⟩ : ∃ lo, (cnt L (f, c) r).1 = lo := ⟨_, rfl⟩
  obtain ⟨hi, hhi⟩ : ∃ hi, (cnt L (f, c) r).2 = hi := ⟨_, rfl⟩
  obtain ⟨lo2, hlo2⟩ : ∃ lo, (cnt L (t, c) r).1 = lo := ⟨_, rfl⟩
  obtain ⟨hi2, hhi2⟩ : ∃ hi, (cnt L (t, c) r).2 = hi := ⟨_, rfl⟩
  rw [hlo, hhi] at hcnt
  rw [hlo2, hhi2] at hcnt2
  rw [hlo, hhi, hlo2, hhi2] at HB
  rw [hlo, hhi] at hN
  rw [hlo2, hhi2] at hK
  simp only [hlo, hhi, hlo2, hhi2]
  clear hlo hhi hlo2 hhi2
  obtain ⟨z0, hz0, hv0⟩ := max_named (lo - x) 0
  obtain ⟨z1, hz1, hv1⟩ := max_named (hi - x) (z0 + 1)
  obtain ⟨y1, hy1, hu1⟩ := min_named (lo2 + x) r
  obtain ⟨y2, hy2, hu2⟩ := min_named (hi2 + x) (r + 1)
  have i0 : isI z0 := by unfold isI; omega
  have i1 : isI z1 := by unfold isI; omega
  have i2 : isI y1 := by unfold isI; omega
  have i3 : isI y2 := by unfold isI; omega
  have i4 : isI r := by unfold isI; omega
  have hz0b : 0 ≤ z0 ∧ z0 ≤ 1125899906842624 := by omega
  rw [← hz0, ← hz1, ← hy1, ← hy2] at HB
  clear hz0 hz1 hy1 hy2
  have hw1 : IntKind.i64.wrap (lo - x) = lo - x := IntWalk.i64_in _ (by omega)
  have hw2 : IntKind.i64.wrap (hi - x) = hi - x := IntWalk.i64_in _ (by omega)
  have hw3 : IntKind.i64.wrap (z0 + 1) = z0 + 1 := IntWalk.i64_in _ (by omega)
  have hw4 : IntKind.i64.wrap (lo2 + x) = lo2 + x := IntWalk.i64_in _ (by omega)
  have hw5 : IntKind.i64.wrap (hi2 + x) = hi2 + x := IntWalk.i64_in _ (by omega)
  have hw6 : IntKind.i64.wrap (r + 1) = r + 1 := IntWalk.i64_in _ (by omega)
  have hn0 := hN.cell 0
  go_wp2_with fail
  clear hn0
  refine wp_region_noPanic ?_
  refine ord_begin 17 (fun wx => Below W4.heap.size W4 wx) (by kernel_rfl) ?_
  have hT : Below W4.heap.size W4 W4.drew := (Below.refl _ _).drew
  refine ord_take (i := 0) (v := ?_) (by kernel_rfl) rfl (by decide) (by kernel_rfl) (by kernel_rfl) (fun _ _ _ h => h) (Or.inl ⟨by rfl, ?_⟩) hT ?_
  rotate_left
  ·intro wz hz; go_simp; (try with_reducible rfl)
  try simp only [Act.put, pu]
  refine ord_take (i := 1) (v := ?_) (by kernel_rfl) rfl (by decide) (by kernel_rfl) (by kernel_rfl) (fun _ _ _ h => h) (Or.inl ⟨by rfl, ?_⟩) hT ?_
  rotate_left
  ·intro wz hz; have j := hM.box.below hz hM.box.lt; have q := j.cell 0; go_simp; (try with_reducible rfl)
  try simp only [Act.put, pu]
  refine ord_take (i := 2) (v := ?_) (by kernel_rfl) rfl (by decide) (by kernel_rfl) (by kernel_rfl) (fun _ _ _ h => h) (Or.inl ⟨by rfl, ?_⟩) hT ?_
  rotate_left
  ·intro wz hz; go_simp; (try with_reducible rfl)
  try simp only [Act.put, pu]
  refine ord_take (i := 3) (v := ?_) (by kernel_rfl) rfl (by decide) (by kernel_rfl) (by kernel_rfl) (fun _ _ _ h => h) (Or.inl ⟨by rfl, ?_⟩) hT ?_
  rotate_left
  ·intro wz hz; have j := hM.box.below hz hM.box.lt; have q := j.cell 0; go_simp; (try with_reducible rfl)
  try simp only [Act.put, pu]
  refine ord_take (i := 4) (v := ?_) (by kernel_rfl) rfl (by decide) (by kernel_rfl) (by kernel_rfl) (fun _ _ _ h => h) (Or.inl ⟨by rfl, ?_⟩) hT ?_
  rotate_left
  ·intro wz hz; have j := J.below hz J.lt; have q0 := j.cell 0; have q1 := j.cell 1; have q2 := j.cell 2; have q3 := j.cell 3; have q4 := j.cell 4; have q5 := j.cell 5; have q6 := j.cell 6; have q7 := j.cell 7; have q8 := j.cell 8; go_simp; (try with_reducible rfl)
  try simp only [Act.put, pu]
  refine ord_take (i := 6) (v := ?_) (by kernel_rfl) rfl (by decide) (by kernel_rfl) (by kernel_rfl) (fun _ _ _ h => h) (Or.inl ⟨by rfl, ?_⟩) hT ?_
  rotate_left
  ·intro wz hz; go_simp; (try with_reducible rfl)
  try simp only [Act.put, pu]
  refine ord_take (i := 7) (v := ?_) (by kernel_rfl) rfl (by decide) (by kernel_rfl) (by kernel_rfl) (fun _ _ _ h => h) (Or.inl ⟨by rfl, ?_⟩) hT ?_
  rotate_left
  ·intro wz hz; go_simp; (try with_reducible rfl)
  try simp only [Act.put, pu]
  refine ord_take (i := 8) (v := ?_) (by kernel_rfl) rfl (by decide) (by kernel_rfl) (by kernel_rfl) (fun _ _ _ h => h) (Or.inl ⟨by rfl, ?_⟩) hT ?_
  rotate_left
  ·intro wz hz; have j := hN.below hz hN.lt; have q0 := j.cell 0; have q1 := j.cell 1; go_simp; (try with_reducible rfl)
  try simp only [Act.put, pu]
  refine ord_take (i := 9) (v := ?_) (by kernel_rfl) rfl (by decide) (by kernel_rfl) (by kernel_rfl) (fun _ _ _ h => h) (Or.inl ⟨by rfl, ?_⟩) hT ?_
  rotate_left
  ·intro wz hz; go_simp; (try with_reducible rfl)
  try simp only [Act.put, pu]
  refine ord_take (i := 10) (v := ?_) (by kernel_rfl) rfl (by decide) (by kernel_rfl) (by kernel_rfl) (fun _ _ _ h => h) (Or.inl ⟨by rfl, ?_⟩) hT ?_
  rotate_left
  ·intro wz hz; go_simp; (try with_reducible rfl)
  try simp only [Act.put, pu]
  refine ord_take (i := 11) (v := ?_) (by kernel_rfl) rfl (by decide) (by kernel_rfl) (by kernel_rfl) (fun _ _ _ h => h) (Or.inl ⟨by rfl, ?_⟩) hT ?_
  rotate_left
  ·intro wz hz; go_simp; (try with_reducible rfl)
  try simp only [Act.put, pu]
  refine ord_take (i := 12) (v := ?_) (by kernel_rfl) rfl (by decide) (by kernel_rfl) (by kernel_rfl) (fun _ _ _ h => h) (Or.inl ⟨by rfl, ?_⟩) hT ?_
  rotate_left
  ·intro wz hz; go_simp; (try with_reducible rfl)
  try simp only [Act.put, pu]
  refine ord_take (i := 13) (v := ?_) (by kernel_rfl) rfl (by decide) (by kernel_rfl) (by kernel_rfl) (fun _ _ _ h => h) (Or.inl ⟨by rfl, ?_⟩) hT ?_
  rotate_left
  ·intro wz hz; go_simp; (try with_reducible rfl)
  try simp only [Act.put, pu]
  refine ord_take (i := 14) (v := ?_) (by kernel_rfl) rfl (by decide) (by kernel_rfl) (by kernel_rfl) (fun _ _ _ h => h) (Or.inl ⟨by rfl, ?_⟩) hT ?_
  rotate_left
  ·intro wz hz; go_simp; (try with_reducible rfl)
  try simp only [Act.put, pu]
  refine ord_take (i := 15) (v := ?_) (by kernel_rfl) rfl (by decide) (by kernel_rfl) (by kernel_rfl) (fun _ _ _ h => h) (Or.inl ⟨by rfl, ?_⟩) hT ?_
  rotate_left
  ·intro wz hz; have j := J.below hz J.lt; have q3 := j.cell 3; go_simp; (try with_reducible rfl)
  try simp only [Act.put, pu]
  refine ord_take (i := 16) (v := ?_) (by kernel_rfl) rfl (by decide) (by kernel_rfl) (by kernel_rfl) (fun _ _ _ h => h) (Or.inl ⟨by rfl, ?_⟩) hT ?_
  rotate_left
  ·intro wz hz; go_simp; (try with_reducible rfl)
  try simp only [Act.put, pu]
  refine ord_step (i := 5) rfl (by decide) (by kernel_rfl) (by rfl) (fun K hK => ?_)
  go_simp
  refine (there_any ⟨f, t, c, r, p0, p1, p2, p3, p4⟩ _).mono ?_
  rintro y Va ⟨rfl, hb⟩
  have hx := bltB hT hT.size hb
  clear hb hT
  refine hK _ _ hx ?_
  clear hK K
  try simp only [Act.put, pu]
  refine ord_rest (by kernel_rfl) ?_
  have hM2 := hM.on hx
  have J := J.below hx J.lt
  have hN := hN.below hx hN.lt
  have hK := hK.below hx hK.lt
  have hb5 := bltB hb5 hb5.size hx
  obtain ⟨W6, hrun, hM, hga⟩ := hM2.put (by omega) hfk hc i0 i1 i4
  simp only [wayV]
  refine any_step (i := 17) rfl (by kernel_rfl) (by rfl) (fun K hK => ?_)
  go_simp
  refine hK _ _ ?_
  clear hK K
  try simp only [Act.put, pu]
  refine wpAny_done (by kernel_rfl) ?_ _
  refine NoPanic.normal ?_
  clear hrun hM2 hx
  have J := J.grown hga hbG0
  have hN := hN.grown hga hbG6
  have hK := hK.grown hga hbG7
  have hfin := below_then hb5 hga
  go_wp2_with fail
  refine wp_region_noPanic ?_
  refine ord_begin 24 (fun wx => Below W6.heap.size W6 wx) (by kernel_rfl) ?_
  have hT : Below W6.heap.size W6 W6.drew := (Below.refl _ _).drew
  refine ord_take (i := 0) (v := ?_) (by kernel_rfl) rfl (by decide) (by kernel_rfl) (by kernel_rfl) (fun _ _ _ h => h) (Or.inl ⟨by rfl, ?_⟩) hT ?_
  rotate_left
  ·intro wz hz; go_simp; (try with_reducible rfl)
  try simp only [Act.put, pu]
  refine ord_take (i := 1) (v := ?_) (by kernel_rfl) rfl (by decide) (by kernel_rfl) (by kernel_rfl) (fun _ _ _ h => h) (Or.inl ⟨by rfl, ?_⟩) hT ?_
  rotate_left
  ·intro wz hz; have j := hM.box.below hz hM.box.lt; have q := j.cell 0; go_simp; (try with_reducible rfl)
  try simp only [Act.put, pu]
  refine ord_take (i := 2) (v := ?_) (by kernel_rfl) rfl (by decide) (by kernel_rfl) (by kernel_rfl) (fun _ _ _ h => h) (Or.inl ⟨by rfl, ?_⟩) hT ?_
  rotate_left
  ·intro wz hz; go_simp; (try with_reducible rfl)
  try simp only [Act.put, pu]
  refine ord_take (i := 3) (v := ?_) (by kernel_rfl) rfl (by decide) (by kernel_rfl) (by kernel_rfl) (fun _ _ _ h => h) (Or.inl ⟨by rfl, ?_⟩) hT ?_
  rotate_left
  ·intro wz hz; have j := hM.box.below hz hM.box.lt; have q := j.cell 0; go_simp; (try with_reducible rfl)
  try simp only [Act.put, pu]
  refine ord_take (i := 4) (v := ?_) (by kernel_rfl) rfl (by decide) (by kernel_rfl) (by kernel_rfl) (fun _ _ _ h => h) (Or.inl ⟨by rfl, ?_⟩) hT ?_
  rotate_left
  ·intro wz hz; have j := J.below hz J.lt; have q0 := j.cell 0; have q1 := j.cell 1; have q2 := j.cell 2; have q3 := j.cell 3; have q4 := j.cell 4; have q5 := j.cell 5; have q6 := j.cell 6; have q7 := j.cell 7; have q8 := j.cell 8; go_simp; (try with_reducible rfl)
  try simp only [Act.put, pu]
  refine ord_take (i := 6) (v := ?_) (by kernel_rfl) rfl (by decide) (by kernel_rfl) (by kernel_rfl) (fun _ _ _ h => h) (Or.inl ⟨by rfl, ?_⟩) hT ?_
  rotate_left
  ·intro wz hz; go_simp; (try with_reducible rfl)
  try simp only [Act.put, pu]
  refine ord_take (i := 7) (v := ?_) (by kernel_rfl) rfl (by decide) (by kernel_rfl) (by kernel_rfl) (fun _ _ _ h => h) (Or.inl ⟨by rfl, ?_⟩) hT ?_
  rotate_left
  ·intro wz hz; have j := hK.below hz hK.lt; have q0 := j.cell 0; have q1 := j.cell 1; go_simp; (try with_reducible rfl)
  try simp only [Act.put, pu]
  refine ord_take (i := 8) (v := ?_) (by kernel_rfl) rfl (by decide) (by kernel_rfl) (by kernel_rfl) (fun _ _ _ h => h) (Or.inl ⟨by rfl, ?_⟩) hT ?_
  rotate_left
  ·intro wz hz; go_simp; (try with_reducible rfl)
  try simp only [Act.put, pu]
  refine ord_take (i := 9) (v := ?_) (by kernel_rfl) rfl (by decide) (by kernel_rfl) (by kernel_rfl) (fun _ _ _ h => h) (Or.inl ⟨by rfl, ?_⟩) hT ?_
  rotate_left
  ·intro wz hz; go_simp; (try with_reducible rfl)
  try simp only [Act.put, pu]
  refine ord_take (i := 10) (v := ?_) (by kernel_rfl) rfl (by decide) (by kernel_rfl) (by kernel_rfl) (fun _ _ _ h => h) (Or.inl ⟨by rfl, ?_⟩) hT ?_
  rotate_left
  ·intro wz hz; go_simp; (try with_reducible rfl)
  try simp only [Act.put, pu]
  refine ord_take (i := 11) (v := ?_) (by kernel_rfl) rfl (by decide) (by kernel_rfl) (by kernel_rfl) (fun _ _ _ h => h) (Or.inl ⟨by rfl, ?_⟩) hT ?_
  rotate_left
  ·intro wz hz; have j := J.below hz J.lt; have q3 := j.cell 3; go_simp; (try with_reducible rfl)
  try simp only [Act.put, pu]
  refine ord_take (i := 12) (v := ?_) (by kernel_rfl) rfl (by decide) (by kernel_rfl) (by kernel_rfl) (fun _ _ _ h => h) (Or.inl ⟨by rfl, ?_⟩) hT ?_
  rotate_left
  ·intro wz hz; go_simp; (try with_reducible rfl)
  try simp only [Act.put, pu]
  refine ord_take (i := 13) (v := ?_) (by kernel_rfl) rfl (by decide) (by kernel_rfl) (by kernel_rfl) (fun _ _ _ h => h) (Or.inl ⟨by rfl, ?_⟩) hT ?_
  rotate_left
  ·intro wz hz; go_simp; (try with_reducible rfl)
  try simp only [Act.put, pu]
  refine ord_take (i := 14) (v := ?_) (by kernel_rfl) rfl (by decide) (by kernel_rfl) (by kernel_rfl) (fun _ _ _ h => h) (Or.inl ⟨by rfl, ?_⟩) hT ?_
  rotate_left
  ·intro wz hz; have j := hK.below hz hK.lt; have q0 := j.cell 0; have q1 := j.cell 1; go_simp; (try with_reducible rfl)
  try simp only [Act.put, pu]
  refine ord_take (i := 15) (v := ?_) (by kernel_rfl) rfl (by decide) (by kernel_rfl) (by kernel_rfl) (fun _ _ _ h => h) (Or.inl ⟨by rfl, ?_⟩) hT ?_
  rotate_left
  ·intro wz hz; go_simp; (try with_reducible rfl)
  try simp only [Act.put, pu]
  refine ord_take (i := 16) (v := ?_) (by kernel_rfl) rfl (by decide) (by kernel_rfl) (by kernel_rfl) (fun _ _ _ h => h) (Or.inl ⟨by rfl, ?_⟩) hT ?_
  rotate_left
  ·intro wz hz; go_simp; (try with_reducible rfl)
  try simp only [Act.put, pu]
  refine ord_take (i := 17) (v := ?_) (by kernel_rfl) rfl (by decide) (by kernel_rfl) (by kernel_rfl) (fun _ _ _ h => h) (Or.inl ⟨by rfl, ?_⟩) hT ?_
  rotate_left
  ·intro wz hz; go_simp; (try with_reducible rfl)
  try simp only [Act.put, pu]
  refine ord_take (i := 18) (v := ?_) (by kernel_rfl) rfl (by decide) (by kernel_rfl) (by kernel_rfl) (fun _ _ _ h => h) (Or.inl ⟨by rfl, ?_⟩) hT ?_
  rotate_left
  ·intro wz hz; have j := J.below hz J.lt; have q3 := j.cell 3; go_simp; (try with_reducible rfl)
  try simp only [Act.put, pu]
  refine ord_take (i := 19) (v := ?_) (by kernel_rfl) rfl (by decide) (by kernel_rfl) (by kernel_rfl) (fun _ _ _ h => h) (Or.inl ⟨by rfl, ?_⟩) hT ?_
  rotate_left
  ·intro wz hz; go_simp; (try with_reducible rfl)
  try simp only [Act.put, pu]
  refine ord_take (i := 20) (v := ?_) (by kernel_rfl) rfl (by decide) (by kernel_rfl) (by kernel_rfl) (fun _ _ _ h => h) (Or.inl ⟨by rfl, ?_⟩) hT ?_
  rotate_left
  ·intro wz hz; go_simp; (try with_reducible rfl)
  try simp only [Act.put, pu]
  refine ord_take (i := 21) (v := ?_) (by kernel_rfl) rfl (by decide) (by kernel_rfl) (by kernel_rfl) (fun _ _ _ h => h) (Or.inl ⟨by rfl, ?_⟩) hT ?_
  rotate_left
  ·intro wz hz; go_simp; (try with_reducible rfl)
  try simp only [Act.put, pu]
  refine ord_take (i := 22) (v := ?_) (by kernel_rfl) rfl (by decide) (by kernel_rfl) (by kernel_rfl) (fun _ _ _ h => h) (Or.inl ⟨by rfl, ?_⟩) hT ?_
  rotate_left
  ·intro wz hz; have j := J.below hz J.lt; have q3 := j.cell 3; go_simp; (try with_reducible rfl)
  try simp only [Act.put, pu]
  refine ord_take (i := 23) (v := ?_) (by kernel_rfl) rfl (by decide) (by kernel_rfl) (by kernel_rfl) (fun _ _ _ h => h) (Or.inl ⟨by rfl, ?_⟩) hT ?_
  rotate_left
  ·intro wz hz; go_simp; (try with_reducible rfl)
  try simp only [Act.put, pu]
  refine ord_step (i := 5) rfl (by decide) (by kernel_rfl) (by rfl) (fun K hK => ?_)
  go_simp
  refine (lback_any ⟨f, t, c, r, p0, p1, p2, p3, p4⟩ _).mono ?_
  rintro y Vb ⟨rfl, hb⟩
  have hx := bltB hT hT.size hb
  clear hb hT
  refine hK _ _ hx ?_
  clear hK K
  try simp only [Act.put, pu]
  refine ord_rest (by kernel_rfl) ?_
  have hM2 := hM.on hx
  have J := J.below hx J.lt
  have hN := hN.below hx hN.lt
  have hK := hK.below hx hK.lt
  obtain ⟨W7, hrun, hM, hgb⟩ := hM2.put (by omega) htk hc i2 i3 i4
  simp only [wayV]
  refine any_step (i := 24) rfl (by kernel_rfl) (by rfl) (fun K hK => ?_)
  go_simp
  refine hK _ _ ?_
  clear hK K
  try simp only [Act.put, pu]
  refine wpAny_done (by kernel_rfl) ?_ _
  refine NoPanic.normal ?_
  clear hrun hM2
  have hfin2 := hfin.andThen (below_then hx hgb) (fun j hj => .inr (by rw [← hj]))
  have HM := Lib.hid hM
  clear hM J hN hK hx
  go_wp2_with fail
  exact bodyPost_end (v := .tuple #[]) (by simp [results, Tryz.f38, go_sem]) rfl ⟨rfl, by rw [HB.out]; exact HM.out, hfin2⟩
end Go.Proofs.YthefgdehfgkhhaaGreat
