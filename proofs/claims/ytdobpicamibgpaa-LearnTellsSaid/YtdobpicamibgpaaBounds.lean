/-
  A mind: Bounds.
-/
import Derived.Test.YtdobpicamibgpaaMof
import Derived.Test.YtdobpicamibgpaaOrd2
import Derived.Deep.RegionHeld3
import Derived.Deep.DrawnRows
namespace Go.Proofs.Ytdobpicamibgpaa
open Go.RowKit Go.Maps
set_option linter.unusedVariables false
set_option linter.unusedSimpArgs false
attribute [local go_sem] Oper.semAt_some

def Ed.e4 (e : Ed) : E4 := ⟨e.f, e.t, e.c, e.r⟩
def bnd (L : Notes) (e : E4) : Int × Int := if e.ok then cnt L (e.f, e.c) e.r else (0, 0)

/-- A mind stays what it is while new memory is made. -/
theorem MindAt.on {w w' : World} {p b n : Nat} {L : Notes} (h : MindAt w p b n L) (hb : Below w.heap.size w w') : MindAt w' p b n L :=
  ⟨h.box.below hb h.box.lt, by obtain ⟨D, h1, h2⟩ := h.own; exact ⟨D, own_at h1 (hb.block b h1.lt), h2⟩, h.ne⟩

theorem isI_of {z : Int} (h1 : 0 ≤ z) (h2 : z < 1048576) : isI z := ⟨by omega, by omega⟩

set_option maxRecDepth 100000 in
set_option maxHeartbeats 1000000 in
theorem bounds_any (w : World) (p b n : Nat) (L : Notes) (h : MindAt w p b n L) (hgd : Good L) (e : Ed) : Calls Try.prog 17 #[.pointer (some ⟨p, 0, none⟩), e.v] w fun x w' => x = .returned (.tuple #[.int .i64 (bnd L e.e4).1, .int .i64 (bnd L e.e4).2]) ∧ Below w.heap.size w w' := by
  obtain ⟨f, t, c, r, p0, p1, p2, p3, p4⟩ := e
  have hb0 : Below w.heap.size w (w.alloc (.cells #[.int .i64 f, .int .i64 t, .int .i64 c, .int .i64 r, .int .i64 p0, .int .i64 p1, .int .i64 p2, .int .i64 p3, .int .i64 p4] 26)) := (Below.refl _ _).alloc (Nat.le_refl _) _
  have J0 : Blk (w.alloc (.cells #[.int .i64 f, .int .i64 t, .int .i64 c, .int .i64 r, .int .i64 p0, .int .i64 p1, .int .i64 p2, .int .i64 p3, .int .i64 p4] 26)) w.heap.size 26 #[.int .i64 f, .int .i64 t, .int .i64 c, .int .i64 r, .int .i64 p0, .int .i64 p1, .int .i64 p2, .int .i64 p3, .int .i64 p4] := Blk.new w _ _
  have hM0 := h.on hb0
  obtain ⟨w0, hw0⟩ : ∃ w0, w0 = w.alloc (.cells #[.int .i64 f, .int .i64 t, .int .i64 c, .int .i64 r, .int .i64 p0, .int .i64 p1, .int .i64 p2, .int .i64 p3, .int .i64 p4] 26) := ⟨_, rfl⟩
  rw [← hw0] at hb0 J0 hM0
  have j0 := J0.cell 0
  have j1 := J0.cell 1
  have j2 := J0.cell 2
  have j3 := J0.cell 3
  have j4 := J0.cell 4
  have j5 := J0.cell 5
  have j6 := J0.cell 6
  have j7 := J0.cell 7
  have j8 := J0.cell 8
  simp only [Ed.v, Ed.cs]
  go_enter Try.func17, Try.ntmps17
  go_wp2_with fail
  rw [← hw0]
  clear hw0
  go_wp2_with fail
  refine (may_any ⟨f, t, c, r, p0, p1, p2, p3, p4⟩ w0).mono ?_
  rintro y w1 ⟨rfl, hb⟩
  have J := J0.below hb J0.lt
  have hM := hM0.on hb
  have hb1 := bltB hb0 hb0.size hb
  clear hb j0 j1 j2 j3 j4 j5 j6 j7 j8 hM0 h
  simp only
  rcases hm : mayB f t c r with _ | _
  · have HB : Hid (bnd L (Ed.e4 ⟨f, t, c, r, p0, p1, p2, p3, p4⟩) = (0, 0)) := Lib.hid (by unfold bnd; rw [if_neg]; simp only [E4.ok, Ed.e4, hm]; decide)
    go_wp2_with fail
    exact bodyPost_ret (v := .tuple #[.int .i64 0, .int .i64 0]) (by simp [results, Try.f17, go_sem]) rfl ⟨by rw [HB.out], hb1⟩
  · have HB : Hid (bnd L (Ed.e4 ⟨f, t, c, r, p0, p1, p2, p3, p4⟩) = cnt L (f, c) r) := Lib.hid (by unfold bnd; rw [if_pos]; rfl; exact hm)
    have hs := mayB_iff.1 hm
    have hfk : isI f := isI_of hs.1.1 (by omega)
    have hc : isI c := isI_of hs.2.2.2.1.1 hs.2.2.2.1.2
    have hr0 := hs.2.2.2.2.1
    have hr1 := hs.2.2.2.2.2
    clear hs hm
    go_wp2_with fail
    refine wp_region_noPanic ?_
    refine ord_begin 7 (fun wx => Below w1.heap.size w1 wx) (by kernel_rfl) ?_
    have hT : Below w1.heap.size w1 w1.drew := (Below.refl _ _).drew
    refine ord_take (i := 0) (v := ?_) (by kernel_rfl) rfl (by decide) (by kernel_rfl) (by kernel_rfl) (fun _ _ _ h => h) (Or.inl ⟨by rfl, ?_⟩) hT ?_
    rotate_left
    · intro wz hz; go_simp; (try with_reducible rfl)
    try simp only [Act.put, List.getElem_toArray, List.getElem_cons_zero, List.getElem_cons_succ, List.setIfInBounds_toArray, List.set_cons_zero, List.set_cons_succ]
    refine ord_take (i := 1) (v := ?_) (by kernel_rfl) rfl (by decide) (by kernel_rfl) (by kernel_rfl) (fun _ _ _ h => h) (Or.inl ⟨by rfl, ?_⟩) hT ?_
    rotate_left
    · intro wz hz; have j := J.below hz J.lt; have q0 := j.cell 0; have q1 := j.cell 1; have q2 := j.cell 2; have q3 := j.cell 3; have q4 := j.cell 4; have q5 := j.cell 5; have q6 := j.cell 6; have q7 := j.cell 7; have q8 := j.cell 8; go_simp; (try with_reducible rfl)
    try simp only [Act.put, List.getElem_toArray, List.getElem_cons_zero, List.getElem_cons_succ, List.setIfInBounds_toArray, List.set_cons_zero, List.set_cons_succ]
    refine ord_take (i := 3) (v := ?_) (by kernel_rfl) rfl (by decide) (by kernel_rfl) (by kernel_rfl) (fun _ _ _ h => h) (Or.inl ⟨by rfl, ?_⟩) hT ?_
    rotate_left
    · intro wz hz; go_simp; (try with_reducible rfl)
    try simp only [Act.put, List.getElem_toArray, List.getElem_cons_zero, List.getElem_cons_succ, List.setIfInBounds_toArray, List.set_cons_zero, List.set_cons_succ]
    refine ord_take (i := 4) (v := ?_) (by kernel_rfl) rfl (by decide) (by kernel_rfl) (by kernel_rfl) (fun _ _ _ h => h) (Or.inl ⟨by rfl, ?_⟩) hT ?_
    rotate_left
    · intro wz hz; have j := J.below hz J.lt; have q3 := j.cell 3; go_simp; (try with_reducible rfl)
    try simp only [Act.put, List.getElem_toArray, List.getElem_cons_zero, List.getElem_cons_succ, List.setIfInBounds_toArray, List.set_cons_zero, List.set_cons_succ]
    refine ord_funnel (F := ?F) (k := 1) #[true, true, true, true, true, true, true, false] (fun G2 W => Blk W G2 72 #[.int .i64 0, .int .i64 0, .int .i64 0] ∧ Below w1.heap.size w1 W ∧ w1.heap.size ≤ G2) ?_ ?_
    rotate_left
    · intro HQ
      refine ord_step2 (i := 2) (k := 6) rfl rfl (by decide) (by decide) (by kernel_rfl) (by rfl) (by rfl) (fun K hK => ?_) (fun K hK => ?_)
      · go_simp
        refine (there_any ⟨f, t, c, r, p0, p1, p2, p3, p4⟩ _).mono ?_
        rintro y X1 ⟨rfl, hb⟩
        have hx1 := bltB hT hT.size hb
        clear hb
        refine hK _ _ hx1 ?_
        clear hK K
        try simp only [Act.put, List.getElem_toArray, List.getElem_cons_zero, List.getElem_cons_succ, List.setIfInBounds_toArray, List.set_cons_zero, List.set_cons_succ]
        refine ord_step2 (i := 5) (k := 6) rfl rfl (by decide) (by decide) (by kernel_rfl) (by rfl) (by rfl) (fun K hK => ?_) (fun K hK => ?_)
        · go_simp
          refine (of_note_any _ p b n L (hM.on hx1) hgd f c r hfk hc hr0 hr1).mono ?_
          rintro y X2 ⟨rfl, hb⟩
          have hx2 := bltB hx1 hx1.size hb
          clear hb
          refine hK _ _ hx2 ?_
          clear hK K
          try simp only [Act.put, List.getElem_toArray, List.getElem_cons_zero, List.getElem_cons_succ, List.setIfInBounds_toArray, List.set_cons_zero, List.set_cons_succ]
          refine ord_step (i := 6) rfl (by decide) (by kernel_rfl) (by rfl) (fun K hK => ?_)
          go_simp
          obtain ⟨G2, hG2⟩ : ∃ G2, X2.heap.size = G2 := ⟨_, rfl⟩
          have hN : Blk (X2.alloc (.cells #[.int .i64 0, .int .i64 0, .int .i64 0] 72)) G2 72 #[.int .i64 0, .int .i64 0, .int .i64 0] := hG2 ▸ Blk.new X2 _ _
          rw [hG2]
          refine hK _ _ (hx2.alloc hx2.size _) ?_
          clear hK K
          try simp only [Act.put, List.getElem_toArray, List.getElem_cons_zero, List.getElem_cons_succ, List.setIfInBounds_toArray, List.set_cons_zero, List.set_cons_succ]
          refine ord_relist #[true, true, true, true, true, true, true, false] (by kernel_rfl) ?_
          exact HQ _ _ ⟨hN, hx2.alloc hx2.size _, hG2 ▸ hx2.size⟩
        · go_simp
          obtain ⟨G2, hG2⟩ : ∃ G2, X1.heap.size = G2 := ⟨_, rfl⟩
          have hN : Blk (X1.alloc (.cells #[.int .i64 0, .int .i64 0, .int .i64 0] 72)) G2 72 #[.int .i64 0, .int .i64 0, .int .i64 0] := hG2 ▸ Blk.new X1 _ _
          rw [hG2]
          have hx2 := hx1.alloc hx1.size (.cells #[.int .i64 0, .int .i64 0, .int .i64 0] 72)
          have hG : w1.heap.size ≤ G2 := hG2 ▸ hx1.size
          refine hK _ _ hx2 ?_
          clear hK K
          try simp only [Act.put, List.getElem_toArray, List.getElem_cons_zero, List.getElem_cons_succ, List.setIfInBounds_toArray, List.set_cons_zero, List.set_cons_succ]
          refine ord_step (i := 5) rfl (by decide) (by kernel_rfl) (by rfl) (fun K hK => ?_)
          go_simp
          refine (of_note_any _ p b n L (hM.on hx2) hgd f c r hfk hc hr0 hr1).mono ?_
          rintro y X3 ⟨rfl, hb⟩
          have hx3 := bltB hx2 hx2.size hb
          have hN3 := hN.below hb hN.lt
          clear hb
          refine hK _ _ hx3 ?_
          clear hK K
          try simp only [Act.put, List.getElem_toArray, List.getElem_cons_zero, List.getElem_cons_succ, List.setIfInBounds_toArray, List.set_cons_zero, List.set_cons_succ]
          refine ord_relist #[true, true, true, true, true, true, true, false] (by kernel_rfl) ?_
          exact HQ _ _ ⟨hN3, hx3, hG⟩
      · go_simp
        obtain ⟨G2, hG2⟩ : ∃ G2, w1.heap.size = G2 := ⟨_, rfl⟩
        have hN : Blk (w1.alloc (.cells #[.int .i64 0, .int .i64 0, .int .i64 0] 72)).drew G2 72 #[.int .i64 0, .int .i64 0, .int .i64 0] := hG2 ▸ (Blk.new w1 _ _).drew
        rw [hG2]
        have hx1 : Below w1.heap.size w1 (w1.alloc (.cells #[.int .i64 0, .int .i64 0, .int .i64 0] 72)).drew := ((Below.refl _ _).alloc (Nat.le_refl _) _).drew
        have hG : w1.heap.size ≤ G2 := Nat.le_of_eq hG2
        refine hK _ _ hx1 ?_
        clear hK K
        try simp only [Act.put, List.getElem_toArray, List.getElem_cons_zero, List.getElem_cons_succ, List.setIfInBounds_toArray, List.set_cons_zero, List.set_cons_succ]
        refine ord_step (i := 2) rfl (by decide) (by kernel_rfl) (by rfl) (fun K hK => ?_)
        go_simp
        refine (there_any ⟨f, t, c, r, p0, p1, p2, p3, p4⟩ _).mono ?_
        rintro y X2 ⟨rfl, hb⟩
        have hx2 := bltB hx1 hx1.size hb
        have hN2 := hN.below hb hN.lt
        clear hb
        refine hK _ _ hx2 ?_
        clear hK K
        try simp only [Act.put, List.getElem_toArray, List.getElem_cons_zero, List.getElem_cons_succ, List.setIfInBounds_toArray, List.set_cons_zero, List.set_cons_succ]
        refine ord_step (i := 5) rfl (by decide) (by kernel_rfl) (by rfl) (fun K hK => ?_)
        go_simp
        refine (of_note_any _ p b n L (hM.on hx2) hgd f c r hfk hc hr0 hr1).mono ?_
        rintro y X3 ⟨rfl, hb⟩
        have hx3 := bltB hx2 hx2.size hb
        have hN3 := hN2.below hb hN2.lt
        clear hb
        refine hK _ _ hx3 ?_
        clear hK K
        try simp only [Act.put, List.getElem_toArray, List.getElem_cons_zero, List.getElem_cons_succ, List.setIfInBounds_toArray, List.set_cons_zero, List.set_cons_succ]
        refine ord_relist #[true, true, true, true, true, true, true, false] (by kernel_rfl) ?_
        exact HQ _ _ ⟨hN3, hx3, hG⟩
    rintro G2 W2 ⟨hN0, hb2, hG2⟩
    simp only [noteV, wayV]
    refine ord_rest (by kernel_rfl) ?_
    have hc0 := hN0.cell 0
    have hc1 := hN0.cell 1
    have hc2 := hN0.cell 2
    have hf0 := hN0.frozen 0
    have hf1 := hN0.frozen 1
    have hf2 := hN0.frozen 2
    refine any_step (i := 7) rfl (by kernel_rfl) (by rfl) (fun K hK => ?_)
    go_simp
    refine hK _ _ ?_
    clear hK K
    try simp only [Act.put, List.getElem_toArray, List.getElem_cons_zero, List.getElem_cons_succ, List.setIfInBounds_toArray, List.set_cons_zero, List.set_cons_succ]
    have hN : Blk (((W2.setCell ⟨G2, 0, none⟩ (.int .i64 (cnt L (f, c) r).1)).setCell ⟨G2, 1, none⟩ (.int .i64 (cnt L (f, c) r).2)).setCell ⟨G2, 2, none⟩ (.int .i64 r)) G2 72 #[.int .i64 (cnt L (f, c) r).1, .int .i64 (cnt L (f, c) r).2, .int .i64 r] := ((hN0.set_ 0 _).set_ 1 _).set_ 2 _
    have hb3 := ((hb2.setCell (p := ⟨G2, 0, none⟩) hG2 (.int .i64 (cnt L (f, c) r).1)).setCell (p := ⟨G2, 1, none⟩) hG2 (.int .i64 (cnt L (f, c) r).2)).setCell (p := ⟨G2, 2, none⟩) hG2 (.int .i64 r)
    generalize ((W2.setCell ⟨G2, 0, none⟩ (.int .i64 (cnt L (f, c) r).1)).setCell ⟨G2, 1, none⟩ (.int .i64 (cnt L (f, c) r).2)).setCell ⟨G2, 2, none⟩ (.int .i64 r) = W3 at *
    clear hc0 hc1 hc2 hf0 hf1 hf2 hN0 hb2
    refine wpAny_done (by kernel_rfl) ?_ _
    refine NoPanic.normal ?_
    have hb4 := bltB hb1 hb1.size hb3
    have hn0 := hN.cell 0
    have hn1 := hN.cell 1
    clear hb3 hN hM J
    go_wp2_with fail
    go_big_region
    go_wp2_with fail
    exact bodyPost_ret (v := .tuple #[.int .i64 (cnt L (f, c) r).1, .int .i64 (cnt L (f, c) r).2]) (by simp [results, Try.f17, go_sem]) rfl ⟨by rw [HB.out], hb4.drew⟩

end Go.Proofs.Ytdobpicamibgpaa
