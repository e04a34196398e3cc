/-
  Routes: the way with the greatest odds is looked for.
-/
import Derived.Test.YthefgdehfgkhhaaGreatK01
import Derived.Test.YthefgdehfgkhhaaGreatK13
namespace Go.Proofs.YthefgdehfgkhhaaGreat
open Go.RowKit Go.Shelf
set_option linter.unusedVariables false
set_option linter.unusedSimpArgs false
attribute [local go_sem] Oper.semAt_some
theorem own_blk {w : World} {g base : Nat} {e : Ed} (k : Blk w g 56 e.cs) (hb : base ≤ g := by omega) : w.ownsRow base 56 9 (.slice (some ⟨g, 0, none⟩) 1 1) 1 (efl [e]) :=
 ⟨rfl, .inr ⟨g, 1, e.cs, rfl, hb, k, Nat.le_refl _, by decide, rfl, by simp [efl, ecs, Ed.cs]⟩⟩
def LookEnd (w : World) (bb : Nat) (o : Option Fnd) (y : Ending) (w' : World) : Prop := y = .returned (.tuple #[]) ∧ BestAt w' bb o ∧ Gr (· = bb) w w'
def LookSpec (L : Notes) (b m0 : Nat) (e : LookEnv) (g : List Ed) (n : Nat) : Prop :=
 ∀ (w : World) (o : Option Fnd) (A : Option Addr) (nw c : Nat) (l : List Ed) (at_ : Int), l.length + n = 8 → RE w A nw c l → MindAt w e.p b m0 L → EnvAt w e g → BestAt w e.bb o → (l = [] → at_ ≠ e.fr) →
  Calls Tryz.prog 96 #[.slice A nw c, .int .i64 at_, .pointer (some ⟨e.bm, 0, none⟩), .pointer (some ⟨e.ba, 0, none⟩), .pointer (some ⟨e.bx, 0, none⟩), .pointer (some ⟨e.bb, 0, none⟩), .pointer (some ⟨e.bf, 0, none⟩), .pointer (some ⟨e.bg, 0, none⟩), .pointer (some ⟨e.bt, 0, none⟩), .pointer (some ⟨e.bl, 0, none⟩)] w (LookEnd w e.bb (lookF L g e.fr e.td e.a e.x n o l at_))
/-- One edge more ahead. -/
def lookT (L : Notes) (g : List Ed) (fr td a x : Int) (n : Nat) (o : Option Fnd) (l : List Ed) (at_ : Int) : Option Fnd := match n with
 | 0 => o
 | k + 1 => (intoG g at_).foldl (fun b e => if decide (e.f = td) || l.any (fun y => decide (y.f = e.f)) then b else lookF L g fr td a x k b (e :: l) e.f) o
theorem look_eq (L : Notes) (g : List Ed) (fr td a x : Int) (n : Nat) (o : Option Fnd) (l : List Ed) (at_ : Int) : lookF L g fr td a x n o l at_ =
 if cutB l (oddsW L l a x) o then o
 else if at_ = fr then keepF o ⟨l, ((oddsW L l a x).getD (0, 0)).1, ((oddsW L l a x).getD (0, 0)).2⟩
 else lookT L g fr td a x n o l at_ := by
 cases n <;> rfl
set_option maxRecDepth 100000 in
set_option maxHeartbeats 1000000 in
theorem look_step (L : Notes) (hgd : Good L) (b m0 : Nat) (e : LookEnv) (g : List Ed) (hng : e.ng ≤ 1048576) (n : Nat) (ih : ∀ k, n = k + 1 → LookSpec L b m0 e g k) : LookSpec L b m0 e g n := by
 intro w o A nw c l at_ hln h hM hE hBe hat
 have HIH := Lib.hid ih
 have HL := Lib.hid h
 have Hlen := Lib.hid h.elen
 have HM := Lib.hid hM
 have HE := Lib.hid hE
 have HBE := Lib.hid hBe
 have HAT := Lib.hid hat
 have nq := fun (w : World) (a : Option Addr) (l c : Nat) => Go.run_neq_slice_nil (P := Tryz.prog) w 26 56 a l c Tryz.underlying26
 have eq_ := fun (w : World) (a : Option Addr) (l c : Nat) => Go.run_eql_slice_nil (P := Tryz.prog) w 26 56 a l c Tryz.underlying26
 have HQ := Lib.hid (look_eq L g e.fr e.td e.a e.x n o l at_)
 have HLN := Lib.hid hln
 have hw8 : nw ≤ 8 := by have := h.elen; omega
 clear h hE hBe hat ih hln
 obtain ⟨p, bm, ba, bx, bb, bf, bg, bt, bl, a, x, fr, td, Ag, ng, cg⟩ := e
 have HOD := Lib.hid (rodds_any w p b m0 L hM hgd A nw c l HL.out (by omega) a x)
 dsimp only at *
 obtain ⟨ow, how⟩ : ∃ z, oddsW L l a x = z := ⟨_, rfl⟩
 rw [how] at HQ HOD
 have HOW := Lib.hid how
 have q1 := HE.out.m
 have q2 := HE.out.a
 have q3 := HE.out.x
 dsimp only at q1 q2 q3
 clear hM how
 go_enter Tryz.func96, Tryz.ntmps96
 go_wp2_with fail
 clear q1 q2 q3
 refine HOD.out.mono ?_
 rcases ow with _ | ⟨q, s⟩
 ·rintro y w1 ⟨hb, z, hz, rfl⟩
  have hB1 := Lib.hid hb
  have hz1 : (z != 0) = true := by simpa using hz
  have hz2 : (z == 0) = false := by simpa using hz
  obtain ⟨W2, hW2⟩ : ∃ W, W = w1.alloc (.cells #[.slice none 0 0, .slice none 0 0] 34) := ⟨_, rfl⟩
  have hb2 : Below w1.heap.size w1 W2 := by rw [hW2]; exact (Below.refl _ _).alloc (Nat.le_refl _) _
  have k12 : Blk W2 w1.heap.size 34 #[.slice none 0 0, .slice none 0 0] := by rw [hW2]; exact Blk.new w1 _ _
  obtain ⟨G12, hG12⟩ : ∃ G, w1.heap.size = G := ⟨_, rfl⟩
  rw [hG12] at k12
  have hB2 := bltB hB1.out hB1.out.size hb2
  have HBE2 := Lib.hid (HBE.out.on hB2)
  have HE2 := Lib.hid (HE.out.gr (Gr.of_below hB2) HBE.out.blk)
  have HM2 := Lib.hid (HM.out.on hB2)
  have HL2 := Lib.hid (HL.out.on hB2)
  have z0 := k12.cell 0
  have z1 := k12.cell 1
  have q5 := HE2.out.f
  have q7 := HE2.out.g
  dsimp only at q5 q7
  clear hb hz hb2
  go_upto_region 1 with (fail)
  rw [← hW2]
  clear hW2 hG12 hB1
  rcases Nat.eq_zero_or_pos nw with h0 | h0
  rotate_left
  ·have hpos : (0 : Int) < (nw : Int) := by omega
   have HF : Hid (LookEnd w bb (lookF L g fr td a x n o l at_) (.returned (.tuple #[])) W2) := Lib.hid (by
    refine ⟨rfl, ?_, Gr.of_below hB2⟩
    have hne : l.isEmpty = false := by
     cases l with
     | nil => have := Hlen.out; simp at this; omega
     | cons => rfl
    rw [HQ.out, show cutB l none o = true by unfold cutB; rw [hne]; rfl, if_pos rfl]
    exact HBE2.out)
   go_wp2_with fail
   exact bodyPost_ret (v := .tuple #[]) (by simp [results, Tryz.f96, go_sem]) rfl HF.out
  ·have hng0 : ¬ (0 : Int) < (nw : Int) := by omega
   have hl0 : l = [] := List.eq_nil_of_length_eq_zero (by rw [Hlen.out]; exact h0)
   clear h0
   have hat0 : at_ ≠ fr := HAT.out hl0
   have HL0 := Lib.hid hl0
   have g1 : (at_ == fr) = false := by simpa using hat0
   have HQ2 : Hid (lookF L g fr td a x n o l at_ = lookT L g fr td a x n o l at_) := Lib.hid (by
    rw [HQ.out, show cutB l none o = false by unfold cutB; rw [HL0.out]; rfl, if_neg (by decide), if_neg hat0])
   clear hl0 hat0 HQ
   go_wp2_with fail
   rcases n with _ | k
   ·exfalso
    have h1 := HLN.out
    have h2 := Hlen.out
    omega
   ·have hnw : nw + (k + 1) = 8 := by have h1 := HLN.out; have h2 := Hlen.out; omega
    have g8 : ((nw : Int) == 8) = false := by simp; omega
    have HN8 := Lib.hid hnw
    clear hnw
    go_wp2_with fail
    refine (In_any W2 Ag ng cg g HE2.out.row hng at_).mono ?_
    rintro y' Wa ⟨v, rfl, hO, hba⟩
    obtain ⟨Ai, ci, rfl, rI⟩ := hO.row
    obtain ⟨gi, hgi⟩ : ∃ z, intoG g at_ = z := ⟨_, rfl⟩
    have HGL : Hid (gi.length ≤ 1048576) := Lib.hid (by rw [← hgi]; exact Nat.le_trans (List.length_filter_le _ _) (by rw [HE2.out.row.elen]; exact hng))
    have HQ3 : Hid (lookF L g fr td a x (k + 1) o l at_ = gi.foldl (fun b e => if decide (e.f = td) || l.any (fun y => decide (y.f = e.f)) then b else lookF L g fr td a x k b (e :: l) e.f) o) := Lib.hid (by rw [HQ2.out, ← hgi]; rfl)
    rw [hgi] at rI ⊢
    have RIa := Lib.hid rI
    have hBa := bltB hB2 hB2.size hba
    have HBa := Lib.hid (HBE2.out.on hba)
    have HEa := Lib.hid (HE2.out.gr (Gr.of_below hba) HBE2.out.blk)
    have HMa := Lib.hid (HM2.out.on hba)
    have HLa := Lib.hid (HL2.out.on hba)
    obtain ⟨nI, hnI⟩ : ∃ z, gi.length = z := ⟨_, rfl⟩
    have HNI := Lib.hid hnI
    have hI8 : nI ≤ 1048576 := hnI ▸ HGL.out
    rw [hnI] at RIa ⊢
    clear hO rI hba hgi hnI q5 q7
    obtain ⟨i0, hi, hz0', hz1', hz2'⟩ := info_parts infoE
    have HI := Lib.hid (And.intro hi (And.intro hz0' (And.intro hz1' hz2')))
    clear hi hz0' hz1' hz2'
    go_wp2_with fail
    go_loopw [75] (fun iv wr => ∃ i : Nat, i ≤ nI ∧ iv = .int .i64 i ∧ Hid (BestAt wr bb ((gi.take i).foldl (fun b e => if decide (e.f = td) || l.any (fun y => decide (y.f = e.f)) then b else lookF L g fr td a x k b (e :: l) e.f) o)) ∧ Gr (· = bb) Wa wr) (fun iv _ => nI - (intOf iv).toNat)
    case atStart => exact ⟨0, Nat.zero_le _, rfl, HBa, Gr.refl _ _⟩
    case round =>
     obtain ⟨i, hi, rfl, HBr, hg⟩ := hrel
     have hblk := HBa.out.blk
     have rIr := RE.gr RIa.out hg hblk
     have HEr := Lib.hid (HEa.out.gr hg hblk)
     have HMr := Lib.hid (HMa.out.look hg hblk)
     have HLr := Lib.hid (RE.gr HLa.out hg hblk)
     by_cases hlt : i < nI
     ·obtain ⟨b', off, e, hA, hb, hx, hat', a0, a1, a2, a3, a4, a5, a6, a7, a8⟩ := rIr.edge hlt
      obtain ⟨cur, hcur⟩ : ∃ z, (gi.take i).foldl (fun b e => if decide (e.f = td) || l.any (fun y => decide (y.f = e.f)) then b else lookF L g fr td a x k b (e :: l) e.f) o = z := ⟨_, rfl⟩
      have HFS : Hid ((gi.take (i + 1)).foldl (fun b e => if decide (e.f = td) || l.any (fun y => decide (y.f = e.f)) then b else lookF L g fr td a x k b (e :: l) e.f) o = if decide (e.f = td) || l.any (fun y => decide (y.f = e.f)) then cur else lookF L g fr td a x k cur (e :: l) e.f) := Lib.hid (by rw [takes_one gi hx, List.foldl_append, hcur]; rfl)
      rw [hcur] at HBr
      subst hA
      clear hx hat' hcur rIr hblk
      have hlt' : (i : Int) < (nI : Int) := by omega
      have HEV : Hid (e.cs = #[.int .i64 e.f, .int .i64 e.t, .int .i64 e.c, .int .i64 e.r, .int .i64 e.p0, .int .i64 e.p1, .int .i64 e.p2, .int .i64 e.p3, .int .i64 e.p4]) := Lib.hid rfl
      go_upto_region 10 with (fail)
      obtain ⟨W5, hW5⟩ : ∃ W, W = wr.alloc (.cells #[.int .i64 e.f, .int .i64 e.t, .int .i64 e.c, .int .i64 e.r, .int .i64 e.p0, .int .i64 e.p1, .int .i64 e.p2, .int .i64 e.p3, .int .i64 e.p4] 56) := ⟨_, rfl⟩
      have hb5 : Below wr.heap.size wr W5 := by rw [hW5]; exact (Below.refl _ _).alloc (Nat.le_refl _) _
      have k17 : Blk W5 wr.heap.size 56 e.cs := by rw [hW5]; exact Blk.new wr _ _
      obtain ⟨G17, hG17⟩ : ∃ G, wr.heap.size = G := ⟨_, rfl⟩
      rw [← hW5]
      rw [hG17] at k17 ⊢
      have HB5 := Lib.hid (HBr.out.on hb5)
      have HE5 := Lib.hid (HEr.out.gr (Gr.of_below hb5) HBr.out.blk)
      have HM5 := Lib.hid (HMr.out.on hb5)
      have HL5 := Lib.hid (HLr.out.on hb5)
      have hg5 := hg.trans (Gr.of_below hb5)
      clear hW5 hG17 hb5 hg a0 a1 a2 a3 a4 a5 a6 a7 a8 hb
      have q8 := HE5.out.t
      dsimp only at q8
      have v0 : W5.cell? ⟨G17, 0, none⟩ = some (.int .i64 e.f) := k17.cell 0
      have v1 : W5.cell? ⟨G17, 1, none⟩ = some (.int .i64 e.t) := k17.cell 1
      have v2 : W5.cell? ⟨G17, 2, none⟩ = some (.int .i64 e.c) := k17.cell 2
      have v3 : W5.cell? ⟨G17, 3, none⟩ = some (.int .i64 e.r) := k17.cell 3
      have v4 : W5.cell? ⟨G17, 4, none⟩ = some (.int .i64 e.p0) := k17.cell 4
      have v5 : W5.cell? ⟨G17, 5, none⟩ = some (.int .i64 e.p1) := k17.cell 5
      have v6 : W5.cell? ⟨G17, 6, none⟩ = some (.int .i64 e.p2) := k17.cell 6
      have v7 : W5.cell? ⟨G17, 7, none⟩ = some (.int .i64 e.p3) := k17.cell 7
      have v8 : W5.cell? ⟨G17, 8, none⟩ = some (.int .i64 e.p4) := k17.cell 8
      by_cases htd : e.f = td
      ·have g3 : (e.f == td) = true := by simpa using htd
       have HS : Hid (BestAt W5 bb ((gi.take (i + 1)).foldl (fun b e => if decide (e.f = td) || l.any (fun y => decide (y.f = e.f)) then b else lookF L g fr td a x k b (e :: l) e.f) o)) := Lib.hid (by rw [HFS.out, decide_eq_true htd, Bool.true_or, if_pos rfl]; exact HB5.out)
       clear htd
       go_wp2_with fail
       go_roundw
       case rel => exact ⟨i + 1, by omega, by go_num, HS, hg5⟩
       case measure => simp [intOf]; omega
      ·have g3 : (e.f == td) = false := by simpa using htd
       have HFT : Hid ((gi.take (i + 1)).foldl (fun b e => if decide (e.f = td) || l.any (fun y => decide (y.f = e.f)) then b else lookF L g fr td a x k b (e :: l) e.f) o = if l.any (fun y => decide (y.f = e.f)) then cur else lookF L g fr td a x k cur (e :: l) e.f) := Lib.hid (by rw [HFS.out, decide_eq_false htd, Bool.false_or])
       clear htd HFS
       go_wp2_with fail
       refine (has_any W5 A nw c l HL5.out (by omega) e.f G17 v0 k17.lt).mono ?_
       rintro y' W6 ⟨rfl, hb6⟩
       obtain ⟨hz, hhz⟩ : ∃ z, (l.any fun y => decide (y.f = e.f)) = z := ⟨_, rfl⟩
       rw [hhz] at HFT ⊢
       clear hhz q8 v0 v1 v2 v3 v4 v5 v6 v7 v8
       have HB6 := Lib.hid (HB5.out.on hb6)
       have HE6 := Lib.hid (HE5.out.gr (Gr.of_below hb6) HB5.out.blk)
       have HM6 := Lib.hid (HM5.out.on hb6)
       have HL6 := Lib.hid (HL5.out.on hb6)
       have hg6 := hg5.trans (Gr.of_below hb6)
       replace k17 := k17.below hb6 k17.lt
       clear hb6 hg5
       rcases hz with _ | _
       rotate_left
       ·have HS : Hid (BestAt W6 bb ((gi.take (i + 1)).foldl (fun b e => if decide (e.f = td) || l.any (fun y => decide (y.f = e.f)) then b else lookF L g fr td a x k b (e :: l) e.f) o)) := Lib.hid (by rw [HFT.out, if_pos rfl]; exact HB6.out)
        go_wp2_with fail
        go_roundw
        case rel => exact ⟨i + 1, by omega, by go_num, HS, hg6⟩
        case measure => simp [intOf]; omega
       ·rw [if_neg (by decide)] at HFT
        go_wp2_with fail
        have q9 := HE6.out.l
        dsimp only [LookEnv.caps] at q9
        have hbl : bl < W6.heap.size := HE6.out.lt.2.2.2
        refine wp_region_noPanic ?_
        refine ord_begin 7 (fun wx => Below W6.heap.size W6 wx) (by kernel_rfl) ?_
        have hx0 : Below W6.heap.size W6 W6.drew := (Below.refl _ _).drew
        refine ord_take (i := 0) (v := ?_) (by kernel_rfl) rfl (by decide) (by kernel_rfl) (by kernel_rfl) (fun _ _ _ h => h) (Or.inl ⟨by rfl, ?_⟩) hx0 ?_
        rotate_left
        ·intro wz hz; have y9 := (hz.cell (p := ⟨bl, 0, none⟩) hbl).trans q9; go_simp; (try with_reducible rfl)
        try simp only [Act.put, pu]
        refine ord_take (i := 1) (v := ?_) (by kernel_rfl) rfl (by decide) (by kernel_rfl) (by kernel_rfl) (fun _ _ _ h => h) (Or.inl ⟨by rfl, ?_⟩) hx0 ?_
        rotate_left
        ·intro wz hz; have j4 := k17.below hz k17.lt; have y0 : wz.cell? ⟨G17, 0, none⟩ = some (.int .i64 e.f) := j4.cell 0; have y1 : wz.cell? ⟨G17, 1, none⟩ = some (.int .i64 e.t) := j4.cell 1; have y2 : wz.cell? ⟨G17, 2, none⟩ = some (.int .i64 e.c) := j4.cell 2; have y3 : wz.cell? ⟨G17, 3, none⟩ = some (.int .i64 e.r) := j4.cell 3; have y4 : wz.cell? ⟨G17, 4, none⟩ = some (.int .i64 e.p0) := j4.cell 4; have y5 : wz.cell? ⟨G17, 5, none⟩ = some (.int .i64 e.p1) := j4.cell 5; have y6 : wz.cell? ⟨G17, 6, none⟩ = some (.int .i64 e.p2) := j4.cell 6; have y7 : wz.cell? ⟨G17, 7, none⟩ = some (.int .i64 e.p3) := j4.cell 7; have y8 : wz.cell? ⟨G17, 8, none⟩ = some (.int .i64 e.p4) := j4.cell 8; go_simp; (try with_reducible rfl)
        try simp only [Act.put, pu]
        refine ord_take (i := 3) (v := ?_) (by kernel_rfl) rfl (by decide) (by kernel_rfl) (by kernel_rfl) (fun _ _ _ h => h) (Or.inl ⟨by rfl, ?_⟩) hx0 ?_
        rotate_left
        ·intro wz hz; go_simp; (try with_reducible rfl)
        try simp only [Act.put, pu]
        refine ord_take (i := 5) (v := ?_) (by kernel_rfl) rfl (by decide) (by kernel_rfl) (by kernel_rfl) (fun _ _ _ h => h) (Or.inl ⟨by rfl, ?_⟩) hx0 ?_
        rotate_left
        ·intro wz hz; go_simp; (try with_reducible rfl)
        try simp only [Act.put, pu]
        refine ord_take (i := 6) (v := ?_) (by kernel_rfl) rfl (by decide) (by kernel_rfl) (by kernel_rfl) (fun _ _ _ h => h) (Or.inl ⟨by rfl, ?_⟩) hx0 ?_
        rotate_left
        ·intro wz hz; have j4 := k17.below hz k17.lt; have y0 : wz.cell? ⟨G17, 0, none⟩ = some (.int .i64 e.f) := j4.cell 0; have y1 : wz.cell? ⟨G17, 1, none⟩ = some (.int .i64 e.t) := j4.cell 1; have y2 : wz.cell? ⟨G17, 2, none⟩ = some (.int .i64 e.c) := j4.cell 2; have y3 : wz.cell? ⟨G17, 3, none⟩ = some (.int .i64 e.r) := j4.cell 3; have y4 : wz.cell? ⟨G17, 4, none⟩ = some (.int .i64 e.p0) := j4.cell 4; have y5 : wz.cell? ⟨G17, 5, none⟩ = some (.int .i64 e.p1) := j4.cell 5; have y6 : wz.cell? ⟨G17, 6, none⟩ = some (.int .i64 e.p2) := j4.cell 6; have y7 : wz.cell? ⟨G17, 7, none⟩ = some (.int .i64 e.p3) := j4.cell 7; have y8 : wz.cell? ⟨G17, 8, none⟩ = some (.int .i64 e.p4) := j4.cell 8; go_simp; (try with_reducible rfl)
        try simp only [Act.put, pu]
        refine ord_step (i := 2) rfl (by decide) (by kernel_rfl) (by rfl) (fun K hK => ?_)
        go_simp
        obtain ⟨W7, hW7⟩ : ∃ W, W = (W6.alloc (.cells #[.int .i64 e.f, .int .i64 e.t, .int .i64 e.c, .int .i64 e.r, .int .i64 e.p0, .int .i64 e.p1, .int .i64 e.p2, .int .i64 e.p3, .int .i64 e.p4] 56)).drew := ⟨_, rfl⟩
        have hb7 : Below W6.heap.size W6 W7 := by rw [hW7]; exact ((Below.refl _ _).alloc (Nat.le_refl _) _).drew
        have k90 : Blk W7 W6.heap.size 56 e.cs := by rw [hW7]; exact (Blk.new W6 _ _).drew
        have own7 : W7.ownsRow W6.heap.size 56 9 (.slice (some ⟨W6.heap.size, 0, none⟩) 1 1) 1 (efl [e]) := own_blk k90
        rw [← hW7]
        clear hW7 q9
        refine hK _ _ hb7 ?_
        clear hK K
        try simp only [Act.put, pu]
        refine ord_step (i := 4) rfl (by decide) (by kernel_rfl) (by rfl) (fun K hK => ?_)
        refine wp_append_any W7 (.tmp 90) (.tmp 91) 26 rfl W6.heap.size 56 i0 Ed.zv 9 72 Tryz.underlying26 HI.out.1 HI.out.2.1 HI.out.2.2.1 HI.out.2.2.2 rfl (by decide) (.slice (some ⟨W6.heap.size, 0, none⟩) 1 1) 1 (efl [e]) rfl own7 W7.heap.size A nw c (efl l) rfl (HL6.out.on hb7).reads (efl_one _) (by simp only [maxLen]; omega) (by omega) hb7.size ?_
        intro v8 W8 own8 gr8 at8
        have hb8 : Below W6.heap.size W6 W8 := hb7.grown gr8 hb7.size (fun k hk => (own7.lt k hk).1)
        have HO8 : OwnE W8 W6.heap.size v8 (e :: l) := by
         unfold OwnE
         rw [List.length_cons, Nat.add_comm, show efl (e :: l) = efl [e] ++ efl l from efl_append [e] l, Hlen.out]
         exact own8
        clear own8 gr8 at8 own7 k90 hb7
        obtain ⟨A8, c8, rfl, r8⟩ := HO8.row
        have HB8 := Lib.hid (HB6.out.on hb8)
        have HE8 := Lib.hid (HE6.out.gr (Gr.of_below hb8) HB6.out.blk)
        have HM8 := Lib.hid (HM6.out.on hb8)
        have HR8 := Lib.hid r8
        have hg8 := hg6.trans (Gr.of_below hb8)
        clear r8 HO8
        refine hK _ _ hb8 ?_
        clear hK K
        try simp only [Act.put, pu]
        refine ord_rest (by kernel_rfl) ?_
        refine any_step (i := 7) rfl (by kernel_rfl) (by rfl) (fun K hK => ?_)
        go_simp
        refine (HIH.out k rfl W8 cur A8 (e :: l).length c8 (e :: l) e.f (by have h1 := HLN.out; simp only [List.length_cons]; omega) HR8.out HM8.out HE8.out HB8.out (fun h => by cases h)).mono ?_
        rintro y' W9 ⟨rfl, hB9, hG9⟩
        have HS : Hid (BestAt W9 bb ((gi.take (i + 1)).foldl (fun b e => if decide (e.f = td) || l.any (fun y => decide (y.f = e.f)) then b else lookF L g fr td a x k b (e :: l) e.f) o)) := Lib.hid (by rw [HFT.out]; exact hB9)
        have hg9 := hg8.trans hG9
        clear hB9 hG9 hg8 hb8 hg6 k17
        refine hK _ _ ?_
        clear hK K
        try simp only [Act.put, pu]
        refine wpAny_done (by kernel_rfl) ?_ _
        refine NoPanic.normal ?_
        go_wp2_with fail
        go_roundw
        case rel => exact ⟨i + 1, by omega, by go_num, HS, hg9⟩
        case measure => simp [intOf]; omega
     ·have hin : i = nI := by omega
      subst hin
      have HF : Hid (LookEnd w bb (lookF L g fr td a x (k + 1) o l at_) (.returned (.tuple #[])) wr) := Lib.hid (by
       refine ⟨rfl, ?_, (Gr.of_below hBa).trans hg⟩
       rw [HQ3.out]
       have h := HBr.out
       rwa [List.take_of_length_le (by rw [HNI.out]; exact Nat.le_refl _)] at h)
      go_wp2_with fail
      exact bodyPost_end (v := .tuple #[]) (by simp [results, Tryz.f96, go_sem]) rfl HF.out
 ·rintro y w1 ⟨hb, v, rfl, I⟩
  dsimp only at I
  have hB1 := Lib.hid hb
  have hl0 : 0 < nw := by
   have h1 := HOW.out
   unfold oddsW at h1
   cases hc : cost l a x with
   | none => rw [hc] at h1; cases h1
   | some r => have := (way_lens (cost_at hc).1).1; have h2 := Hlen.out; omega
  have hpos : (0 : Int) < (nw : Int) := by omega
  have HNE : Hid (l.isEmpty = false) := Lib.hid (by
   cases l with
   | nil => have := Hlen.out; simp at this; omega
   | cons => rfl)
  have HCU : Hid (cutB l (some (q, s)) o = (decide (q = 0) || lessB q o)) := Lib.hid (by
   show (!l.isEmpty && (decide (q = 0) || lessB q o)) = _
   rw [HNE.out]; rfl)
  obtain ⟨A1, n1, c1, B1, m1, d1, rfl, hI⟩ := I
  have I : IsQ w1 (.agg #[.slice A1 n1 c1, .slice B1 m1 d1]) q 40 := ⟨_, _, _, _, _, _, rfl, hI⟩
  have HN1 : Hid (n1 = (digs (rn q)).length) := Lib.hid hI.1.len.symm
  clear hI hb
  obtain ⟨W2, hW2⟩ : ∃ W, W = w1.alloc (.cells #[.slice A1 n1 c1, .slice B1 m1 d1] 34) := ⟨_, rfl⟩
  have hb2 : Below w1.heap.size w1 W2 := by rw [hW2]; exact (Below.refl _ _).alloc (Nat.le_refl _) _
  have k12 : Blk W2 w1.heap.size 34 #[.slice A1 n1 c1, .slice B1 m1 d1] := by rw [hW2]; exact Blk.new w1 _ _
  obtain ⟨G12, hG12⟩ : ∃ G, w1.heap.size = G := ⟨_, rfl⟩
  rw [hG12] at k12
  have hB2 := bltB hB1.out hB1.out.size hb2
  have HBE2 := Lib.hid (HBE.out.on hB2)
  have HE2 := Lib.hid (HE.out.gr (Gr.of_below hB2) HBE.out.blk)
  have HM2 := Lib.hid (HM.out.on hB2)
  have HL2 := Lib.hid (HL.out.on hB2)
  have z0 := k12.cell 0
  have z1 := k12.cell 1
  have q5 := HE2.out.f
  have q7 := HE2.out.g
  dsimp only at q5 q7
  replace I := I.on hb2
  clear hb2
  go_upto_region 1 with (fail)
  rw [← hW2]
  clear hW2 hG12 hB1
  rcases Nat.eq_zero_or_pos n1 with h0 | h0
  ·have hq0 : q = 0 := Classical.byContradiction fun hne => by have := (len_pos_q I.ge0).2 hne; have := HN1.out; omega
   have HF : Hid (LookEnd w bb (lookF L g fr td a x n o l at_) (.returned (.tuple #[])) W2) := Lib.hid (by
    refine ⟨rfl, ?_, Gr.of_below hB2⟩
    rw [HQ.out, HCU.out, decide_eq_true hq0, Bool.true_or, if_pos rfl]
    exact HBE2.out)
   clear HN1 hq0
   subst h0
   go_wp2_with fail
   exact bodyPost_ret (v := .tuple #[]) (by simp [results, Tryz.f96, go_sem]) rfl HF.out
  ·have hq0 : q ≠ 0 := (len_pos_q I.ge0).1 (by have := HN1.out; omega)
   have hn0 : ((n1 : Int) == 0) = false := by simp; omega
   have HCU2 : Hid (cutB l (some (q, s)) o = lessB q o) := Lib.hid (by rw [HCU.out, decide_eq_false hq0, Bool.false_or])
   clear hq0 HCU
   rcases o with _ | y
   ·have HLS : Hid (lessB q none = false) := Lib.hid rfl
    have kb : Blk W2 bb 167 #[.slice none 0 0, .slice none 0 0, .slice none 0 0, .int .i64 0] := HBE2.out
    have d0 := kb.cell 0
    by_cases hat0 : at_ = fr
    ·have g1 : (at_ == fr) = true := by simpa using hat0
     have HKF : Hid (lookF L g fr td a x n none l at_ = some ⟨l, q, s⟩) := Lib.hid (by rw [HQ.out, HCU2.out, HLS.out, if_neg (by decide), if_pos hat0]; rfl)
     have f0 := kb.frozen 0
     have f1 := kb.frozen 1
     have f2 := kb.frozen 2
     have f3 := kb.frozen 3
     have e1 := kb.cell 1
     have e2 := kb.cell 2
     have e3 := kb.cell 3
     have hbb : bb < W2.heap.size := kb.lt
     obtain ⟨hBN, hGN⟩ := best_set kb (l := l) (s := s) (fun h => by have := HNE.out; rw [h] at this; cases this) HL2.out hw8 I
     have HF : Hid (LookEnd w bb (lookF L g fr td a x n none l at_) (.returned (.tuple #[])) (((((W2.setCell ⟨bb, 0, none⟩ (.slice A nw c)).setCell ⟨bb, 1, none⟩ (.slice A1 n1 c1)).setCell ⟨bb, 2, none⟩ (.slice B1 m1 d1)).setCell ⟨bb, 3, none⟩ (.int .i64 s)).alloc (.cells #[.slice A nw c, .slice A1 n1 c1, .slice B1 m1 d1, .int .i64 s] 167))) := Lib.hid (by
      refine ⟨rfl, ?_, ((Gr.of_below hB2).trans hGN).alloc _⟩
      rw [HKF.out]
      exact hBN.on ((Below.refl _ _).alloc (Nat.le_refl _) _))
     clear hBN hGN HKF
     go_wp2_with fail
     exact bodyPost_ret (v := .tuple #[]) (by simp [results, Tryz.f96, go_sem]) rfl HF.out
    ·have g1 : (at_ == fr) = false := by simpa using hat0
     have HQ2 : Hid (lookF L g fr td a x n none l at_ = lookT L g fr td a x n none l at_) := Lib.hid (by rw [HQ.out, HCU2.out, HLS.out, if_neg (by decide), if_neg hat0])
     clear hat0
     rcases n with _ | k
     ·have hnw : nw = 8 := by have h1 := HLN.out; have h2 := Hlen.out; omega
      have g8 : ((nw : Int) == 8) = true := by rw [hnw]; rfl
      have HF : Hid (LookEnd w bb (lookF L g fr td a x 0 none l at_) (.returned (.tuple #[])) W2) := Lib.hid (by
       refine ⟨rfl, ?_, Gr.of_below hB2⟩
       rw [HQ2.out]
       exact HBE2.out)
      clear hnw
      go_wp2_with fail
      exact bodyPost_ret (v := .tuple #[]) (by simp [results, Tryz.f96, go_sem]) rfl HF.out
     ·have hnw : nw + (k + 1) = 8 := by have h1 := HLN.out; have h2 := Hlen.out; omega
      have g8 : ((nw : Int) == 8) = false := by simp; omega
      have HN8 := Lib.hid hnw
      clear hnw
      go_wp2_with fail
      refine (In_any W2 Ag ng cg g HE2.out.row hng at_).mono ?_
      rintro y' Wa ⟨v, rfl, hO, hba⟩
      obtain ⟨Ai, ci, rfl, rI⟩ := hO.row
      obtain ⟨gi, hgi⟩ : ∃ z, intoG g at_ = z := ⟨_, rfl⟩
      have HGL : Hid (gi.length ≤ 1048576) := Lib.hid (by rw [← hgi]; exact Nat.le_trans (List.length_filter_le _ _) (by rw [HE2.out.row.elen]; exact hng))
      have HQ3 : Hid (lookF L g fr td a x (k + 1) none l at_ = gi.foldl (fun b e => if decide (e.f = td) || l.any (fun y => decide (y.f = e.f)) then b else lookF L g fr td a x k b (e :: l) e.f) none) := Lib.hid (by rw [HQ2.out, ← hgi]; rfl)
      rw [hgi] at rI ⊢
      have RIa := Lib.hid rI
      have hBa := bltB hB2 hB2.size hba
      have HBa := Lib.hid (HBE2.out.on hba)
      have HEa := Lib.hid (HE2.out.gr (Gr.of_below hba) HBE2.out.blk)
      have HMa := Lib.hid (HM2.out.on hba)
      have HLa := Lib.hid (HL2.out.on hba)
      obtain ⟨nI, hnI⟩ : ∃ z, gi.length = z := ⟨_, rfl⟩
      have HNI := Lib.hid hnI
      have hI8 : nI ≤ 1048576 := hnI ▸ HGL.out
      rw [hnI] at RIa ⊢
      clear hO rI hba hgi hnI q5 q7
      obtain ⟨i0, hi, hz0', hz1', hz2'⟩ := info_parts infoE
      have HI := Lib.hid (And.intro hi (And.intro hz0' (And.intro hz1' hz2')))
      clear hi hz0' hz1' hz2'
      go_wp2_with fail
      go_loopw [75] (fun iv wr => ∃ i : Nat, i ≤ nI ∧ iv = .int .i64 i ∧ Hid (BestAt wr bb ((gi.take i).foldl (fun b e => if decide (e.f = td) || l.any (fun y => decide (y.f = e.f)) then b else lookF L g fr td a x k b (e :: l) e.f) none)) ∧ Gr (· = bb) Wa wr) (fun iv _ => nI - (intOf iv).toNat)
      case atStart => exact ⟨0, Nat.zero_le _, rfl, HBa, Gr.refl _ _⟩
      case round =>
       obtain ⟨i, hi, rfl, HBr, hg⟩ := hrel
       have hblk := HBa.out.blk
       have rIr := RE.gr RIa.out hg hblk
       have HEr := Lib.hid (HEa.out.gr hg hblk)
       have HMr := Lib.hid (HMa.out.look hg hblk)
       have HLr := Lib.hid (RE.gr HLa.out hg hblk)
       by_cases hlt : i < nI
       ·obtain ⟨b', off, e, hA, hb, hx, hat', a0, a1, a2, a3, a4, a5, a6, a7, a8⟩ := rIr.edge hlt
        obtain ⟨cur, hcur⟩ : ∃ z, (gi.take i).foldl (fun b e => if decide (e.f = td) || l.any (fun y => decide (y.f = e.f)) then b else lookF L g fr td a x k b (e :: l) e.f) none = z := ⟨_, rfl⟩
        have HFS : Hid ((gi.take (i + 1)).foldl (fun b e => if decide (e.f = td) || l.any (fun y => decide (y.f = e.f)) then b else lookF L g fr td a x k b (e :: l) e.f) none = if decide (e.f = td) || l.any (fun y => decide (y.f = e.f)) then cur else lookF L g fr td a x k cur (e :: l) e.f) := Lib.hid (by rw [takes_one gi hx, List.foldl_append, hcur]; rfl)
        rw [hcur] at HBr
        subst hA
        clear hx hat' hcur rIr hblk
        have hlt' : (i : Int) < (nI : Int) := by omega
        have HEV : Hid (e.cs = #[.int .i64 e.f, .int .i64 e.t, .int .i64 e.c, .int .i64 e.r, .int .i64 e.p0, .int .i64 e.p1, .int .i64 e.p2, .int .i64 e.p3, .int .i64 e.p4]) := Lib.hid rfl
        go_upto_region 10 with (fail)
        obtain ⟨W5, hW5⟩ : ∃ W, W = wr.alloc (.cells #[.int .i64 e.f, .int .i64 e.t, .int .i64 e.c, .int .i64 e.r, .int .i64 e.p0, .int .i64 e.p1, .int .i64 e.p2, .int .i64 e.p3, .int .i64 e.p4] 56) := ⟨_, rfl⟩
        have hb5 : Below wr.heap.size wr W5 := by rw [hW5]; exact (Below.refl _ _).alloc (Nat.le_refl _) _
        have k17 : Blk W5 wr.heap.size 56 e.cs := by rw [hW5]; exact Blk.new wr _ _
        obtain ⟨G17, hG17⟩ : ∃ G, wr.heap.size = G := ⟨_, rfl⟩
        rw [← hW5]
        rw [hG17] at k17 ⊢
        have HB5 := Lib.hid (HBr.out.on hb5)
        have HE5 := Lib.hid (HEr.out.gr (Gr.of_below hb5) HBr.out.blk)
        have HM5 := Lib.hid (HMr.out.on hb5)
        have HL5 := Lib.hid (HLr.out.on hb5)
        have hg5 := hg.trans (Gr.of_below hb5)
        clear hW5 hG17 hb5 hg a0 a1 a2 a3 a4 a5 a6 a7 a8 hb
        have q8 := HE5.out.t
        dsimp only at q8
        have v0 : W5.cell? ⟨G17, 0, none⟩ = some (.int .i64 e.f) := k17.cell 0
        have v1 : W5.cell? ⟨G17, 1, none⟩ = some (.int .i64 e.t) := k17.cell 1
        have v2 : W5.cell? ⟨G17, 2, none⟩ = some (.int .i64 e.c) := k17.cell 2
        have v3 : W5.cell? ⟨G17, 3, none⟩ = some (.int .i64 e.r) := k17.cell 3
        have v4 : W5.cell? ⟨G17, 4, none⟩ = some (.int .i64 e.p0) := k17.cell 4
        have v5 : W5.cell? ⟨G17, 5, none⟩ = some (.int .i64 e.p1) := k17.cell 5
        have v6 : W5.cell? ⟨G17, 6, none⟩ = some (.int .i64 e.p2) := k17.cell 6
        have v7 : W5.cell? ⟨G17, 7, none⟩ = some (.int .i64 e.p3) := k17.cell 7
        have v8 : W5.cell? ⟨G17, 8, none⟩ = some (.int .i64 e.p4) := k17.cell 8
        by_cases htd : e.f = td
        ·have g3 : (e.f == td) = true := by simpa using htd
         have HS : Hid (BestAt W5 bb ((gi.take (i + 1)).foldl (fun b e => if decide (e.f = td) || l.any (fun y => decide (y.f = e.f)) then b else lookF L g fr td a x k b (e :: l) e.f) none)) := Lib.hid (by rw [HFS.out, decide_eq_true htd, Bool.true_or, if_pos rfl]; exact HB5.out)
         clear htd
         go_wp2_with fail
         go_roundw
         case rel => exact ⟨i + 1, by omega, by go_num, HS, hg5⟩
         case measure => simp [intOf]; omega
        ·have g3 : (e.f == td) = false := by simpa using htd
         have HFT : Hid ((gi.take (i + 1)).foldl (fun b e => if decide (e.f = td) || l.any (fun y => decide (y.f = e.f)) then b else lookF L g fr td a x k b (e :: l) e.f) none = if l.any (fun y => decide (y.f = e.f)) then cur else lookF L g fr td a x k cur (e :: l) e.f) := Lib.hid (by rw [HFS.out, decide_eq_false htd, Bool.false_or])
         clear htd HFS
         go_wp2_with fail
         refine (has_any W5 A nw c l HL5.out (by omega) e.f G17 v0 k17.lt).mono ?_
         rintro y' W6 ⟨rfl, hb6⟩
         obtain ⟨hz, hhz⟩ : ∃ z, (l.any fun y => decide (y.f = e.f)) = z := ⟨_, rfl⟩
         rw [hhz] at HFT ⊢
         clear hhz q8 v0 v1 v2 v3 v4 v5 v6 v7 v8
         have HB6 := Lib.hid (HB5.out.on hb6)
         have HE6 := Lib.hid (HE5.out.gr (Gr.of_below hb6) HB5.out.blk)
         have HM6 := Lib.hid (HM5.out.on hb6)
         have HL6 := Lib.hid (HL5.out.on hb6)
         have hg6 := hg5.trans (Gr.of_below hb6)
         replace k17 := k17.below hb6 k17.lt
         clear hb6 hg5
         rcases hz with _ | _
         rotate_left
         ·have HS : Hid (BestAt W6 bb ((gi.take (i + 1)).foldl (fun b e => if decide (e.f = td) || l.any (fun y => decide (y.f = e.f)) then b else lookF L g fr td a x k b (e :: l) e.f) none)) := Lib.hid (by rw [HFT.out, if_pos rfl]; exact HB6.out)
          go_wp2_with fail
          go_roundw
          case rel => exact ⟨i + 1, by omega, by go_num, HS, hg6⟩
          case measure => simp [intOf]; omega
         ·rw [if_neg (by decide)] at HFT
          go_wp2_with fail
          have q9 := HE6.out.l
          dsimp only [LookEnv.caps] at q9
          have hbl : bl < W6.heap.size := HE6.out.lt.2.2.2
          refine wp_region_noPanic ?_
          refine ord_begin 7 (fun wx => Below W6.heap.size W6 wx) (by kernel_rfl) ?_
          have hx0 : Below W6.heap.size W6 W6.drew := (Below.refl _ _).drew
          refine ord_take (i := 0) (v := ?_) (by kernel_rfl) rfl (by decide) (by kernel_rfl) (by kernel_rfl) (fun _ _ _ h => h) (Or.inl ⟨by rfl, ?_⟩) hx0 ?_
          rotate_left
          ·intro wz hz; have y9 := (hz.cell (p := ⟨bl, 0, none⟩) hbl).trans q9; go_simp; (try with_reducible rfl)
          try simp only [Act.put, pu]
          refine ord_take (i := 1) (v := ?_) (by kernel_rfl) rfl (by decide) (by kernel_rfl) (by kernel_rfl) (fun _ _ _ h => h) (Or.inl ⟨by rfl, ?_⟩) hx0 ?_
          rotate_left
          ·intro wz hz; have j4 := k17.below hz k17.lt; have y0 : wz.cell? ⟨G17, 0, none⟩ = some (.int .i64 e.f) := j4.cell 0; have y1 : wz.cell? ⟨G17, 1, none⟩ = some (.int .i64 e.t) := j4.cell 1; have y2 : wz.cell? ⟨G17, 2, none⟩ = some (.int .i64 e.c) := j4.cell 2; have y3 : wz.cell? ⟨G17, 3, none⟩ = some (.int .i64 e.r) := j4.cell 3; have y4 : wz.cell? ⟨G17, 4, none⟩ = some (.int .i64 e.p0) := j4.cell 4; have y5 : wz.cell? ⟨G17, 5, none⟩ = some (.int .i64 e.p1) := j4.cell 5; have y6 : wz.cell? ⟨G17, 6, none⟩ = some (.int .i64 e.p2) := j4.cell 6; have y7 : wz.cell? ⟨G17, 7, none⟩ = some (.int .i64 e.p3) := j4.cell 7; have y8 : wz.cell? ⟨G17, 8, none⟩ = some (.int .i64 e.p4) := j4.cell 8; go_simp; (try with_reducible rfl)
          try simp only [Act.put, pu]
          refine ord_take (i := 3) (v := ?_) (by kernel_rfl) rfl (by decide) (by kernel_rfl) (by kernel_rfl) (fun _ _ _ h => h) (Or.inl ⟨by rfl, ?_⟩) hx0 ?_
          rotate_left
          ·intro wz hz; go_simp; (try with_reducible rfl)
          try simp only [Act.put, pu]
          refine ord_take (i := 5) (v := ?_) (by kernel_rfl) rfl (by decide) (by kernel_rfl) (by kernel_rfl) (fun _ _ _ h => h) (Or.inl ⟨by rfl, ?_⟩) hx0 ?_
          rotate_left
          ·intro wz hz; go_simp; (try with_reducible rfl)
          try simp only [Act.put, pu]
          refine ord_take (i := 6) (v := ?_) (by kernel_rfl) rfl (by decide) (by kernel_rfl) (by kernel_rfl) (fun _ _ _ h => h) (Or.inl ⟨by rfl, ?_⟩) hx0 ?_
          rotate_left
          ·intro wz hz; have j4 := k17.below hz k17.lt; have y0 : wz.cell? ⟨G17, 0, none⟩ = some (.int .i64 e.f) := j4.cell 0; have y1 : wz.cell? ⟨G17, 1, none⟩ = some (.int .i64 e.t) := j4.cell 1; have y2 : wz.cell? ⟨G17, 2, none⟩ = some (.int .i64 e.c) := j4.cell 2; have y3 : wz.cell? ⟨G17, 3, none⟩ = some (.int .i64 e.r) := j4.cell 3; have y4 : wz.cell? ⟨G17, 4, none⟩ = some (.int .i64 e.p0) := j4.cell 4; have y5 : wz.cell? ⟨G17, 5, none⟩ = some (.int .i64 e.p1) := j4.cell 5; have y6 : wz.cell? ⟨G17, 6, none⟩ = some (.int .i64 e.p2) := j4.cell 6; have y7 : wz.cell? ⟨G17, 7, none⟩ = some (.int .i64 e.p3) := j4.cell 7; have y8 : wz.cell? ⟨G17, 8, none⟩ = some (.int .i64 e.p4) := j4.cell 8; go_simp; (try with_reducible rfl)
          try simp only [Act.put, pu]
          refine ord_step (i := 2) rfl (by decide) (by kernel_rfl) (by rfl) (fun K hK => ?_)
          go_simp
          obtain ⟨W7, hW7⟩ : ∃ W, W = (W6.alloc (.cells #[.int .i64 e.f, .int .i64 e.t, .int .i64 e.c, .int .i64 e.r, .int .i64 e.p0, .int .i64 e.p1, .int .i64 e.p2, .int .i64 e.p3, .int .i64 e.p4] 56)).drew := ⟨_, rfl⟩
          have hb7 : Below W6.heap.size W6 W7 := by rw [hW7]; exact ((Below.refl _ _).alloc (Nat.le_refl _) _).drew
          have k90 : Blk W7 W6.heap.size 56 e.cs := by rw [hW7]; exact (Blk.new W6 _ _).drew
          have own7 : W7.ownsRow W6.heap.size 56 9 (.slice (some ⟨W6.heap.size, 0, none⟩) 1 1) 1 (efl [e]) := own_blk k90
          rw [← hW7]
          clear hW7 q9
          refine hK _ _ hb7 ?_
          clear hK K
          try simp only [Act.put, pu]
          refine ord_step (i := 4) rfl (by decide) (by kernel_rfl) (by rfl) (fun K hK => ?_)
          refine wp_append_any W7 (.tmp 90) (.tmp 91) 26 rfl W6.heap.size 56 i0 Ed.zv 9 72 Tryz.underlying26 HI.out.1 HI.out.2.1 HI.out.2.2.1 HI.out.2.2.2 rfl (by decide) (.slice (some ⟨W6.heap.size, 0, none⟩) 1 1) 1 (efl [e]) rfl own7 W7.heap.size A nw c (efl l) rfl (HL6.out.on hb7).reads (efl_one _) (by simp only [maxLen]; omega) (by omega) hb7.size ?_
          intro v8 W8 own8 gr8 at8
          have hb8 : Below W6.heap.size W6 W8 := hb7.grown gr8 hb7.size (fun k hk => (own7.lt k hk).1)
          have HO8 : OwnE W8 W6.heap.size v8 (e :: l) := by
           unfold OwnE
           rw [List.length_cons, Nat.add_comm, show efl (e :: l) = efl [e] ++ efl l from efl_append [e] l, Hlen.out]
           exact own8
          clear own8 gr8 at8 own7 k90 hb7
          obtain ⟨A8, c8, rfl, r8⟩ := HO8.row
          have HB8 := Lib.hid (HB6.out.on hb8)
          have HE8 := Lib.hid (HE6.out.gr (Gr.of_below hb8) HB6.out.blk)
          have HM8 := Lib.hid (HM6.out.on hb8)
          have HR8 := Lib.hid r8
          have hg8 := hg6.trans (Gr.of_below hb8)
          clear r8 HO8
          refine hK _ _ hb8 ?_
          clear hK K
          try simp only [Act.put, pu]
          refine ord_rest (by kernel_rfl) ?_
          refine any_step (i := 7) rfl (by kernel_rfl) (by rfl) (fun K hK => ?_)
          go_simp
          refine (HIH.out k rfl W8 cur A8 (e :: l).length c8 (e :: l) e.f (by have h1 := HLN.out; simp only [List.length_cons]; omega) HR8.out HM8.out HE8.out HB8.out (fun h => by cases h)).mono ?_
          rintro y' W9 ⟨rfl, hB9, hG9⟩
          have HS : Hid (BestAt W9 bb ((gi.take (i + 1)).foldl (fun b e => if decide (e.f = td) || l.any (fun y => decide (y.f = e.f)) then b else lookF L g fr td a x k b (e :: l) e.f) none)) := Lib.hid (by rw [HFT.out]; exact hB9)
          have hg9 := hg8.trans hG9
          clear hB9 hG9 hg8 hb8 hg6 k17
          refine hK _ _ ?_
          clear hK K
          try simp only [Act.put, pu]
          refine wpAny_done (by kernel_rfl) ?_ _
          refine NoPanic.normal ?_
          go_wp2_with fail
          go_roundw
          case rel => exact ⟨i + 1, by omega, by go_num, HS, hg9⟩
          case measure => simp [intOf]; omega
       ·have hin : i = nI := by omega
        subst hin
        have HF : Hid (LookEnd w bb (lookF L g fr td a x (k + 1) none l at_) (.returned (.tuple #[])) wr) := Lib.hid (by
         refine ⟨rfl, ?_, (Gr.of_below hBa).trans hg⟩
         rw [HQ3.out]
         have h := HBr.out
         rwa [List.take_of_length_le (by rw [HNI.out]; exact Nat.le_refl _)] at h)
        go_wp2_with fail
        exact bodyPost_end (v := .tuple #[]) (by simp [results, Tryz.f96, go_sem]) rfl HF.out
   ·obtain ⟨hyw, A5, n5, c5, A6, n6, c6, B6, m6, d6, kb, rb, hn5, Ib⟩ := HBE2.out
    have hA5 : A5 ≠ none := by
     intro hz
     have h0 : 0 < n5 := by
      rcases Nat.eq_zero_or_pos n5 with h | h
      ·exfalso; have := rb.elen; rw [h] at this; exact hyw (List.eq_nil_of_length_eq_zero this)
      ·exact h
     obtain ⟨_, _, _, _, e, _⟩ := rb.at_ h0
     rw [hz] at e; cases e
    obtain ⟨ad, rfl⟩ := Option.ne_none_iff_exists'.1 hA5
    have d0 := kb.cell 0
    have d1' := kb.cell 1
    have d2 := kb.cell 2
    clear hA5 hyw
    go_wp2_with fail
    clear d0 d1' d2 z0 z1
    refine (fcmp_v I Ib (by decide) (by decide)).mono ?_
    rintro y' W3 ⟨rfl, hb3⟩
    have HLY : Hid (lessB q (some y) = decide (cmpQ q y.q < 0)) := Lib.hid rfl
    obtain ⟨cz, hcz⟩ : ∃ z, cmpQ q y.q = z := ⟨_, rfl⟩
    rw [hcz] at HLY ⊢
    clear hcz
    have hB3 := bltB hB2 hB2.size hb3
    have HBE3 := Lib.hid (HBE2.out.on hb3)
    replace kb := kb.below hb3 kb.lt
    replace k12 := k12.below hb3 k12.lt
    replace I := I.on hb3
    replace rb := rb.on hb3
    replace Ib := Ib.on hb3
    have HE3 := Lib.hid (HE2.out.gr (Gr.of_below hb3) HBE2.out.blk)
    have HM3 := Lib.hid (HM2.out.on hb3)
    have HL3 := Lib.hid (HL2.out.on hb3)
    clear q5 q7
    have q5 := HE3.out.f
    have q7 := HE3.out.g
    dsimp only at q5 q7
    by_cases hlz : cz < 0
    ·have HF : Hid (LookEnd w bb (lookF L g fr td a x n (some y) l at_) (.returned (.tuple #[])) W3) := Lib.hid (by
      refine ⟨rfl, ?_, Gr.of_below hB3⟩
      rw [HQ.out, HCU2.out, HLY.out, decide_eq_true hlz, if_pos rfl]
      exact HBE3.out)
     go_wp2_with fail
     exact bodyPost_ret (v := .tuple #[]) (by simp [results, Tryz.f96, go_sem]) rfl HF.out
    ·have HLS : Hid (lessB q (some y) = false) := Lib.hid (by rw [HLY.out, decide_eq_false hlz])
     by_cases hat0 : at_ = fr
     ·have g1 : (at_ == fr) = true := by simpa using hat0
      have HKF : Hid (lookF L g fr td a x n (some y) l at_ = if betterB ⟨l, q, s⟩ y = true then some ⟨l, q, s⟩ else some y) := Lib.hid (by rw [HQ.out, HCU2.out, HLS.out, if_neg (by decide), if_pos hat0]; rfl)
      have f0 := kb.frozen 0
      have f1 := kb.frozen 1
      have f2 := kb.frozen 2
      have f3 := kb.frozen 3
      have e0 := kb.cell 0
      have e1 := kb.cell 1
      have e2 := kb.cell 2
      have e3 := kb.cell 3
      have z0 := k12.cell 0
      have z1 := k12.cell 1
      have hbb : bb < W3.heap.size := kb.lt
      go_wp2_with fail
      obtain ⟨W4, hW4⟩ : ∃ W, W = W3.alloc (.cells #[.slice A nw c, .slice A1 n1 c1, .slice B1 m1 d1, .int .i64 s] 167) := ⟨_, rfl⟩
      have hb4 : Below W3.heap.size W3 W4 := by rw [hW4]; exact (Below.refl _ _).alloc (Nat.le_refl _) _
      have k15 : Blk W4 W3.heap.size 167 #[.slice A nw c, .slice A1 n1 c1, .slice B1 m1 d1, .int .i64 s] := by rw [hW4]; exact Blk.new W3 _ _
      obtain ⟨G15, hG15⟩ : ∃ G, W3.heap.size = G := ⟨_, rfl⟩
      rw [← hW4]
      rw [hG15] at k15 ⊢
      clear hW4 hG15 e0 e1 e2 e3 f0 f1 f2 f3 z0 z1
      refine (better_any W4 _ _ ⟨l, q, s⟩ y ⟨A, nw, c, A1, n1, c1, B1, m1, d1, rfl, HL3.out.on hb4, hw8, I.on hb4⟩ ⟨some ad, n5, c5, A6, n6, c6, B6, m6, d6, rfl, rb.on hb4, hn5, Ib.on hb4⟩).mono ?_
      rintro y' W5 ⟨rfl, hb5⟩
      have hb45 := bltB hb4 hb4.size hb5
      have hB5 := bltB hB3 hB3.size hb45
      replace k15 := k15.below hb5 k15.lt
      replace kb := kb.below hb45 kb.lt
      have HBE5 := Lib.hid (HBE3.out.on hb45)
      obtain ⟨bz, hbz⟩ : ∃ z, betterB ⟨l, q, s⟩ y = z := ⟨_, rfl⟩
      rw [hbz] at HKF ⊢
      clear hbz hbb
      have hbb : bb < W5.heap.size := kb.lt
      rcases bz with _ | _
      ·have HF : Hid (LookEnd w bb (lookF L g fr td a x n (some y) l at_) (.returned (.tuple #[])) W5) := Lib.hid (by
        refine ⟨rfl, ?_, Gr.of_below hB5⟩
        rw [HKF.out, if_neg (by decide)]
        exact HBE5.out)
       go_wp2_with fail
       exact bodyPost_ret (v := .tuple #[]) (by simp [results, Tryz.f96, go_sem]) rfl HF.out
      ·obtain ⟨hBN, hGN⟩ := best_set kb (l := l) (s := s) (fun h => by have := HNE.out; rw [h] at this; cases this) (HL3.out.on hb45) hw8 (I.on hb45)
       have f0 := kb.frozen 0
       have f1 := kb.frozen 1
       have f2 := kb.frozen 2
       have f3 := kb.frozen 3
       have e0 := kb.cell 0
       have e1 := kb.cell 1
       have e2 := kb.cell 2
       have e3 := kb.cell 3
       have g0 := k15.cell 0
       have g4 := k15.cell 1
       have g2 := k15.cell 2
       have g3 := k15.cell 3
       have HF : Hid (LookEnd w bb (lookF L g fr td a x n (some y) l at_) (.returned (.tuple #[])) (((((W5.setCell ⟨bb, 0, none⟩ (.slice A nw c)).setCell ⟨bb, 1, none⟩ (.slice A1 n1 c1)).setCell ⟨bb, 2, none⟩ (.slice B1 m1 d1)).setCell ⟨bb, 3, none⟩ (.int .i64 s)))) := Lib.hid (by
        refine ⟨rfl, ?_, (Gr.of_below hB5).trans hGN⟩
        rw [HKF.out, if_pos rfl]
        exact hBN)
       clear hBN hGN
       go_wp2_with fail
       exact bodyPost_ret (v := .tuple #[]) (by simp [results, Tryz.f96, go_sem]) rfl HF.out
     ·have g1 : (at_ == fr) = false := by simpa using hat0
      have HQ2 : Hid (lookF L g fr td a x n (some y) l at_ = lookT L g fr td a x n (some y) l at_) := Lib.hid (by rw [HQ.out, HCU2.out, HLS.out, if_neg (by decide), if_neg hat0])
      clear hat0
      rcases n with _ | k
      ·have hnw : nw = 8 := by have h1 := HLN.out; have h2 := Hlen.out; omega
       have g8 : ((nw : Int) == 8) = true := by rw [hnw]; rfl
       have HF : Hid (LookEnd w bb (lookF L g fr td a x 0 (some y) l at_) (.returned (.tuple #[])) W3) := Lib.hid (by
        refine ⟨rfl, ?_, Gr.of_below hB3⟩
        rw [HQ2.out]
        exact HBE3.out)
       clear hnw
       go_wp2_with fail
       exact bodyPost_ret (v := .tuple #[]) (by simp [results, Tryz.f96, go_sem]) rfl HF.out
      ·have hnw : nw + (k + 1) = 8 := by have h1 := HLN.out; have h2 := Hlen.out; omega
       have g8 : ((nw : Int) == 8) = false := by simp; omega
       have HN8 := Lib.hid hnw
       clear hnw
       go_wp2_with fail
       refine (In_any W3 Ag ng cg g HE3.out.row hng at_).mono ?_
       rintro y' Wa ⟨v, rfl, hO, hba⟩
       obtain ⟨Ai, ci, rfl, rI⟩ := hO.row
       obtain ⟨gi, hgi⟩ : ∃ z, intoG g at_ = z := ⟨_, rfl⟩
       have HGL : Hid (gi.length ≤ 1048576) := Lib.hid (by rw [← hgi]; exact Nat.le_trans (List.length_filter_le _ _) (by rw [HE3.out.row.elen]; exact hng))
       have HQ3 : Hid (lookF L g fr td a x (k + 1) (some y) l at_ = gi.foldl (fun b e => if decide (e.f = td) || l.any (fun y => decide (y.f = e.f)) then b else lookF L g fr td a x k b (e :: l) e.f) (some y)) := Lib.hid (by rw [HQ2.out, ← hgi]; rfl)
       rw [hgi] at rI ⊢
       have RIa := Lib.hid rI
       have hBa := bltB hB3 hB3.size hba
       have HBa := Lib.hid (HBE3.out.on hba)
       have HEa := Lib.hid (HE3.out.gr (Gr.of_below hba) HBE3.out.blk)
       have HMa := Lib.hid (HM3.out.on hba)
       have HLa := Lib.hid (HL3.out.on hba)
       obtain ⟨nI, hnI⟩ : ∃ z, gi.length = z := ⟨_, rfl⟩
       have HNI := Lib.hid hnI
       have hI8 : nI ≤ 1048576 := hnI ▸ HGL.out
       rw [hnI] at RIa ⊢
       clear hO rI hba hgi hnI q5 q7
       obtain ⟨i0, hi, hz0', hz1', hz2'⟩ := info_parts infoE
       have HI := Lib.hid (And.intro hi (And.intro hz0' (And.intro hz1' hz2')))
       clear hi hz0' hz1' hz2'
       go_wp2_with fail
       go_loopw [75] (fun iv wr => ∃ i : Nat, i ≤ nI ∧ iv = .int .i64 i ∧ Hid (BestAt wr bb ((gi.take i).foldl (fun b e => if decide (e.f = td) || l.any (fun y => decide (y.f = e.f)) then b else lookF L g fr td a x k b (e :: l) e.f) (some y))) ∧ Gr (· = bb) Wa wr) (fun iv _ => nI - (intOf iv).toNat)
       case atStart => exact ⟨0, Nat.zero_le _, rfl, HBa, Gr.refl _ _⟩
       case round =>
        obtain ⟨i, hi, rfl, HBr, hg⟩ := hrel
        have hblk := HBa.out.blk
        have rIr := RE.gr RIa.out hg hblk
        have HEr := Lib.hid (HEa.out.gr hg hblk)
        have HMr := Lib.hid (HMa.out.look hg hblk)
        have HLr := Lib.hid (RE.gr HLa.out hg hblk)
        by_cases hlt : i < nI
        ·obtain ⟨b', off, e, hA, hb, hx, hat', a0, a1, a2, a3, a4, a5, a6, a7, a8⟩ := rIr.edge hlt
         obtain ⟨cur, hcur⟩ : ∃ z, (gi.take i).foldl (fun b e => if decide (e.f = td) || l.any (fun y => decide (y.f = e.f)) then b else lookF L g fr td a x k b (e :: l) e.f) (some y) = z := ⟨_, rfl⟩
         have HFS : Hid ((gi.take (i + 1)).foldl (fun b e => if decide (e.f = td) || l.any (fun y => decide (y.f = e.f)) then b else lookF L g fr td a x k b (e :: l) e.f) (some y) = if decide (e.f = td) || l.any (fun y => decide (y.f = e.f)) then cur else lookF L g fr td a x k cur (e :: l) e.f) := Lib.hid (by rw [takes_one gi hx, List.foldl_append, hcur]; rfl)
         rw [hcur] at HBr
         subst hA
         clear hx hat' hcur rIr hblk
         have hlt' : (i : Int) < (nI : Int) := by omega
         have HEV : Hid (e.cs = #[.int .i64 e.f, .int .i64 e.t, .int .i64 e.c, .int .i64 e.r, .int .i64 e.p0, .int .i64 e.p1, .int .i64 e.p2, .int .i64 e.p3, .int .i64 e.p4]) := Lib.hid rfl
         go_upto_region 10 with (fail)
         obtain ⟨W5, hW5⟩ : ∃ W, W = wr.alloc (.cells #[.int .i64 e.f, .int .i64 e.t, .int .i64 e.c, .int .i64 e.r, .int .i64 e.p0, .int .i64 e.p1, .int .i64 e.p2, .int .i64 e.p3, .int .i64 e.p4] 56) := ⟨_, rfl⟩
         have hb5 : Below wr.heap.size wr W5 := by rw [hW5]; exact (Below.refl _ _).alloc (Nat.le_refl _) _
         have k17 : Blk W5 wr.heap.size 56 e.cs := by rw [hW5]; exact Blk.new wr _ _
         obtain ⟨G17, hG17⟩ : ∃ G, wr.heap.size = G := ⟨_, rfl⟩
         rw [← hW5]
         rw [hG17] at k17 ⊢
         have HB5 := Lib.hid (HBr.out.on hb5)
         have HE5 := Lib.hid (HEr.out.gr (Gr.of_below hb5) HBr.out.blk)
         have HM5 := Lib.hid (HMr.out.on hb5)
         have HL5 := Lib.hid (HLr.out.on hb5)
         have hg5 := hg.trans (Gr.of_below hb5)
         clear hW5 hG17 hb5 hg a0 a1 a2 a3 a4 a5 a6 a7 a8 hb
         have q8 := HE5.out.t
         dsimp only at q8
         have v0 : W5.cell? ⟨G17, 0, none⟩ = some (.int .i64 e.f) := k17.cell 0
         have v1 : W5.cell? ⟨G17, 1, none⟩ = some (.int .i64 e.t) := k17.cell 1
         have v2 : W5.cell? ⟨G17, 2, none⟩ = some (.int .i64 e.c) := k17.cell 2
         have v3 : W5.cell? ⟨G17, 3, none⟩ = some (.int .i64 e.r) := k17.cell 3
         have v4 : W5.cell? ⟨G17, 4, none⟩ = some (.int .i64 e.p0) := k17.cell 4
         have v5 : W5.cell? ⟨G17, 5, none⟩ = some (.int .i64 e.p1) := k17.cell 5
         have v6 : W5.cell? ⟨G17, 6, none⟩ = some (.int .i64 e.p2) := k17.cell 6
         have v7 : W5.cell? ⟨G17, 7, none⟩ = some (.int .i64 e.p3) := k17.cell 7
         have v8 : W5.cell? ⟨G17, 8, none⟩ = some (.int .i64 e.p4) := k17.cell 8
         by_cases htd : e.f = td
         ·have g3 : (e.f == td) = true := by simpa using htd
          have HS : Hid (BestAt W5 bb ((gi.take (i + 1)).foldl (fun b e => if decide (e.f = td) || l.any (fun y => decide (y.f = e.f)) then b else lookF L g fr td a x k b (e :: l) e.f) (some y))) := Lib.hid (by rw [HFS.out, decide_eq_true htd, Bool.true_or, if_pos rfl]; exact HB5.out)
          clear htd
          go_wp2_with fail
          go_roundw
          case rel => exact ⟨i + 1, by omega, by go_num, HS, hg5⟩
          case measure => simp [intOf]; omega
         ·have g3 : (e.f == td) = false := by simpa using htd
          have HFT : Hid ((gi.take (i + 1)).foldl (fun b e => if decide (e.f = td) || l.any (fun y => decide (y.f = e.f)) then b else lookF L g fr td a x k b (e :: l) e.f) (some y) = if l.any (fun y => decide (y.f = e.f)) then cur else lookF L g fr td a x k cur (e :: l) e.f) := Lib.hid (by rw [HFS.out, decide_eq_false htd, Bool.false_or])
          clear htd HFS
          go_wp2_with fail
          refine (has_any W5 A nw c l HL5.out (by omega) e.f G17 v0 k17.lt).mono ?_
          rintro y' W6 ⟨rfl, hb6⟩
          obtain ⟨hz, hhz⟩ : ∃ z, (l.any fun y => decide (y.f = e.f)) = z := ⟨_, rfl⟩
          rw [hhz] at HFT ⊢
          clear hhz q8 v0 v1 v2 v3 v4 v5 v6 v7 v8
          have HB6 := Lib.hid (HB5.out.on hb6)
          have HE6 := Lib.hid (HE5.out.gr (Gr.of_below hb6) HB5.out.blk)
          have HM6 := Lib.hid (HM5.out.on hb6)
          have HL6 := Lib.hid (HL5.out.on hb6)
          have hg6 := hg5.trans (Gr.of_below hb6)
          replace k17 := k17.below hb6 k17.lt
          clear hb6 hg5
          rcases hz with _ | _
          rotate_left
          ·have HS : Hid (BestAt W6 bb ((gi.take (i + 1)).foldl (fun b e => if decide (e.f = td) || l.any (fun y => decide (y.f = e.f)) then b else lookF L g fr td a x k b (e :: l) e.f) (some y))) := Lib.hid (by rw [HFT.out, if_pos rfl]; exact HB6.out)
           go_wp2_with fail
           go_roundw
           case rel => exact ⟨i + 1, by omega, by go_num, HS, hg6⟩
           case measure => simp [intOf]; omega
          ·rw [if_neg (by decide)] at HFT
           go_wp2_with fail
           have q9 := HE6.out.l
           dsimp only [LookEnv.caps] at q9
           have hbl : bl < W6.heap.size := HE6.out.lt.2.2.2
           refine wp_region_noPanic ?_
           refine ord_begin 7 (fun wx => Below W6.heap.size W6 wx) (by kernel_rfl) ?_
           have hx0 : Below W6.heap.size W6 W6.drew := (Below.refl _ _).drew
           refine ord_take (i := 0) (v := ?_) (by kernel_rfl) rfl (by decide) (by kernel_rfl) (by kernel_rfl) (fun _ _ _ h => h) (Or.inl ⟨by rfl, ?_⟩) hx0 ?_
           rotate_left
           ·intro wz hz; have y9 := (hz.cell (p := ⟨bl, 0, none⟩) hbl).trans q9; go_simp; (try with_reducible rfl)
           try simp only [Act.put, pu]
           refine ord_take (i := 1) (v := ?_) (by kernel_rfl) rfl (by decide) (by kernel_rfl) (by kernel_rfl) (fun _ _ _ h => h) (Or.inl ⟨by rfl, ?_⟩) hx0 ?_
           rotate_left
           ·intro wz hz; have j4 := k17.below hz k17.lt; have y0 : wz.cell? ⟨G17, 0, none⟩ = some (.int .i64 e.f) := j4.cell 0; have y1 : wz.cell? ⟨G17, 1, none⟩ = some (.int .i64 e.t) := j4.cell 1; have y2 : wz.cell? ⟨G17, 2, none⟩ = some (.int .i64 e.c) := j4.cell 2; have y3 : wz.cell? ⟨G17, 3, none⟩ = some (.int .i64 e.r) := j4.cell 3; have y4 : wz.cell? ⟨G17, 4, none⟩ = some (.int .i64 e.p0) := j4.cell 4; have y5 : wz.cell? ⟨G17, 5, none⟩ = some (.int .i64 e.p1) := j4.cell 5; have y6 : wz.cell? ⟨G17, 6, none⟩ = some (.int .i64 e.p2) := j4.cell 6; have y7 : wz.cell? ⟨G17, 7, none⟩ = some (.int .i64 e.p3) := j4.cell 7; have y8 : wz.cell? ⟨G17, 8, none⟩ = some (.int .i64 e.p4) := j4.cell 8; go_simp; (try with_reducible rfl)
           try simp only [Act.put, pu]
           refine ord_take (i := 3) (v := ?_) (by kernel_rfl) rfl (by decide) (by kernel_rfl) (by kernel_rfl) (fun _ _ _ h => h) (Or.inl ⟨by rfl, ?_⟩) hx0 ?_
           rotate_left
           ·intro wz hz; go_simp; (try with_reducible rfl)
           try simp only [Act.put, pu]
           refine ord_take (i := 5) (v := ?_) (by kernel_rfl) rfl (by decide) (by kernel_rfl) (by kernel_rfl) (fun _ _ _ h => h) (Or.inl ⟨by rfl, ?_⟩) hx0 ?_
           rotate_left
           ·intro wz hz; go_simp; (try with_reducible rfl)
           try simp only [Act.put, pu]
           refine ord_take (i := 6) (v := ?_) (by kernel_rfl) rfl (by decide) (by kernel_rfl) (by kernel_rfl) (fun _ _ _ h => h) (Or.inl ⟨by rfl, ?_⟩) hx0 ?_
           rotate_left
           ·intro wz hz; have j4 := k17.below hz k17.lt; have y0 : wz.cell? ⟨G17, 0, none⟩ = some (.int .i64 e.f) := j4.cell 0; have y1 : wz.cell? ⟨G17, 1, none⟩ = some (.int .i64 e.t) := j4.cell 1; have y2 : wz.cell? ⟨G17, 2, none⟩ = some (.int .i64 e.c) := j4.cell 2; have y3 : wz.cell? ⟨G17, 3, none⟩ = some (.int .i64 e.r) := j4.cell 3; have y4 : wz.cell? ⟨G17, 4, none⟩ = some (.int .i64 e.p0) := j4.cell 4; have y5 : wz.cell? ⟨G17, 5, none⟩ = some (.int .i64 e.p1) := j4.cell 5; have y6 : wz.cell? ⟨G17, 6, none⟩ = some (.int .i64 e.p2) := j4.cell 6; have y7 : wz.cell? ⟨G17, 7, none⟩ = some (.int .i64 e.p3) := j4.cell 7; have y8 : wz.cell? ⟨G17, 8, none⟩ = some (.int .i64 e.p4) := j4.cell 8; go_simp; (try with_reducible rfl)
           try simp only [Act.put, pu]
           refine ord_step (i := 2) rfl (by decide) (by kernel_rfl) (by rfl) (fun K hK => ?_)
           go_simp
           obtain ⟨W7, hW7⟩ : ∃ W, W = (W6.alloc (.cells #[.int .i64 e.f, .int .i64 e.t, .int .i64 e.c, .int .i64 e.r, .int .i64 e.p0, .int .i64 e.p1, .int .i64 e.p2, .int .i64 e.p3, .int .i64 e.p4] 56)).drew := ⟨_, rfl⟩
           have hb7 : Below W6.heap.size W6 W7 := by rw [hW7]; exact ((Below.refl _ _).alloc (Nat.le_refl _) _).drew
           have k90 : Blk W7 W6.heap.size 56 e.cs := by rw [hW7]; exact (Blk.new W6 _ _).drew
           have own7 : W7.ownsRow W6.heap.size 56 9 (.slice (some ⟨W6.heap.size, 0, none⟩) 1 1) 1 (efl [e]) := own_blk k90
           rw [← hW7]
           clear hW7 q9
           refine hK _ _ hb7 ?_
           clear hK K
           try simp only [Act.put, pu]
           refine ord_step (i := 4) rfl (by decide) (by kernel_rfl) (by rfl) (fun K hK => ?_)
           refine wp_append_any W7 (.tmp 90) (.tmp 91) 26 rfl W6.heap.size 56 i0 Ed.zv 9 72 Tryz.underlying26 HI.out.1 HI.out.2.1 HI.out.2.2.1 HI.out.2.2.2 rfl (by decide) (.slice (some ⟨W6.heap.size, 0, none⟩) 1 1) 1 (efl [e]) rfl own7 W7.heap.size A nw c (efl l) rfl (HL6.out.on hb7).reads (efl_one _) (by simp only [maxLen]; omega) (by omega) hb7.size ?_
           intro v8 W8 own8 gr8 at8
           have hb8 : Below W6.heap.size W6 W8 := hb7.grown gr8 hb7.size (fun k hk => (own7.lt k hk).1)
           have HO8 : OwnE W8 W6.heap.size v8 (e :: l) := by
            unfold OwnE
            rw [List.length_cons, Nat.add_comm, show efl (e :: l) = efl [e] ++ efl l from efl_append [e] l, Hlen.out]
            exact own8
           clear own8 gr8 at8 own7 k90 hb7
           obtain ⟨A8, c8, rfl, r8⟩ := HO8.row
           have HB8 := Lib.hid (HB6.out.on hb8)
           have HE8 := Lib.hid (HE6.out.gr (Gr.of_below hb8) HB6.out.blk)
           have HM8 := Lib.hid (HM6.out.on hb8)
           have HR8 := Lib.hid r8
           have hg8 := hg6.trans (Gr.of_below hb8)
           clear r8 HO8
           refine hK _ _ hb8 ?_
           clear hK K
           try simp only [Act.put, pu]
           refine ord_rest (by kernel_rfl) ?_
           refine any_step (i := 7) rfl (by kernel_rfl) (by rfl) (fun K hK => ?_)
           go_simp
           refine (HIH.out k rfl W8 cur A8 (e :: l).length c8 (e :: l) e.f (by have h1 := HLN.out; simp only [List.length_cons]; omega) HR8.out HM8.out HE8.out HB8.out (fun h => by cases h)).mono ?_
           rintro y' W9 ⟨rfl, hB9, hG9⟩
           have HS : Hid (BestAt W9 bb ((gi.take (i + 1)).foldl (fun b e => if decide (e.f = td) || l.any (fun y => decide (y.f = e.f)) then b else lookF L g fr td a x k b (e :: l) e.f) (some y))) := Lib.hid (by rw [HFT.out]; exact hB9)
           have hg9 := hg8.trans hG9
           clear hB9 hG9 hg8 hb8 hg6 k17
           refine hK _ _ ?_
           clear hK K
           try simp only [Act.put, pu]
           refine wpAny_done (by kernel_rfl) ?_ _
           refine NoPanic.normal ?_
           go_wp2_with fail
           go_roundw
           case rel => exact ⟨i + 1, by omega, by go_num, HS, hg9⟩
           case measure => simp [intOf]; omega
        ·have hin : i = nI := by omega
         subst hin
         have HF : Hid (LookEnd w bb (lookF L g fr td a x (k + 1) (some y) l at_) (.returned (.tuple #[])) wr) := Lib.hid (by
          refine ⟨rfl, ?_, (Gr.of_below hBa).trans hg⟩
          rw [HQ3.out]
          have h := HBr.out
          rwa [List.take_of_length_le (by rw [HNI.out]; exact Nat.le_refl _)] at h)
         go_wp2_with fail
         exact bodyPost_end (v := .tuple #[]) (by simp [results, Tryz.f96, go_sem]) rfl HF.out
theorem look_any (L : Notes) (hgd : Good L) (b m0 : Nat) (e : LookEnv) (g : List Ed) (hng : e.ng ≤ 1048576) : ∀ n, LookSpec L b m0 e g n
 | 0 => look_step L hgd b m0 e g hng 0 (fun k h => by cases h)
 | n + 1 => look_step L hgd b m0 e g hng (n + 1) (fun k h => by
  obtain rfl : n = k := Nat.succ.inj h
  exact look_any L hgd b m0 e g hng n)
end Go.Proofs.YthefgdehfgkhhaaGreat
