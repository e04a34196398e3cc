/-
  split.Try's own function: one part is sent.
-/
import Derived.Test.YthefgdehfgkhhaaGreatK01
import Derived.Test.YthefgdehfgkhhaaGreatK17
import Derived.Test.YthefgdehfgkhhaaGreatK18
namespace Go.Proofs.YthefgdehfgkhhaaGreat
open Go.RowKit Go.Shelf
set_option linter.unusedVariables false
set_option linter.unusedSimpArgs false
attribute [local go_sem] Oper.semAt_some
def RetT1 (w : World) (p b bo m0 : Nat) (L : Notes) (q : Rat) (bq : Nat) (o : Option (Prt × Fnd)) (e : Ending) (w' : World) : Prop := match o with
 | none => e = .returned (.tuple #[.agg #[.int .i64 0, .slice none 0 0, .slice none 0 0, .slice none 0 0], .bool false]) ∧ Below w.heap.size w w'
 | some r => (∃ cs, e = .returned (.tuple #[.agg cs, .bool true]) ∧ PV w' cs r.1) ∧ FracAt w' bo (q * r.2.q) (bq + 42) ∧ Good (sentL L r.1.way r.1.s) ∧ (∃ m, m ≤ m0 + 24 ∧ MindAt w' p b m (sentL L r.1.way r.1.s)) ∧ Gr (fun k => k = b ∨ k = bo) w w'
theorem Gr.lift {w w' : World} {b bo : Nat} (h : Gr (· = b) w w') : Gr (fun k => k = b ∨ k = bo) w w' := h.mono fun k _ e => .inl e
theorem Gr.trans_new {M : Nat → Prop} {w a a' : World} {g : Nat} (h : Gr M w a) (k : Gr (· = g) a a') (hg : w.heap.size ≤ g) : Gr M w a' :=
 ⟨k.os.trans h.os, k.tape.trans h.tape, k.output.trans h.output, Nat.le_trans h.size k.size, fun i hi hn => (k.block i (Nat.lt_of_lt_of_le hi h.size) (fun e => by have e : i = g := e; omega)).trans (h.block i hi hn)⟩
theorem Gr.box {w w' : World} {b bo : Nat} (h : Gr (· = bo) w w') : Gr (fun k => k = b ∨ k = bo) w w' := h.mono fun k _ e => .inr e
set_option maxRecDepth 100000 in
set_option maxHeartbeats 2000000 in
theorem try1_any (E : TryEnv) (g : List Ed) (w : World) (m0 : Nat) (L : Notes) (q : Rat) (bq : Nat) (a : Int) (hng : E.ng ≤ 1048576) (hE : TryAt w E g) (hM : MindAt w E.p E.b m0 L) (hgd : Good L) (hm : m0 < 700000) (hF : FracAt w E.bo q bq) (hbq : bq ≤ 8000) :
 Calls Tryz.prog 66 #[.int .i64 a, .pointer (some ⟨E.bg, 0, none⟩), .pointer (some ⟨E.bm, 0, none⟩), .pointer (some ⟨E.bf, 0, none⟩), .pointer (some ⟨E.bt, 0, none⟩), .pointer (some ⟨E.bx, 0, none⟩), .pointer (some ⟨E.bo, 0, none⟩)] w
  (RetT1 w E.p E.b E.bo m0 L q bq (sendF g E.fr E.td E.x L a)) := by
 obtain ⟨p, b, bg, bm, bf, bt, bx, bo, x, fr, td, Ag, ng, cg⟩ := E
 dsimp only at *
 obtain ⟨W0, hW0⟩ : ∃ W, W = w.alloc (.cells #[.int .i64 0, .slice none 0 0, .slice none 0 0, .slice none 0 0] 51) := ⟨_, rfl⟩
 have hB0 : Below w.heap.size w W0 := by rw [hW0]; exact (Below.refl _ _).alloc (Nat.le_refl _) _
 have k8 : Blk W0 w.heap.size 51 #[.int .i64 0, .slice none 0 0, .slice none 0 0, .slice none 0 0] := by rw [hW0]; exact Blk.new w _ _
 have hE0 := hE.on hB0
 have c_g := hE0.g
 have c_m := hE0.m
 have c_f := hE0.f
 have c_t := hE0.t
 have c_x := hE0.x
 dsimp only at c_g c_m c_f c_t c_x
 have HE := Lib.hid hE0
 have HM := Lib.hid (hM.on hB0)
 have HF := Lib.hid (hF.on hB0)
 have HB := Lib.hid hB0
 have HBO := Lib.hid (show bo < w.heap.size from hF.lt)
 have HBB := Lib.hid (show b < w.heap.size from hM.lt)
 have HS : Hid (sendF g fr td x L a = (bestF L g fr td a x).bind fun y => (cost y.way a x).map fun r => (⟨a, y.way, r.1, r.2⟩, y)) := Lib.hid rfl
 have HBK := Lib.hid (fun y (h : bestF L g fr td a x = some y) => (best_ok h).2)
 clear hE hE0 hM hF hB0
 go_enter Tryz.func66, Tryz.ntmps66
 go_upto_region 1 with (fail)
 rw [← hW0]
 clear hW0
 obtain ⟨G8, hG8⟩ : ∃ z, w.heap.size = z := ⟨_, rfl⟩
 rw [hG8] at k8 ⊢
 have HG8 := Lib.hid hG8
 clear hG8
 go_wp2_with fail
 refine (best_any W0 p b m0 L HM.out hgd Ag ng cg g HE.out.row hng fr td a x).mono ?_
 rintro y W1 ⟨hb, hm1⟩
 obtain ⟨ob, hob⟩ : ∃ z, bestF L g fr td a x = z := ⟨_, rfl⟩
 rw [hob] at hm1 HS
 replace k8 := k8.below hb k8.lt
 have HB1 := Lib.hid (bltB HB.out HB.out.size hb)
 have HE1 := Lib.hid (HE.out.on hb)
 have HM1 := Lib.hid (HM.out.on hb)
 have HF1 := Lib.hid (HF.out.on hb)
 clear HE HM HF HB hb c_g c_m c_f c_t c_x
 rcases ob with _ | y1
 ·obtain ⟨z, hz, hz0⟩ : ∃ z : Int, (if argsB g fr td a x = true then (19 : Int) else 1) = z ∧ (z != 0) = true := ⟨_, rfl, by split <;> rfl⟩
  dsimp only at hm1
  rw [hz] at hm1
  subst hm1
  have HZ := Lib.hid hz
  have HO := Lib.hid hob
  clear hob hz
  go_upto_region 2 with (fail)
  obtain ⟨W2, hW2⟩ : ∃ W, W = W1.alloc (.cells #[.slice none 0 0, .slice none 0 0] 34) := ⟨_, rfl⟩
  have hb2 : Below W1.heap.size W1 W2 := by rw [hW2]; exact (Below.refl _ _).alloc (Nat.le_refl _) _
  rw [← hW2]
  clear hW2
  replace k8 := k8.below hb2 k8.lt
  have HB2 := Lib.hid (bltB HB1.out HB1.out.size hb2)
  clear hb2
  have z0 := k8.cell 0
  have z1 := k8.cell 1
  have z2 := k8.cell 2
  have z3 := k8.cell 3
  have f0 := k8.frozen 0
  have f1 := k8.frozen 1
  have f2 := k8.frozen 2
  have f3 := k8.frozen 3
  go_wp2_with fail
  have k9 := (((k8.set_ 0 (.int .i64 0)).set_ 1 (.slice none 0 0)).set_ 2 (.slice none 0 0)).set_ 3 (.slice none 0 0)
  have h8 : w.heap.size ≤ G8 := by have := HG8.out; omega
  have hB3 := (((HB2.out.setCell (p := ⟨G8, 0, none⟩) h8 (.int .i64 0)).setCell (p := ⟨G8, 1, none⟩) h8 (.slice none 0 0)).setCell (p := ⟨G8, 2, none⟩) h8 (.slice none 0 0)).setCell (p := ⟨G8, 3, none⟩) h8 (.slice none 0 0)
  refine bodyPost_ret (v := .tuple #[.agg #[.int .i64 0, .slice none 0 0, .slice none 0 0, .slice none 0 0], .bool false]) ?_ rfl ?_
  ·have e0 := k9.cell 0
   have e1 := k9.cell 1
   have e2 := k9.cell 2
   have e3 := k9.cell 3
   simp at e0 e1 e2 e3
   simp [results, Tryz.f66, go_sem, e0, e1, e2, e3]
  ·rw [HS.out]
   exact ⟨rfl, hB3⟩
 ·obtain ⟨hne, A, n, c, A1, n1, c1, B1, m1, d1, rfl, rW, hn8, I⟩ := hm1
  obtain ⟨r, hcr⟩ := (HBK.out y1 hob).cost
  obtain ⟨hcr, _⟩ := hcr
  obtain ⟨s, t⟩ := r
  have HCO := Lib.hid hcr
  rw [Option.bind_some, hcr, Option.map_some] at HS
  have HW := Lib.hid rW
  have HI := Lib.hid I
  have HN8 := Lib.hid hn8
  clear hne rW I hn8 hob hcr HBK
  go_upto_region 2 with (fail)
  obtain ⟨W2, hW2⟩ : ∃ W, W = W1.alloc (.cells #[.slice A1 n1 c1, .slice B1 m1 d1] 34) := ⟨_, rfl⟩
  have k11 : Blk W2 W1.heap.size 34 #[.slice A1 n1 c1, .slice B1 m1 d1] := by rw [hW2]; exact Blk.new W1 _ _
  have hb2 : Below W1.heap.size W1 W2 := by rw [hW2]; exact (Below.refl _ _).alloc (Nat.le_refl _) _
  have I2 := HI.out.on hb2
  rw [← hW2]
  clear hW2
  obtain ⟨G11, hG11⟩ : ∃ z, W1.heap.size = z := ⟨_, rfl⟩
  rw [hG11] at k11 ⊢
  have HG11 := Lib.hid hG11
  replace k8 := k8.below hb2 k8.lt
  have HB2 := Lib.hid (bltB HB1.out HB1.out.size hb2)
  have HE2 := Lib.hid (HE1.out.on hb2)
  have HM2 := Lib.hid (HM1.out.on hb2)
  have HF2 := Lib.hid (HF1.out.on hb2)
  have HW2 := Lib.hid (HW.out.on hb2)
  have HR2 : Hid (FracAt W2 G11 y1.q 40) := Lib.hid ⟨_, _, _, _, _, _, k11, I2⟩
  clear hb2 HE1 HM1 HF1 HW HI I2 hG11 k11 HB1
  have c_x := HE2.out.x
  dsimp only at c_x
  go_upto_region 4 with (fail)
  go_wp2_with fail
  refine (cost_any W2 A n c y1.way HW2.out (by have := HN8.out; omega) a x).mono ?_
  rw [HCO.out]
  rintro y W3 ⟨hb, As, ns, cs, At, nt, ct, rfl, rS, rT⟩
  replace k8 := k8.below hb k8.lt
  have HB3 := Lib.hid (bltB HB2.out HB2.out.size hb)
  have HE3 := Lib.hid (HE2.out.on hb)
  have HM3 := Lib.hid (HM2.out.on hb)
  have HF3 := Lib.hid (HF2.out.on hb)
  have HW3 := Lib.hid (HW2.out.on hb)
  have HR3 := Lib.hid (HR2.out.on hb)
  have HS3 := Lib.hid rS
  have HT3 := Lib.hid rT
  clear hb HE2 HM2 HF2 HW2 HR2 HB2 rS rT c_x
  have hns : ns = n := by
   have h1 := HS3.out.ilen
   have h2 := (cost_at HCO.out).2.1
   have h3 := HW3.out.elen
   dsimp only at h1 h2
   omega
  subst hns
  have HK8 := Lib.hid k8
  have HNE : Hid (b ≠ G8 ∧ bo ≠ G8 ∧ bo ≠ b) := Lib.hid (by
   have h1 := HG8.out
   have h2 := HBO.out
   have h3 := HBB.out
   refine ⟨by omega, by omega, fun e => ?_⟩
   obtain ⟨cs, k⟩ := HF3.out.blk
   exact map_ne HM3.out k e)
  clear k8
  go_wp2_with fail
  go_loopw [42] (fun iv wr => ∃ i : Nat, i ≤ ns ∧ iv = .int .i64 i ∧ ∃ L', Hid (sentL L' (y1.way.drop i) (s.drop i) = sentL L y1.way s) ∧ Hid (Good L') ∧ Hid (MindAt wr p b (m0 + 3 * i) L') ∧ Hid (Gr (· = b) W3 wr)) (fun iv _ => ns - (intOf iv).toNat)
  case atStart => exact ⟨0, Nat.zero_le _, rfl, L, Lib.hid (by simp), Lib.hid hgd, HM3, Lib.hid (Gr.refl _ _)⟩
  case round =>
   obtain ⟨i, hi, rfl, L', HQ, HG', HM', HGR⟩ := hrel
   by_cases hlt : i < ns
   ·obtain ⟨ba, oa, e, hA, hba, hx, hat, a0, a1, a2, a3, a4, a5, a6, a7, a8⟩ := (HW3.out.gr_map HM3.out HGR.out).edge hlt
    obtain ⟨bs, os_, hAs, hbs, hxs, s0⟩ := (HS3.out.gr_map HM3.out HGR.out).num hlt
    have c_m := (HE3.out.gr HM3.out HF3.out.blk HGR.out.lift).m
    dsimp only at c_m
    subst hA
    subst hAs
    have HEE := Lib.hid hx
    have HX := Lib.hid hxs
    have hlm : bm < wr.heap.size := Nat.lt_of_lt_of_le HE3.out.lt.1.2 HGR.out.size
    have HNM : Hid (bm ≠ b) := Lib.hid HE3.out.nb.1.2
    clear hx hat hxs
    have hlt' : (i : Int) < (ns : Int) := by omega
    obtain ⟨f, t1, ch, r, p0, p1, p2, p3, p4⟩ := e
    dsimp only at a0 a1 a2 a3 a4 a5 a6 a7 a8
    obtain ⟨xs, hxs⟩ : ∃ z, s.getD i 0 = z := ⟨_, rfl⟩
    rw [hxs] at s0 HX
    clear hxs
    go_upto_region 8 with (fail)
    obtain ⟨W4, hW4⟩ : ∃ W, W = wr.alloc (.cells #[.int .i64 f, .int .i64 t1, .int .i64 ch, .int .i64 r, .int .i64 p0, .int .i64 p1, .int .i64 p2, .int .i64 p3, .int .i64 p4] 56) := ⟨_, rfl⟩
    have hb1 : Below wr.heap.size wr W4 := by rw [hW4]; exact (Below.refl _ _).alloc (Nat.le_refl _) _
    have k4 : Blk W4 wr.heap.size 56 #[.int .i64 f, .int .i64 t1, .int .i64 ch, .int .i64 r, .int .i64 p0, .int .i64 p1, .int .i64 p2, .int .i64 p3, .int .i64 p4] := by rw [hW4]; exact Blk.new wr _ _
    obtain ⟨G, hG⟩ : ∃ G, wr.heap.size = G := ⟨_, rfl⟩
    rw [← hW4, hG]
    rw [hG] at k4
    have s1 := (hb1.cell (p := ⟨bs, os_ + i, none⟩) hbs).trans s0
    have m1' := (hb1.cell (p := ⟨bm, 0, none⟩) hlm).trans c_m
    have HM1' := Lib.hid (HM'.out.on hb1)
    have HGR1 := Lib.hid (HGR.out.trans (Gr.of_below hb1))
    have hbs1 : bs < W4.heap.size := Nat.lt_of_lt_of_le hbs hb1.size
    have hlm1 : bm < W4.heap.size := Nat.lt_of_lt_of_le hlm hb1.size
    have hmi : m0 + 3 * i < 800000 := by have := HN8.out; omega
    have HSB : Hid (bs ≠ b) := Lib.hid (by
     obtain ⟨b', off, cs', fr', e', hh, _⟩ := (HS3.out.gr_map HM3.out HGR.out).at_ (by omega)
     injection e' with e'
     injection e' with e1 e2
     rw [e1]
     exact map_ne HM'.out hh)
    clear hW4 hG hb1 a0 a1 a2 a3 a4 a5 a6 a7 a8 s0 c_m
    refine wp_region_noPanic ?_
    refine ord_begin 6 (fun wx => Below W4.heap.size W4 wx) (by kernel_rfl) ?_
    have hx0 : Below W4.heap.size W4 W4.drew := (Below.refl _ _).drew
    refine ord_take (i := 0) (v := ?_) (by kernel_rfl) rfl (by decide) (by kernel_rfl) (by kernel_rfl) (fun _ _ _ h => h) (Or.inl ⟨by rfl, ?_⟩) hx0 ?_
    rotate_left
    ·intro wz hz; have y10 := (hz.cell (p := ⟨bm, 0, none⟩) hlm1).trans m1'; go_simp; (try with_reducible rfl)
    try simp only [Act.put, pu]
    refine ord_take (i := 1) (v := ?_) (by kernel_rfl) rfl (by decide) (by kernel_rfl) (by kernel_rfl) (fun _ _ _ h => h) (Or.inl ⟨by rfl, ?_⟩) hx0 ?_
    rotate_left
    ·intro wz hz; have j4 := k4.below hz k4.lt; have y0 : wz.cell? ⟨G, 0, none⟩ = some (.int .i64 f) := j4.cell 0; have y1 : wz.cell? ⟨G, 1, none⟩ = some (.int .i64 t1) := j4.cell 1; have y2 : wz.cell? ⟨G, 2, none⟩ = some (.int .i64 ch) := j4.cell 2; have y3 : wz.cell? ⟨G, 3, none⟩ = some (.int .i64 r) := j4.cell 3; have y4 : wz.cell? ⟨G, 4, none⟩ = some (.int .i64 p0) := j4.cell 4; have y5 : wz.cell? ⟨G, 5, none⟩ = some (.int .i64 p1) := j4.cell 5; have y6 : wz.cell? ⟨G, 6, none⟩ = some (.int .i64 p2) := j4.cell 6; have y7 : wz.cell? ⟨G, 7, none⟩ = some (.int .i64 p3) := j4.cell 7; have y8 : wz.cell? ⟨G, 8, none⟩ = some (.int .i64 p4) := j4.cell 8; go_simp; (try with_reducible rfl)
    try simp only [Act.put, pu]
    refine ord_take (i := 2) (v := ?_) (by kernel_rfl) rfl (by decide) (by kernel_rfl) (by kernel_rfl) (fun _ _ _ h => h) (Or.inl ⟨by rfl, ?_⟩) hx0 ?_
    rotate_left
    ·intro wz hz; go_simp; (try with_reducible rfl)
    try simp only [Act.put, pu]
    refine ord_take (i := 3) (v := ?_) (by kernel_rfl) rfl (by decide) (by kernel_rfl) (by kernel_rfl) (fun _ _ _ h => h) (Or.inl ⟨by rfl, ?_⟩) hx0 ?_
    rotate_left
    ·intro wz hz; go_simp; (try with_reducible rfl)
    try simp only [Act.put, pu]
    refine ord_take (i := 4) (v := ?_) (by kernel_rfl) rfl (by decide) (by kernel_rfl) (by kernel_rfl) (fun _ _ _ h => h) (Or.inl ⟨by rfl, ?_⟩) hx0 ?_
    rotate_left
    ·intro wz hz; go_simp; (try with_reducible rfl)
    try simp only [Act.put, pu]
    refine ord_take (i := 5) (v := ?_) (by kernel_rfl) rfl (by decide) (by kernel_rfl) (by kernel_rfl) (fun _ _ _ h => h) (Or.inl ⟨by rfl, ?_⟩) hx0 ?_
    rotate_left
    ·intro wz hz; have y9 := (hz.cell (p := ⟨bs, os_ + i, none⟩) hbs1).trans s1; go_simp; (try with_reducible rfl)
    try simp only [Act.put, pu]
    refine ord_rest (by kernel_rfl) ?_
    refine any_step (i := 6) rfl (by kernel_rfl) (by rfl) (fun K hK => ?_)
    go_simp
    refine (passed_any W4.drew p b (m0 + 3 * i) L' (HM1'.out.on hx0) HG'.out (by omega) ⟨f, t1, ch, r, p0, p1, p2, p3, p4⟩ xs).mono ?_
    rintro y W5 ⟨rfl, hM2, hg2⟩
    refine hK _ _ ?_
    clear hK K
    try simp only [Act.put, pu]
    refine wpAny_done (by kernel_rfl) ?_ _
    refine NoPanic.normal ?_
    have hgw : Gr (· = b) W4 W5 := (Gr.of_below (Below.refl _ _).drew).trans (Gr.of_grown hg2 rfl)
    have k5 : Blk W5 G 56 #[.int .i64 f, .int .i64 t1, .int .i64 ch, .int .i64 r, .int .i64 p0, .int .i64 p1, .int .i64 p2, .int .i64 p3, .int .i64 p4] := k4.gr hgw (fun e => map_ne HM1'.out k4 e)
    have s2 := (hgw.cell hbs1 HSB.out).trans s1
    have m2 := (hgw.cell hlm1 HNM.out).trans m1'
    have hbs2 : bs < W5.heap.size := Nat.lt_of_lt_of_le hbs1 hgw.size
    have hlm2 : bm < W5.heap.size := Nat.lt_of_lt_of_le hlm1 hgw.size
    have HM2' := Lib.hid hM2
    have HG2' := Lib.hid (HG'.out.pass (Ed.e4 ⟨f, t1, ch, r, p0, p1, p2, p3, p4⟩) xs)
    have HGR2 := Lib.hid (HGR1.out.trans hgw)
    have hmi2 : m0 + 3 * i + 1 < 900000 := by have := HN8.out; omega
    clear hgw hg2 hM2 k4 s1 m1' hbs1 hlm1 HM1' HGR1
    go_upto_region 9 with (fail)
    refine wp_region_noPanic ?_
    refine ord_begin 6 (fun wx => Below W5.heap.size W5 wx) (by kernel_rfl) ?_
    have hx0 : Below W5.heap.size W5 W5.drew := (Below.refl _ _).drew
    refine ord_take (i := 0) (v := ?_) (by kernel_rfl) rfl (by decide) (by kernel_rfl) (by kernel_rfl) (fun _ _ _ h => h) (Or.inl ⟨by rfl, ?_⟩) hx0 ?_
    rotate_left
    ·intro wz hz; have y10 := (hz.cell (p := ⟨bm, 0, none⟩) hlm2).trans m2; go_simp; (try with_reducible rfl)
    try simp only [Act.put, pu]
    refine ord_take (i := 1) (v := ?_) (by kernel_rfl) rfl (by decide) (by kernel_rfl) (by kernel_rfl) (fun _ _ _ h => h) (Or.inl ⟨by rfl, ?_⟩) hx0 ?_
    rotate_left
    ·intro wz hz; have j4 := k5.below hz k5.lt; have y0 : wz.cell? ⟨G, 0, none⟩ = some (.int .i64 f) := j4.cell 0; have y1 : wz.cell? ⟨G, 1, none⟩ = some (.int .i64 t1) := j4.cell 1; have y2 : wz.cell? ⟨G, 2, none⟩ = some (.int .i64 ch) := j4.cell 2; have y3 : wz.cell? ⟨G, 3, none⟩ = some (.int .i64 r) := j4.cell 3; have y4 : wz.cell? ⟨G, 4, none⟩ = some (.int .i64 p0) := j4.cell 4; have y5 : wz.cell? ⟨G, 5, none⟩ = some (.int .i64 p1) := j4.cell 5; have y6 : wz.cell? ⟨G, 6, none⟩ = some (.int .i64 p2) := j4.cell 6; have y7 : wz.cell? ⟨G, 7, none⟩ = some (.int .i64 p3) := j4.cell 7; have y8 : wz.cell? ⟨G, 8, none⟩ = some (.int .i64 p4) := j4.cell 8; go_simp; (try with_reducible rfl)
    try simp only [Act.put, pu]
    refine ord_take (i := 2) (v := ?_) (by kernel_rfl) rfl (by decide) (by kernel_rfl) (by kernel_rfl) (fun _ _ _ h => h) (Or.inl ⟨by rfl, ?_⟩) hx0 ?_
    rotate_left
    ·intro wz hz; go_simp; (try with_reducible rfl)
    try simp only [Act.put, pu]
    refine ord_take (i := 3) (v := ?_) (by kernel_rfl) rfl (by decide) (by kernel_rfl) (by kernel_rfl) (fun _ _ _ h => h) (Or.inl ⟨by rfl, ?_⟩) hx0 ?_
    rotate_left
    ·intro wz hz; go_simp; (try with_reducible rfl)
    try simp only [Act.put, pu]
    refine ord_take (i := 4) (v := ?_) (by kernel_rfl) rfl (by decide) (by kernel_rfl) (by kernel_rfl) (fun _ _ _ h => h) (Or.inl ⟨by rfl, ?_⟩) hx0 ?_
    rotate_left
    ·intro wz hz; go_simp; (try with_reducible rfl)
    try simp only [Act.put, pu]
    refine ord_take (i := 5) (v := ?_) (by kernel_rfl) rfl (by decide) (by kernel_rfl) (by kernel_rfl) (fun _ _ _ h => h) (Or.inl ⟨by rfl, ?_⟩) hx0 ?_
    rotate_left
    ·intro wz hz; have y9 := (hz.cell (p := ⟨bs, os_ + i, none⟩) hbs2).trans s2; go_simp; (try with_reducible rfl)
    try simp only [Act.put, pu]
    refine ord_rest (by kernel_rfl) ?_
    refine any_step (i := 6) rfl (by kernel_rfl) (by rfl) (fun K hK => ?_)
    go_simp
    refine (moved_any W5.drew p b (m0 + 3 * i + 1) _ (HM2'.out.on hx0) HG2'.out (by omega) ⟨f, t1, ch, r, p0, p1, p2, p3, p4⟩ xs).mono ?_
    rintro y W6 ⟨rfl, hM3, hg3⟩
    refine hK _ _ ?_
    clear hK K
    try simp only [Act.put, pu]
    refine wpAny_done (by kernel_rfl) ?_ _
    refine NoPanic.normal ?_
    have hgw : Gr (· = b) W5 W6 := (Gr.of_below (Below.refl _ _).drew).trans (Gr.of_grown hg3 rfl)
    have HQ2 : Hid (sentL (moveL (passL L' (Ed.e4 ⟨f, t1, ch, r, p0, p1, p2, p3, p4⟩) xs) (Ed.e4 ⟨f, t1, ch, r, p0, p1, p2, p3, p4⟩) xs) (y1.way.drop (i + 1)) (s.drop (i + 1)) = sentL L y1.way s) := Lib.hid (by
     rw [← HQ.out, drop_at HEE.out, drop_at HX.out]
     rfl)
    have HM3' : Hid (MindAt W6 p b (m0 + 3 * (i + 1)) _) := Lib.hid hM3
    have HG3' := Lib.hid (HG2'.out.move (Ed.e4 ⟨f, t1, ch, r, p0, p1, p2, p3, p4⟩) xs)
    have HGR3 := Lib.hid (HGR2.out.trans hgw)
    clear hgw hg3 hM3
    go_wp2_with fail
    go_roundw
    case rel => exact ⟨i + 1, by omega, by go_num, _, HQ2, HG3', HM3', HGR3⟩
    case measure => simp [intOf]; omega
   ·have hin : i = ns := by omega
    subst hin
    have hq := HQ.out
    rw [List.drop_of_length_le (by rw [HW3.out.elen]; exact Nat.le_refl _)] at hq
    rw [show sentL L' [] (s.drop i) = L' from rfl] at hq
    subst hq
    have HGW := Lib.hid ((Gr.of_below (M := (· = b)) HB3.out).trans HGR.out)
    have k8 := HK8.out.gr HGR.out (fun e => HNE.out.1 e.symm)
    have HF4 := Lib.hid (HF3.out.mind HM3.out HGR.out)
    have HR4 := Lib.hid (HR3.out.mind HM3.out HGR.out)
    have HW4 := Lib.hid (HW3.out.gr_map HM3.out HGR.out)
    have HS4 := Lib.hid (HS3.out.gr_map HM3.out HGR.out)
    have HT4 := Lib.hid (HT3.out.gr_map HM3.out HGR.out)
    clear HGR HE3 HM3 HF3 HW3 HR3 HS3 HT3 HK8 HB3 HQ
    obtain ⟨Ao, no, co, Bo, mo, do_, ko, Io⟩ := HF4.out
    obtain ⟨Ar, nr, cr, Br, mr, dr, kr, Ir⟩ := HR4.out
    have q0 := ko.cell 0
    have q1 := ko.cell 1
    have q2 := kr.cell 0
    have q3 := kr.cell 1
    have g0 := ko.frozen 0
    have g1 := ko.frozen 1
    simp at q0 q1 q2 q3
    have HIo := Lib.hid Io
    have HIr := Lib.hid Ir
    have HKO := Lib.hid ko
    clear ko kr Io Ir HF4 HR4
    go_wp2_with fail
    refine (fmul_v HIo.out HIr.out (by omega) (by omega)).mono ?_
    rintro y W5 ⟨v, rfl, Iv, hb⟩
    obtain ⟨Av, nv, cv, Bv, mv, dv, rfl, hIv⟩ := Iv
    have Iv : IsQ W5 (.agg #[.slice Av nv cv, .slice Bv mv dv]) _ _ := ⟨_, _, _, _, _, _, rfl, hIv⟩
    have ko := HKO.out.below hb HKO.out.lt
    replace k8 := k8.below hb k8.lt
    have HG5 := Lib.hid (HGW.out.trans (Gr.of_below hb))
    have HM5 := Lib.hid (HM'.out.on hb)
    have HW5 := Lib.hid (HW4.out.on hb)
    have HS5 := Lib.hid (HS4.out.on hb)
    have HT5 := Lib.hid (HT4.out.on hb)
    have g0 := ko.frozen 0
    have g1 := ko.frozen 1
    have q0 := ko.cell 0
    have q1 := ko.cell 1
    simp at q0 q1
    clear hb hIv HKO HGW HM' HW4 HS4 HT4 HIo HIr q2 q3
    obtain ⟨k9, I9, hg9⟩ := frac_set ko Iv
    have HF9 : Hid (FracAt ((W5.setCell ⟨bo, 0, none⟩ (.slice Av nv cv)).setCell ⟨bo, 1, none⟩ (.slice Bv mv dv)) bo (q * y1.q) (bq + 40 + 2)) := Lib.hid ⟨_, _, _, _, _, _, k9, I9⟩
    go_upto_region 12 with (fail)
    obtain ⟨W6, hW6⟩ : ∃ W, W = (W5.setCell ⟨bo, 0, none⟩ (.slice Av nv cv)).setCell ⟨bo, 1, none⟩ (.slice Bv mv dv) := ⟨_, rfl⟩
    rw [← hW6] at k9 I9 hg9 HF9 ⊢
    have HG6 := Lib.hid (HG5.out.lift.trans hg9.box)
    have hfr : ∀ (T : TypeId) (cs' : Array Value) (b' : Nat) (fr' : Nat × Nat), T ≠ 34 → W5.heap[b']? = some (.cells cs' T fr') → ¬ b' = bo := fun T cs' b' fr' hT hh e => blk_ne ko hh hT e
    have HW6 := Lib.hid (Rg.gr HW5.out hg9 (fun b' cs' fr' hh => hfr _ cs' b' fr' (by decide) hh))
    have HS6 := Lib.hid (Rg.gr HS5.out hg9 (fun b' cs' fr' hh => hfr _ cs' b' fr' (by decide) hh))
    have HT6 := Lib.hid (Rg.gr HT5.out hg9 (fun b' cs' fr' hh => hfr _ cs' b' fr' (by decide) hh))
    have HM6 := Lib.hid (HM5.out.gr hg9 (fun e => blk_ne ko HM5.out.box (by decide) e) (fun e => HNE.out.2.2 e.symm))
    replace k8 := k8.gr hg9 (fun e => HNE.out.2.1 e.symm)
    clear hW6 hfr HW5 HS5 HT5 HM5 HG5 hg9 k9 I9 Iv ko g0 g1 q0 q1
    have z0 := k8.cell 0
    have z1 := k8.cell 1
    have z2 := k8.cell 2
    have z3 := k8.cell 3
    have f0 := k8.frozen 0
    have f1 := k8.frozen 1
    have f2 := k8.frozen 2
    have f3 := k8.frozen 3
    go_wp2_with fail
    have k9 := (((k8.set_ 0 (.int .i64 a)).set_ 1 (.slice A i c)).set_ 2 (.slice As i cs)).set_ 3 (.slice At nt ct)
    obtain ⟨W7, hW7⟩ : ∃ W, W = (((W6.setCell ⟨G8, 0, none⟩ (.int .i64 a)).setCell ⟨G8, 1, none⟩ (.slice A i c)).setCell ⟨G8, 2, none⟩ (.slice As i cs)).setCell ⟨G8, 3, none⟩ (.slice At nt ct) := ⟨_, rfl⟩
    have hg8 : Gr (· = G8) W6 W7 := by rw [hW7]; exact ((((Gr.refl (· = G8) W6).setCell (g := G8) (i := 0) (fun _ => show G8 = G8 from rfl) _).setCell (g := G8) (i := 1) (fun _ => show G8 = G8 from rfl) _).setCell (g := G8) (i := 2) (fun _ => show G8 = G8 from rfl) _).setCell (g := G8) (i := 3) (fun _ => show G8 = G8 from rfl) _
    rw [← hW7] at k9 ⊢
    refine bodyPost_ret (v := .tuple #[.agg #[.int .i64 a, .slice A i c, .slice As i cs, .slice At nt ct], .bool true]) ?_ rfl ?_
    ·have e0 := k9.cell 0
     have e1 := k9.cell 1
     have e2 := k9.cell 2
     have e3 := k9.cell 3
     simp at e0 e1 e2 e3
     simp [results, Tryz.f66, go_sem, e0, e1, e2, e3]
    ·rw [HS.out]
     have hpt : ∀ (T : TypeId) (cs' : Array Value) (b' : Nat) (fr' : Nat × Nat), T ≠ 51 → W6.heap[b']? = some (.cells cs' T fr') → ¬ b' = G8 := fun T cs' b' fr' hT hh e => blk_ne k8 hh hT e
     obtain ⟨Aq, nq, cq, Bq, mq, dq, kq, Iq⟩ := HF9.out
     refine ⟨⟨_, rfl, A, i, c, As, i, cs, At, nt, ct, rfl, Rg.gr HW6.out hg8 (fun b' cs' fr' hh => hpt _ cs' b' fr' (by decide) hh), Rg.gr HS6.out hg8 (fun b' cs' fr' hh => hpt _ cs' b' fr' (by decide) hh), Rg.gr HT6.out hg8 (fun b' cs' fr' hh => hpt _ cs' b' fr' (by decide) hh), HN8.out, rfl⟩, ⟨Aq, nq, cq, Bq, mq, dq, kq.gr hg8 (fun e => HNE.out.2.1 e), Iq.gr1 hg8 ?_⟩, HG'.out, ⟨m0 + 3 * i, by have := HN8.out; omega, HM6.out.gr hg8 (fun e => blk_ne k8 HM6.out.box (by decide) e) (fun e => HNE.out.1 e)⟩, HG6.out.trans_new hg8 (by have := HG8.out; omega)⟩
     intro o' d'
     rw [k8.cell o']
     match o' with
     | 0 => simp
     | 1 => simp
     | 2 => simp
     | 3 => simp
     | n + 4 => simp
end Go.Proofs.YthefgdehfgkhhaaGreat
namespace Go.Proofs.YthefgdehfgkhhaaGreat
open Go.RowKit Go.Maps
set_option linter.unusedVariables false
set_option linter.unusedSimpArgs false
attribute [local go_sem] Oper.semAt_some
/-- A leg: a channel, which side gives, how much. -/
structure Lg where
 c : Int
 s : Int
 a : Int
def Lg.cs (l : Lg) : Array Value := #[.int .i64 l.c, .int .i64 l.s, .int .i64 l.a]
def lcs (ls : List Lg) : List (Array Value) := ls.map Lg.cs
abbrev RL (w : World) (A : Option Addr) (n c : Nat) (ls : List Lg) : Prop := Rg 105 3 w A n c (lcs ls)
theorem lcs_wide (es : List Lg) : ∀ a ∈ lcs es, a.size = 3 := by
 intro a ha
 obtain ⟨e, _, rfl⟩ := List.mem_map.1 ha
 rfl
theorem Rg.llen {w : World} {A : Option Addr} {n c : Nat} {ls : List Lg} (h : RL w A n c ls) : ls.length = n := by have := h.len; rwa [lcs, List.length_map] at this
theorem Rg.leg {w : World} {A : Option Addr} {n c : Nat} {ls : List Lg} (h : RL w A n c ls) {i : Nat} (hi : i < n) :
 ∃ b off l, A = some ⟨b, off, none⟩ ∧ b < w.heap.size ∧ ls[i]? = some l ∧ w.cell? ⟨b, off + i * 3, none⟩ = some (.int .i64 l.c) ∧ w.cell? ⟨b, off + i * 3 + 1, none⟩ = some (.int .i64 l.s) ∧ w.cell? ⟨b, off + i * 3 + 2, none⟩ = some (.int .i64 l.a) := by
 obtain ⟨b, off, a, e, hb, hl, hc⟩ := h.cells hi
 have hlen : i < ls.length := by rw [h.llen]; exact hi
 rw [lcs, List.getElem?_map, List.getElem?_eq_getElem hlen] at hl
 have hl : ls[i].cs = a := Option.some.inj hl
 subst hl
 exact ⟨b, off, ls[i], e, hb, List.getElem?_eq_getElem hlen, hc 0 _ rfl, hc 1 _ rfl, hc 2 _ rfl⟩
def moveS (s : Cn) (l : Lg) : Cn := if l.s = 0 then ⟨s.c, s.p0, s.p1, s.h0 - l.a, s.h1 + l.a⟩ else ⟨s.c, s.p0, s.p1, s.h0 + l.a, s.h1 - l.a⟩
def haveS (s : Cn) (side : Int) : Int := if side = 0 then s.h0 else s.h1
def payF : List Cn → List Lg → Option (List Cn)
 | S, [] => some S
 | S, l :: ls => match lookS S l.c with
  | none => none
  | some s => if haveS s l.s < l.a then none else payF (putS S (moveS s l)) ls
def SOk (S : List Cn) : Prop := ∀ s ∈ S, 0 ≤ s.h0 ∧ 0 ≤ s.h1 ∧ s.h0 + s.h1 ≤ 1125899906842624
def LOk (S : List Cn) (l : Lg) : Prop := (l.s = 0 ∨ l.s = 1) ∧ (1 ≤ l.a ∧ l.a ≤ 1125899906842624) ∧ isI l.c ∧ (lookS S l.c).isSome = true
theorem move_c (s : Cn) (l : Lg) : (moveS s l).c = s.c := by unfold moveS; split <;> rfl
theorem SOk.move {S : List Cn} (h : SOk S) {s : Cn} {l : Lg} (hs : s ∈ S) (hl : (l.s = 0 ∨ l.s = 1)) (ha : 1 ≤ l.a) (hh : ¬ haveS s l.s < l.a) : SOk (putS S (moveS s l)) := by
 intro x hx
 rcases mem_putS hx with hx | rfl
 ·exact h x hx
 ·have h1 := h s hs
  unfold moveS
  unfold haveS at hh
  rcases hl with e | e <;> simp [e] at hh ⊢ <;> omega
theorem SMap.drew {w : World} {b n : Nat} {S : List Cn} (h : SMap w b n S) : SMap w.drew b n S := h
theorem LOk.move {S : List Cn} {l : Lg} (h : LOk S l) (s : Cn) (l' : Lg) : LOk (putS S (moveS s l')) l := by
 obtain ⟨h1, h2, h3, h4⟩ := h
 refine ⟨h1, h2, h3, ?_⟩
 rw [lookS_put]
 split
 ·rfl
 ·exact h4
theorem SOk.ok {S : List Cn} (h : SOk S) {s : Cn} {l : Lg} (hs : s ∈ S) (hk : s.ok) (hl : (l.s = 0 ∨ l.s = 1)) (ha : 1 ≤ l.a) (hh : ¬ haveS s l.s < l.a) : (moveS s l).ok := by
 obtain ⟨⟨k1, k2, k3⟩, _⟩ := hk
 have h1 := h s hs
 unfold moveS
 unfold haveS at hh
 rcases hl with e | e <;> simp [e] at hh ⊢ <;> exact ⟨⟨k1, k2, k3⟩, ⟨by dsimp only; omega, by dsimp only; omega⟩, ⟨by dsimp only; omega, by dsimp only; omega⟩⟩
theorem pay_cons (S : List Cn) (l : Lg) (ls : List Lg) {s : Cn} (h : lookS S l.c = some s) : payF S (l :: ls) = if haveS s l.s < l.a then none else payF (putS S (moveS s l)) ls := by
 rw [payF, h]
set_option maxRecDepth 100000 in
theorem sclone_any (w : World) (b n : Nat) (S : List Cn) (h : SMap w b n S) : Calls Tryz.prog 42 #[.map (some b)] w fun e w' => e = .returned (.map (some w.heap.size)) ∧ SMap w' w.heap.size n S ∧ Below w.heap.size w w' ∧ w.heap.size < w'.heap.size := by
 obtain ⟨D, ⟨es, clock, hb, F, hs, hD⟩, hsays⟩ := h
 have hq := fun w => run_eql_map_nil_sl (P := Tryz.prog) w 99 _ _ (some b) Tryz.underlying99
 have hf : SMap (w.alloc (.map es clock)) w.heap.size n S := ⟨D, ⟨es, clock, (MapKept.heap_alloc w _).1, F, hs, hD⟩, hsays⟩
 have hbl : Below w.heap.size w (w.alloc (.map es clock)) := (Below.refl _ _).alloc (Nat.le_refl _) _
 have HF := Lib.hid (And.intro hf hbl)
 clear hf hbl hs hD F hsays
 go_enter Tryz.func42, Tryz.ntmps42
 go_wp2
 rw [run_callFunc_extern Tryz.func80 (by kernel_rfl) (by kernel_rfl) (by kernel_rfl) (e := Extern.MapsClone.clone) (by kernel_rfl), run_maps_clone_sl w 99 hb]
 simp only [Result.andThen]
 rw [Oper.upon_value]
 go_wp2
 rw [run_typeAssert_map_sl _ 99 _ _ _ _ Tryz.underlying99]
 simp only [Result.andThen]
 rw [Oper.upon_value]
 go_wp2
 go_ret
 exact ⟨rfl, HF.out.1, HF.out.2, by simp⟩
def RetP (w : World) (p go co bh : Nat) (own : List Int) (lost : Int) (ns : Nat) (o : Option (List Cn)) (e : Ending) (w' : World) : Prop := match o with
 | none => e = .returned (.int .i64 8) ∧ Below w.heap.size w w'
 | some S' => e = .returned (.int .i64 0) ∧ (∃ bs', LedAt w' p go co bs' bh ns own S' lost ∧ w.heap.size ≤ bs') ∧ Gr (· = p) w w'
set_option maxRecDepth 100000 in
set_option maxHeartbeats 4000000 in
theorem pay_any (w : World) (p go co bs bh ns : Nat) (own : List Int) (S : List Cn) (lost : Int) (h : LedAt w p go co bs bh ns own S lost) (hok : SOk S) (A : Option Addr) (n c : Nat) (ls : List Lg) (hr : RL w A n c ls) (hl : ∀ l ∈ ls, LOk S l) (hn : n ≤ 100) (hns : ns + n < 900000) :
 Calls Tryz.prog 16 #[.pointer (some ⟨p, 0, none⟩), .slice A n c] w (RetP w p go co bh own lost (ns + n) (payF S ls)) := by
 have c1 := h.box.cell 1
 simp at c1
 have HL := Lib.hid h
 have HR := Lib.hid hr
 have HLEN := Lib.hid hr.llen
 have HLO := Lib.hid hl
 have HSO := Lib.hid hok
 have HNS := Lib.hid hns
 clear h hr hl hok hns
 go_enter Tryz.func16, Tryz.ntmps16
 go_wp2_with fail
 refine (sclone_any w bs ns S HL.out.map).mono ?_
 rintro y W1 ⟨rfl, hM, hb, hlt⟩
 obtain ⟨b2, hb2⟩ : ∃ z, w.heap.size = z := ⟨_, rfl⟩
 rw [hb2] at hM hlt ⊢
 have HB1 := Lib.hid hb
 have HM1 := Lib.hid hM
 have HL1 := Lib.hid (HL.out.on hb)
 have HR1 := Lib.hid (HR.out.on hb)
 have HB2 := Lib.hid (And.intro hb2 hlt)
 clear hb hM hlt hb2 c1
 go_wp2_with fail
 go_loopw [17] (fun iv wr => ∃ i : Nat, i ≤ n ∧ iv = .int .i64 i ∧ ∃ S' : List Cn, Hid (payF S' (ls.drop i) = payF S ls) ∧ Hid (SOk S' ∧ ∀ l ∈ ls, LOk S' l) ∧ Hid (SMap wr b2 (ns + i) S') ∧ Hid (Gr (· = b2) W1 wr)) (fun iv _ => n - (intOf iv).toNat)
 case atStart => exact ⟨0, Nat.zero_le _, rfl, S, Lib.hid rfl, Lib.hid ⟨HSO.out, HLO.out⟩, HM1, Lib.hid (Gr.refl _ _)⟩
 case round =>
  obtain ⟨i, hi, rfl, S', HQ, HOK, HM', HGR⟩ := hrel
  have HBw : Hid (Below w.heap.size w wr) := Lib.hid (HB1.out.trans (HGR.out.below (B := w.heap.size) HB1.out.size (fun k hk e => by have e : k = b2 := e; have := HB2.out.1; omega)))
  by_cases hlt : i < n
  ·have hR' := Rg.gr HR1.out HGR.out (fun b' cs' fr' hh e => by
    have e : b' = b2 := e
    subst e
    obtain ⟨es, cl, hm⟩ := HM1.out.isMap
    rw [hm] at hh
    simp at hh)
   obtain ⟨ba, oa, l, hA, hba, hx, a0, a1, a2⟩ := hR'.leg hlt
   subst hA
   have HX := Lib.hid hx
   have hlm : l ∈ ls := List.mem_of_getElem? hx
   obtain ⟨hls, hla, hlc, hlk⟩ := HOK.out.2 l hlm
   obtain ⟨s, hlook, hsl⟩ := HM'.out.look hlc
   obtain ⟨t, ht⟩ := Option.isSome_iff_exists.1 hlk
   have hst := hsl t ht
   subst hst
   have HLK := Lib.hid ht
   have HMS := Lib.hid (lookS_mem ht)
   have HSK := Lib.hid (HM'.out.ok.1 s (lookS_mem ht).1)
   have HSB := Lib.hid (HOK.out.1 s (lookS_mem ht).1)
   have HLL := Lib.hid (And.intro hls hla)
   have HSTEP := Lib.hid (pay_cons S' l (ls.drop (i + 1)) ht)
   rw [ht] at hlook
   have hlt' : (i : Int) < (n : Int) := by omega
   clear hx hlm hlk hsl ht hR'
   obtain ⟨lc, lsd, la⟩ := l
   obtain ⟨c0, p0, p1, h0, h1⟩ := s
   dsimp only at a0 a1 a2 hls hla hlc hlook HSB HMS HLL
   simp only [Cn.v, Cn.cs, Option.isSome_some] at hlook
   go_upto_region 5 with (fail)
   obtain ⟨W2, hW2⟩ : ∃ W, W = wr.alloc (.cells #[.int .i64 lc, .int .i64 lsd, .int .i64 la] 105) := ⟨_, rfl⟩
   have hb2 : Below wr.heap.size wr W2 := by rw [hW2]; exact (Below.refl _ _).alloc (Nat.le_refl _) _
   have k7 : Blk W2 wr.heap.size 105 #[.int .i64 lc, .int .i64 lsd, .int .i64 la] := by rw [hW2]; exact Blk.new wr _ _
   rw [← hW2]
   obtain ⟨G7, hG7⟩ : ∃ z, wr.heap.size = z := ⟨_, rfl⟩
   rw [hG7] at k7 ⊢
   have hlook2 := hlook W2 (hb2.block _ HM'.out.lt)
   have HM2 := Lib.hid (HM'.out.on hb2)
   have HG2 := Lib.hid (HGR.out.trans (Gr.of_below hb2))
   have HB3 := Lib.hid (bltB HBw.out HBw.out.size hb2)
   have hg1 : b2 < G7 := hG7 ▸ HM'.out.lt
   have hg0 : wr.heap.size ≤ W2.heap.size := hb2.size
   clear hW2 hb2 a0 a1 a2 hlook hG7
   have d0 := k7.cell 0
   have d1 := k7.cell 1
   have d2 := k7.cell 2
   simp at d0 d1 d2
   go_upto_region 6 with (fail)
   obtain ⟨W3, hW3⟩ : ∃ W, W = W2.alloc (.cells #[.int .i64 c0, .int .i64 p0, .int .i64 p1, .int .i64 h0, .int .i64 h1] 70) := ⟨_, rfl⟩
   have hb2 : Below W2.heap.size W2 W3 := by rw [hW3]; exact (Below.refl _ _).alloc (Nat.le_refl _) _
   have k8 : Blk W3 W2.heap.size 70 #[.int .i64 c0, .int .i64 p0, .int .i64 p1, .int .i64 h0, .int .i64 h1] := by rw [hW3]; exact Blk.new W2 _ _
   rw [← hW3]
   obtain ⟨G8, hG8⟩ : ∃ z, W2.heap.size = z := ⟨_, rfl⟩
   rw [hG8] at k8 ⊢
   have hg2 : G7 < G8 := hG8 ▸ k7.lt
   replace k7 := k7.below hb2 k7.lt
   have HM3 := Lib.hid (HM2.out.on hb2)
   have HG3 := Lib.hid (HG2.out.trans (Gr.of_below hb2))
   have HB4 := Lib.hid (bltB HB3.out HB3.out.size hb2)
   have HGG := Lib.hid (And.intro hg1 (And.intro hg2 (show wr.heap.size ≤ G8 by rw [← hG8]; exact hg0)))
   clear hW3 hb2 HM2 HG2 HB3 hlook2 d0 d1 d2 hG8 hg1 hg2 hg0
   have d0 := k7.cell 0
   have d1 := k7.cell 1
   have d2 := k7.cell 2
   have e0 := k8.cell 0
   have e1 := k8.cell 1
   have e2 := k8.cell 2
   have e3 := k8.cell 3
   have e4 := k8.cell 4
   have f3 := k8.frozen 3
   have f4 := k8.frozen 4
   simp at d0 d1 d2 e0 e1 e2 e3 e4
   have hla1 : ¬ la < 1 := by omega
   have HCO : Hid (inB la 0 1125899906842624 = true) := Lib.hid (by unfold inB; rw [decide_eq_true (show 0 ≤ la by omega), decide_eq_true hla.2]; rfl)
   rcases hls with rfl | rfl
   ·go_wp2_with fail
    refine (coin_any la W3).mono ?_
    rintro y _ ⟨rfl, rfl⟩
    rw [HCO.out]
    by_cases hh : h0 < la
    ·have HHH : Hid (payF S ls = none) := Lib.hid (by rw [← HQ.out, drop_at HX.out, HSTEP.out]; unfold haveS; simp [hh])
     go_upto_region 10 with (fail)
     refine region_still (by kernel_rfl) (by kernel_rfl) ?_
     replace d0 := (show W3.drew.cell? _ = _ from d0)
     replace d1 := (show W3.drew.cell? _ = _ from d1)
     replace d2 := (show W3.drew.cell? _ = _ from d2)
     replace e0 := (show W3.drew.cell? _ = _ from e0)
     replace e1 := (show W3.drew.cell? _ = _ from e1)
     replace e2 := (show W3.drew.cell? _ = _ from e2)
     replace e3 := (show W3.drew.cell? _ = _ from e3)
     replace e4 := (show W3.drew.cell? _ = _ from e4)
     replace HB4 := Lib.hid HB4.out.drew
     replace HM3 := Lib.hid HM3.out.drew
     replace HG3 := Lib.hid HG3.out.drew
     replace k7 := k7.drew
     replace k8 := k8.drew
     generalize W3.drew = W3d at d0 d1 d2 e0 e1 e2 e3 e4 HB4 HM3 HG3 k7 k8 ⊢
     with_reducible refine still_take ?_ ?_
     ·rfl
     intro K hK
     go_simp
     refine hK _ ?_
     clear hK K
     try simp only [Act.put, pu]
     with_reducible refine still_take ?_ ?_
     ·rfl
     intro K hK
     go_simp
     refine hK _ ?_
     clear hK K
     try simp only [Act.put, pu]
     with_reducible refine still_take ?_ ?_
     ·rfl
     intro K hK
     go_simp
     refine hK _ ?_
     clear hK K
     try simp only [Act.put, pu]
     with_reducible refine still_take ?_ ?_
     ·rfl
     intro K hK
     go_simp
     refine hK _ ?_
     clear hK K
     try simp only [Act.put, pu]
     with_reducible refine still_take ?_ ?_
     ·rfl
     intro K hK
     go_simp
     refine hK _ ?_
     clear hK K
     try simp only [Act.put, pu]
     with_reducible refine still_take ?_ ?_
     ·rfl
     intro K hK
     go_simp
     refine hK _ ?_
     clear hK K
     try simp only [Act.put, pu]
     with_reducible refine still_take ?_ ?_
     ·rfl
     intro K hK
     go_simp
     refine hK _ ?_
     clear hK K
     try simp only [Act.put, pu]
     with_reducible refine still_take ?_ ?_
     ·rfl
     intro K hK
     go_simp
     refine hK _ ?_
     clear hK K
     try simp only [Act.put, pu]
     with_reducible refine still_take ?_ ?_
     ·rfl
     intro K hK
     go_simp
     refine hK _ ?_
     clear hK K
     try simp only [Act.put, pu]
     with_reducible refine wpStill_nil ?_
     go_wp2_with fail
     go_ret
     rw [HHH.out]
     exact ⟨rfl, HB4.out⟩
    ·have HHH : Hid (payF (putS S' ⟨c0, p0, p1, (h0 - la), (h1 + la)⟩) (ls.drop (i + 1)) = payF S ls) := Lib.hid (by
      rw [← HQ.out, drop_at HX.out, HSTEP.out]
      unfold haveS moveS
      simp [hh])
     have HOK2 : Hid (SOk (putS S' ⟨c0, p0, p1, (h0 - la), (h1 + la)⟩) ∧ ∀ l ∈ ls, LOk (putS S' ⟨c0, p0, p1, (h0 - la), (h1 + la)⟩) l) := Lib.hid (by
      have hm : moveS ⟨c0, p0, p1, h0, h1⟩ ⟨lc, 0, la⟩ = ⟨c0, p0, p1, (h0 - la), (h1 + la)⟩ := by unfold moveS; simp
      rw [← hm]
      exact ⟨HOK.out.1.move (l := ⟨lc, 0, la⟩) HMS.out.1 (by simp) HLL.out.2.1 (by unfold haveS; simpa using hh), fun l hl => (HOK.out.2 l hl).move _ _⟩)
     have HKO : Hid (Cn.ok ⟨c0, p0, p1, (h0 - la), (h1 + la)⟩) := Lib.hid (by
      have hm : moveS ⟨c0, p0, p1, h0, h1⟩ ⟨lc, 0, la⟩ = ⟨c0, p0, p1, (h0 - la), (h1 + la)⟩ := by unfold moveS; simp
      rw [← hm]
      exact HOK.out.1.ok (l := ⟨lc, 0, la⟩) HMS.out.1 HSK.out (by simp) HLL.out.2.1 (by unfold haveS; simpa using hh))
     have HCC := Lib.hid HMS.out.2
     have hw1 : wrap64 (h0 - la) = h0 - la := wrap64_of_isI (by have := HSB.out; exact ⟨by omega, by omega⟩)
     have hw2 : wrap64 (h1 + la) = h1 + la := wrap64_of_isI (by have := HSB.out; exact ⟨by omega, by omega⟩)
     have hbb : (0 ≤ h0 ∧ 0 ≤ h1) ∧ h0 + h1 ≤ 1125899906842624 := by have := HSB.out; omega
     obtain ⟨⟨hb0, hb1⟩, hb3⟩ := hbb
     have hla2 := hla.2
     have hla3 := hla.1
     go_upto_region 10 with (fail)
     refine region_still (by kernel_rfl) (by kernel_rfl) ?_
     replace d0 := (show W3.drew.cell? _ = _ from d0)
     replace d1 := (show W3.drew.cell? _ = _ from d1)
     replace d2 := (show W3.drew.cell? _ = _ from d2)
     replace e0 := (show W3.drew.cell? _ = _ from e0)
     replace e1 := (show W3.drew.cell? _ = _ from e1)
     replace e2 := (show W3.drew.cell? _ = _ from e2)
     replace e3 := (show W3.drew.cell? _ = _ from e3)
     replace e4 := (show W3.drew.cell? _ = _ from e4)
     replace HB4 := Lib.hid HB4.out.drew
     replace HM3 := Lib.hid HM3.out.drew
     replace HG3 := Lib.hid HG3.out.drew
     replace k7 := k7.drew
     replace k8 := k8.drew
     generalize W3.drew = W3d at d0 d1 d2 e0 e1 e2 e3 e4 HB4 HM3 HG3 k7 k8 ⊢
     with_reducible refine still_take ?_ ?_
     ·rfl
     intro K hK
     go_simp
     refine hK _ ?_
     clear hK K
     try simp only [Act.put, pu]
     with_reducible refine still_take ?_ ?_
     ·rfl
     intro K hK
     go_simp
     refine hK _ ?_
     clear hK K
     try simp only [Act.put, pu]
     with_reducible refine still_take ?_ ?_
     ·rfl
     intro K hK
     go_simp
     refine hK _ ?_
     clear hK K
     try simp only [Act.put, pu]
     with_reducible refine still_take ?_ ?_
     ·rfl
     intro K hK
     go_simp
     refine hK _ ?_
     clear hK K
     try simp only [Act.put, pu]
     with_reducible refine still_take ?_ ?_
     ·rfl
     intro K hK
     go_simp
     refine hK _ ?_
     clear hK K
     try simp only [Act.put, pu]
     with_reducible refine still_take ?_ ?_
     ·rfl
     intro K hK
     go_simp
     refine hK _ ?_
     clear hK K
     try simp only [Act.put, pu]
     with_reducible refine still_take ?_ ?_
     ·rfl
     intro K hK
     go_simp
     refine hK _ ?_
     clear hK K
     try simp only [Act.put, pu]
     with_reducible refine still_take ?_ ?_
     ·rfl
     intro K hK
     go_simp
     refine hK _ ?_
     clear hK K
     try simp only [Act.put, pu]
     with_reducible refine still_take ?_ ?_
     ·rfl
     intro K hK
     go_simp
     refine hK _ ?_
     clear hK K
     try simp only [Act.put, pu]
     with_reducible refine wpStill_nil ?_
     go_upto_region 12 with (fail)
     clear d0 d1 d2 e0 e1 e2 e3 e4 f3 f4 hh
     have d0 := k7.cell 0
     have d1 := k7.cell 1
     have d2 := k7.cell 2
     have e3 := k8.cell 3
     have f3 := k8.frozen 3
     simp at d0 d1 d2 e3
     go_big_region
     obtain ⟨W4, hW4⟩ : ∃ W, W = (W3d.setCell ⟨G8, 3, none⟩ (.int .i64 (h0 - la))).drew := ⟨_, rfl⟩
     have hg4 : Gr (· = G8) W3d W4 := by rw [hW4]; exact ((Gr.refl (· = G8) W3d).setCell (g := G8) (fun _ => show G8 = G8 from rfl) _).drew
     have k8b := (k8.set_ 3 (.int .i64 (h0 - la))).drew
     rw [← hW4] at k8b ⊢
     replace k7 := k7.gr hg4 (fun e => by have e : G7 = G8 := e; have := HGG.out; omega)
     have HM4 := Lib.hid (HM3.out.stay (hg4.block _ HM3.out.lt (fun e => by have e : b2 = G8 := e; have := HGG.out; omega)))
     have HG4 := Lib.hid (HG3.out.trans_new hg4 (by have h1 := HGR.out.size; have := HGG.out; omega))
     have HB5 := Lib.hid (HB4.out.trans (hg4.below (B := w.heap.size) HB4.out.size (fun k hk e => by have e : k = G8 := e; have := HGG.out; have := HBw.out.size; omega)))
     clear hW4 hg4 d0 d1 d2 e3 f3 k8 HM3 HG3 HB4
     simp at k8b
     have d0 := k7.cell 0
     have d1 := k7.cell 1
     have d2 := k7.cell 2
     have e4 := k8b.cell 4
     have f3 := k8b.frozen 4
     simp at d0 d1 d2 e4
     go_upto_region 13 with (fail)
     go_big_region
     obtain ⟨W5, hW5⟩ : ∃ W, W = (W4.setCell ⟨G8, 4, none⟩ (.int .i64 (h1 + la))).drew := ⟨_, rfl⟩
     have hg4 : Gr (· = G8) W4 W5 := by rw [hW5]; exact ((Gr.refl (· = G8) W4).setCell (g := G8) (fun _ => show G8 = G8 from rfl) _).drew
     have k8c := (k8b.set_ 4 (.int .i64 (h1 + la))).drew
     rw [← hW5] at k8c ⊢
     replace k7 := k7.gr hg4 (fun e => by have e : G7 = G8 := e; have := HGG.out; omega)
     have HM5 := Lib.hid (HM4.out.stay (hg4.block _ HM4.out.lt (fun e => by have e : b2 = G8 := e; have := HGG.out; omega)))
     have HG5 := Lib.hid (HG4.out.trans_new hg4 (by have h1 := HGR.out.size; have := HGG.out; omega))
     clear hW5 hg4 d0 d1 d2 e4 f3 k8b HM4 HG4 HB5
     simp at k8c
     have d0 := k7.cell 0
     have e0 := k8c.cell 0
     have e1 := k8c.cell 1
     have e2 := k8c.cell 2
     have e3 := k8c.cell 3
     have e4 := k8c.cell 4
     simp at d0 e0 e1 e2 e3 e4
     obtain ⟨W6, hrun, hM6, hg6⟩ := HM5.out.put (by have := HNS.out; omega) HKO.out
     simp only [Cn.v, Cn.cs] at hrun
     have hcc : c0 = lc := HCC.out
     rw [hcc] at hrun
     have HM6 := Lib.hid hM6
     have HG6 := Lib.hid (HG5.out.trans (Gr.of_grown (M := (· = b2)) hg6 rfl))
     clear hM6 hg6 hcc
     go_upto_region 14 with (fail)
     try rw [HCC.out] at e0
     go_wp2_with fail
     go_roundw
     case rel => exact ⟨i + 1, by omega, by go_num, _, HHH, HOK2, HM6, HG6⟩
     case measure => simp [intOf]; omega
   ·go_wp2_with fail
    refine (coin_any la W3).mono ?_
    rintro y _ ⟨rfl, rfl⟩
    rw [HCO.out]
    by_cases hh : h1 < la
    ·have HHH : Hid (payF S ls = none) := Lib.hid (by rw [← HQ.out, drop_at HX.out, HSTEP.out]; unfold haveS; simp [hh])
     go_upto_region 10 with (fail)
     refine region_still (by kernel_rfl) (by kernel_rfl) ?_
     replace d0 := (show W3.drew.cell? _ = _ from d0)
     replace d1 := (show W3.drew.cell? _ = _ from d1)
     replace d2 := (show W3.drew.cell? _ = _ from d2)
     replace e0 := (show W3.drew.cell? _ = _ from e0)
     replace e1 := (show W3.drew.cell? _ = _ from e1)
     replace e2 := (show W3.drew.cell? _ = _ from e2)
     replace e3 := (show W3.drew.cell? _ = _ from e3)
     replace e4 := (show W3.drew.cell? _ = _ from e4)
     replace HB4 := Lib.hid HB4.out.drew
     replace HM3 := Lib.hid HM3.out.drew
     replace HG3 := Lib.hid HG3.out.drew
     replace k7 := k7.drew
     replace k8 := k8.drew
     generalize W3.drew = W3d at d0 d1 d2 e0 e1 e2 e3 e4 HB4 HM3 HG3 k7 k8 ⊢
     with_reducible refine still_take ?_ ?_
     ·rfl
     intro K hK
     go_simp
     refine hK _ ?_
     clear hK K
     try simp only [Act.put, pu]
     with_reducible refine still_take ?_ ?_
     ·rfl
     intro K hK
     go_simp
     refine hK _ ?_
     clear hK K
     try simp only [Act.put, pu]
     with_reducible refine still_take ?_ ?_
     ·rfl
     intro K hK
     go_simp
     refine hK _ ?_
     clear hK K
     try simp only [Act.put, pu]
     with_reducible refine still_take ?_ ?_
     ·rfl
     intro K hK
     go_simp
     refine hK _ ?_
     clear hK K
     try simp only [Act.put, pu]
     with_reducible refine still_take ?_ ?_
     ·rfl
     intro K hK
     go_simp
     refine hK _ ?_
     clear hK K
     try simp only [Act.put, pu]
     with_reducible refine still_take ?_ ?_
     ·rfl
     intro K hK
     go_simp
     refine hK _ ?_
     clear hK K
     try simp only [Act.put, pu]
     with_reducible refine still_take ?_ ?_
     ·rfl
     intro K hK
     go_simp
     refine hK _ ?_
     clear hK K
     try simp only [Act.put, pu]
     with_reducible refine still_take ?_ ?_
     ·rfl
     intro K hK
     go_simp
     refine hK _ ?_
     clear hK K
     try simp only [Act.put, pu]
     with_reducible refine still_take ?_ ?_
     ·rfl
     intro K hK
     go_simp
     refine hK _ ?_
     clear hK K
     try simp only [Act.put, pu]
     with_reducible refine wpStill_nil ?_
     go_wp2_with fail
     go_ret
     rw [HHH.out]
     exact ⟨rfl, HB4.out⟩
    ·have HHH : Hid (payF (putS S' ⟨c0, p0, p1, (h0 + la), (h1 - la)⟩) (ls.drop (i + 1)) = payF S ls) := Lib.hid (by
      rw [← HQ.out, drop_at HX.out, HSTEP.out]
      unfold haveS moveS
      simp [hh])
     have HOK2 : Hid (SOk (putS S' ⟨c0, p0, p1, (h0 + la), (h1 - la)⟩) ∧ ∀ l ∈ ls, LOk (putS S' ⟨c0, p0, p1, (h0 + la), (h1 - la)⟩) l) := Lib.hid (by
      have hm : moveS ⟨c0, p0, p1, h0, h1⟩ ⟨lc, 1, la⟩ = ⟨c0, p0, p1, (h0 + la), (h1 - la)⟩ := by unfold moveS; simp
      rw [← hm]
      exact ⟨HOK.out.1.move (l := ⟨lc, 1, la⟩) HMS.out.1 (by simp) HLL.out.2.1 (by unfold haveS; simpa using hh), fun l hl => (HOK.out.2 l hl).move _ _⟩)
     have HKO : Hid (Cn.ok ⟨c0, p0, p1, (h0 + la), (h1 - la)⟩) := Lib.hid (by
      have hm : moveS ⟨c0, p0, p1, h0, h1⟩ ⟨lc, 1, la⟩ = ⟨c0, p0, p1, (h0 + la), (h1 - la)⟩ := by unfold moveS; simp
      rw [← hm]
      exact HOK.out.1.ok (l := ⟨lc, 1, la⟩) HMS.out.1 HSK.out (by simp) HLL.out.2.1 (by unfold haveS; simpa using hh))
     have HCC := Lib.hid HMS.out.2
     have hw1 : wrap64 (h1 - la) = h1 - la := wrap64_of_isI (by have := HSB.out; exact ⟨by omega, by omega⟩)
     have hw2 : wrap64 (h0 + la) = h0 + la := wrap64_of_isI (by have := HSB.out; exact ⟨by omega, by omega⟩)
     have hbb : (0 ≤ h0 ∧ 0 ≤ h1) ∧ h0 + h1 ≤ 1125899906842624 := by have := HSB.out; omega
     obtain ⟨⟨hb0, hb1⟩, hb3⟩ := hbb
     have hla2 := hla.2
     have hla3 := hla.1
     go_upto_region 10 with (fail)
     refine region_still (by kernel_rfl) (by kernel_rfl) ?_
     replace d0 := (show W3.drew.cell? _ = _ from d0)
     replace d1 := (show W3.drew.cell? _ = _ from d1)
     replace d2 := (show W3.drew.cell? _ = _ from d2)
     replace e0 := (show W3.drew.cell? _ = _ from e0)
     replace e1 := (show W3.drew.cell? _ = _ from e1)
     replace e2 := (show W3.drew.cell? _ = _ from e2)
     replace e3 := (show W3.drew.cell? _ = _ from e3)
     replace e4 := (show W3.drew.cell? _ = _ from e4)
     replace HB4 := Lib.hid HB4.out.drew
     replace HM3 := Lib.hid HM3.out.drew
     replace HG3 := Lib.hid HG3.out.drew
     replace k7 := k7.drew
     replace k8 := k8.drew
     generalize W3.drew = W3d at d0 d1 d2 e0 e1 e2 e3 e4 HB4 HM3 HG3 k7 k8 ⊢
     with_reducible refine still_take ?_ ?_
     ·rfl
     intro K hK
     go_simp
     refine hK _ ?_
     clear hK K
     try simp only [Act.put, pu]
     with_reducible refine still_take ?_ ?_
     ·rfl
     intro K hK
     go_simp
     refine hK _ ?_
     clear hK K
     try simp only [Act.put, pu]
     with_reducible refine still_take ?_ ?_
     ·rfl
     intro K hK
     go_simp
     refine hK _ ?_
     clear hK K
     try simp only [Act.put, pu]
     with_reducible refine still_take ?_ ?_
     ·rfl
     intro K hK
     go_simp
     refine hK _ ?_
     clear hK K
     try simp only [Act.put, pu]
     with_reducible refine still_take ?_ ?_
     ·rfl
     intro K hK
     go_simp
     refine hK _ ?_
     clear hK K
     try simp only [Act.put, pu]
     with_reducible refine still_take ?_ ?_
     ·rfl
     intro K hK
     go_simp
     refine hK _ ?_
     clear hK K
     try simp only [Act.put, pu]
     with_reducible refine still_take ?_ ?_
     ·rfl
     intro K hK
     go_simp
     refine hK _ ?_
     clear hK K
     try simp only [Act.put, pu]
     with_reducible refine still_take ?_ ?_
     ·rfl
     intro K hK
     go_simp
     refine hK _ ?_
     clear hK K
     try simp only [Act.put, pu]
     with_reducible refine still_take ?_ ?_
     ·rfl
     intro K hK
     go_simp
     refine hK _ ?_
     clear hK K
     try simp only [Act.put, pu]
     with_reducible refine wpStill_nil ?_
     go_upto_region 12 with (fail)
     clear d0 d1 d2 e0 e1 e2 e3 e4 f3 f4 hh
     have d0 := k7.cell 0
     have d1 := k7.cell 1
     have d2 := k7.cell 2
     have e4 := k8.cell 4
     have f3 := k8.frozen 4
     simp at d0 d1 d2 e4
     go_big_region
     obtain ⟨W4, hW4⟩ : ∃ W, W = (W3d.setCell ⟨G8, 4, none⟩ (.int .i64 (h1 - la))).drew := ⟨_, rfl⟩
     have hg4 : Gr (· = G8) W3d W4 := by rw [hW4]; exact ((Gr.refl (· = G8) W3d).setCell (g := G8) (fun _ => show G8 = G8 from rfl) _).drew
     have k8b := (k8.set_ 4 (.int .i64 (h1 - la))).drew
     rw [← hW4] at k8b ⊢
     replace k7 := k7.gr hg4 (fun e => by have e : G7 = G8 := e; have := HGG.out; omega)
     have HM4 := Lib.hid (HM3.out.stay (hg4.block _ HM3.out.lt (fun e => by have e : b2 = G8 := e; have := HGG.out; omega)))
     have HG4 := Lib.hid (HG3.out.trans_new hg4 (by have h1 := HGR.out.size; have := HGG.out; omega))
     have HB5 := Lib.hid (HB4.out.trans (hg4.below (B := w.heap.size) HB4.out.size (fun k hk e => by have e : k = G8 := e; have := HGG.out; have := HBw.out.size; omega)))
     clear hW4 hg4 d0 d1 d2 e4 f3 k8 HM3 HG3 HB4
     simp at k8b
     have d0 := k7.cell 0
     have d1 := k7.cell 1
     have d2 := k7.cell 2
     have e3 := k8b.cell 3
     have f3 := k8b.frozen 3
     simp at d0 d1 d2 e3
     go_upto_region 13 with (fail)
     go_big_region
     obtain ⟨W5, hW5⟩ : ∃ W, W = (W4.setCell ⟨G8, 3, none⟩ (.int .i64 (h0 + la))).drew := ⟨_, rfl⟩
     have hg4 : Gr (· = G8) W4 W5 := by rw [hW5]; exact ((Gr.refl (· = G8) W4).setCell (g := G8) (fun _ => show G8 = G8 from rfl) _).drew
     have k8c := (k8b.set_ 3 (.int .i64 (h0 + la))).drew
     rw [← hW5] at k8c ⊢
     replace k7 := k7.gr hg4 (fun e => by have e : G7 = G8 := e; have := HGG.out; omega)
     have HM5 := Lib.hid (HM4.out.stay (hg4.block _ HM4.out.lt (fun e => by have e : b2 = G8 := e; have := HGG.out; omega)))
     have HG5 := Lib.hid (HG4.out.trans_new hg4 (by have h1 := HGR.out.size; have := HGG.out; omega))
     clear hW5 hg4 d0 d1 d2 e3 f3 k8b HM4 HG4 HB5
     simp at k8c
     have d0 := k7.cell 0
     have e0 := k8c.cell 0
     have e1 := k8c.cell 1
     have e2 := k8c.cell 2
     have e3 := k8c.cell 3
     have e4 := k8c.cell 4
     simp at d0 e0 e1 e2 e3 e4
     obtain ⟨W6, hrun, hM6, hg6⟩ := HM5.out.put (by have := HNS.out; omega) HKO.out
     simp only [Cn.v, Cn.cs] at hrun
     have hcc : c0 = lc := HCC.out
     rw [hcc] at hrun
     have HM6 := Lib.hid hM6
     have HG6 := Lib.hid (HG5.out.trans (Gr.of_grown (M := (· = b2)) hg6 rfl))
     clear hM6 hg6 hcc
     go_upto_region 14 with (fail)
     try rw [HCC.out] at e0
     go_wp2_with fail
     go_roundw
     case rel => exact ⟨i + 1, by omega, by go_num, _, HHH, HOK2, HM6, HG6⟩
     case measure => simp [intOf]; omega
  ·have hin : i = n := by omega
   subst hin
   have hq := HQ.out
   rw [List.drop_of_length_le (by rw [HLEN.out]; exact Nat.le_refl _), payF] at hq
   have HQQ := Lib.hid hq.symm
   have HNE : Hid (p ≠ b2 ∧ go ≠ b2 ∧ bh ≠ b2) := Lib.hid (by have h1 := HL.out.box.lt; have h2 := HL.out.row.lt; obtain ⟨es, cl, hm, _⟩ := HL.out.hold; have h3 := blk_lt hm; have := HB2.out.1; omega)
   have kp := HL1.out.box.gr HGR.out (fun e => HNE.out.1 e)
   have rw_ := HL1.out.row.stay (HGR.out.block _ HL1.out.row.lt (fun e => HNE.out.2.1 e))
   have hho : wr.ownsMap Tryz.prog 150 noE bh 0 (.map []) := by
    obtain ⟨es, cl, hm, r⟩ := HL1.out.hold
    exact ⟨es, cl, (HGR.out.block _ (blk_lt hm) (fun e => HNE.out.2.2 e)).trans hm, r⟩
   have HHO := Lib.hid hho
   have HRW := Lib.hid rw_
   have HKP := Lib.hid kp
   have q1 := kp.cell 1
   have fr1 := kp.frozen 1
   simp at q1
   clear hho rw_ kp hq
   obtain ⟨W5, hW5⟩ : ∃ W, W = wr.setCell ⟨p, 1, none⟩ (.map (some b2)) := ⟨_, rfl⟩
   have hg5 : Gr (· = p) wr W5 := by rw [hW5]; exact (Gr.refl (· = p) wr).setCell (g := p) (fun _ => show p = p from rfl) _
   have k5 : Blk W5 p 103 #[.slice (some ⟨go, 0, none⟩) 5 co, .map (some b2), .map (some bh), .int .i64 lost] := by rw [hW5]; exact HKP.out.set_ 1 _
   have HF : Hid (RetP w p go co bh own lost (ns + i) (payF S ls) (.returned (.int .i64 0)) W5) := Lib.hid (by
    rw [HQQ.out]
    refine ⟨rfl, ⟨b2, ⟨k5, HRW.out.stay (hg5.block _ HRW.out.lt (fun e => ?_)), HL.out.len, HL.out.cap, HM'.out.stay (hg5.block _ HM'.out.lt (fun e => HNE.out.1 e.symm)), ?_, fun e => HNE.out.2.2 e.symm⟩, Nat.le_of_eq HB2.out.1⟩, (Gr.of_below (M := (· = p)) HBw.out).trans hg5⟩
    ·have e : go = p := e
     obtain ⟨cur, hh, _⟩ := HRW.out
     exact blk_ne HKP.out hh (by decide) e
    ·obtain ⟨es, cl, hm, r⟩ := HHO.out
     refine ⟨es, cl, (hg5.block _ (blk_lt hm) (fun e => ?_)).trans hm, r⟩
     have e : bh = p := e
     subst e
     have := HKP.out
     unfold Blk at this
     rw [hm] at this
     simp at this)
   clear hg5 k5
   go_wp2_with fail
   rw [← hW5]
   clear hW5 q1 fr1
   go_wp2_with fail
   go_ret
   exact HF.out
end Go.Proofs.YthefgdehfgkhhaaGreat
