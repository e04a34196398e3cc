/-
  Routes: Odds.
-/
import Derived.Test.YthefgdehfgkhhaaGreatK01
import Derived.Test.YthefgdehfgkhhaaGreatK12
import Derived.Test.YthefgdehfgkhhaaGreatK08
import Derived.Lib.LazyBuf
namespace Go.Proofs.YthefgdehfgkhhaaGreat
open Go.RowKit Go.Shelf
set_option linter.unusedVariables false
set_option linter.unusedSimpArgs false
attribute [local go_sem] Oper.semAt_some
/-- The odds of an amount, as a number. -/
theorem odds_v (w : World) (p b n : Nat) (L : Notes) (h : MindAt w p b n L) (hgd : Good L) (e : Ed) (x : Int) (ho : oddOk e.e4 x = true) :
 Calls Tryz.prog 14 #[.pointer (some ⟨p, 0, none⟩), e.v, .int .i64 x] w (RetVO w true (oddQ L e x) 2) := by
 refine (odds_any w p b n L h hgd e x).mono fun y w' hy => ?_
 obtain ⟨A, n', c, B, m, d, rfl, h1, h2, hb⟩ := hy
 have hs := oddOk_spec.1 ho
 have hbd := odd_bd hgd (x := x) hs.1.2.2.2.2.1
 have hN : oN L e.e4 x < 4294967296 ^ 2 := by unfold oN; have := hs.1.2.2.2.2.2; omega
 have hD : oD L e.e4 < 4294967296 ^ 2 := by unfold oD; have := hs.1.2.2.2.2.2; omega
 have hD0 : 0 < oD L e.e4 := by unfold oD; omega
 unfold oddA at h1
 unfold oddB at h2
 rw [if_pos ho, low_rn _ _ hD0] at h1
 rw [if_pos ho, low_rd _ _ hD0] at h2
 rw [ho]
 exact ⟨_, rfl, IsQ.mk h1 h2 (low_le hD0 hN hD).fq, hb⟩
theorem IsQ.more' {w : World} {v : Value} {q : Rat} {b b' : Nat} (h : IsQ w v q b) (hb : b ≤ b') : IsQ w v q b' := by
 obtain ⟨A, n, c, B, m, d, rfl, r, t, f⟩ := h
 exact ⟨A, n, c, B, m, d, rfl, r, t, f.mono hb⟩
theorem costR_len : ∀ (l : List Ed) (a x : Int) (s t : List Int), costR l a x = some (s, t) → s.length = l.length ∧ t.length = l.length ∧ ∀ i, i < l.length → ∃ e z, l[l.length - 1 - i]? = some e ∧ s[i]? = some z ∧ inB z e.p3 (min e.p4 e.r) = true
 | [], a, x, s, t, h => by
  simp [costR] at h
  obtain ⟨rfl, rfl⟩ := h
  exact ⟨rfl, rfl, fun i hi => by simp at hi⟩
 | e :: es, a, x, s, t, h => by
  rw [costR_cons] at h
  split at h
  ·rename_i h1
   rw [Bool.and_eq_true] at h1
   split at h
   ·cases h2 : costR es (if addB a (feeV e a) then a + feeV e a else 0) (x + e.p2) with
    | none => rw [h2] at h; cases h
    | some r =>
     rw [h2] at h
     obtain ⟨s', t'⟩ := r
     simp only [Option.map_some, Option.some.injEq, Prod.mk.injEq] at h
     obtain ⟨rfl, rfl⟩ := h
     obtain ⟨i1, i2, i3⟩ := costR_len es _ _ s' t' h2
     refine ⟨by simp [i1], by simp [i2], fun i hi => ?_⟩
     rcases Nat.lt_or_ge i es.length with hlt | hge
     ·obtain ⟨e', z, g1, g2, g3⟩ := i3 i hlt
      refine ⟨e', z, ?_, ?_, g3⟩
      ·rw [show (e :: es).length - 1 - i = (es.length - 1 - i) + 1 by simp; omega]
       simpa using g1
      ·rw [List.getElem?_append_left (by omega)]; exact g2
     ·have hi' : i = es.length := by simp at hi; omega
      subst hi'
      refine ⟨e, a, by simp, ?_, h1.1⟩
      rw [List.getElem?_append_right (by omega), i1, Nat.sub_self]
      rfl
   ·cases h
  ·cases h
/-- What a cost tells of each edge of a way. -/
theorem cost_at {l : List Ed} {a x : Int} {r : List Int × List Int} (h : cost l a x = some r) : wayB l = true ∧ r.1.length = l.length ∧ r.2.length = l.length ∧ ∀ i, i < l.length → ∃ e z, l[i]? = some e ∧ r.1[i]? = some z ∧ edgeB e = true ∧ inB z e.p3 (min e.p4 e.r) = true := by
 unfold cost at h
 split at h
 ·rename_i h1
  rw [Bool.and_eq_true] at h1
  obtain ⟨s, t⟩ := r
  obtain ⟨i1, i2, i3⟩ := costR_len _ _ _ _ _ h
  rw [List.length_reverse] at i1 i2 i3
  refine ⟨h1.1, i1, i2, fun i hi => ?_⟩
  obtain ⟨e, z, g1, g2, g3⟩ := i3 i hi
  rw [List.getElem?_reverse (by omega), show l.length - 1 - (l.length - 1 - i) = i by omega] at g1
  exact ⟨e, z, g1, g2, way_edges h1.1 g1, g3⟩
 ·cases h
theorem odd_ok {e : Ed} {z : Int} (he : edgeB e = true) (hz : inB z e.p3 (min e.p4 e.r) = true) : oddOk e.e4 z = true := by
 have hs := edge_spec he
 have hp := pol_spec hs.2.2.2.2.2
 unfold inB at hz
 simp only [Bool.and_eq_true, decide_eq_true_eq] at hz
 rw [oddOk_spec]
 refine ⟨⟨⟨hs.1.1, by show e.f < 12; omega⟩, ⟨hs.2.1.1, by show e.t < 12; omega⟩, hs.2.2.1, ⟨hs.2.2.2.1.1, by show e.c < 1048576; omega⟩, by show 0 < e.r; omega, hs.2.2.2.2.1.2⟩, by omega, by show z ≤ e.r; omega⟩
theorem drop_cons {α : Type} {l : List α} {i : Nat} {e : α} (h : l[i]? = some e) : l.drop i = e :: l.drop (i + 1) := by
 obtain ⟨hl, he⟩ := List.getElem?_eq_some_iff.1 h
 rw [List.drop_eq_getElem_cons hl, he]
theorem isq_store' {cw W : World} {G : Nat} {t : TypeId} {A0 B0 : Option Addr} {n0 c0 m0 d0 : Nat} {A B : Option Addr} {n c m d b : Nat} {q : Rat} (hB : Blk W G t #[.slice A0 n0 c0, .slice B0 m0 d0]) (I : IsQ W (.agg #[.slice A n c, .slice B m d]) q b) (hb : Below cw.heap.size cw W) (hG : cw.heap.size ≤ G) :
 let V := (W.setCell ⟨G, 0, none⟩ (.slice A n c)).setCell ⟨G, 1, none⟩ (.slice B m d)
 Blk V G t #[.slice A n c, .slice B m d] ∧ IsQ V (.agg #[.slice A n c, .slice B m d]) q b ∧ Below cw.heap.size cw V := by
 obtain ⟨A', n', c', B', m', d', e, r, t', f⟩ := I
 injection e with e
 have e := congrArg Array.toList e
 simp only [List.cons.injEq, and_true, Value.slice.injEq] at e
 obtain ⟨⟨rfl, rfl, rfl⟩, rfl, rfl, rfl⟩ := e
 obtain ⟨h1, h2, h3, h4⟩ := fr_store hB r t' hb hG
 exact ⟨h1, ⟨_, _, _, _, _, _, rfl, h2, h3, f⟩, h4⟩
/-- A way's odds are handed back, and what is sent over its first edge; or none, and why. -/
def RetW (w : World) (o : Option (Rat × Int)) (e : Ending) (w' : World) : Prop :=
 Below w.heap.size w w' ∧ match o with
 | none => ∃ z : Int, z ≠ 0 ∧ e = .returned (.tuple #[.agg #[.slice none 0 0, .slice none 0 0], .int .i64 0, .int .i64 z])
 | some r => ∃ v, e = .returned (.tuple #[v, .int .i64 r.2, .int .i64 0]) ∧ IsQ w' v r.1 40
theorem RetW.no {w w' : World} {o : Option (Rat × Int)} {z : Int} (h : o = none) (hz : z ≠ 0) (hb : Below w.heap.size w w') : RetW w o (.returned (.tuple #[.agg #[.slice none 0 0, .slice none 0 0], .int .i64 0, .int .i64 z])) w' := by
 subst h
 exact ⟨hb, z, hz, rfl⟩
theorem RetW.yes {w w' : World} {o : Option (Rat × Int)} {q : Rat} {s : Int} {v : Value} (h : o = some (q, s)) (I : IsQ w' v q 40) (hb : Below w.heap.size w w') : RetW w o (.returned (.tuple #[v, .int .i64 s, .int .i64 0])) w' := by
 subst h
 exact ⟨hb, v, rfl, I⟩
set_option maxRecDepth 100000 in
set_option maxHeartbeats 4000000 in
theorem rodds_any (w : World) (p b m0 : Nat) (L : Notes) (hM : MindAt w p b m0 L) (hgd : Good L) (A : Option Addr) (n c : Nat) (l : List Ed) (h : RE w A n c l) (hn : n ≤ 1048576) (a0 x0 : Int) :
 Calls Tryz.prog 97 #[.pointer (some ⟨p, 0, none⟩), .slice A n c, .int .i64 a0, .int .i64 x0] w (RetW w (oddsW L l a0 x0)) := by
 have HL := Lib.hid h
 have Hlen := Lib.hid h.elen
 have HM := Lib.hid hM
 clear h hM
 have HO : Hid (oddsW L l a0 x0 = (cost l a0 x0).map fun r => (oddsL L l r.1 1, r.1.headD 0)) := Lib.hid rfl
 obtain ⟨oc, hoc⟩ : ∃ z, cost l a0 x0 = z := ⟨_, rfl⟩
 have HOC := Lib.hid hoc
 rw [hoc] at HO
 obtain ⟨W0, hW0⟩ : ∃ W, W = w.alloc (.cells #[.slice none 0 0, .slice none 0 0] 34) := ⟨_, rfl⟩
 have hB0 : Below w.heap.size w W0 := by rw [hW0]; exact (Below.refl _ _).alloc (Nat.le_refl _) _
 have k8 : Blk W0 w.heap.size 34 #[.slice none 0 0, .slice none 0 0] := by rw [hW0]; exact Blk.new w _ _
 have HCC := Lib.hid (cost_any W0 A n c l (HL.out.on hB0) hn a0 x0)
 rw [hoc] at HCC
 clear hoc
 go_enter Tryz.func97, Tryz.ntmps97
 go_wp2_with fail
 rw [← hW0]
 clear hW0
 refine HCC.out.mono ?_
 rcases oc with _ | ⟨s, t⟩
 ·rintro y w1 ⟨hb, z, hz, rfl⟩
  have k8 := k8.below hb k8.lt
  have hB1 := bltB hB0 hB0.size hb
  have hz1 : (z != 0) = true := by simpa using hz
  have hz2 : (z == 0) = false := by simpa using hz
  have HF : Hid (z ≠ 0) := Lib.hid hz
  have c0 := k8.cell 0
  have c1 := k8.cell 1
  have f0 := k8.frozen 0
  have f1 := k8.frozen 1
  clear hb hB0 hz
  go_wp2_with fail
  have k9 := (k8.set_ 0 (.slice none 0 0)).set_ 1 (.slice none 0 0)
  have hB2 := (hB1.setCell (p := ⟨w.heap.size, 0, none⟩) (Nat.le_refl _) (.slice none 0 0)).setCell (p := ⟨w.heap.size, 1, none⟩) (Nat.le_refl _) (.slice none 0 0)
  refine bodyPost_ret (v := .tuple #[.agg #[.slice none 0 0, .slice none 0 0], .int .i64 0, .int .i64 z]) ?_ rfl ?_
  ·have e0 := k9.cell 0
   have e1 := k9.cell 1
   simp at e0 e1
   simp [results, Tryz.f97, go_sem, e0, e1]
  ·exact RetW.no (by rw [HO.out]; rfl) HF.out hB2
 ·rintro y w1 ⟨hb, As, ns, cs, At, nt, ct, rfl, rS, rT⟩
  have k8 := k8.below hb k8.lt
  have hB1 := bltB hB0 hB0.size hb
  have HC := Lib.hid (cost_at HOC.out)
  dsimp only at rS rT
  clear hb hB0 rT
  go_wp2_with fail
  refine (fof_v w1 1 1 (by decide) (by decide)).mono ?_
  rintro y w2 ⟨v_o, rfl, I_o, hb⟩
  rw [show decide (0 < 1) = true from rfl]
  replace I_o := I_o.as (show mkRat ((1 : Nat) : Int) 1 = 1 from rfl)
  replace k8 := k8.below hb k8.lt
  replace rS := rS.on hb
  replace hB1 := bltB hB1 hB1.size hb
  clear hb
  obtain ⟨A_o, n_o, c_o, B_o, m_o, d_o, rfl, hI⟩ := I_o
  have I_o : IsQ w2 (.agg #[.slice A_o n_o c_o, .slice B_o m_o d_o]) _ _ := ⟨_, _, _, _, _, _, rfl, hI⟩
  clear hI
  go_wp2_with fail
  obtain ⟨W3, hW3⟩ : ∃ W, W = w2.alloc (.cells #[.slice A_o n_o c_o, .slice B_o m_o d_o] 34) := ⟨_, rfl⟩
  have hb : Below w2.heap.size w2 W3 := by rw [hW3]; exact (Below.refl _ _).alloc (Nat.le_refl _) _
  have k14 : Blk W3 w2.heap.size 34 #[.slice A_o n_o c_o, .slice B_o m_o d_o] := by rw [hW3]; exact Blk.new w2 _ _
  obtain ⟨G, hG⟩ : ∃ G, w2.heap.size = G := ⟨_, rfl⟩
  have hG8 : w.heap.size < w2.heap.size := k8.lt
  rw [← hW3, hG]
  rw [hG] at k14 hG8
  replace k8 := k8.below hb k8.lt
  have RS := Lib.hid rS
  replace I_o := I_o.on hb
  replace hB1 := bltB hB1 hB1.size hb
  have HGe : Hid (w2.heap.size ≤ G) := Lib.hid (Nat.le_of_eq hG)
  have hbw := hb
  clear hb hW3 hG
  have HWL := Lib.hid (way_lens HC.out.1)
  have hn8 : 1 ≤ n ∧ n ≤ 8 := by have h := HWL.out; rw [Hlen.out] at h; exact h
  have HSL : Hid (s.length = n) := Lib.hid (by rw [HC.out.2.1, Hlen.out])
  have HOO : Hid (oddsW L l a0 x0 = some (oddsL L l s 1, s.headD 0)) := Lib.hid HO.out
  clear rS
  have hns : ns = n := by have h := RS.out.ilen; have h2 := HSL.out; omega
  subst hns
  go_loopw [38] (fun iv wr => ∃ (i : Nat) (A' B' : Option Addr) (n' c' m' d' : Nat) (q : Rat), i ≤ ns ∧ iv = .int .i64 i ∧ Hid (oddsL L l s 1 = oddsL L (l.drop i) (s.drop i) q) ∧ Blk wr w.heap.size 34 #[.slice none 0 0, .slice none 0 0] ∧ Blk wr G 34 #[.slice A' n' c', .slice B' m' d'] ∧ IsQ wr (.agg #[.slice A' n' c', .slice B' m' d']) q (2 + 4 * i) ∧ Below w2.heap.size w2 wr ∧ Below w.heap.size w wr) (fun iv _ => ns - (intOf iv).toNat)
  case atStart => exact ⟨0, _, _, _, _, _, _, 1, Nat.zero_le _, rfl, Lib.hid rfl, k8, k14, I_o, hbw, hB1⟩
  case round =>
   clear k8 k14 I_o hB1 hbw
   obtain ⟨i, A', B', n', c', m', d', q, hi, rfl, HQ0, k8, k14, I, hBW, hB⟩ := hrel
   by_cases hlt : i < ns
   ·obtain ⟨bb, off, e, hA, hb, hx, hat, a0_, a1, a2, a3, a4, a5, a6, a7, a8⟩ := (HL.out.on hB).edge hlt
    obtain ⟨bs, os, hAs, hbs, hsx, qS⟩ := (RS.out.on hBW).num hlt
    obtain ⟨e', z', g1, g2, g3, g4⟩ := HC.out.2.2.2 i (by rw [Hlen.out]; exact hlt)
    rw [hx] at g1
    obtain rfl : e = e' := Option.some.inj g1
    rw [hsx] at g2
    have hz' : s.getD i 0 = z' := Option.some.inj g2
    obtain ⟨sv, hsv⟩ : ∃ z, s.getD i 0 = z := ⟨_, rfl⟩
    rw [hsv] at qS hsx hz'
    subst hz'
    have HOD := Lib.hid (odd_ok g3 g4)
    have HST : Hid (oddsL L l s 1 = oddsL L (l.drop (i + 1)) (s.drop (i + 1)) (q * oddQ L e sv)) := Lib.hid (by
     rw [HQ0.out, drop_cons hx, drop_cons hsx]
     rfl)
    subst hA hAs
    clear hx hat g1 g2 g3 g4 hsx hsv HQ0
    have hlt' : (i : Int) < (ns : Int) := by omega
    have HEV : Hid (Value.agg #[.int .i64 e.f, .int .i64 e.t, .int .i64 e.c, .int .i64 e.r, .int .i64 e.p0, .int .i64 e.p1, .int .i64 e.p2, .int .i64 e.p3, .int .i64 e.p4] = e.v) := Lib.hid rfl
    have HEC : Hid (#[Value.int .i64 e.f, .int .i64 e.t, .int .i64 e.c, .int .i64 e.r, .int .i64 e.p0, .int .i64 e.p1, .int .i64 e.p2, .int .i64 e.p3, .int .i64 e.p4] = e.cs) := Lib.hid rfl
    go_wp2_with fail
    rw [HEC.out]
    obtain ⟨W5, hW5⟩ : ∃ W, W = wr.alloc (.cells e.cs 56) := ⟨_, rfl⟩
    have hb5 : Below wr.heap.size wr W5 := by rw [hW5]; exact (Below.refl _ _).alloc (Nat.le_refl _) _
    have k17 : Blk W5 wr.heap.size 56 e.cs := by rw [hW5]; exact Blk.new wr _ _
    obtain ⟨G17, hG17⟩ : ∃ G, wr.heap.size = G := ⟨_, rfl⟩
    have hGr : G < wr.heap.size := k14.lt
    rw [← hW5, hG17]
    rw [hG17] at k17 hGr
    replace qS := (hb5.cell (p := ⟨bs, _, none⟩) hbs).trans qS
    have hbsW : bs < W5.heap.size := Nat.lt_of_lt_of_le hbs hb5.size
    replace k8 := k8.below hb5 k8.lt
    replace k14 := k14.below hb5 k14.lt
    replace I := I.on hb5
    have hBW2 := Lib.hid (bltB hBW hBW.size hb5)
    have hB2 := Lib.hid (bltB hB hB.size hb5)
    clear hW5 hG17 hb5 a0_ a1 a2 a3 a4 a5 a6 a7 a8 hb hB hBW hbs
    refine wp_region_noPanic ?_
    refine ord_begin 12 (fun wx => Below W5.heap.size W5 wx) (by kernel_rfl) ?_
    have hx0 : Below W5.heap.size W5 W5.drew := (Below.refl _ _).drew
    refine ord_take (i := 0) (v := ?_) (by kernel_rfl) rfl (by decide) (by kernel_rfl) (by kernel_rfl) (fun _ _ _ h => h) (Or.inl ⟨by rfl, ?_⟩) hx0 ?_
    rotate_left
    ·intro wz hz; go_simp; (try with_reducible rfl)
    try simp only [Act.put, pu]
    refine ord_take (i := 1) (v := ?_) (by kernel_rfl) rfl (by decide) (by kernel_rfl) (by kernel_rfl) (fun _ _ _ h => h) (Or.inl ⟨by rfl, ?_⟩) hx0 ?_
    rotate_left
    ·intro wz hz; have j4 := k17.below hz k17.lt; have q0 : wz.cell? ⟨G17, 0, none⟩ = some (.int .i64 e.f) := j4.cell 0; have q1 : wz.cell? ⟨G17, 1, none⟩ = some (.int .i64 e.t) := j4.cell 1; have q2 : wz.cell? ⟨G17, 2, none⟩ = some (.int .i64 e.c) := j4.cell 2; have q3 : wz.cell? ⟨G17, 3, none⟩ = some (.int .i64 e.r) := j4.cell 3; have q4 : wz.cell? ⟨G17, 4, none⟩ = some (.int .i64 e.p0) := j4.cell 4; have q5 : wz.cell? ⟨G17, 5, none⟩ = some (.int .i64 e.p1) := j4.cell 5; have q6 : wz.cell? ⟨G17, 6, none⟩ = some (.int .i64 e.p2) := j4.cell 6; have q7 : wz.cell? ⟨G17, 7, none⟩ = some (.int .i64 e.p3) := j4.cell 7; have q8 : wz.cell? ⟨G17, 8, none⟩ = some (.int .i64 e.p4) := j4.cell 8; go_simp; (try with_reducible rfl)
    try simp only [Act.put, pu]
    refine ord_take (i := 2) (v := ?_) (by kernel_rfl) rfl (by decide) (by kernel_rfl) (by kernel_rfl) (fun _ _ _ h => h) (Or.inl ⟨by rfl, ?_⟩) hx0 ?_
    rotate_left
    ·intro wz hz; go_simp; (try with_reducible rfl)
    try simp only [Act.put, pu]
    refine ord_take (i := 3) (v := ?_) (by kernel_rfl) rfl (by decide) (by kernel_rfl) (by kernel_rfl) (fun _ _ _ h => h) (Or.inl ⟨by rfl, ?_⟩) hx0 ?_
    rotate_left
    ·intro wz hz; go_simp; (try with_reducible rfl)
    try simp only [Act.put, pu]
    refine ord_take (i := 4) (v := ?_) (by kernel_rfl) rfl (by decide) (by kernel_rfl) (by kernel_rfl) (fun _ _ _ h => h) (Or.inl ⟨by rfl, ?_⟩) hx0 ?_
    rotate_left
    ·intro wz hz; go_simp; (try with_reducible rfl)
    try simp only [Act.put, pu]
    refine ord_take (i := 5) (v := ?_) (by kernel_rfl) rfl (by decide) (by kernel_rfl) (by kernel_rfl) (fun _ _ _ h => h) (Or.inl ⟨by rfl, ?_⟩) hx0 ?_
    rotate_left
    ·intro wz hz; have qs := (hz.cell (p := ⟨bs, _, none⟩) hbsW).trans qS; go_simp; (try with_reducible rfl)
    try simp only [Act.put, pu]
    refine ord_funnelV (F := ?F8) (k := 2) #[true, true, true, true, true, true, true, true, true, true, true, false, false] (fun y G X => IsQ X y (oddQ L e sv) 2 ∧ Blk X G 34 #[.slice none 0 0, .slice none 0 0] ∧ Below W5.heap.size W5 X ∧ W5.heap.size ≤ G) ?_ ?_
    rotate_left
    ·intro HQ
     refine ord_step2 (i := 6) (k := 10) rfl rfl (by decide) (by decide) (by kernel_rfl) (by rfl) (by rfl) (fun K hK => ?_) (fun K hK => ?_)
     ·go_simp
      rw [HEV.out]
      refine (odds_v W5.drew p b m0 L ((HM.out.on hB2.out).on hx0) hgd e sv HOD.out).mono ?_
      rintro y X8_0 ⟨v_x, rfl, I_x, hb⟩
      have hx1 := bltB hx0 hx0.size hb
      clear hb
      refine hK _ _ hx1 ?_
      clear hK K
      try simp only [Act.put, pu]
      refine ord_take (i := 7) (v := ?_) (by kernel_rfl) rfl (by decide) (by kernel_rfl) (by kernel_rfl) (fun _ _ _ h => h) (Or.inl ⟨by rfl, ?_⟩) hx1 ?_
      rotate_left
      ·intro wz hz; go_simp; (try with_reducible rfl)
      try simp only [Act.put, pu]
      refine ord_take (i := 8) (v := ?_) (by kernel_rfl) rfl (by decide) (by kernel_rfl) (by kernel_rfl) (fun _ _ _ h => h) (Or.inl ⟨by rfl, ?_⟩) hx1 ?_
      rotate_left
      ·intro wz hz; go_simp; (try with_reducible rfl)
      try simp only [Act.put, pu]
      refine ord_take (i := 9) (v := ?_) (by kernel_rfl) rfl (by decide) (by kernel_rfl) (by kernel_rfl) (fun _ _ _ h => h) (Or.inl ⟨by rfl, ?_⟩) hx1 ?_
      rotate_left
      ·intro wz hz; go_simp; (try with_reducible rfl)
      try simp only [Act.put, pu]
      refine ord_step (i := 10) rfl (by decide) (by kernel_rfl) (by rfl) (fun K hK => ?_)
      go_simp
      obtain ⟨G_x, hG⟩ : ∃ G, X8_0.heap.size = G := ⟨_, rfl⟩
      have hN : Blk (X8_0.alloc (.cells #[.slice none 0 0, .slice none 0 0] 34)) G_x 34 #[.slice none 0 0, .slice none 0 0] := hG ▸ Blk.new X8_0 _ _
      have hG2 : W5.heap.size ≤ G_x := hG ▸ hx1.size
      have hb : Below X8_0.heap.size X8_0 (X8_0.alloc (.cells #[.slice none 0 0, .slice none 0 0] 34)) := (Below.refl _ _).alloc (Nat.le_refl _) _
      replace I_x := I_x.on hb
      rw [hG]
      have hx2 := bltB hx1 hx1.size hb
      clear hb
      refine hK _ _ hx2 ?_
      clear hK K
      try simp only [Act.put, pu]
      generalize X8_0.alloc (.cells #[.slice none 0 0, .slice none 0 0] 34) = Y8_1 at hN hx2 I_x ⊢
      clear hG
      refine ord_relist #[true, true, true, true, true, true, true, true, true, true, true, false, false] (by kernel_rfl) ?_
      exact HQ v_x G_x _ ⟨I_x, hN, hx2, hG2⟩
     ·go_simp
      obtain ⟨G_x, hG⟩ : ∃ G, W5.heap.size = G := ⟨_, rfl⟩
      have hN : Blk ((W5.alloc (.cells #[.slice none 0 0, .slice none 0 0] 34)).drew) G_x 34 #[.slice none 0 0, .slice none 0 0] := hG ▸ (Blk.new W5 _ _).drew
      have hG2 : W5.heap.size ≤ G_x := hG ▸ Nat.le_refl _
      rw [hG]
      have hx1 : Below W5.heap.size W5 ((W5.alloc (.cells #[.slice none 0 0, .slice none 0 0] 34)).drew) := ((Below.refl _ _).alloc (Nat.le_refl _) _).drew
      refine hK _ _ hx1 ?_
      clear hK K
      try simp only [Act.put, pu]
      generalize (W5.alloc (.cells #[.slice none 0 0, .slice none 0 0] 34)).drew = Y8_0 at hN hx1 ⊢
      clear hG
      refine ord_step (i := 6) rfl (by decide) (by kernel_rfl) (by rfl) (fun K hK => ?_)
      go_simp
      rw [HEV.out]
      refine (odds_v Y8_0 p b m0 L ((HM.out.on hB2.out).on hx1) hgd e sv HOD.out).mono ?_
      rintro y X8_1 ⟨v_x, rfl, I_x, hb⟩
      replace hN := hN.below hb hN.lt
      have hx2 := bltB hx1 hx1.size hb
      clear hb
      refine hK _ _ hx2 ?_
      clear hK K
      try simp only [Act.put, pu]
      refine ord_take (i := 7) (v := ?_) (by kernel_rfl) rfl (by decide) (by kernel_rfl) (by kernel_rfl) (fun _ _ _ h => h) (Or.inl ⟨by rfl, ?_⟩) hx2 ?_
      rotate_left
      ·intro wz hz; go_simp; (try with_reducible rfl)
      try simp only [Act.put, pu]
      refine ord_take (i := 8) (v := ?_) (by kernel_rfl) rfl (by decide) (by kernel_rfl) (by kernel_rfl) (fun _ _ _ h => h) (Or.inl ⟨by rfl, ?_⟩) hx2 ?_
      rotate_left
      ·intro wz hz; go_simp; (try with_reducible rfl)
      try simp only [Act.put, pu]
      refine ord_take (i := 9) (v := ?_) (by kernel_rfl) rfl (by decide) (by kernel_rfl) (by kernel_rfl) (fun _ _ _ h => h) (Or.inl ⟨by rfl, ?_⟩) hx2 ?_
      rotate_left
      ·intro wz hz; go_simp; (try with_reducible rfl)
      try simp only [Act.put, pu]
      refine ord_relist #[true, true, true, true, true, true, true, true, true, true, true, false, false] (by kernel_rfl) ?_
      exact HQ v_x G_x _ ⟨I_x, hN, hx2, hG2⟩
    rintro v_x G_x Z8 ⟨I_x, hN, hx, hG2⟩
    obtain ⟨A_x, n_x, c_x, B_x, m_x, d_x, rfl, hI⟩ := I_x
    have I_x : IsQ Z8 (.agg #[.slice A_x n_x c_x, .slice B_x m_x d_x]) _ _ := ⟨_, _, _, _, _, _, rfl, hI⟩
    clear hI
    have hc0 := hN.cell 0
    have hc1 := hN.cell 1
    have hf0 := hN.frozen 0
    have hf1 := hN.frozen 1
    refine ord_step (i := 11) rfl (by decide) (by kernel_rfl) (by rfl) (fun K hK => ?_)
    go_simp
    obtain ⟨k_x, I_x, hx⟩ := isq_store hN I_x hx hG2
    clear hc0 hc1 hf0 hf1 hN
    generalize (Z8.setCell ⟨G_x, 0, none⟩ (.slice A_x n_x c_x)).setCell ⟨G_x, 1, none⟩ (.slice B_x m_x d_x) = V8 at k_x I_x hx ⊢
    refine hK _ _ hx ?_
    clear hK K
    try simp only [Act.put, pu]
    refine ord_rest (by kernel_rfl) ?_
    refine any_step (i := 12) rfl (by kernel_rfl) (by rfl) (fun K hK => ?_)
    go_simp
    refine hK _ _ ?_
    clear hK K
    try simp only [Act.put, pu]
    refine wpAny_done (by kernel_rfl) ?_ _
    refine NoPanic.normal ?_
    replace k8 := k8.below hx k8.lt
    replace k14 := k14.below hx k14.lt
    replace I := I.on hx
    replace hBW2 := bltB hBW2.out hBW2.out.size hx
    replace hB2 := bltB hB2.out hB2.out.size hx
    clear hx hG2 k17 qS HOD
    have a0 := k14.cell 0
    have a1 := k14.cell 1
    have b0 := k_x.cell 0
    have b1 := k_x.cell 1
    go_wp2_with fail
    clear a0 a1 b0 b1
    refine (fmul_v I I_x (by omega) (by decide)).mono ?_
    rintro y W6 ⟨v_z, rfl, I_z, hx⟩
    obtain ⟨A_z, n_z, c_z, B_z, m_z, d_z, rfl, hI⟩ := I_z
    have I_z : IsQ W6 (.agg #[.slice A_z n_z c_z, .slice B_z m_z d_z]) _ _ := ⟨_, _, _, _, _, _, rfl, hI⟩
    clear hI
    replace k8 := k8.below hx k8.lt
    replace k14 := k14.below hx k14.lt
    replace hBW2 := bltB hBW2 hBW2.size hx
    replace hB2 := bltB hB2 hB2.size hx
    clear hx I I_x k_x
    have a0 := k14.cell 0
    have a1 := k14.cell 1
    have f0 := k14.frozen 0
    have f1 := k14.frozen 1
    go_wp2_with fail
    clear a0 a1 f0 f1
    obtain ⟨k15, I2, hBW3⟩ := isq_store' k14 I_z hBW2 HGe.out
    obtain ⟨_, _, hB3⟩ := isq_store' k14 I_z hB2 (Nat.le_of_lt hG8)
    have hn1 : w.heap.size ≠ G := Nat.ne_of_lt hG8
    replace k8 := (k8.far (p := ⟨G, 0, none⟩) hn1 (.slice A_z n_z c_z)).far (p := ⟨G, 1, none⟩) hn1 (.slice B_z m_z d_z)
    clear k14 I_z hBW2 hB2 hn1
    generalize (W6.setCell ⟨G, 0, none⟩ (.slice A_z n_z c_z)).setCell ⟨G, 1, none⟩ (.slice B_z m_z d_z) = W7 at k8 k15 I2 hBW3 hB3 ⊢
    go_wp2_with fail
    go_roundw
    case rel => exact ⟨i + 1, A_z, B_z, n_z, c_z, m_z, d_z, _, by omega, by go_num, HST, k8, k15, I2.more' (by omega), hBW3, hB3⟩
    case measure => simp [intOf]; omega
   ·have hin : i = ns := by omega
    subst hin
    obtain ⟨bs, os, hAs, hbs, hsx, qS⟩ := (RS.out.on hBW).num (show 0 < i by omega)
    obtain ⟨s0, hs0⟩ : ∃ z, s.getD 0 0 = z := ⟨_, rfl⟩
    rw [hs0] at qS
    rw [Nat.add_zero] at qS
    have HF : Hid (oddsW L l a0 x0 = some (q, s0)) := Lib.hid (by
     rw [HOO.out, HQ0.out, List.drop_of_length_le (by rw [Hlen.out]; exact Nat.le_refl _)]
     rw [show s.headD 0 = s.getD 0 0 by cases s <;> rfl, hs0]
     rfl)
    have I9 := I.more' (show 2 + 4 * i ≤ 40 by omega)
    subst hAs
    clear hsx hs0 HQ0 I
    have hi0 : (0 : Int) < (i : Int) := by omega
    have hi1 : 0 < i := by omega
    have hbs8 : bs ≠ w.heap.size := by
     intro e
     have h1 := k8.cell os
     rw [← e, qS] at h1
     match os, h1 with
     | 0, h1 => simp at h1
     | 1, h1 => simp at h1
     | n + 2, h1 => simp at h1
    go_wp2_with fail
    refine wp_region_noPanic ?_
    refine ord_begin 6 (fun wx : World => wx.cell? ⟨G, 0, none⟩ = some (.slice A' n' c') ∧ wx.cell? ⟨G, 1, none⟩ = some (.slice B' m' d') ∧ wx.cell? ⟨bs, os, none⟩ = some (.int .i64 s0)) (by kernel_rfl) ?_
    replace k8 := k8.drew
    replace k14 := k14.drew
    replace I9 := I9.drew
    replace hB := hB.drew
    replace qS := (show wr.drew.cell? _ = _ from qS)
    generalize wr.drew = Y at k8 k14 I9 hB qS ⊢
    have hS : Y.cell? ⟨G, 0, none⟩ = some (.slice A' n' c') ∧ Y.cell? ⟨G, 1, none⟩ = some (.slice B' m' d') ∧ Y.cell? ⟨bs, os, none⟩ = some (.int .i64 s0) := ⟨k14.cell 0, k14.cell 1, qS⟩
    refine ord_take (i := 0) (v := ?_) (by kernel_rfl) rfl (by decide) (by kernel_rfl) (by kernel_rfl) (fun _ _ _ h => h) (Or.inl ⟨by rfl, ?_⟩) hS ?_
    rotate_left
    ·intro wz hz; (try dsimp only at hz); (try go_split_ands); go_simp; (try with_reducible rfl)
    try simp only [Act.put, pu]
    refine ord_take (i := 1) (v := ?_) (by kernel_rfl) rfl (by decide) (by kernel_rfl) (by kernel_rfl) (fun _ _ _ h => h) (Or.inl ⟨by rfl, ?_⟩) hS ?_
    rotate_left
    ·intro wz hz; (try dsimp only at hz); (try go_split_ands); go_simp; (try with_reducible rfl)
    try simp only [Act.put, pu]
    refine ord_take (i := 2) (v := ?_) (by kernel_rfl) rfl (by decide) (by kernel_rfl) (by kernel_rfl) (fun _ _ _ h => h) (Or.inl ⟨by rfl, ?_⟩) hS ?_
    rotate_left
    ·intro wz hz; (try dsimp only at hz); (try go_split_ands); go_simp; (try with_reducible rfl)
    try simp only [Act.put, pu]
    refine ord_take (i := 3) (v := ?_) (by kernel_rfl) rfl (by decide) (by kernel_rfl) (by kernel_rfl) (fun _ _ _ h => h) (Or.inl ⟨by rfl, ?_⟩) hS ?_
    rotate_left
    ·intro wz hz; (try dsimp only at hz); (try go_split_ands); go_simp; (try with_reducible rfl)
    try simp only [Act.put, pu]
    have e0 := k8.cell 0
    have e1 := k8.cell 1
    have f0 := k8.frozen 0
    have f1 := k8.frozen 1
    refine ord_step (i := 4) rfl (by decide) (by kernel_rfl) (by rfl) (fun K hK => ?_)
    go_simp
    obtain ⟨k9, I8, hB3⟩ := isq_store' k8 I9 hB (Nat.le_refl _)
    have hn1 : G ≠ w.heap.size := Nat.ne_of_gt hG8
    replace k14 := (k14.far (p := ⟨w.heap.size, 0, none⟩) hn1 (.slice A' n' c')).far (p := ⟨w.heap.size, 1, none⟩) hn1 (.slice B' m' d')
    replace qS := (World.cell?_setCell_other (Y.setCell ⟨w.heap.size, 0, none⟩ (.slice A' n' c')) ⟨w.heap.size, 1, none⟩ ⟨bs, os, none⟩ (.slice B' m' d') (fun h => hbs8 (congrArg Addr.block h).symm)).trans ((World.cell?_setCell_other Y ⟨w.heap.size, 0, none⟩ ⟨bs, os, none⟩ (.slice A' n' c') (fun h => hbs8 (congrArg Addr.block h).symm)).trans qS)
    generalize (Y.setCell ⟨w.heap.size, 0, none⟩ (.slice A' n' c')).setCell ⟨w.heap.size, 1, none⟩ (.slice B' m' d') = Y2 at k9 I8 hB3 k14 qS ⊢
    clear hS e0 e1 f0 f1 k8 I9 hB
    have hS : Y2.cell? ⟨G, 0, none⟩ = some (.slice A' n' c') ∧ Y2.cell? ⟨G, 1, none⟩ = some (.slice B' m' d') ∧ Y2.cell? ⟨bs, os, none⟩ = some (.int .i64 s0) := ⟨k14.cell 0, k14.cell 1, qS⟩
    refine hK _ _ hS ?_
    clear hK K
    try simp only [Act.put, pu]
    refine ord_take (i := 5) (v := ?_) (by kernel_rfl) rfl (by decide) (by kernel_rfl) (by kernel_rfl) (fun _ _ _ h => h) (Or.inl ⟨by rfl, ?_⟩) hS ?_
    rotate_left
    ·intro wz hz; (try dsimp only at hz); (try go_split_ands); go_simp; (try with_reducible rfl)
    try simp only [Act.put, pu]
    refine ord_rest (by kernel_rfl) ?_
    refine wpAny_take (i := 6) (v := ?_) rfl (by kernel_rfl) (by kernel_rfl) (by kernel_rfl) (fun _ _ _ h => h) (Or.inl ⟨by rfl, ?_⟩) ?_
    rotate_left
    ·intro wz; go_simp; (try with_reducible rfl)
    try simp only [Act.put, pu]
    refine wpAny_done (by kernel_rfl) ?_ _
    refine NoPanic.normal ?_
    clear hS
    go_wp2_with fail
    refine bodyPost_ret (v := .tuple #[.agg #[.slice A' n' c', .slice B' m' d'], .int .i64 s0, .int .i64 0]) ?_ rfl ?_
    ·have e0 := k9.cell 0
     have e1 := k9.cell 1
     simp at e0 e1
     simp [results, Tryz.f97, go_sem, e0, e1]
    ·exact RetW.yes HF.out I8 hB3
end Go.Proofs.YthefgdehfgkhhaaGreat
namespace Go.Proofs.YthefgdehfgkhhaaGreat
open Go.RowKit Go.Shelf
set_option linter.unusedVariables false
set_option linter.unusedSimpArgs false
attribute [local go_sem] Oper.semAt_some
theorem byc_any (a b : Ed) (w : World) : Calls Tryz.prog 118 #[a.v, b.v] w fun x w' => x = .returned (.int .i64 (cmpI a.c b.c)) ∧ Below w.heap.size w w' := by
 obtain ⟨f, t, c, r, p0, p1, p2, p3, p4⟩ := a
 obtain ⟨f', t', c', r', p0', p1', p2', p3', p4'⟩ := b
 simp only [Ed.v, Ed.cs] at *
 go_enter Tryz.func118, Tryz.ntmps118
 go_wp2_with fail
 refine (compare_any _ _ _).mono ?_
 rintro e w' ⟨rfl, rfl⟩
 obtain ⟨z, hz⟩ : ∃ z, cmpI c c' = z := ⟨_, rfl⟩
 rw [hz]
 have HZ := Lib.hid hz
 clear hz
 go_wp2_with fail
 go_ret
 exact ⟨by rw [HZ.out]; rfl, ((Below.refl _ _).alloc (Nat.le_refl _) _).alloc (by simp) _⟩
theorem rows_step {a b : Ed} {as_ bs : List Ed} : rowsI (a :: as_) (b :: bs) = if cmpI a.c b.c ≠ 0 then cmpI a.c b.c else rowsI as_ bs := by rw [rowsI]
set_option maxRecDepth 100000 in
theorem rows_any (w : World) (A A' : Option Addr) (n c n' c' : Nat) (l l' : List Ed) (h : RE w A n c l) (h' : RE w A' n' c' l') (hn : n ≤ 1048576) (hn' : n' ≤ 1048576) :
 Calls Tryz.prog 117 #[.slice A n c, .slice A' n' c', .func (.func 118) #[] #[]] w fun e w' => e = .returned (.int .i64 (rowsI l l')) ∧ Below w.heap.size w w' := by
 have HL := Lib.hid h
 have HL' := Lib.hid h'
 have Hlen := Lib.hid h.elen
 have Hlen' := Lib.hid h'.elen
 clear h h'
 go_enter Tryz.func117, Tryz.ntmps117
 go_wp2_with fail
 go_loopw [13] (fun iv wr => ∃ i : Nat, i ≤ n ∧ i ≤ n' ∧ iv = .int .i64 i ∧ Hid (rowsI l l' = rowsI (l.drop i) (l'.drop i)) ∧ Below w.heap.size w wr) (fun iv _ => n - (intOf iv).toNat)
 case atStart => exact ⟨0, Nat.zero_le _, Nat.zero_le _, rfl, Lib.hid rfl, Below.refl _ _⟩
 case round =>
  obtain ⟨i, hi, hi', rfl, HR, hB⟩ := hrel
  by_cases hlt : i < n
  ·obtain ⟨b, off, e, hA, hb, hx, hat, a0, a1, a2, a3, a4, a5, a6, a7, a8⟩ := (HL.out.on hB).edge hlt
   have HX := Lib.hid hx
   subst hA
   clear hx hat
   have hlt' : (i : Int) < (n : Int) := by omega
   by_cases hlt2 : i < n'
   ·have hlt2' : ¬ (n' : Int) ≤ (i : Int) := by omega
    have hg2 : (i : Int) < (n' : Int) := by omega
    obtain ⟨b', off', e', hA', hb', hx', hat', b0, b1, b2, b3, b4, b5, b6, b7, b8⟩ := (HL'.out.on hB).edge hlt2
    have HS : Hid (rowsI l l' = if cmpI e.c e'.c ≠ 0 then cmpI e.c e'.c else rowsI (l.drop (i + 1)) (l'.drop (i + 1))) := Lib.hid (by rw [HR.out, drop_cons HX.out, drop_cons hx', rows_step])
    subst hA'
    clear hx' hat' HR
    have hbb : b' ≠ wr.heap.size := Nat.ne_of_lt hb'
    have HB := Lib.hid (((hB.alloc hB.size (.cells #[.int .i64 e.f, .int .i64 e.t, .int .i64 e.c, .int .i64 e.r, .int .i64 e.p0, .int .i64 e.p1, .int .i64 e.p2, .int .i64 e.p3, .int .i64 e.p4] 56)).alloc (by simp; exact Nat.le_succ_of_le hB.size) (.cells #[.int .i64 e'.f, .int .i64 e'.t, .int .i64 e'.c, .int .i64 e'.r, .int .i64 e'.p0, .int .i64 e'.p1, .int .i64 e'.p2, .int .i64 e'.p3, .int .i64 e'.p4] 56)))
    have HEV : Hid (Value.agg #[.int .i64 e.f, .int .i64 e.t, .int .i64 e.c, .int .i64 e.r, .int .i64 e.p0, .int .i64 e.p1, .int .i64 e.p2, .int .i64 e.p3, .int .i64 e.p4] = e.v ∧ Value.agg #[.int .i64 e'.f, .int .i64 e'.t, .int .i64 e'.c, .int .i64 e'.r, .int .i64 e'.p0, .int .i64 e'.p1, .int .i64 e'.p2, .int .i64 e'.p3, .int .i64 e'.p4] = e'.v) := Lib.hid ⟨rfl, rfl⟩
    go_wp2_with fail
    rw [HEV.out.1, HEV.out.2]
    refine (byc_any e e' _).mono ?_
    rintro y W2 ⟨rfl, hb2⟩
    have hB2 := bltB HB.out HB.out.size hb2
    obtain ⟨z, hz⟩ : ∃ z, cmpI e.c e'.c = z := ⟨_, rfl⟩
    rw [hz] at HS ⊢
    clear hz hb2 a0 a1 a2 a3 a4 a5 a6 a7 a8 b0 b1 b2 b3 b4 b5 b6 b7 b8 hB
    by_cases h0 : z = 0
    ·rw [if_neg (fun h => h h0)] at HS
     have g1 : (z != 0) = false := by simpa using h0
     have g2 : (z == 0) = true := by simpa using h0
     clear h0
     go_wp2_with fail
     go_roundw
     case rel => exact ⟨i + 1, by omega, by omega, by go_num, HS, hB2⟩
     case measure => simp [intOf]; omega
    ·rw [if_pos h0] at HS
     have g1 : (z != 0) = true := by simpa using h0
     have g2 : (z == 0) = false := by simpa using h0
     clear h0
     go_wp2_with fail
     go_ret
     exact ⟨by rw [HS.out]; rfl, hB2⟩
   ·have hin : n' = i := by omega
    have hge : (n' : Int) ≤ (i : Int) := by omega
    have HF : Hid (rowsI l l' = 1) := Lib.hid (by
     have hd : l'.drop i = [] := List.drop_of_length_le (by rw [Hlen'.out]; omega)
     rw [HR.out, drop_cons HX.out, hd]
     rfl)
    have HB := Lib.hid (hB.alloc hB.size (.cells #[.int .i64 e.f, .int .i64 e.t, .int .i64 e.c, .int .i64 e.r, .int .i64 e.p0, .int .i64 e.p1, .int .i64 e.p2, .int .i64 e.p3, .int .i64 e.p4] 56))
    go_wp2_with fail
    go_ret
    exact ⟨by rw [HF.out]; rfl, HB.out⟩
  ·have hin : i = n := by omega
   by_cases hlt2 : n < n'
   ·have HF : Hid (rowsI l l' = -1) := Lib.hid (by
     have hd0 : l.drop i = [] := List.drop_of_length_le (by rw [Hlen.out]; omega)
     rw [HR.out, hd0]
     cases hd : l'.drop i with
     | nil =>
      have := congrArg List.length hd
      rw [List.length_drop, Hlen'.out] at this
      simp at this; omega
     | cons => rfl)
    go_wp2_with fail
    go_ret
    exact ⟨by rw [HF.out]; rfl, hB⟩
   ·have HF : Hid (rowsI l l' = 0) := Lib.hid (by
     have hd0 : l.drop i = [] := List.drop_of_length_le (by rw [Hlen.out]; omega)
     have hd1 : l'.drop i = [] := List.drop_of_length_le (by rw [Hlen'.out]; omega)
     rw [HR.out, hd0, hd1]
     rfl)
    go_wp2_with fail
    go_ret
    exact ⟨by rw [HF.out]; rfl, hB⟩
/-- What has been found, as a value. -/
structure FndV (w : World) (v : Value) (x : Fnd) : Prop where
 at_ : ∃ A n c A' n' c' B m d, v = .agg #[.slice A n c, .slice A' n' c', .slice B m d, .int .i64 x.s] ∧ RE w A n c x.way ∧ n ≤ 8 ∧ IsQ w (.agg #[.slice A' n' c', .slice B m d]) x.q 40
theorem FndV.on {w w' : World} {v : Value} {x : Fnd} (h : FndV w v x) (hb : Below w.heap.size w w') : FndV w' v x := by
 obtain ⟨A, n, c, A', n', c', B, m, d, rfl, r, hn, I⟩ := h
 exact ⟨A, n, c, A', n', c', B, m, d, rfl, r.on hb, hn, I.on hb⟩
theorem orL3 (x y z : Int) : orL [x, y, z] = orI x (orI y z) := by
 unfold orI orL orL orL orL
 split
 ·split
  ·split <;> simp_all
  ·rfl
 ·rfl
theorem ri3 {w : World} (x y z : Int) : RI (w.alloc (.cells #[.int .i64 x, .int .i64 y, .int .i64 z] 3)) (some ⟨w.heap.size, 0, none⟩) 3 3 [x, y, z] :=
 RI.of_blk (xs := [x, y, z]) (Blk.new w _ _) rfl
set_option maxRecDepth 100000 in
set_option maxHeartbeats 1000000 in
theorem better_any (w : World) (vx vy : Value) (x y : Fnd) (hx : FndV w vx x) (hy : FndV w vy y) : Calls Tryz.prog 98 #[vx, vy] w fun e w' => e = .returned (.bool (betterB x y)) ∧ Below w.heap.size w w' := by
 have HB0 : Hid (betterB x y = decide (orI (cmpQ y.q x.q) (orI (cmpI x.s y.s) (rowsI x.way y.way)) < 0)) := Lib.hid rfl
 obtain ⟨A, n, c, A1, n1, c1, B1, m1, d1, rfl, r, hn, I⟩ := hx
 obtain ⟨A', n', c', A2, n2, c2, B2', m2, d2, rfl, r', hn', I'⟩ := hy
 obtain ⟨way, q, s⟩ := x
 obtain ⟨way', q', s'⟩ := y
 dsimp only at r r' I I' HB0 ⊢
 obtain ⟨w0, hw0⟩ : ∃ W, W = (w.alloc (.cells #[.slice A n c, .slice A1 n1 c1, .slice B1 m1 d1, .int .i64 s] 167)).alloc (.cells #[.slice A' n' c', .slice A2 n2 c2, .slice B2' m2 d2, .int .i64 s'] 167) := ⟨_, rfl⟩
 have hB0 : Below w.heap.size w w0 := by rw [hw0]; exact ((Below.refl _ _).alloc (Nat.le_refl _) _).alloc (by simp) _
 have k2 : Blk w0 w.heap.size 167 #[.slice A n c, .slice A1 n1 c1, .slice B1 m1 d1, .int .i64 s] := by rw [hw0]; exact (Blk.new w _ _).alloc _
 have k3 : Blk w0 (w.heap.size + 1) 167 #[.slice A' n' c', .slice A2 n2 c2, .slice B2' m2 d2, .int .i64 s'] := by
  rw [hw0]
  have := Blk.new (w.alloc (.cells #[.slice A n c, .slice A1 n1 c1, .slice B1 m1 d1, .int .i64 s] 167)) 167 #[.slice A' n' c', .slice A2 n2 c2, .slice B2' m2 d2, .int .i64 s']
  rw [World.size_alloc] at this
  exact this
 replace r := r.on hB0
 replace r' := r'.on hB0
 replace I := I.on hB0
 replace I' := I'.on hB0
 go_enter Tryz.func98, Tryz.ntmps98
 go_wp2_with fail
 rw [← hw0]
 clear hw0
 have a0 := k2.cell 0
 have b0 := k3.cell 0
 go_wp2_with fail
 clear a0 b0
 refine (rows_any w0 _ _ _ _ _ _ _ _ r r' (by omega) (by omega)).mono ?_
 rintro y w1 ⟨rfl, hb⟩
 replace k2 := k2.below hb k2.lt
 replace k3 := k3.below hb k3.lt
 replace I := I.on hb
 replace I' := I'.on hb
 have hB1 := Lib.hid (bltB hB0 hB0.size hb)
 clear hb hB0 r r'
 obtain ⟨rz, hrz⟩ : ∃ z, rowsI way way' = z := ⟨_, rfl⟩
 rw [hrz] at HB0 ⊢
 clear hrz
 go_wp2_with fail
 refine wp_region_noPanic ?_
 refine ord_begin 14 (fun wx => Below w1.heap.size w1 wx) (by kernel_rfl) ?_
 have hx0 : Below w1.heap.size w1 w1.drew := (Below.refl _ _).drew
 refine ord_take (i := 0) (v := ?_) (by kernel_rfl) rfl (by decide) (by kernel_rfl) (by kernel_rfl) (fun _ _ _ h => h) (Or.inl ⟨by rfl, ?_⟩) hx0 ?_
 rotate_left
 ·intro wz hz; go_simp; (try with_reducible rfl)
 try simp only [Act.put, pu]
 refine ord_take (i := 1) (v := ?_) (by kernel_rfl) rfl (by decide) (by kernel_rfl) (by kernel_rfl) (fun _ _ _ h => h) (Or.inl ⟨by rfl, ?_⟩) hx0 ?_
 rotate_left
 ·intro wz hz; have j5 := k3.below hz k3.lt; have p0 := j5.cell 0; have p1 := j5.cell 1; have p2 := j5.cell 2; have p3 := j5.cell 3; go_simp; (try with_reducible rfl)
 try simp only [Act.put, pu]
 refine ord_take (i := 2) (v := ?_) (by kernel_rfl) rfl (by decide) (by kernel_rfl) (by kernel_rfl) (fun _ _ _ h => h) (Or.inl ⟨by rfl, ?_⟩) hx0 ?_
 rotate_left
 ·intro wz hz; go_simp; (try with_reducible rfl)
 try simp only [Act.put, pu]
 refine ord_take (i := 3) (v := ?_) (by kernel_rfl) rfl (by decide) (by kernel_rfl) (by kernel_rfl) (fun _ _ _ h => h) (Or.inl ⟨by rfl, ?_⟩) hx0 ?_
 rotate_left
 ·intro wz hz; have j4 := k2.below hz k2.lt; have q0 := j4.cell 0; have q1 := j4.cell 1; have q2 := j4.cell 2; have q3 := j4.cell 3; go_simp; (try with_reducible rfl)
 try simp only [Act.put, pu]
 refine ord_take (i := 5) (v := ?_) (by kernel_rfl) rfl (by decide) (by kernel_rfl) (by kernel_rfl) (fun _ _ _ h => h) (Or.inl ⟨by rfl, ?_⟩) hx0 ?_
 rotate_left
 ·intro wz hz; go_simp; (try with_reducible rfl)
 try simp only [Act.put, pu]
 refine ord_take (i := 6) (v := ?_) (by kernel_rfl) rfl (by decide) (by kernel_rfl) (by kernel_rfl) (fun _ _ _ h => h) (Or.inl ⟨by rfl, ?_⟩) hx0 ?_
 rotate_left
 ·intro wz hz; have j4 := k2.below hz k2.lt; have q0 := j4.cell 0; have q1 := j4.cell 1; have q2 := j4.cell 2; have q3 := j4.cell 3; go_simp; (try with_reducible rfl)
 try simp only [Act.put, pu]
 refine ord_take (i := 7) (v := ?_) (by kernel_rfl) rfl (by decide) (by kernel_rfl) (by kernel_rfl) (fun _ _ _ h => h) (Or.inl ⟨by rfl, ?_⟩) hx0 ?_
 rotate_left
 ·intro wz hz; go_simp; (try with_reducible rfl)
 try simp only [Act.put, pu]
 refine ord_take (i := 8) (v := ?_) (by kernel_rfl) rfl (by decide) (by kernel_rfl) (by kernel_rfl) (fun _ _ _ h => h) (Or.inl ⟨by rfl, ?_⟩) hx0 ?_
 rotate_left
 ·intro wz hz; have j5 := k3.below hz k3.lt; have p0 := j5.cell 0; have p1 := j5.cell 1; have p2 := j5.cell 2; have p3 := j5.cell 3; go_simp; (try with_reducible rfl)
 try simp only [Act.put, pu]
 refine ord_take (i := 10) (v := ?_) (by kernel_rfl) rfl (by decide) (by kernel_rfl) (by kernel_rfl) (fun _ _ _ h => h) (Or.inl ⟨by rfl, ?_⟩) hx0 ?_
 rotate_left
 ·intro wz hz; go_simp; (try with_reducible rfl)
 try simp only [Act.put, pu]
 refine ord_step (i := 4) rfl (by decide) (by kernel_rfl) (by rfl) (fun K hK => ?_)
 go_simp
 refine (fcmp_v (I'.on hx0) (I.on hx0) (by decide) (by decide)).mono ?_
 rintro y Xb_1 ⟨rfl, hb⟩
 obtain ⟨qz, hqz⟩ : ∃ z, cmpQ q' q = z := ⟨_, rfl⟩
 rw [hqz] at HB0 ⊢
 clear hqz
 have hx1 := bltB hx0 hx0.size hb
 clear hb hx0
 refine hK _ _ hx1 ?_
 clear hK K
 try simp only [Act.put, pu]
 refine ord_step (i := 9) rfl (by decide) (by kernel_rfl) (by rfl) (fun K hK => ?_)
 go_simp
 refine (compare_any _ _ _).mono ?_
 rintro y w' ⟨rfl, hw'⟩
 replace hw' := hw'.symm
 subst hw'
 obtain ⟨sz, hsz⟩ : ∃ z, cmpI s s' = z := ⟨_, rfl⟩
 rw [hsz] at HB0 ⊢
 clear hsz
 refine hK _ _ hx1 ?_
 clear hK K
 try simp only [Act.put, pu]
 refine ord_step (i := 11) rfl (by decide) (by kernel_rfl) (by rfl) (fun K hK => ?_)
 go_simp
 have r3 := ri3 (w := Xb_1) qz sz rz
 have hb : Below Xb_1.heap.size Xb_1 (Xb_1.alloc (.cells #[.int .i64 qz, .int .i64 sz, .int .i64 rz] 3)) := (Below.refl _ _).alloc (Nat.le_refl _) _
 obtain ⟨Xb_2, hXb_2⟩ : ∃ W, W = Xb_1.alloc (.cells #[.int .i64 qz, .int .i64 sz, .int .i64 rz] 3) := ⟨_, rfl⟩
 obtain ⟨G3, hG3⟩ : ∃ G, Xb_1.heap.size = G := ⟨_, rfl⟩
 rw [← hXb_2] at r3 hb ⊢
 rw [hG3] at r3 ⊢
 clear hXb_2 hG3
 have hx2 := bltB hx1 hx1.size hb
 clear hb hx1
 refine hK _ _ hx2 ?_
 clear hK K
 try simp only [Act.put, pu]
 refine ord_step (i := 12) rfl (by decide) (by kernel_rfl) (by rfl) (fun K hK => ?_)
 go_simp
 refine (or_any Xb_2 _ _ _ _ r3 (by decide)).mono ?_
 rintro y w' ⟨rfl, hw'⟩
 subst hw'
 rw [orL3]
 obtain ⟨oz, hoz⟩ : ∃ z, orI qz (orI sz rz) = z := ⟨_, rfl⟩
 rw [hoz] at HB0 ⊢
 clear hoz
 refine hK _ _ hx2 ?_
 clear hK K
 try simp only [Act.put, pu]
 refine ord_take (i := 13) (v := ?_) (by kernel_rfl) rfl (by decide) (by kernel_rfl) (by kernel_rfl) (fun _ _ _ h => h) (Or.inl ⟨by rfl, ?_⟩) hx2 ?_
 rotate_left
 ·intro wz hz; go_simp; (try with_reducible rfl)
 try simp only [Act.put, pu]
 refine ord_rest (by kernel_rfl) ?_
 refine any_step (i := 14) rfl (by kernel_rfl) (by rfl) (fun K hK => ?_)
 go_simp
 refine hK _ _ ?_
 clear hK K
 try simp only [Act.put, pu]
 refine wpAny_done (by kernel_rfl) ?_ _
 refine NoPanic.normal ?_
 have HB := Lib.hid (bltB hB1.out hB1.out.size hx2)
 clear hx2
 go_wp2_with fail
 go_ret
 exact ⟨by rw [HB0.out]; rfl, HB.out⟩
end Go.Proofs.YthefgdehfgkhhaaGreat
namespace Go.Proofs.YthefgdehfgkhhaaGreat
open Go.RowKit Go.Shelf
set_option linter.unusedVariables false
set_option linter.unusedSimpArgs false
theorem Blk.gr {M : Nat → Prop} {w w' : World} {g : Nat} {t : TypeId} {cs : Array Value} (h : Blk w g t cs) (hg : Gr M w w') (hM : ¬ M g) : Blk w' g t cs := (hg.block g h.lt hM).trans h
theorem MindAt.gr {M : Nat → Prop} {w w' : World} {p b n : Nat} {L : Notes} (h : MindAt w p b n L) (hg : Gr M w w') (hp : ¬ M p) (hb : ¬ M b) : MindAt w' p b n L :=
 ⟨h.box.gr hg hp, by
  obtain ⟨D, ho, hs⟩ := h.own
  exact ⟨D, own_at ho (hg.block b h.lt hb), hs⟩, h.ne⟩
theorem own_gr {M : Nat → Prop} {w w' : World} {base : Nat} {T : TypeId} {k : Nat} {v : Value} {n : Nat} {xs : List Value} (h : w.ownsRow base T k v n xs) (hg : Gr M w w') (hM : ∀ g, v.ownBlock = some g → ¬ M g) : w'.ownsRow base T k v n xs := by
 refine ⟨h.1, ?_⟩
 rcases h.2 with ⟨e1, e2⟩ | ⟨g, cap, cur, hv, hb, hh, hr⟩
 ·exact .inl ⟨e1, e2⟩
 ·exact .inr ⟨g, cap, cur, hv, hb, (hg.block g (blk_lt hh) (hM g (by rw [hv]; rfl))).trans hh, hr⟩
/-- The way that is best so far lies in block g. -/
def BestAt (w : World) (g : Nat) : Option Fnd → Prop
 | none => Blk w g 167 #[.slice none 0 0, .slice none 0 0, .slice none 0 0, .int .i64 0]
 | some x => x.way ≠ [] ∧ ∃ A n c A' n' c' B m d, Blk w g 167 #[.slice A n c, .slice A' n' c', .slice B m d, .int .i64 x.s] ∧ RE w A n c x.way ∧ n ≤ 8 ∧ IsQ w (.agg #[.slice A' n' c', .slice B m d]) x.q 40
theorem BestAt.lt {w : World} {g : Nat} {o : Option Fnd} (h : BestAt w g o) : g < w.heap.size := by
 cases o with
 | none => exact Blk.lt h
 | some x => obtain ⟨_, _, _, _, _, _, _, _, _, _, k, _⟩ := h; exact k.lt
theorem BestAt.on {w w' : World} {g : Nat} {o : Option Fnd} (h : BestAt w g o) (hb : Below w.heap.size w w') : BestAt w' g o := by
 cases o with
 | none => exact Blk.below h hb (Blk.lt h)
 | some x =>
  obtain ⟨hx, A, n, c, A', n', c', B, m, d, k, r, hn, I⟩ := h
  exact ⟨hx, A, n, c, A', n', c', B, m, d, k.below hb k.lt, r.on hb, hn, I.on hb⟩
/-- The boxes. -/
structure LookEnv where
 p : Nat
 bm : Nat
 ba : Nat
 bx : Nat
 bb : Nat
 bf : Nat
 bg : Nat
 bt : Nat
 bl : Nat
 a : Int
 x : Int
 fr : Int
 td : Int
 Ag : Option Addr
 ng : Nat
 cg : Nat
def LookEnv.caps (e : LookEnv) : Array Value := #[.pointer (some ⟨e.bm, 0, none⟩), .pointer (some ⟨e.ba, 0, none⟩), .pointer (some ⟨e.bx, 0, none⟩), .pointer (some ⟨e.bb, 0, none⟩), .pointer (some ⟨e.bf, 0, none⟩), .pointer (some ⟨e.bg, 0, none⟩), .pointer (some ⟨e.bt, 0, none⟩), .pointer (some ⟨e.bl, 0, none⟩)]
structure EnvAt (w : World) (e : LookEnv) (es : List Ed) : Prop where
 m : w.cell? ⟨e.bm, 0, none⟩ = some (.pointer (some ⟨e.p, 0, none⟩))
 a : w.cell? ⟨e.ba, 0, none⟩ = some (.int .i64 e.a)
 x : w.cell? ⟨e.bx, 0, none⟩ = some (.int .i64 e.x)
 f : w.cell? ⟨e.bf, 0, none⟩ = some (.int .i64 e.fr)
 g : w.cell? ⟨e.bg, 0, none⟩ = some (.slice e.Ag e.ng e.cg)
 t : w.cell? ⟨e.bt, 0, none⟩ = some (.int .i64 e.td)
 l : w.cell? ⟨e.bl, 0, none⟩ = some (.func (.func 96) #[] e.caps)
 row : RE w e.Ag e.ng e.cg es
 lt : (e.bm < w.heap.size ∧ e.ba < w.heap.size ∧ e.bx < w.heap.size ∧ e.bf < w.heap.size) ∧ (e.bg < w.heap.size ∧ e.bt < w.heap.size ∧ e.bl < w.heap.size)
 ne : (e.bm ≠ e.bb ∧ e.ba ≠ e.bb ∧ e.bx ≠ e.bb ∧ e.bf ≠ e.bb) ∧ (e.bg ≠ e.bb ∧ e.bt ≠ e.bb ∧ e.bl ≠ e.bb)
theorem Gr.cell {M : Nat → Prop} {w w' : World} (hg : Gr M w w') {b o : Nat} (hb : b < w.heap.size) (hM : ¬ M b) : w'.cell? ⟨b, o, none⟩ = w.cell? ⟨b, o, none⟩ := World.cell?_of_block (hg.block b hb hM)
theorem EnvAt.gr {w w' : World} {e : LookEnv} {g : List Ed} (h : EnvAt w e g) (hg : Gr (· = e.bb) w w') (hb : ∃ cs, Blk w e.bb 167 cs) : EnvAt w' e g := by
 obtain ⟨⟨l1, l2, l3, l4⟩, l5, l6, l7⟩ := h.lt
 obtain ⟨⟨n1, n2, n3, n4⟩, n5, n6, n7⟩ := h.ne
 have hs := hg.size
 refine ⟨(hg.cell l1 n1).trans h.m, (hg.cell l2 n2).trans h.a, (hg.cell l3 n3).trans h.x, (hg.cell l4 n4).trans h.f, (hg.cell l5 n5).trans h.g, (hg.cell l6 n6).trans h.t, (hg.cell l7 n7).trans h.l, h.row.gr hg ?_, ⟨⟨by omega, by omega, by omega, by omega⟩, by omega, by omega, by omega⟩, h.ne⟩
 intro b cs fr hh e
 obtain ⟨cs', k⟩ := hb
 subst e
 unfold Blk at k
 rw [k] at hh
 injection hh with hh
 injection hh with _ ht
 exact absurd ht (by decide)
theorem BestAt.blk {w : World} {g : Nat} {o : Option Fnd} (h : BestAt w g o) : ∃ cs, Blk w g 167 cs := by
 cases o with
 | none => exact ⟨_, h⟩
 | some x => obtain ⟨_, _, _, _, _, _, _, _, _, _, k, _⟩ := h; exact ⟨_, k⟩
theorem RE.gr {w w' : World} {bb : Nat} {A : Option Addr} {n c : Nat} {l : List Ed} (h : RE w A n c l) (hg : Gr (· = bb) w w') (hb : ∃ cs, Blk w bb 167 cs) : RE w' A n c l := by
 refine Rg.gr h hg ?_
 intro b cs fr hh e
 obtain ⟨cs', k⟩ := hb
 subst e
 unfold Blk at k
 rw [k] at hh
 injection hh with hh
 injection hh with _ ht
 exact absurd ht (by decide)
theorem MindAt.look {w w' : World} {p b n bb : Nat} {L : Notes} (h : MindAt w p b n L) (hg : Gr (· = bb) w w') (hb : ∃ cs, Blk w bb 167 cs) : MindAt w' p b n L := by
 obtain ⟨cs, k⟩ := hb
 refine h.gr hg (fun e => ?_) (fun e => ?_)
 ·subst e
  have hx := h.box
  unfold Blk at k hx
  rw [k] at hx
  injection hx with hx
  injection hx with _ ht
  exact absurd ht (by decide)
 ·subst e
  obtain ⟨D, ⟨es, clock, hm, _⟩, _⟩ := h.own
  unfold Blk at k
  rw [k] at hm
  injection hm with hm
  cases hm
theorem Rd.gr1 {w w' : World} {bb : Nat} {A : Option Addr} {n c : Nat} {l : List Nat} (h : Rd w w.heap.size A n c l) (hg : Gr (· = bb) w w') (hne : ∀ (o : Nat) (d : Int), w.cell? ⟨bb, o, none⟩ ≠ some (.int .u32 d)) : Rd w' w'.heap.size A n c l :=
 ⟨h.len, h.cap, h.dig, fun h0 => by
  obtain ⟨b, off, e, hb, hc⟩ := h.at_ h0
  have hbb : b ≠ bb := fun e => hne (off + 0) _ (e ▸ hc 0 h0)
  exact ⟨b, off, e, Nat.lt_of_lt_of_le hb hg.size, fun k hk => (hg.cell hb hbb).trans (hc k hk)⟩⟩
theorem IsQ.gr1 {w w' : World} {bb : Nat} {v : Value} {q : Rat} {b : Nat} (h : IsQ w v q b) (hg : Gr (· = bb) w w') (hne : ∀ (o : Nat) (d : Int), w.cell? ⟨bb, o, none⟩ ≠ some (.int .u32 d)) : IsQ w' v q b := by
 obtain ⟨A, n, c, B, m, d, rfl, r, t, f⟩ := h
 exact ⟨A, n, c, B, m, d, rfl, r.gr1 hg hne, t.gr1 hg hne, f⟩
theorem found_ne {w : World} {bb : Nat} {A0 A1 A2 : Option Addr} {n0 c0 n1 c1 n2 c2 : Nat} {s : Int} (k : Blk w bb 167 #[.slice A0 n0 c0, .slice A1 n1 c1, .slice A2 n2 c2, .int .i64 s]) (o : Nat) (d : Int) : w.cell? ⟨bb, o, none⟩ ≠ some (.int .u32 d) := by
 rw [k.cell o]
 match o with
 | 0 => simp
 | 1 => simp
 | 2 => simp
 | 3 => simp
 | o + 4 => simp
/-- A way is the best one now. -/
theorem best_set {w : World} {bb : Nat} {A0 A1 A2 : Option Addr} {n0 c0 n1 c1 n2 c2 : Nat} {s0 : Int} (k : Blk w bb 167 #[.slice A0 n0 c0, .slice A1 n1 c1, .slice A2 n2 c2, .int .i64 s0])
 {A A' B : Option Addr} {n c n' c' m d : Nat} {l : List Ed} {q : Rat} {s : Int} (hl : l ≠ []) (r : RE w A n c l) (hn : n ≤ 8) (I : IsQ w (.agg #[.slice A' n' c', .slice B m d]) q 40) :
 let V := (((w.setCell ⟨bb, 0, none⟩ (.slice A n c)).setCell ⟨bb, 1, none⟩ (.slice A' n' c')).setCell ⟨bb, 2, none⟩ (.slice B m d)).setCell ⟨bb, 3, none⟩ (.int .i64 s)
 BestAt V bb (some ⟨l, q, s⟩) ∧ Gr (· = bb) w V := by
 intro V
 have hg : Gr (· = bb) w V := ((((Gr.refl (· = bb) w).setCell (g := bb) (i := 0) (fun _ => show bb = bb from rfl) _).setCell (g := bb) (i := 1) (fun _ => show bb = bb from rfl) _).setCell (g := bb) (i := 2) (fun _ => show bb = bb from rfl) _).setCell (g := bb) (i := 3) (fun _ => show bb = bb from rfl) _
 have k4 := (((k.set_ 0 (.slice A n c)).set_ 1 (.slice A' n' c')).set_ 2 (.slice B m d)).set_ 3 (.int .i64 s)
 exact ⟨⟨hl, A, n, c, A', n', c', B, m, d, k4, RE.gr r hg ⟨_, k⟩, hn, I.gr1 hg (found_ne k)⟩, hg⟩
end Go.Proofs.YthefgdehfgkhhaaGreat
