/-
  The plan's functions: planTrue, planLegs.
-/
import Derived.Test.YthefgdehfgkhhaaGreatK01
import Derived.Test.YthefgdehfgkhhaaGreatK21
namespace Go.Proofs.YthefgdehfgkhhaaGreat
open Go.RowKit Go.Maps
set_option linter.unusedVariables false
set_option linter.unusedSimpArgs false
attribute [local go_sem] Oper.semAt_some
def TrueE (S : List Cn) (L : Notes) (e : Ed) : Prop := (bnd L e.e4).1 ≤ hasF S e ∧ hasF S e < (bnd L e.e4).2
set_option maxRecDepth 100000 in
set_option maxHeartbeats 2000000 in
theorem ptrue_any (w : World) (p go co bs bh ns : Nat) (own : List Int) (S : List Cn) (lost : Int) (h : LedAt w p go co bs bh ns own S lost) (pm bm m0 : Nat) (L : Notes) (hM : MindAt w pm bm m0 L) (hgd : Good L) (A : Option Addr) (n c : Nat) (g : List Ed) (hg : RE w A n c g) (hn : n ≤ 1048576)
 (hE : ∀ e ∈ g, EIn S e) (hT : ∀ e ∈ g, TrueE S L e) :
 Calls Tryz.prog 9 #[.pointer (some ⟨p, 0, none⟩), .slice A n c, .pointer (some ⟨pm, 0, none⟩)] w fun y w' => y = .returned (.bool true) ∧ Below w.heap.size w w' := by
 have HL := Lib.hid h
 have HM := Lib.hid hM
 have HR := Lib.hid hg
 have HE := Lib.hid hE
 have HT := Lib.hid hT
 clear h hM hg hE hT
 go_enter Tryz.func9, Tryz.ntmps9
 go_wp2_with fail
 go_loopw [7] (fun iv wr => ∃ i : Nat, i ≤ n ∧ iv = .int .i64 i ∧ Hid (Below w.heap.size w wr)) (fun iv _ => n - (intOf iv).toNat)
 case atStart => exact ⟨0, Nat.zero_le _, rfl, Lib.hid (Below.refl _ _)⟩
 case round =>
  obtain ⟨i, hi, rfl, HB⟩ := hrel
  by_cases hlt : i < n
  ·obtain ⟨ba, oa, e, hA, hba, hx, hat, a0, a1, a2, a3, a4, a5, a6, a7, a8⟩ := (HR.out.on HB.out).edge hlt
   subst hA
   have hm := List.mem_of_getElem? hx
   have he := HE.out e hm
   obtain ⟨s, hs⟩ := Option.isSome_iff_exists.1 he.2
   have HEI := Lib.hid he
   have HTE := Lib.hid (HT.out e hm)
   have HSS := Lib.hid hs
   have HSD := Lib.hid (sideF_eq hs)
   have HHV := Lib.hid (hasF_eq hs)
   have hlt' : (i : Int) < (n : Int) := by omega
   clear hx hat he hs hm
   obtain ⟨lo, hlo⟩ : ∃ z, (bnd L e.e4).1 = z := ⟨_, rfl⟩
   obtain ⟨hh, hhh⟩ : ∃ z, (bnd L e.e4).2 = z := ⟨_, rfl⟩
   have HBN : Hid ((bnd L e.e4).1 = lo ∧ (bnd L e.e4).2 = hh) := Lib.hid ⟨hlo, hhh⟩
   have HTE : Hid (lo ≤ hasF S e ∧ hasF S e < hh) := Lib.hid (by rw [← hlo, ← hhh]; exact HTE.out)
   clear hlo hhh
   obtain ⟨f, t1, ch, r, p0, p1, p2, p3, p4⟩ := e
   dsimp only at a0 a1 a2 a3 a4 a5 a6 a7 a8 HSD
   have hci : isI ch := HEI.out.1
   have HL1 := Lib.hid (HL.out.on HB.out)
   have HM1 := Lib.hid (HM.out.on HB.out)
   go_wp2_with fail
   refine (seat_any wr p go co bs bh ns own S lost HL1.out ch hci s HSS.out).mono ?_
   rintro y W1 ⟨rfl, hb⟩
   have HL2 := Lib.hid (HL1.out.on hb)
   have HM2 := Lib.hid (HM1.out.on hb)
   have HB1 := Lib.hid (bltB HB.out HB.out.size hb)
   have b0 := (hb.cell (p := ⟨ba, _, none⟩) hba).trans a0
   have b1 := (hb.cell (p := ⟨ba, _, none⟩) hba).trans a1
   have b2 := (hb.cell (p := ⟨ba, _, none⟩) hba).trans a2
   have b3 := (hb.cell (p := ⟨ba, _, none⟩) hba).trans a3
   have b4 := (hb.cell (p := ⟨ba, _, none⟩) hba).trans a4
   have b5 := (hb.cell (p := ⟨ba, _, none⟩) hba).trans a5
   have b6 := (hb.cell (p := ⟨ba, _, none⟩) hba).trans a6
   have b7 := (hb.cell (p := ⟨ba, _, none⟩) hba).trans a7
   have b8 := (hb.cell (p := ⟨ba, _, none⟩) hba).trans a8
   have hba1 : ba < W1.heap.size := Nat.lt_of_lt_of_le hba hb.size
   clear hb HL1 HM1 a0 a1 a2 a3 a4 a5 a6 a7 a8 hci hba
   obtain ⟨c0, q0, q1, h0, h1⟩ := s
   simp only [Cn.v, Cn.cs]
   dsimp only at HSD
   go_upto_region 5 with (fail)
   obtain ⟨W2, hW2⟩ : ∃ W, W = W1.alloc (.cells #[.int .i64 c0, .int .i64 q0, .int .i64 q1, .int .i64 h0, .int .i64 h1] 70) := ⟨_, rfl⟩
   have hb2 : Below W1.heap.size W1 W2 := by rw [hW2]; exact (Below.refl _ _).alloc (Nat.le_refl _) _
   have k6 : Blk W2 W1.heap.size 70 #[.int .i64 c0, .int .i64 q0, .int .i64 q1, .int .i64 h0, .int .i64 h1] := by rw [hW2]; exact Blk.new W1 _ _
   rw [← hW2]
   obtain ⟨G6, hG6⟩ : ∃ z, W1.heap.size = z := ⟨_, rfl⟩
   rw [hG6] at k6 ⊢
   have HL3 := Lib.hid (HL2.out.on hb2)
   have HM3 := Lib.hid (HM2.out.on hb2)
   have HB2 := Lib.hid (bltB HB1.out HB1.out.size hb2)
   have hba2 : ba < W2.heap.size := Nat.lt_of_lt_of_le hba1 hb2.size
   replace b0 := (hb2.cell (p := ⟨ba, _, none⟩) hba1).trans b0
   replace b1 := (hb2.cell (p := ⟨ba, _, none⟩) hba1).trans b1
   replace b2 := (hb2.cell (p := ⟨ba, _, none⟩) hba1).trans b2
   replace b3 := (hb2.cell (p := ⟨ba, _, none⟩) hba1).trans b3
   replace b4 := (hb2.cell (p := ⟨ba, _, none⟩) hba1).trans b4
   replace b5 := (hb2.cell (p := ⟨ba, _, none⟩) hba1).trans b5
   replace b6 := (hb2.cell (p := ⟨ba, _, none⟩) hba1).trans b6
   replace b7 := (hb2.cell (p := ⟨ba, _, none⟩) hba1).trans b7
   replace b8 := (hb2.cell (p := ⟨ba, _, none⟩) hba1).trans b8
   clear hW2 hG6 hb2 HL2 HM2 HB1 hba1
   go_wp2_with fail
   refine (bounds_any W2 pm bm m0 L HM3.out hgd ⟨f, t1, ch, r, p0, p1, p2, p3, p4⟩).mono ?_
   rintro y W3 ⟨rfl, hb⟩
   rw [HBN.out.1, HBN.out.2]
   replace k6 := k6.below hb k6.lt
   have HL4 := Lib.hid (HL3.out.on hb)
   have HB3 := Lib.hid (bltB HB2.out HB2.out.size hb)
   replace b0 := (hb.cell (p := ⟨ba, _, none⟩) hba2).trans b0
   replace b1 := (hb.cell (p := ⟨ba, _, none⟩) hba2).trans b1
   replace b2 := (hb.cell (p := ⟨ba, _, none⟩) hba2).trans b2
   replace b3 := (hb.cell (p := ⟨ba, _, none⟩) hba2).trans b3
   replace b4 := (hb.cell (p := ⟨ba, _, none⟩) hba2).trans b4
   replace b5 := (hb.cell (p := ⟨ba, _, none⟩) hba2).trans b5
   replace b6 := (hb.cell (p := ⟨ba, _, none⟩) hba2).trans b6
   replace b7 := (hb.cell (p := ⟨ba, _, none⟩) hba2).trans b7
   replace b8 := (hb.cell (p := ⟨ba, _, none⟩) hba2).trans b8
   clear hb HL3 HM3 HB2 hba2
   go_wp2_with fail
   refine (side_any W3 p go co bs bh ns own S lost HL4.out ⟨f, t1, ch, r, p0, p1, p2, p3, p4⟩ HEI.out).mono ?_
   rintro y W4 ⟨rfl, hb⟩
   replace k6 := k6.below hb k6.lt
   have HB4 := Lib.hid (bltB HB3.out HB3.out.size hb)
   have y3 := k6.cell 3
   have y4 := k6.cell 4
   simp at y3 y4
   clear hb HL4 HB3 k6 b0 b1 b2 b3 b4 b5 b6 b7 b8
   by_cases hq : q0 = f
   all_goals (
    (first | (have HSX : Hid (sideF S ⟨f, t1, ch, r, p0, p1, p2, p3, p4⟩ = 0) := Lib.hid (by rw [HSD.out, if_pos hq])) | (have HSX : Hid (sideF S ⟨f, t1, ch, r, p0, p1, p2, p3, p4⟩ = 1) := Lib.hid (by rw [HSD.out, if_neg hq])))
    have HHX : Hid (hasF S ⟨f, t1, ch, r, p0, p1, p2, p3, p4⟩ = (if sideF S ⟨f, t1, ch, r, p0, p1, p2, p3, p4⟩ = 0 then h0 else h1)) := Lib.hid (by rw [HHV.out]; rfl)
    clear hq HSD HHV
    rw [HSX.out] at HHX ⊢
    (first | (have hhe : hasF S ⟨f, t1, ch, r, p0, p1, p2, p3, p4⟩ = h0 := HHX.out) | (have hhe : hasF S ⟨f, t1, ch, r, p0, p1, p2, p3, p4⟩ = h1 := HHX.out))
    rw [hhe] at HTE
    (first | (have n1 : ¬ h0 < lo := by have := HTE.out; omega) | (have n1 : ¬ h1 < lo := by have := HTE.out; omega))
    (first | (have n2 : ¬ hh ≤ h0 := by have := HTE.out; omega) | (have n2 : ¬ hh ≤ h1 := by have := HTE.out; omega))
    clear hhe HHX
    go_wp2_with fail
    go_roundw
    case rel => exact ⟨i + 1, by omega, by go_num, HB4⟩
    case measure => simp [intOf]; omega)
  ·have hin : i = n := by omega
   subst hin
   go_wp2_with fail
   go_ret
   exact ⟨rfl, HB.out⟩
/-! Legs. -/
def legF (S : List Cn) (back : Bool) (e : Ed) (x : Int) : Lg := ⟨e.c, if back then 1 - sideF S e else sideF S e, x⟩
def legsF (S : List Cn) (back : Bool) : List Ed → List Int → List Lg
 | e :: es, x :: xs => legF S back e x :: legsF S back es xs
 | _, _ => []
theorem legs_take (S : List Cn) (back : Bool) : ∀ (es : List Ed) (xs : List Int) (i : Nat) (e : Ed) (x : Int), es[i]? = some e → xs[i]? = some x → legsF S back (es.take (i + 1)) (xs.take (i + 1)) = legsF S back (es.take i) (xs.take i) ++ [legF S back e x]
 | [], _, i, e, x, h, _ => by simp at h
 | _ :: _, [], i, e, x, _, h => by simp at h
 | e' :: es, x' :: xs, 0, e, x, h, h' => by
  simp at h h'
  subst h h'
  simp [legsF]
 | e' :: es, x' :: xs, i + 1, e, x, h, h' => by
  simp only [List.take_succ_cons, legsF, List.cons_append]
  rw [legs_take S back es xs i e x (by simpa using h) (by simpa using h')]
def lfl (ls : List Lg) : List Value := (lcs ls).flatMap fun a => a.toList
theorem lfl_append (a b : List Lg) : lfl (a ++ b) = lfl a ++ lfl b := by unfold lfl lcs; rw [List.map_append, List.flatMap_append]
theorem lfl_one (ls : List Lg) : ∀ u ∈ lfl ls, u.oneCell' = true := by
 intro v hv
 unfold lfl lcs at hv
 rw [List.mem_flatMap] at hv
 obtain ⟨a, ha, hv⟩ := hv
 obtain ⟨e, _, rfl⟩ := List.mem_map.1 ha
 simp [Lg.cs] at hv
 rcases hv with rfl | rfl | rfl <;> rfl
def OwnL (w : World) (base : Nat) (v : Value) (ls : List Lg) : Prop := w.ownsRow base 105 3 v ls.length (lfl ls)
theorem OwnL.row {w : World} {base : Nat} {v : Value} {ls : List Lg} (h : OwnL w base v ls) : ∃ A c, v = .slice A ls.length c ∧ RL w A ls.length c ls :=
 Rg.of_own (l := lcs ls) (lcs_wide ls) (by rw [lcs, List.length_map]) h
theorem infoL : (Tryz.prog.info? 105).map (fun i => (i.zero, i.size, i.bytes)) = some (some (.agg #[.int .i64 0, .int .i64 0, .int .i64 0]), 3, 24) := by kernel_rfl
theorem leg_reads {w : World} {g : Nat} (l : Lg) (h : Blk w g 105 l.cs) : Reads w w.heap.size 3 (some ⟨g, 0, none⟩) 1 (lfl [l]) :=
 (Rg.of_blk (k := 3) (l := lcs [l]) h (lcs_wide _) (fun i a hi j v hv => by
  match i, hi with
  | 0, hi => simp [lcs] at hi; subst hi; rw [Nat.zero_mul, Nat.zero_add]; exact hv
  | i + 1, hi => simp [lcs] at hi) (m := 1) (Nat.le_refl _)).reads
def RetLg (w : World) (ls : List Lg) (e : Ending) (w' : World) : Prop := ∃ A c, e = .returned (.slice A ls.length c) ∧ RL w' A ls.length c ls ∧ Below w.heap.size w w'
set_option maxRecDepth 100000 in
set_option maxHeartbeats 2000000 in
theorem legs_any (w : World) (p go co bs bh ns : Nat) (own : List Int) (S : List Cn) (lost : Int) (h : LedAt w p go co bs bh ns own S lost) (cs : Array Value) (P : Prt) (hP : PV w cs P) (hE : ∀ e ∈ P.way, EIn S e) (back : Bool) :
 Calls Tryz.prog 17 #[.pointer (some ⟨p, 0, none⟩), .agg cs, .bool back] w (RetLg w (legsF S back P.way P.s)) := by
 obtain ⟨Aw, nw, cw, As, n, c, At, nt, ct, rfl, r1, r2, r3, hn8, hnn⟩ := hP
 subst hnn
 obtain ⟨W0, hW0⟩ : ∃ W, W = w.alloc (.cells #[.int .i64 P.a, .slice Aw n cw, .slice As n c, .slice At nt ct] 51) := ⟨_, rfl⟩
 have hB0 : Below w.heap.size w W0 := by rw [hW0]; exact (Below.refl _ _).alloc (Nat.le_refl _) _
 have k3 : Blk W0 w.heap.size 51 #[.int .i64 P.a, .slice Aw n cw, .slice As n c, .slice At nt ct] := by rw [hW0]; exact Blk.new w _ _
 have HL0 := Lib.hid (h.on hB0)
 have HB0 := Lib.hid hB0
 have HW := Lib.hid (r1.on hB0)
 have HS := Lib.hid (r2.on hB0)
 have HE := Lib.hid hE
 have HN := Lib.hid (And.intro r1.elen r2.ilen)
 obtain ⟨i0, hi0, hz0', hz1, hz2⟩ := info_parts infoL
 have HI := Lib.hid (And.intro hi0 (And.intro hz0' (And.intro hz1 hz2)))
 clear hB0 h r1 r2 r3 hE hi0 hz0' hz1 hz2
 go_enter Tryz.func17, Tryz.ntmps17
 go_upto_region 1 with (fail)
 rw [← hW0]
 clear hW0
 obtain ⟨G3, hG3⟩ : ∃ z, w.heap.size = z := ⟨_, rfl⟩
 rw [hG3] at k3 ⊢
 clear hG3
 have HK := Lib.hid k3
 clear k3
 go_wp2_with fail
 go_loopw [7, 8] (fun ov iv wr => ∃ (v : Value) (i : Nat), v = ov ∧ i ≤ n ∧ iv = .int .i64 i ∧ Hid (OwnL wr W0.heap.size v (legsF S back (P.way.take i) (P.s.take i))) ∧ Hid ((legsF S back (P.way.take i) (P.s.take i)).length = i) ∧ Hid (Below W0.heap.size W0 wr)) (fun _ iv _ => n - (intOf iv).toNat)
 case atStart => exact ⟨_, 0, rfl, Nat.zero_le _, rfl, Lib.hid (World.ownsRow_nil _ _ _ _), Lib.hid rfl, Lib.hid (Below.refl _ _)⟩
 case round =>
  obtain ⟨v, i, rfl, hi, rfl, HO, HLN, HB⟩ := hrel
  have k3 := HK.out.below HB.out HK.out.lt
  have d1 := k3.cell 1
  have d2 := k3.cell 2
  simp at d1 d2
  by_cases hlt : i < n
  ·obtain ⟨ba, oa, e, hA, hba0, hx, _, _⟩ := HW.out.edge hlt
   obtain ⟨bs', os_, hAs, hbs0, hxs, _⟩ := HS.out.num hlt
   have HBA := Lib.hid (And.intro hba0 hbs0)
   subst hA
   subst hAs
   obtain ⟨x, hxx⟩ : ∃ z, P.s.getD i 0 = z := ⟨_, rfl⟩
   rw [hxx] at hxs
   obtain ⟨e', hba, hx', _, a0, a1, a2, a3, a4, a5, a6, a7, a8⟩ := (HW.out.on HB.out).edge_at hlt
   have hee : e' = e := Option.some.inj (hx'.symm.trans hx)
   subst hee
   have s0 : wr.cell? ⟨bs', os_ + i, none⟩ = some (.int .i64 x) := by
    obtain ⟨b2, o2, hA2, _, hx2, hc2⟩ := (HS.out.on HB.out).num hlt
    injection hA2 with hA2
    injection hA2 with h1 h2
    subst h1 h2
    rw [hxx] at hc2
    exact hc2
   have HEI := Lib.hid (HE.out e' (List.mem_of_getElem? hx))
   have HTK := Lib.hid (legs_take S back P.way P.s i e' x hx hxs)
   have hlt' : (i : Int) < (n : Int) := by omega
   have HA2 : Hid (W0.cell? ⟨ba, oa + i * 9 + 2, none⟩ = some (.int .i64 e'.c)) := Lib.hid (by
    rw [← HB.out.cell (p := ⟨ba, oa + i * 9 + 2, none⟩) hba0]
    exact a2)
   have HS0 : Hid (W0.cell? ⟨bs', os_ + i, none⟩ = some (.int .i64 x)) := Lib.hid (by
    rw [← HB.out.cell (p := ⟨bs', os_ + i, none⟩) hbs0]
    exact s0)
   clear hx hx' hxs hxx hba0 hbs0
   obtain ⟨f, t1, ch, r, p0, p1, p2, p3, p4⟩ := e'
   dsimp only at a0 a1 a2 a3 a4 a5 a6 a7 a8 HA2
   have HL1 := Lib.hid (HL0.out.on HB.out)
   go_wp2_with fail
   refine (side_any wr p go co bs bh ns own S lost HL1.out ⟨f, t1, ch, r, p0, p1, p2, p3, p4⟩ HEI.out).mono ?_
   rintro y W1 ⟨rfl, hb⟩
   replace k3 := k3.below hb k3.lt
   have HO1 : Hid (OwnL W1 W0.heap.size v (legsF S back (P.way.take i) (P.s.take i))) := Lib.hid (own_on HO.out hb)
   have HB1 := Lib.hid (bltB HB.out HB.out.size hb)
   clear hb HL1 HO a0 a1 a2 a3 a4 a5 a6 a7 a8 s0 d1 d2 hba k3
   have HSG := Lib.hid (sideF_01 S ⟨f, t1, ch, r, p0, p1, p2, p3, p4⟩)
   obtain ⟨sd, hsd⟩ : ∃ z, sideF S ⟨f, t1, ch, r, p0, p1, p2, p3, p4⟩ = z := ⟨_, rfl⟩
   rw [hsd] at HSG ⊢
   obtain ⟨sx, hsx⟩ : ∃ z : Int, (if back then 1 - sd else sd) = z := ⟨_, rfl⟩
   have HLG : Hid (legF S back ⟨f, t1, ch, r, p0, p1, p2, p3, p4⟩ x = ⟨ch, sx, x⟩) := Lib.hid (by unfold legF; rw [hsd, hsx])
   have HSX := Lib.hid hsx
   clear hsd hsx
   have hsb : 0 ≤ sd ∧ sd ≤ 1 := by have := HSG.out; omega
   obtain ⟨hsb0, hsb1⟩ := hsb
   cases back
   all_goals (
    (first | (have he8 : sd = sx := HSX.out) | (have he8 : 1 - sd = sx := HSX.out))
    go_upto_region 8 with (fail)
    (try rw [he8])
    clear he8
    obtain ⟨e2, hba, hx2, _, a0, a1, a2, a3, a4, a5, a6, a7, a8⟩ := HW.out.edge_at hlt
    have a2 : W0.cell? ⟨ba, oa + i * 9 + 2, none⟩ = some (.int .i64 ch) := HA2.out
    have s0 : W0.cell? ⟨bs', os_ + i, none⟩ = some (.int .i64 x) := HS0.out
    clear hx2 a0 a1 a3 a4 a5 a6 a7 a8 hba
    have hlB := HBA.out
    have hlG := HK.out.lt
    refine wp_region_noPanic ?_
    refine ord_begin 16 (fun wx => Below W0.heap.size W0 wx) (by kernel_rfl) ?_
    have hx0 : Below W0.heap.size W0 W1.drew := HB1.out.drew
    refine ord_take (i := 0) (v := ?_) (by kernel_rfl) rfl (by decide) (by kernel_rfl) (by kernel_rfl) (fun _ _ _ h => h) (Or.inl ⟨by rfl, ?_⟩) hx0 ?_
    rotate_left
    ·intro wz hz; go_simp; (try with_reducible rfl)
    try simp only [Act.put, pu]
    refine ord_take (i := 1) (v := ?_) (by kernel_rfl) rfl (by decide) (by kernel_rfl) (by kernel_rfl) (fun _ _ _ h => h) (Or.inl ⟨by rfl, ?_⟩) hx0 ?_
    rotate_left
    ·intro wz hz; go_simp; (try with_reducible rfl)
    try simp only [Act.put, pu]
    refine ord_take (i := 2) (v := ?_) (by kernel_rfl) rfl (by decide) (by kernel_rfl) (by kernel_rfl) (fun _ _ _ h => h) (Or.inl ⟨by rfl, ?_⟩) hx0 ?_
    rotate_left
    ·intro wz hz; have j3 := HK.out.below hz hlG; have y1 := j3.cell 1; have y2 := j3.cell 2; simp at y1 y2; go_simp; (try with_reducible rfl)
    try simp only [Act.put, pu]
    refine ord_take (i := 3) (v := ?_) (by kernel_rfl) rfl (by decide) (by kernel_rfl) (by kernel_rfl) (fun _ _ _ h => h) (Or.inl ⟨by rfl, ?_⟩) hx0 ?_
    rotate_left
    ·intro wz hz; go_simp; (try with_reducible rfl)
    try simp only [Act.put, pu]
    refine ord_take (i := 4) (v := ?_) (by kernel_rfl) rfl (by decide) (by kernel_rfl) (by kernel_rfl) (fun _ _ _ h => h) (Or.inl ⟨by rfl, ?_⟩) hx0 ?_
    rotate_left
    ·intro wz hz; go_simp; (try with_reducible rfl)
    try simp only [Act.put, pu]
    refine ord_take (i := 5) (v := ?_) (by kernel_rfl) rfl (by decide) (by kernel_rfl) (by kernel_rfl) (fun _ _ _ h => h) (Or.inl ⟨by rfl, ?_⟩) hx0 ?_
    rotate_left
    ·intro wz hz; go_simp; (try with_reducible rfl)
    try simp only [Act.put, pu]
    refine ord_take (i := 6) (v := ?_) (by kernel_rfl) rfl (by decide) (by kernel_rfl) (by kernel_rfl) (fun _ _ _ h => h) (Or.inl ⟨by rfl, ?_⟩) hx0 ?_
    rotate_left
    ·intro wz hz; have y3 := (hz.cell (p := ⟨ba, _, none⟩) hlB.1).trans a2; go_simp; (try with_reducible rfl)
    try simp only [Act.put, pu]
    refine ord_take (i := 7) (v := ?_) (by kernel_rfl) rfl (by decide) (by kernel_rfl) (by kernel_rfl) (fun _ _ _ h => h) (Or.inl ⟨by rfl, ?_⟩) hx0 ?_
    rotate_left
    ·intro wz hz; go_simp; (try with_reducible rfl)
    try simp only [Act.put, pu]
    refine ord_take (i := 8) (v := ?_) (by kernel_rfl) rfl (by decide) (by kernel_rfl) (by kernel_rfl) (fun _ _ _ h => h) (Or.inl ⟨by rfl, ?_⟩) hx0 ?_
    rotate_left
    ·intro wz hz; go_simp; (try with_reducible rfl)
    try simp only [Act.put, pu]
    refine ord_take (i := 9) (v := ?_) (by kernel_rfl) rfl (by decide) (by kernel_rfl) (by kernel_rfl) (fun _ _ _ h => h) (Or.inl ⟨by rfl, ?_⟩) hx0 ?_
    rotate_left
    ·intro wz hz; have j3 := HK.out.below hz hlG; have y1 := j3.cell 1; have y2 := j3.cell 2; simp at y1 y2; go_simp; (try with_reducible rfl)
    try simp only [Act.put, pu]
    refine ord_take (i := 10) (v := ?_) (by kernel_rfl) rfl (by decide) (by kernel_rfl) (by kernel_rfl) (fun _ _ _ h => h) (Or.inl ⟨by rfl, ?_⟩) hx0 ?_
    rotate_left
    ·intro wz hz; go_simp; (try with_reducible rfl)
    try simp only [Act.put, pu]
    refine ord_take (i := 11) (v := ?_) (by kernel_rfl) rfl (by decide) (by kernel_rfl) (by kernel_rfl) (fun _ _ _ h => h) (Or.inl ⟨by rfl, ?_⟩) hx0 ?_
    rotate_left
    ·intro wz hz; go_simp; (try with_reducible rfl)
    try simp only [Act.put, pu]
    refine ord_take (i := 12) (v := ?_) (by kernel_rfl) rfl (by decide) (by kernel_rfl) (by kernel_rfl) (fun _ _ _ h => h) (Or.inl ⟨by rfl, ?_⟩) hx0 ?_
    rotate_left
    ·intro wz hz; have y4 := (hz.cell (p := ⟨bs', _, none⟩) hlB.2).trans s0; go_simp; (try with_reducible rfl)
    try simp only [Act.put, pu]
    refine ord_take (i := 13) (v := ?_) (by kernel_rfl) rfl (by decide) (by kernel_rfl) (by kernel_rfl) (fun _ _ _ h => h) (Or.inl ⟨by rfl, ?_⟩) hx0 ?_
    rotate_left
    ·intro wz hz; go_simp; (try with_reducible rfl)
    try simp only [Act.put, pu]
    refine ord_step (i := 14) rfl (by decide) (by kernel_rfl) (by rfl) (fun K hK => ?_)
    go_simp
    obtain ⟨W8, hW8⟩ : ∃ W, W = (W1.alloc (.cells #[.int .i64 ch, .int .i64 sx, .int .i64 x] 105)).drew := ⟨_, rfl⟩
    have hx8 : Below W0.heap.size W0 W8 := by rw [hW8]; exact (HB1.out.alloc HB1.out.size _).drew
    have k8 : Blk W8 W1.heap.size 105 (Lg.cs ⟨ch, sx, x⟩) := by rw [hW8]; exact (Blk.new W1 _ _).drew
    have HO8 := Lib.hid (show W8.ownsRow W0.heap.size _ 3 v _ _ by rw [hW8]; exact (World.ownsRow.alloc HO1.out _).drew)
    rw [← hW8]
    clear hW8
    refine hK _ _ hx8 ?_
    clear hK K
    try simp only [Act.put, pu]
    refine ord_step (i := 15) rfl (by decide) (by kernel_rfl) (by rfl) (fun K hK => ?_)
    refine wp_append_any W8 (.tmp 34) (.tmp 48) 59 rfl W0.heap.size 105 i0 (.agg #[.int .i64 0, .int .i64 0, .int .i64 0]) 3 24 Tryz.underlying59 HI.out.1 HI.out.2.1 HI.out.2.2.1 HI.out.2.2.2 rfl (by decide) v _ _ rfl HO8.out _ (some ⟨W1.heap.size, 0, none⟩) 1 1 (lfl [⟨ch, sx, x⟩]) rfl (leg_reads _ k8) (lfl_one _) (by have := HLN.out; simp only [maxLen]; omega) (by have := HLN.out; omega) hx8.size ?_
    intro v1 W9 own1 gr1 at1
    have hx9 : Below W0.heap.size W0 W9 := hx8.grown gr1 hx8.size (fun k hk => (HO8.out.lt k hk).1)
    refine hK _ _ hx9 ?_
    clear hK K
    try simp only [Act.put, pu]
    refine ord_rest (by kernel_rfl) ?_
    refine any_step (i := 16) rfl (by kernel_rfl) (by rfl) (fun K hK => ?_)
    go_simp
    refine hK _ _ ?_
    clear hK K
    try simp only [Act.put, pu]
    refine wpAny_done (by kernel_rfl) ?_ _
    refine NoPanic.normal ?_
    have HO9 : Hid (OwnL W9 W0.heap.size v1 (legsF S _ (P.way.take (i + 1)) (P.s.take (i + 1)))) := Lib.hid (by
     rw [HTK.out, HLG.out]
     unfold OwnL
     rw [List.length_append, lfl_append]
     exact own1)
    have HL9 : Hid ((legsF S _ (P.way.take (i + 1)) (P.s.take (i + 1))).length = i + 1) := Lib.hid (by rw [HTK.out, List.length_append, HLN.out]; rfl)
    have HB9 := Lib.hid hx9
    clear own1 gr1 at1 HO1 hx9 a2 s0
    go_wp2_with fail
    go_roundw
    case rel => exact ⟨v1, i + 1, rfl, by omega, by go_num, HO9, HL9, HB9⟩
    case measure => simp [intOf]; omega)
  ·have hin : i = n := by omega
   subst hin
   have hro := HO.out
   rw [List.take_of_length_le (by rw [HN.out.1]; exact Nat.le_refl _), List.take_of_length_le (by rw [HN.out.2]; exact Nat.le_refl _)] at hro
   obtain ⟨A, c2, rfl, hrl⟩ := hro.row
   have HF : Hid (RetLg w (legsF S back P.way P.s) (.returned (.slice A (legsF S back P.way P.s).length c2)) wr) := Lib.hid ⟨A, c2, rfl, hrl, bltB HB0.out HB0.out.size HB.out⟩
   clear hro hrl HO
   go_wp2_with fail
   go_ret
   exact HF.out
end Go.Proofs.YthefgdehfgkhhaaGreat
namespace Go.Proofs.YthefgdehfgkhhaaGreat
set_option linter.unusedVariables false
set_option linter.unusedSimpArgs false
/-- The edge's channel is between its parties, and holds its room. -/
def EOn (S : List Cn) (e : Ed) : Prop := ∃ s, lookS S e.c = some s ∧ ((s.p0 = e.f ∧ s.p1 = e.t) ∨ (s.p0 = e.t ∧ s.p1 = e.f)) ∧ s.h0 + s.h1 = e.r
def GInv (S : List Cn) (g : List Ed) : Prop := (∀ e ∈ g, EOn S e ∧ isI e.c) ∧ SOk S ∧ S.Pairwise fun a b => a.c ≠ b.c
def POk (g : List Ed) (P : Prt) : Prop := (∀ e ∈ P.way, e ∈ g) ∧ cost P.way P.a 100 = some (P.s, P.t)
theorem EOn.isIn {S : List Cn} {e : Ed} (h : EOn S e) (hi : isI e.c) : EIn S e := by
 obtain ⟨s, hs, _⟩ := h
 exact ⟨hi, by rw [hs]; rfl⟩
/-! What is sent is at least 1, and coins. -/
theorem costR_low : ∀ (l : List Ed) (a x : Int) (r : List Int × List Int), costR l a x = some r → 1 ≤ a → ∀ z ∈ r.1, 1 ≤ z
 | [], _, _, r, h, _, z, hz => by
  simp [costR] at h
  subst h
  simp at hz
 | e :: es, a, x, r, h, ha, z, hz => by
  rw [costR_cons] at h
  split at h
  ·split at h
   ·rename_i h1 h2
    rw [Option.map_eq_some_iff] at h
    obtain ⟨r', hr', rfl⟩ := h
    simp only [List.mem_append, List.mem_singleton] at hz
    rcases hz with hz | rfl
    ·cases es with
     | nil =>
      simp [costR] at hr'
      subst hr'
      simp at hz
     | cons e' es' =>
      simp only [List.isEmpty_cons, Bool.false_or, Bool.and_eq_true] at h2
      rw [if_pos h2.2] at hr'
      have := addB_bound h2.2
      exact costR_low _ _ _ _ hr' (by omega) z hz
    ·exact ha
   ·simp at h
  ·simp at h
theorem cost_bounds {l : List Ed} {a x : Int} {r : List Int × List Int} (h : cost l a x = some r) {i : Nat} {z : Int} (hz : r.1[i]? = some z) : 1 ≤ z ∧ z ≤ 1125899906842624 := by
 have hlow : 1 ≤ z := by
  unfold cost at h
  split at h
  ·rename_i hc
   simp only [Bool.and_eq_true] at hc
   have ha := hc.2.1
   unfold inB at ha
   simp only [Bool.and_eq_true, decide_eq_true_eq] at ha
   exact costR_low _ _ _ _ h ha.1 z (List.mem_of_getElem? hz)
  ·simp at h
 obtain ⟨_, hl, _, hc⟩ := cost_at h
 have hi : i < l.length := by
  have := (List.getElem?_eq_some_iff.1 hz).1
  omega
 obtain ⟨e, z', he, hz', hee, hb⟩ := hc i hi
 rw [hz] at hz'
 injection hz' with hz'
 subst hz'
 have hp := (edge_spec hee).2.2.2.2.1
 unfold inB at hb
 simp only [Bool.and_eq_true, decide_eq_true_eq] at hb
 omega
/-! Ways use a channel once. -/
theorem any_false {α : Type} {l : List α} {p : α → Bool} (h : (!l.any p) = true) {x : α} (hx : x ∈ l) : p x = false := by
 cases hp : p x with
 | false => rfl
 | true =>
  have : l.any p = true := List.any_eq_true.2 ⟨x, hx, hp⟩
  rw [this] at h
  cases h
theorem wayB_at {l : List Ed} (h : wayB l = true) {i : Nat} (hi : i < l.length) : wayAt l i = true := by
 unfold wayB at h
 simp only [Bool.and_eq_true] at h
 exact List.all_eq_true.1 h.2 i (List.mem_range.2 hi)
theorem eAt_some {l : List Ed} {i : Nat} {e : Ed} (h : l[i]? = some e) : eAt l i = e := by
 unfold eAt
 rw [List.getD_eq_getElem?_getD, h]
 rfl
theorem way_fresh {l : List Ed} (h : wayB l = true) {i j : Nat} {a b : Ed} (hij : i < j) (ha : l[i]? = some a) (hb : l[j]? = some b) : a.f ≠ b.t ∧ a.t ≠ b.t := by
 have hj := (List.getElem?_eq_some_iff.1 hb).1
 have hw := wayB_at h hj
 unfold wayAt at hw
 rw [eAt_some hb] at hw
 simp only [Bool.and_eq_true] at hw
 have ham : a ∈ l.take j := List.mem_of_getElem? (i := i) (by rw [List.getElem?_take, if_pos hij]; exact ha)
 have := any_false hw.2.2 ham
 simp only [Bool.or_eq_false_iff, decide_eq_false_iff_not] at this
 exact this
theorem way_once {S : List Cn} {g : List Ed} {l : List Ed} (hg : GInv S g) (hm : ∀ e ∈ l, e ∈ g) (h : wayB l = true) : l.Pairwise fun a b => a.c ≠ b.c := by
 rw [List.pairwise_iff_getElem]
 intro i j hi hj hij e
 obtain ⟨h1, h2⟩ := way_fresh h hij (List.getElem?_eq_getElem hi) (List.getElem?_eq_getElem hj)
 obtain ⟨s, hs, hp, _⟩ := (hg.1 _ (hm _ (List.getElem_mem hi))).1
 obtain ⟨t, ht, hq, _⟩ := (hg.1 _ (hm _ (List.getElem_mem hj))).1
 rw [e, ht] at hs
 injection hs with hs
 subst hs
 rcases hp with ⟨a1, a2⟩ | ⟨a1, a2⟩ <;> rcases hq with ⟨b1, b2⟩ | ⟨b1, b2⟩ <;> omega
/-! Paying leg by leg. -/
/-- S' answers as S at the ways' channels. -/
def Agree (S S' : List Cn) (es : List Ed) : Prop := ∀ e ∈ es, lookS S' e.c = lookS S e.c ∧ (lookS S e.c).isSome = true
theorem leg_have {S S' : List Cn} {e : Ed} {s : Cn} (hs : lookS S e.c = some s) (x : Int) : haveS s (legF S false e x).s = hasF S e := by
 rw [hasF_eq hs]
 rfl
theorem agree_tail {S S' : List Cn} {e : Ed} {es : List Ed} (h : Agree S S' (e :: es)) (hd : ∀ b ∈ es, e.c ≠ b.c) (s : Cn) (hs : s.c = e.c) : Agree S (putS S' s) es := by
 intro b hb
 obtain ⟨h1, h2⟩ := h b (List.mem_cons_of_mem _ hb)
 refine ⟨?_, h2⟩
 rw [lookS_put, if_neg (fun e' => hd b hb (by rw [← hs, ← e'])), h1]
theorem pay_lacks (S : List Cn) : ∀ (es : List Ed) (xs : List Int) (S' : List Cn) (i : Int), es.Pairwise (fun a b => a.c ≠ b.c) → Agree S S' es → 0 ≤ i →
 (lacksF S es xs i < 0 ∧ ∃ S2, payF S' (legsF S false es xs) = some S2) ∨ (i ≤ lacksF S es xs i ∧ payF S' (legsF S false es xs) = none)
 | [], xs, S', i, _, _, hi => .inl ⟨by cases xs <;> simp [lacksF], S', by simp [legsF, payF]⟩
 | e :: es, [], S', i, _, _, hi => .inl ⟨by simp [lacksF], S', by simp [legsF, payF]⟩
 | e :: es, x :: xs, S', i, hd, ha, hi => by
  rw [List.pairwise_cons] at hd
  obtain ⟨h1, h2⟩ := ha e (List.mem_cons_self ..)
  obtain ⟨s, hs⟩ := Option.isSome_iff_exists.1 h2
  have hs' : lookS S' (legF S false e x).c = some s := h1.trans hs
  rw [lacks_cons, legsF, pay_cons _ _ _ hs', leg_have (S' := S') hs]
  by_cases hl : hasF S e < x
  ·rw [if_pos hl]
   have : hasF S e < (legF S false e x).a := hl
   rw [if_pos this]
   exact .inr ⟨Int.le_refl _, rfl⟩
  ·rw [if_neg hl]
   have : ¬ hasF S e < (legF S false e x).a := hl
   rw [if_neg this]
   have hc : (moveS s (legF S false e x)).c = e.c := by rw [move_c]; exact (lookS_mem hs).2
   rcases pay_lacks S es xs (putS S' (moveS s (legF S false e x))) (i + 1) hd.2 (agree_tail ha hd.1 _ hc) (by omega) with h | h
   ·exact .inl h
   ·exact .inr ⟨by omega, h.2⟩
theorem legF_c (S : List Cn) (back : Bool) (e : Ed) (x : Int) : (legF S back e x).c = e.c := rfl
/-- What the ledger answers behind a payment. -/
theorem pay_look (S : List Cn) (back : Bool) : ∀ (es : List Ed) (xs : List Int) (S' S2 : List Cn), es.Pairwise (fun a b => a.c ≠ b.c) → Agree S S' es → payF S' (legsF S back es xs) = some S2 →
 (∀ k, (∀ e ∈ es, e.c ≠ k) → lookS S2 k = lookS S' k) ∧ (∀ (i : Nat) (e : Ed) (x : Int) (s : Cn), es[i]? = some e → xs[i]? = some x → lookS S e.c = some s → lookS S2 e.c = some (moveS s (legF S back e x)) ∧ x ≤ haveS s (legF S back e x).s) ∧ S2.map (·.c) = S'.map (·.c)
 | [], xs, S', S2, _, _, h => by
  simp [legsF, payF] at h
  subst h
  exact ⟨fun _ _ => rfl, fun i e x s h => by simp at h, rfl⟩
 | e :: es, [], S', S2, _, _, h => by
  simp [legsF, payF] at h
  subst h
  exact ⟨fun _ _ => rfl, fun i e x s _ h => by simp at h, rfl⟩
 | e :: es, x :: xs, S', S2, hd, ha, h => by
  rw [List.pairwise_cons] at hd
  obtain ⟨h1, h2⟩ := ha e (List.mem_cons_self ..)
  obtain ⟨s, hs⟩ := Option.isSome_iff_exists.1 h2
  have hs' : lookS S' (legF S back e x).c = some s := h1.trans hs
  rw [legsF, pay_cons _ _ _ hs'] at h
  split at h
  ·simp at h
  ·rename_i hl
   have hc : (moveS s (legF S back e x)).c = e.c := by rw [move_c]; exact (lookS_mem hs).2
   obtain ⟨k1, k2, k3⟩ := pay_look S back es xs _ S2 hd.2 (agree_tail ha hd.1 _ hc) h
   refine ⟨fun k hk => ?_, fun i e' x' s' he hx hs2 => ?_, ?_⟩
   ·rw [k1 k (fun b hb => hk b (List.mem_cons_of_mem _ hb)), lookS_put, if_neg (fun e' => hk e (List.mem_cons_self ..) (by rw [e', hc]))]
   ·cases i with
    | zero =>
     simp at he hx
     subst he hx
     rw [hs] at hs2
     injection hs2 with hs2
     subst hs2
     refine ⟨?_, ?_⟩
     ·rw [k1 e.c (fun b hb => (hd.1 b hb).symm), lookS_put, if_pos hc.symm]
     ·have : ¬ haveS s (legF S back e x).s < x := hl
      omega
    | succ i => exact k2 i e' x' s' (by simpa using he) (by simpa using hx) hs2
   ·rw [k3]
    exact keys_put (by rw [hc, h1, hs]; rfl)
where
 keys_put : ∀ {S : List Cn} {s : Cn}, (lookS S s.c).isSome = true → (putS S s).map (·.c) = S.map (·.c)
  | [], s, h => by simp [lookS] at h
  | y :: S, s, h => by
   unfold putS
   split
   ·rename_i e
    simp [e]
   ·rename_i e
    unfold lookS at h
    rw [if_neg e] at h
    rw [List.map_cons, List.map_cons, keys_put h]
theorem payF_ok : ∀ (ls : List Lg) (S S2 : List Cn), SOk S → (∀ l ∈ ls, LOk S l) → payF S ls = some S2 → SOk S2
 | [], S, S2, h, _, hp => by simp [payF] at hp; subst hp; exact h
 | l :: ls, S, S2, h, hl, hp => by
  obtain ⟨h1, h2, h3, h4⟩ := hl l (List.mem_cons_self ..)
  obtain ⟨s, hs⟩ := Option.isSome_iff_exists.1 h4
  rw [pay_cons _ _ _ hs] at hp
  split at hp
  ·simp at hp
  ·rename_i hh
   exact payF_ok ls _ S2 (h.move (lookS_mem hs).1 h1 h2.1 hh) (fun x hx => (hl x (List.mem_cons_of_mem _ hx)).move _ _) hp
theorem once_keys {S : List Cn} : (S.Pairwise fun a b => a.c ≠ b.c) ↔ (S.map (·.c)).Pairwise (· ≠ ·) := by rw [List.pairwise_map]
/-- The same keys, the same answers: the same list. -/
theorem ext_S : ∀ (S T : List Cn), S.map (·.c) = T.map (·.c) → (S.Pairwise fun a b => a.c ≠ b.c) → (∀ k, lookS S k = lookS T k) → S = T
 | [], [], _, _, _ => rfl
 | [], t :: T, h, _, _ => by simp at h
 | s :: S, [], h, _, _ => by simp at h
 | s :: S, t :: T, h, ho, hk => by
  rw [List.map_cons, List.map_cons] at h
  injection h with h1 h2
  have h3 := hk s.c
  unfold lookS at h3
  rw [if_pos rfl, if_pos h1.symm] at h3
  injection h3 with h3
  subst h3
  rw [List.pairwise_cons] at ho
  rw [ext_S S T h2 ho.2 (fun k => ?_)]
  have h4 := hk k
  unfold lookS at h4
  by_cases e : s.c = k
  ·have hn : ∀ {U : List Cn}, U.map (·.c) = S.map (·.c) → lookS U k = none := by
    intro U hU
    cases hl : lookS U k with
    | none => rfl
    | some u =>
     obtain ⟨hu, huc⟩ := lookS_mem hl
     have : u.c ∈ S.map (·.c) := by rw [← hU]; exact List.mem_map.2 ⟨u, hu, rfl⟩
     obtain ⟨v, hv, hvc⟩ := List.mem_map.1 this
     exact absurd (e.trans (huc.symm.trans hvc.symm)) (ho.1 v hv)
   rw [hn rfl, hn h2.symm]
  ·rwa [if_neg e, if_neg e] at h4
/-! A part is paid. -/
theorem POk.way {g : List Ed} {P : Prt} (h : POk g P) : wayB P.way = true ∧ P.s.length = P.way.length := by
 obtain ⟨_, hc⟩ := h
 obtain ⟨h1, h2, _⟩ := cost_at hc
 exact ⟨h1, h2⟩
theorem agree_refl {S : List Cn} {g : List Ed} (hg : GInv S g) {es : List Ed} (hm : ∀ e ∈ es, e ∈ g) : Agree S S es := fun e he => by
 obtain ⟨s, hs, _⟩ := (hg.1 e (hm e he)).1
 exact ⟨rfl, by rw [hs]; rfl⟩
theorem legs_at (S : List Cn) (back : Bool) : ∀ (es : List Ed) (xs : List Int) (l : Lg), l ∈ legsF S back es xs → ∃ (i : Nat) (e : Ed) (x : Int), es[i]? = some e ∧ xs[i]? = some x ∧ l = legF S back e x
 | [], _, l, h => by simp [legsF] at h
 | _ :: _, [], l, h => by simp [legsF] at h
 | e :: es, x :: xs, l, h => by
  rw [legsF] at h
  rcases List.mem_cons.1 h with rfl | h
  ·exact ⟨0, e, x, rfl, rfl, rfl⟩
  ·obtain ⟨i, e', x', h1, h2, h3⟩ := legs_at S back es xs l h
   exact ⟨i + 1, e', x', by simpa using h1, by simpa using h2, h3⟩
theorem legs_len (S : List Cn) (back : Bool) : ∀ (es : List Ed) (xs : List Int), (legsF S back es xs).length ≤ es.length
 | [], _ => by simp [legsF]
 | _ :: _, [] => by simp [legsF]
 | e :: es, x :: xs => by rw [legsF]; simp; exact legs_len S back es xs
theorem legs_ok {S : List Cn} {g : List Ed} {P : Prt} (hg : GInv S g) (hp : POk g P) (back : Bool) : ∀ l ∈ legsF S back P.way P.s, LOk S l := by
 intro l hl
 obtain ⟨i, e, x, he, hx, rfl⟩ := legs_at _ _ _ _ _ hl
 obtain ⟨hon, hi⟩ := hg.1 e (hp.1 e (List.mem_of_getElem? he))
 obtain ⟨s, hs, _⟩ := hon
 refine ⟨?_, cost_bounds hp.2 hx, hi, by rw [legF_c, hs]; rfl⟩
 have := sideF_01 S e
 unfold legF
 cases back <;> simp <;> omega
theorem lacks_iff {S : List Cn} {g : List Ed} {P : Prt} (hg : GInv S g) (hp : POk g P) : (lacksF S P.way P.s 0 < 0 ∧ ∃ S2, payF S (legsF S false P.way P.s) = some S2) ∨ (0 ≤ lacksF S P.way P.s 0 ∧ payF S (legsF S false P.way P.s) = none) :=
 pay_lacks S P.way P.s S 0 (way_once hg hp.1 hp.way.1) (agree_refl hg hp.1) (Int.le_refl _)
theorem moveS_sum (s : Cn) (l : Lg) : (moveS s l).p0 = s.p0 ∧ (moveS s l).p1 = s.p1 ∧ (moveS s l).h0 + (moveS s l).h1 = s.h0 + s.h1 := by
 unfold moveS
 split <;> exact ⟨rfl, rfl, by dsimp only; omega⟩
/-- Behind a payment the channels are as they were, but for who has what. -/
theorem GInv.pay {S S2 : List Cn} {g : List Ed} {P : Prt} (hg : GInv S g) (hp : POk g P) (back : Bool) (h : payF S (legsF S back P.way P.s) = some S2) : GInv S2 g := by
 obtain ⟨k1, k2, k3⟩ := pay_look S back P.way P.s S S2 (way_once hg hp.1 hp.way.1) (agree_refl hg hp.1) h
 refine ⟨fun e he => ?_, payF_ok _ _ _ hg.2.1 (legs_ok hg hp back) h, ?_⟩
 ·obtain ⟨⟨s, hs, hpp, hr⟩, hi⟩ := hg.1 e he
  refine ⟨?_, hi⟩
  by_cases hc : ∃ b ∈ P.way, b.c = e.c
  ·obtain ⟨b, hb, hbc⟩ := hc
   obtain ⟨i, hib, rfl⟩ := List.mem_iff_getElem.1 hb
   have hx := List.getElem?_eq_getElem (l := P.s) (i := i) (by rw [hp.way.2]; exact hib)
   obtain ⟨h1, _⟩ := k2 i _ _ s (List.getElem?_eq_getElem hib) hx (by rw [hbc]; exact hs)
   obtain ⟨m1, m2, m3⟩ := moveS_sum s (legF S back P.way[i] (P.s[i]'(by rw [hp.way.2]; exact hib)))
   exact ⟨_, by rw [← hbc]; exact h1, by rw [m1, m2]; exact hpp, by rw [m3]; exact hr⟩
  ·exact ⟨s, by rw [k1 e.c (fun b hb hbc => hc ⟨b, hb, hbc⟩)]; exact hs, hpp, hr⟩
 ·rw [once_keys, k3, ← once_keys]
  exact hg.2.2
theorem moveS_back (s : Cn) (S S2 : List Cn) (e : Ed) (x : Int) (hs : sideF S2 e = sideF S e) : moveS (moveS s (legF S false e x)) (legF S2 true e x) = s := by
 obtain ⟨c, p0, p1, h0, h1⟩ := s
 have h01 := sideF_01 S e
 unfold moveS legF
 rw [hs]
 rcases h01 with h | h <;> rw [h] <;> simp <;> omega
/-- What was paid comes back. -/
theorem pay_back {S S2 : List Cn} {g : List Ed} {P : Prt} (hg : GInv S g) (hp : POk g P) (h : payF S (legsF S false P.way P.s) = some S2) : payF S2 (legsF S2 true P.way P.s) = some S := by
 obtain ⟨k1, k2, k3⟩ := pay_look S false P.way P.s S S2 (way_once hg hp.1 hp.way.1) (agree_refl hg hp.1) h
 have hg2 := hg.pay hp false h
 have ho := way_once hg hp.1 hp.way.1
 have hside : ∀ e ∈ P.way, sideF S2 e = sideF S e := by
  intro e he
  obtain ⟨i, hib, rfl⟩ := List.mem_iff_getElem.1 he
  obtain ⟨⟨s, hs, _⟩, _⟩ := hg.1 _ (hp.1 _ he)
  have hx := List.getElem?_eq_getElem (l := P.s) (i := i) (by rw [hp.way.2]; exact hib)
  obtain ⟨h1, _⟩ := k2 i _ _ s (List.getElem?_eq_getElem hib) hx hs
  rw [sideF_eq h1, sideF_eq hs, (moveS_sum _ _).1]
 have hgo : ∀ (es : List Ed) (xs : List Int) (S' : List Cn), (∀ (i : Nat) (e : Ed) (x : Int), es[i]? = some e → xs[i]? = some x → ∃ s, lookS S2 e.c = some s ∧ x ≤ haveS s (legF S2 true e x).s) → es.Pairwise (fun a b => a.c ≠ b.c) → Agree S2 S' es → ∃ S3, payF S' (legsF S2 true es xs) = some S3 := by
  intro es
  induction es with
  | nil => intro xs S' _ _ _; exact ⟨S', by simp [legsF, payF]⟩
  | cons e es ih =>
   intro xs S' hh hd ha
   cases xs with
   | nil => exact ⟨S', by simp [legsF, payF]⟩
   | cons x xs =>
    rw [List.pairwise_cons] at hd
    obtain ⟨s, hs, hx⟩ := hh 0 e x rfl rfl
    have hs' : lookS S' (legF S2 true e x).c = some s := (ha e (List.mem_cons_self ..)).1.trans hs
    have hc : (moveS s (legF S2 true e x)).c = e.c := by rw [move_c]; exact (lookS_mem hs).2
    rw [legsF, pay_cons _ _ _ hs', if_neg (show ¬ haveS s (legF S2 true e x).s < (legF S2 true e x).a by have : (legF S2 true e x).a = x := rfl; omega)]
    exact ih xs _ (fun i e' x' h1 h2 => hh (i + 1) e' x' (by simpa using h1) (by simpa using h2)) hd.2 (agree_tail ha hd.1 _ hc)
 obtain ⟨S3, hS3⟩ := hgo P.way P.s S2 (fun i e x he hx => by
  obtain ⟨⟨s, hs, _⟩, _⟩ := hg.1 _ (hp.1 _ (List.mem_of_getElem? he))
  obtain ⟨h1, h2⟩ := k2 i _ _ s he hx hs
  refine ⟨_, h1, ?_⟩
  have h3 := hg.2.1 s (lookS_mem hs).1
  have h4 := hside e (List.mem_of_getElem? he)
  have h5 := sideF_01 S e
  unfold legF moveS haveS
  rw [h4]
  rcases h5 with h | h <;> rw [h] <;> simp <;> omega) ho (agree_refl hg2 hp.1)
 obtain ⟨j1, j2, j3⟩ := pay_look S2 true P.way P.s S2 S3 ho (agree_refl hg2 hp.1) hS3
 rw [hS3]
 congr 1
 refine ext_S S3 S (j3.trans k3) (by rw [once_keys, j3, ← once_keys]; exact hg2.2.2) (fun k => ?_)
 by_cases hc : ∃ b ∈ P.way, b.c = k
 ·obtain ⟨b, hb, rfl⟩ := hc
  obtain ⟨i, hib, rfl⟩ := List.mem_iff_getElem.1 hb
  obtain ⟨⟨s, hs, _⟩, _⟩ := hg.1 _ (hp.1 _ hb)
  have hx := List.getElem?_eq_getElem (l := P.s) (i := i) (by rw [hp.way.2]; exact hib)
  obtain ⟨h1, _⟩ := k2 i _ _ s (List.getElem?_eq_getElem hib) hx hs
  obtain ⟨h2, _⟩ := j2 i _ _ _ (List.getElem?_eq_getElem hib) hx h1
  rw [h2, hs, moveS_back _ _ _ _ _ (hside _ hb)]
 ·rw [j1 k (fun b hb hbc => hc ⟨b, hb, hbc⟩), k1 k (fun b hb hbc => hc ⟨b, hb, hbc⟩)]
/-! Parts one behind the other. -/
def pay1 (S : List Cn) (P : Prt) : List Cn := (payF S (legsF S false P.way P.s)).getD S
def stF (S : List Cn) : List Prt → List Cn
 | [] => S
 | P :: ps => stF (pay1 S P) ps
def mvL (L : Notes) : List Ed → List Int → Notes
 | e :: es, x :: xs => mvL (moveL L e.e4 x) es xs
 | _, _ => L
def lnF (L : Notes) : List Prt → Notes
 | [] => L
 | P :: ps => lnF (mvL (noteF L P.way P.s (-1)) P.way P.s) ps
def stopF (S : List Cn) : List Prt → Nat → Option (Nat × Int)
 | [], _ => none
 | P :: ps, i => if 0 ≤ lacksF S P.way P.s 0 then some (i, lacksF S P.way P.s 0) else stopF (pay1 S P) ps (i + 1)
def bkL (L : Notes) : List Prt → Notes
 | [] => L
 | P :: ps => bkL (mvL L (P.way.map backE) P.s) ps
theorem stF_snoc : ∀ (S : List Cn) (ps : List Prt) (P : Prt), stF S (ps ++ [P]) = pay1 (stF S ps) P
 | S, [], P => rfl
 | S, Q :: ps, P => stF_snoc (pay1 S Q) ps P
theorem lnF_snoc : ∀ (L : Notes) (ps : List Prt) (P : Prt), lnF L (ps ++ [P]) = mvL (noteF (lnF L ps) P.way P.s (-1)) P.way P.s
 | L, [], P => rfl
 | L, Q :: ps, P => lnF_snoc _ ps P
theorem take_snoc {α : Type} {l : List α} {i : Nat} {x : α} (h : l[i]? = some x) : l.take (i + 1) = l.take i ++ [x] := by rw [List.take_add_one, h]; rfl
theorem pay1_inv {S : List Cn} {g : List Ed} {P : Prt} (hg : GInv S g) (hp : POk g P) : GInv (pay1 S P) g := by
 unfold pay1
 cases h : payF S (legsF S false P.way P.s) with
 | none => exact hg
 | some S2 => exact hg.pay hp false h
theorem stF_inv {g : List Ed} : ∀ (ps : List Prt) (S : List Cn), GInv S g → (∀ P ∈ ps, POk g P) → GInv (stF S ps) g
 | [], S, hg, _ => hg
 | P :: ps, S, hg, hp => stF_inv ps _ (pay1_inv hg (hp P (List.mem_cons_self ..))) (fun Q hQ => hp Q (List.mem_cons_of_mem _ hQ))
structure PlanR where
 paid : Bool
 parts : List Prt
 tries : Nat
 S : List Cn
 L : Notes
def planF (g : List Ed) (fr td a most : Int) : Nat → Nat → List Cn → Notes → PlanR
 | 0, t, S, L => ⟨false, [], t, S, L⟩
 | f + 1, t, S, L => match splitF L g fr td a 100 most with
  | none => ⟨false, [], t, S, L⟩
  | some r => match stopF S r.1 0 with
   | none => ⟨true, r.1, t + 1, stF S r.1, lnF L r.1⟩
   | some k => planF g fr td a most f (t + 1) S (bkL (noteF (lnF L (r.1.take k.1)) ((r.1.getD k.1 ⟨0, [], [], []⟩).way) ((r.1.getD k.1 ⟨0, [], [], []⟩).s) k.2) (r.1.take k.1).reverse)
end Go.Proofs.YthefgdehfgkhhaaGreat
