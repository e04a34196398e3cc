/-
  split.Best: the try with the greatest odds.
-/
import Derived.Test.YthefgdehfgkhhaaGreatK01
import Derived.Test.YthefgdehfgkhhaaGreatK21
import Derived.Test.YthefgdehfgkhhaaGreatK22
import Derived.Test.YthefgdehfgkhhaaGreatK15
namespace Go.Proofs.YthefgdehfgkhhaaGreat
open Go.RowKit Go.Shelf
set_option linter.unusedVariables false
set_option linter.unusedSimpArgs false
attribute [local go_sem] Oper.semAt_some
def RetSp (w : World) (o : Option (List Prt × Rat)) (e : Ending) (w' : World) : Prop :=
 Below w.heap.size w w' ∧ match o with
 | none => ∃ z : Int, z ≠ 0 ∧ e = .returned (.tuple #[.slice none 0 0, .agg #[.slice none 0 0, .slice none 0 0], .int .i64 z])
 | some r => 0 < r.1.length ∧ ∃ A c A' n' c' B m d, e = .returned (.tuple #[.slice A r.1.length c, .agg #[.slice A' n' c', .slice B m d], .int .i64 0]) ∧ RP w' A r.1.length c r.1 ∧ IsQ w' (.agg #[.slice A' n' c', .slice B m d]) r.2 400
/-- The best tries so far. -/
def bestN (L : Notes) (g : List Ed) (fr td a x : Int) (i : Nat) : Option (List Prt × Rat) := (List.range i).foldl (fun b (i : Nat) => moreF b (tryF L g fr td a x (i + 1))) none
theorem bestN_succ (L : Notes) (g : List Ed) (fr td a x : Int) (i : Nat) : bestN L g fr td a x (i + 1) = moreF (bestN L g fr td a x i) (tryF L g fr td a x (i + 1)) := by
 unfold bestN
 rw [List.range_succ, List.foldl_append]
 rfl
def BestS (w : World) (v z : Value) (g : Nat) : Option (List Prt × Rat) → Prop
 | none => v = .slice none 0 0 ∧ z = .int .i64 19 ∧ Blk w g 34 #[.slice none 0 0, .slice none 0 0]
 | some r => 0 < r.1.length ∧ z = .int .i64 0 ∧ (∃ A c, v = .slice A r.1.length c ∧ RP w A r.1.length c r.1) ∧ FracAt w g r.2 400
theorem BestS.on {w w' : World} {v z : Value} {g : Nat} {o : Option (List Prt × Rat)} (h : BestS w v z g o) (hb : Below w.heap.size w w') : BestS w' v z g o := by
 cases o with
 | none => exact ⟨h.1, h.2.1, h.2.2.below hb h.2.2.lt⟩
 | some r =>
  obtain ⟨h1, h2, ⟨A, c, h3, h4⟩, h5⟩ := h
  exact ⟨h1, h2, ⟨A, c, h3, h4.on hb⟩, h5.on hb⟩
theorem BestS.blk {w : World} {v z : Value} {g : Nat} {o : Option (List Prt × Rat)} (h : BestS w v z g o) : ∃ A n c B m d, Blk w g 34 #[.slice A n c, .slice B m d] := by
 cases o with
 | none => exact ⟨_, _, _, _, _, _, h.2.2⟩
 | some r =>
  obtain ⟨h1, h2, _, A, n, c, B, m, d, k, _⟩ := h
  exact ⟨_, _, _, _, _, _, k⟩
theorem RP.some_ {w : World} {A : Option Addr} {n c : Nat} {ps : List Prt} (h : RP w A n c ps) (hn : 0 < n) : ∃ b off, A = some ⟨b, off, none⟩ := by
 obtain ⟨l, r, _⟩ := h
 obtain ⟨b, off, _, _, e, _⟩ := r.at_ hn
 exact ⟨b, off, e⟩
set_option maxRecDepth 100000 in
set_option maxHeartbeats 4000000 in
theorem sbest_any (w : World) (p b m0 : Nat) (L : Notes) (hM : MindAt w p b m0 L) (hgd : Good L) (hm : m0 < 600000) (Ag : Option Addr) (ng cg : Nat) (g : List Ed) (h : RE w Ag ng cg g) (hng : ng ≤ 1048576) (fr td a x : Int) (N : Nat) (hn1 : 1 ≤ N) (hn8 : N ≤ 8) :
 Calls Tryz.prog 11 #[.slice Ag ng cg, .pointer (some ⟨p, 0, none⟩), .int .i64 fr, .int .i64 td, .int .i64 a, .int .i64 x, .int .i64 (N : Int)] w (RetSp w (splitF L g fr td a x (N : Int))) := by
 have HL := Lib.hid h
 have HM := Lib.hid hM
 clear h hM
 have HS0 : Hid (splitF L g fr td a x (N : Int) = if argsB g fr td a x then bestN L g fr td a x N else none) := Lib.hid (by unfold splitF bestN; rw [Int.toNat_natCast])
 have HTO : Hid (∀ n, tryO L g fr td a x n = if argsB g fr td a x then tryF L g fr td a x n else none) := Lib.hid (fun n => rfl)
 obtain ⟨W0, hW0⟩ : ∃ W, W = (w.alloc (.cells #[.slice none 0 0, .slice none 0 0] 34)).alloc (.cells #[.slice none 0 0, .slice none 0 0] 34) := ⟨_, rfl⟩
 have hB0 : Below w.heap.size w W0 := by rw [hW0]; exact ((Below.refl _ _).alloc (Nat.le_refl _) _).alloc (by simp) _
 have k15 : Blk W0 w.heap.size 34 #[.slice none 0 0, .slice none 0 0] := by rw [hW0]; exact (Blk.new w _ _).alloc _
 have k18 : Blk W0 (w.heap.size + 1) 34 #[.slice none 0 0, .slice none 0 0] := by rw [hW0]; have := Blk.new (w.alloc (.cells #[.slice none 0 0, .slice none 0 0] 34)) 34 #[.slice none 0 0, .slice none 0 0]; rw [World.size_alloc] at this; exact this
 have g1 : ¬ (N : Int) < 1 := by omega
 have g2 : ¬ 8 < (N : Int) := by omega
 go_enter Tryz.func11, Tryz.ntmps11
 go_upto_region 6 with (fail)
 rw [← hW0]
 clear hW0
 obtain ⟨b18, h18⟩ : ∃ z, w.heap.size + 1 = z := ⟨_, rfl⟩
 rw [h18] at k18 ⊢
 obtain ⟨b15, h15⟩ : ∃ z, w.heap.size = z := ⟨_, rfl⟩
 rw [h15] at k15 ⊢
 have HPL := Lib.hid (And.intro h15 h18)
 clear h15 h18
 have HB0 := Lib.hid hB0
 have HK15 := Lib.hid k15
 have HK18 := Lib.hid k18
 clear hB0 k15 k18
 go_wp2_with fail
 have HG12 := Lib.hid (And.intro g1 g2)
 clear g1 g2
 go_loopw [17, 19, 32] (fun ov zv iv wr => ∃ (v z : Value) (i : Nat), v = ov ∧ z = zv ∧ i ≤ N ∧ iv = .int .i64 i ∧ Hid (BestS wr v z b18 (bestN L g fr td a x i)) ∧ Hid (Blk wr b15 34 #[.slice none 0 0, .slice none 0 0]) ∧ Hid (Below w.heap.size w wr) ∧ Hid (0 < i → argsB g fr td a x = true)) (fun _ _ iv _ => N - (intOf iv).toNat)
 case atStart => exact ⟨_, _, 0, rfl, rfl, Nat.zero_le _, rfl, Lib.hid ⟨rfl, rfl, HK18.out⟩, HK15, HB0, Lib.hid (fun h => absurd h (Nat.lt_irrefl _))⟩
 case round =>
  obtain ⟨v, z, i, rfl, rfl, hi, rfl, HBS, HK15', HB, HAB⟩ := hrel
  clear HK15 HK18 HB0
  by_cases hlt : i < N
  ·have hlt' : (i : Int) < (N : Int) := by omega
   have hi1 : wrap64 ((i : Int) + 1) = (i : Int) + 1 := wrap64_of_isI ⟨by omega, by omega⟩
   go_upto_region 9 with (fail)
   go_wp2_with fail
   refine (try_any wr p b m0 L (HM.out.on HB.out) hgd hm Ag ng cg g (HL.out.on HB.out) hng fr td a x ((i : Int) + 1) (by omega) (by omega)).mono ?_
   rintro y W1 ⟨hb, ht⟩
   rw [HTO.out] at ht
   have HBS1 := Lib.hid (HBS.out.on hb)
   have k15 := HK15'.out.below hb HK15'.out.lt
   have HB1 := Lib.hid (bltB HB.out HB.out.size hb)
   clear hb HBS HK15' HB
   rcases hok : argsB g fr td a x with _ | _
   ·rw [hok] at ht
    rw [if_neg (by decide)] at ht
    dsimp only at ht
    rw [if_neg (by decide)] at ht
    subst ht
    go_upto_region 10 with (fail)
    obtain ⟨W2, hW2⟩ : ∃ W, W = W1.alloc (.cells #[.slice none 0 0, .slice none 0 0] 34) := ⟨_, rfl⟩
    have hb2 : Below W1.heap.size W1 W2 := by rw [hW2]; exact (Below.refl _ _).alloc (Nat.le_refl _) _
    rw [← hW2]
    clear hW2
    replace k15 := k15.below hb2 k15.lt
    have HB2 := Lib.hid (bltB HB1.out HB1.out.size hb2)
    have HOK := Lib.hid hok
    clear hb2 hok HB1 HBS1
    have z0 := k15.cell 0
    have z1 := k15.cell 1
    have f0 := k15.frozen 0
    have f1 := k15.frozen 1
    simp at z0 z1
    go_wp2_with fail
    have k9 := (k15.set_ 0 (.slice none 0 0)).set_ 1 (.slice none 0 0)
    have h15 : w.heap.size ≤ b15 := by have := HPL.out; omega
    have hBz := (HB2.out.setCell (p := ⟨b15, 0, none⟩) h15 (.slice none 0 0)).setCell (p := ⟨b15, 1, none⟩) h15 (.slice none 0 0)
    refine bodyPost_ret (v := .tuple #[.slice none 0 0, .agg #[.slice none 0 0, .slice none 0 0], .int .i64 1]) ?_ rfl ?_
    ·have e0 := k9.cell 0
     have e1 := k9.cell 1
     simp at e0 e1
     simp [results, Tryz.f11, go_sem, e0, e1]
    ·rw [HS0.out, HOK.out]
     exact ⟨hBz, 1, by decide, rfl⟩
   ·rw [hok, if_pos rfl] at ht
    have HOK := Lib.hid hok
    clear hok
    have HN1 := Lib.hid (bestN_succ L g fr td a x i)
    obtain ⟨ot, hot⟩ : ∃ z, tryF L g fr td a x ((i : Int) + 1) = z := ⟨_, rfl⟩
    rw [hot] at ht HN1
    clear hot
    rcases ot with _ | r
    ·dsimp only at ht
     rw [if_pos rfl] at ht
     subst ht
     go_upto_region 10 with (fail)
     obtain ⟨W2, hW2⟩ : ∃ W, W = W1.alloc (.cells #[.slice none 0 0, .slice none 0 0] 34) := ⟨_, rfl⟩
     have hb2 : Below W1.heap.size W1 W2 := by rw [hW2]; exact (Below.refl _ _).alloc (Nat.le_refl _) _
     rw [← hW2]
     clear hW2
     have HK2 := Lib.hid (k15.below hb2 k15.lt)
     have HB2 := Lib.hid (bltB HB1.out HB1.out.size hb2)
     have HBS2 : Hid (BestS W2 v z b18 (bestN L g fr td a x (i + 1))) := Lib.hid (by rw [HN1.out]; exact HBS1.out.on hb2)
     clear hb2 HB1 HBS1 k15 HN1
     have hi2 : wrap64 ((i : Int) + 1) = (i : Int) + 1 := hi1
     go_wp2_with fail
     go_roundw
     case rel => exact ⟨v, z, i + 1, rfl, rfl, by omega, by (try rw [hi1]); go_num, HBS2, HK2, HB2, Lib.hid (fun _ => HOK.out)⟩
     case measure => (try rw [hi1]); simp [intOf]; omega
    ·obtain ⟨h0, A, c, A1, n1, c1, B1, m1, d1, rfl, rP, I⟩ := ht
     obtain ⟨bA, oA, rfl⟩ := rP.some_ h0
     obtain ⟨NP, hNP⟩ : ∃ z, r.1.length = z := ⟨_, rfl⟩
     rw [hNP] at rP ⊢
     go_upto_region 10 with (fail)
     obtain ⟨W2, hW2⟩ : ∃ W, W = W1.alloc (.cells #[.slice A1 n1 c1, .slice B1 m1 d1] 34) := ⟨_, rfl⟩
     have hb2 : Below W1.heap.size W1 W2 := by rw [hW2]; exact (Below.refl _ _).alloc (Nat.le_refl _) _
     have k22 : Blk W2 W1.heap.size 34 #[.slice A1 n1 c1, .slice B1 m1 d1] := by rw [hW2]; exact Blk.new W1 _ _
     rw [← hW2]
     obtain ⟨b22, h22⟩ : ∃ z, W1.heap.size = z := ⟨_, rfl⟩
     rw [h22] at k22 ⊢
     have HLT : Hid (b18 < b22) := Lib.hid (by obtain ⟨_, _, _, _, _, _, k⟩ := HBS1.out.blk; have := k.lt; omega)
     replace k15 := k15.below hb2 k15.lt
     have HB2 := Lib.hid (bltB HB1.out HB1.out.size hb2)
     have HBS2 := Lib.hid (HBS1.out.on hb2)
     have HP2 := Lib.hid (rP.on hb2)
     have HI2 := Lib.hid (I.on hb2)
     have HNP := Lib.hid (And.intro hNP h0)
     clear hb2 HB1 HBS1 rP I hW2 h22 hNP h0
     obtain ⟨ob, hob⟩ : ∃ z, bestN L g fr td a x i = z := ⟨_, rfl⟩
     rw [hob] at HBS2 HN1
     clear hob
     have eq_ := fun (w : World) (a : Option Addr) (l c : Nat) => Go.run_eql_slice_nil (P := Tryz.prog) w 40 51 a l c Tryz.underlying40
     rcases ob with _ | s
     ·obtain ⟨rfl, rfl, k18⟩ := HBS2.out
      have q0 := k22.cell 0
      have q1 := k22.cell 1
      simp at q0 q1
      have f8 := k18.frozen 0
      have f9 := k18.frozen 1
      have c8 := k18.cell 0
      have c9 := k18.cell 1
      simp at c8 c9
      go_upto_region 13 with (fail)
      go_region
      obtain ⟨W9, hW9⟩ : ∃ W, W = ((W2.setCell ⟨b18, 0, none⟩ (.slice A1 n1 c1)).setCell ⟨b18, 1, none⟩ (.slice B1 m1 d1)).drew := ⟨_, rfl⟩
      obtain ⟨k9, I9, hg9⟩ := frac_set k18 HI2.out
      have hg3 : Gr (· = b18) W2 W9 := by rw [hW9]; exact hg9.drew
      have hF3 : FracAt W9 b18 r.2 400 := by rw [hW9]; exact ⟨_, _, _, _, _, _, k9.drew, I9.drew⟩
      have hP3 : RP W9 (some ⟨bA, oA, none⟩) NP c r.1 := HP2.out.gr hg3 (fun T b' cs' fr' hT hh => blk_ne k18 hh (by rcases hT with rfl | rfl | rfl <;> decide))
      have HBS3 : Hid (BestS W9 (.slice (some ⟨bA, oA, none⟩) NP c) (.int .i64 0) b18 (bestN L g fr td a x (i + 1))) := Lib.hid (by rw [HN1.out]; exact ⟨HNP.out.2, rfl, ⟨_, c, by rw [HNP.out.1], by rw [HNP.out.1]; exact hP3⟩, hF3⟩)
      have HK3 := Lib.hid (k15.gr hg3 (fun e => by have := HPL.out; omega))
      have HB3 := Lib.hid (HB2.out.trans (hg3.below (B := w.heap.size) HB2.out.size (fun k hk e => by have e : k = b18 := e; have := HPL.out; omega)))
      rw [← hW9]
      clear hW9 k9 I9 hg9 hg3 hF3 hP3 f8 f9 c8 c9 k18 k15 k22
      have hi2 : wrap64 ((i : Int) + 1) = (i : Int) + 1 := hi1
      go_wp2_with fail
      go_roundw
      case rel => exact ⟨_, _, i + 1, rfl, rfl, by omega, by (try rw [hi1]); go_num, HBS3, HK3, HB3, Lib.hid (fun _ => HOK.out)⟩
      case measure => (try rw [hi1]); simp [intOf]; omega
     ·obtain ⟨hs0, rfl, ⟨As, cs, rfl, rPs⟩, As2, ns2, cs2, Bs2, ms2, ds2, k18, Is⟩ := HBS2.out
      obtain ⟨bs, os_, rfl⟩ := rPs.some_ hs0
      obtain ⟨NS, hNS⟩ : ∃ z, s.1.length = z := ⟨_, rfl⟩
      rw [hNS] at rPs ⊢
      have HPs := Lib.hid rPs
      have HIs := Lib.hid Is
      have HNS := Lib.hid (And.intro hNS hs0)
      have HBSY := HBS2
      clear rPs Is hNS hs0 HBS2
      have q0 := k22.cell 0
      have q1 := k22.cell 1
      have q2 := k18.cell 0
      have q3 := k18.cell 1
      simp at q0 q1 q2 q3
      go_wp2_with fail
      refine (fcmp_v HI2.out HIs.out (by omega) (by omega)).mono ?_
      rintro y W3 ⟨rfl, hb⟩
      have HP3 := Lib.hid (HP2.out.on hb)
      have HI3 := Lib.hid (HI2.out.on hb)
      replace k15 := k15.below hb k15.lt
      replace k18 := k18.below hb k18.lt
      replace k22 := k22.below hb k22.lt
      have HB3' := Lib.hid (bltB HB2.out HB2.out.size hb)
      have HBY3 := Lib.hid (HBSY.out.on hb)
      replace q0 := k22.cell 0
      replace q1 := k22.cell 1
      replace q2 := k18.cell 0
      replace q3 := k18.cell 1
      simp at q0 q1 q2 q3
      clear hb HB2 HI2 HP2 HIs HPs HBSY
      by_cases hc : 0 < cmpQ r.2 s.2
      ·have HN3 : Hid (bestN L g fr td a x (i + 1) = some r) := Lib.hid (by rw [HN1.out]; show (if 0 < cmpQ r.2 s.2 then some r else some s) = some r; rw [if_pos hc])
       have f8 := k18.frozen 0
       have f9 := k18.frozen 1
       have c8 := k18.cell 0
       have c9 := k18.cell 1
       simp at c8 c9
       go_upto_region 13 with (fail)
       go_region
       obtain ⟨W9, hW9⟩ : ∃ W, W = ((W3.setCell ⟨b18, 0, none⟩ (.slice A1 n1 c1)).setCell ⟨b18, 1, none⟩ (.slice B1 m1 d1)).drew := ⟨_, rfl⟩
       obtain ⟨k9, I9, hg9⟩ := frac_set k18 HI3.out
       have hg3 : Gr (· = b18) W3 W9 := by rw [hW9]; exact hg9.drew
       have hF3 : FracAt W9 b18 r.2 400 := by rw [hW9]; exact ⟨_, _, _, _, _, _, k9.drew, I9.drew⟩
       have hP3 : RP W9 (some ⟨bA, oA, none⟩) NP c r.1 := HP3.out.gr hg3 (fun T b' cs' fr' hT hh => blk_ne k18 hh (by rcases hT with rfl | rfl | rfl <;> decide))
       have HBS3 : Hid (BestS W9 (.slice (some ⟨bA, oA, none⟩) NP c) (.int .i64 0) b18 (bestN L g fr td a x (i + 1))) := Lib.hid (by rw [HN3.out]; exact ⟨HNP.out.2, rfl, ⟨_, c, by rw [HNP.out.1], by rw [HNP.out.1]; exact hP3⟩, hF3⟩)
       have HK3 := Lib.hid (k15.gr hg3 (fun e => by have := HPL.out; omega))
       have HB3 := Lib.hid (HB3'.out.trans (hg3.below (B := w.heap.size) HB3'.out.size (fun k hk e => by have e : k = b18 := e; have := HPL.out; omega)))
       rw [← hW9]
       clear hW9 k9 I9 hg9 hg3 hF3 hP3 f8 f9 c8 c9 k18 k15 k22
       have hi2 : wrap64 ((i : Int) + 1) = (i : Int) + 1 := hi1
       go_wp2_with fail
       go_roundw
       case rel => exact ⟨_, _, i + 1, rfl, rfl, by omega, by (try rw [hi1]); go_num, HBS3, HK3, HB3, Lib.hid (fun _ => HOK.out)⟩
       case measure => (try rw [hi1]); simp [intOf]; omega
      ·have HN3 : Hid (bestN L g fr td a x (i + 1) = some s) := Lib.hid (by rw [HN1.out]; show (if 0 < cmpQ r.2 s.2 then some r else some s) = some s; rw [if_neg hc])
       have HBS3 : Hid (BestS W3 (.slice (some ⟨bs, os_, none⟩) NS cs) (.int .i64 0) b18 (bestN L g fr td a x (i + 1))) := Lib.hid (by rw [HN3.out]; have h := HBY3.out; rw [HNS.out.1] at h; exact h)
       have HK3 := Lib.hid k15
       clear k15 k18 k22 q0 q1 q2 q3
       have hi2 : wrap64 ((i : Int) + 1) = (i : Int) + 1 := hi1
       go_wp2_with fail
       go_roundw
       case rel => exact ⟨_, _, i + 1, rfl, rfl, by omega, by (try rw [hi1]); go_num, HBS3, HK3, HB3', Lib.hid (fun _ => HOK.out)⟩
       case measure => (try rw [hi1]); simp [intOf]; omega
  ·have hin : i = N := by omega
   subst hin
   have k15 := HK15'.out
   have HSS : Hid (splitF L g fr td a x (i : Int) = bestN L g fr td a x i) := Lib.hid (by rw [HS0.out, HAB.out hn1, if_pos rfl])
   obtain ⟨ob, hob⟩ : ∃ z, bestN L g fr td a x i = z := ⟨_, rfl⟩
   rw [hob] at HBS HSS
   clear hob HAB HS0
   have z0 := k15.cell 0
   have z1 := k15.cell 1
   have f0 := k15.frozen 0
   have f1 := k15.frozen 1
   simp at z0 z1
   have h15 : w.heap.size ≤ b15 := by have := HPL.out; omega
   rcases ob with _ | r
   ·obtain ⟨rfl, rfl, k18⟩ := HBS.out
    have q0 := k18.cell 0
    have q1 := k18.cell 1
    simp at q0 q1
    go_wp2_with fail
    go_region
    obtain ⟨W8, hW8⟩ : ∃ W, W = ((wr.setCell ⟨b15, 0, none⟩ (.slice none 0 0)).setCell ⟨b15, 1, none⟩ (.slice none 0 0)).drew := ⟨_, rfl⟩
    have k9 : Blk W8 b15 34 #[.slice none 0 0, .slice none 0 0] := by rw [hW8]; exact ((k15.set_ 0 (.slice none 0 0)).set_ 1 (.slice none 0 0)).drew
    have hB8 : Below w.heap.size w W8 := by rw [hW8]; exact ((HB.out.setCell (p := ⟨b15, 0, none⟩) h15 (.slice none 0 0)).setCell (p := ⟨b15, 1, none⟩) h15 (.slice none 0 0)).drew
    have hg : Gr (· = b15) wr W8 := by rw [hW8]; exact (((Gr.refl (· = b15) wr).setCell (g := b15) (i := 0) (fun _ => show b15 = b15 from rfl) _).setCell (g := b15) (i := 1) (fun _ => show b15 = b15 from rfl) _).drew
    rw [← hW8]
    clear hW8
    have HR : Hid (RetSp w (splitF L g fr td a x (i : Int)) (.returned (.tuple #[.slice none 0 0, .agg #[.slice none 0 0, .slice none 0 0], .int .i64 19])) W8) := Lib.hid (by
     rw [HSS.out]
     exact ⟨hB8, 19, by decide, rfl⟩)
    clear hg hB8
    go_wp2_with fail
    refine bodyPost_ret (v := .tuple #[.slice none 0 0, .agg #[.slice none 0 0, .slice none 0 0], .int .i64 19]) ?_ rfl HR.out
    have e0 := k9.cell 0
    have e1 := k9.cell 1
    simp at e0 e1
    simp [results, Tryz.f11, go_sem, e0, e1]
   ·obtain ⟨h0, rfl, ⟨A, c, rfl, rP⟩, A2, n2, c2, B2, m2, d2, k18, I⟩ := HBS.out
    obtain ⟨NP, hNP⟩ : ∃ z, r.1.length = z := ⟨_, rfl⟩
    rw [hNP] at rP ⊢
    have HNP := Lib.hid (And.intro hNP h0)
    have HP := Lib.hid rP
    have HI := Lib.hid I
    clear rP I hNP h0
    have q0 := k18.cell 0
    have q1 := k18.cell 1
    simp at q0 q1
    go_wp2_with fail
    go_region
    obtain ⟨W8, hW8⟩ : ∃ W, W = ((wr.setCell ⟨b15, 0, none⟩ (.slice A2 n2 c2)).setCell ⟨b15, 1, none⟩ (.slice B2 m2 d2)).drew := ⟨_, rfl⟩
    have k9 : Blk W8 b15 34 #[.slice A2 n2 c2, .slice B2 m2 d2] := by rw [hW8]; exact ((k15.set_ 0 (.slice A2 n2 c2)).set_ 1 (.slice B2 m2 d2)).drew
    have hB8 : Below w.heap.size w W8 := by rw [hW8]; exact ((HB.out.setCell (p := ⟨b15, 0, none⟩) h15 (.slice A2 n2 c2)).setCell (p := ⟨b15, 1, none⟩) h15 (.slice B2 m2 d2)).drew
    have hg : Gr (· = b15) wr W8 := by rw [hW8]; exact (((Gr.refl (· = b15) wr).setCell (g := b15) (i := 0) (fun _ => show b15 = b15 from rfl) _).setCell (g := b15) (i := 1) (fun _ => show b15 = b15 from rfl) _).drew
    rw [← hW8]
    clear hW8
    have HR : Hid (RetSp w (splitF L g fr td a x (i : Int)) (.returned (.tuple #[.slice A NP c, .agg #[.slice A2 n2 c2, .slice B2 m2 d2], .int .i64 0])) W8) := Lib.hid (by
     rw [HSS.out]
     refine ⟨hB8, HNP.out.2, A, c, _, _, _, _, _, _, by rw [HNP.out.1], ?_, HI.out.gr1 hg (frac_nocell k15)⟩
     rw [HNP.out.1]
     exact HP.out.gr hg (fun T b' cs' fr' hT hh => blk_ne k15 hh (by rcases hT with rfl | rfl | rfl <;> decide)))
    clear hg hB8
    go_wp2_with fail
    refine bodyPost_ret (v := .tuple #[.slice A NP c, .agg #[.slice A2 n2 c2, .slice B2 m2 d2], .int .i64 0]) ?_ rfl HR.out
    have e0 := k9.cell 0
    have e1 := k9.cell 1
    simp at e0 e1
    simp [results, Tryz.f11, go_sem, e0, e1]
end Go.Proofs.YthefgdehfgkhhaaGreat
namespace Go.Proofs.YthefgdehfgkhhaaGreat
open Go.RowKit Go.Maps
set_option linter.unusedVariables false
set_option linter.unusedSimpArgs false
/-! Which part stops. -/
theorem stop_spec : ∀ (ps : List Prt) (S : List Cn) (i : Nat) (k : Nat × Int), stopF S ps i = some k → ∃ q, k.1 = i + q ∧ (∃ P, ps[q]? = some P ∧ 0 ≤ k.2 ∧ k.2 = lacksF (stF S (ps.take q)) P.way P.s 0) ∧ ∀ j P, j < q → ps[j]? = some P → lacksF (stF S (ps.take j)) P.way P.s 0 < 0
 | [], S, i, k, h => by simp [stopF] at h
 | P :: ps, S, i, k, h => by
  unfold stopF at h
  split at h
  ·rename_i hl
   injection h with h
   subst h
   exact ⟨0, rfl, ⟨P, rfl, hl, rfl⟩, fun j _ hj => by omega⟩
  ·rename_i hl
   obtain ⟨q, h1, ⟨Q, h2, h3, h4⟩, h5⟩ := stop_spec ps (pay1 S P) (i + 1) k h
   refine ⟨q + 1, by omega, ⟨Q, by simpa using h2, h3, by simpa [stF] using h4⟩, fun j R hj hR => ?_⟩
   cases j with
   | zero =>
    simp at hR
    subst hR
    simpa [stF] using hl
   | succ j =>
    have := h5 j R (by omega) (by simpa using hR)
    simpa [stF] using this
theorem stop_cons (S : List Cn) (P : Prt) (ps : List Prt) (i : Nat) : stopF S (P :: ps) i = if 0 ≤ lacksF S P.way P.s 0 then some (i, lacksF S P.way P.s 0) else stopF (pay1 S P) ps (i + 1) := by rw [stopF]
theorem bk_cons (L : Notes) (P : Prt) (ps : List Prt) : bkL L (P :: ps) = bkL (mvL L (P.way.map backE) P.s) ps := by rw [bkL]
theorem lacks_range (S : List Cn) : ∀ (es : List Ed) (xs : List Int) (i : Int), lacksF S es xs i = -1 ∨ (i ≤ lacksF S es xs i ∧ lacksF S es xs i < i + es.length)
 | [], xs, i => by cases xs <;> exact .inl rfl
 | e :: es, [], i => .inl rfl
 | e :: es, x :: xs, i => by
  rw [lacks_cons]
  split
  ·exact .inr ⟨Int.le_refl _, by simp; omega⟩
  ·rcases lacks_range S es xs (i + 1) with h | h
   ·exact .inl h
   ·exact .inr ⟨by omega, by simp; omega⟩
theorem note_some {g : List Ed} {P : Prt} (hp : POk g P) (L : Notes) {k : Int} (h1 : -1 ≤ k) (h2 : k < P.way.length) : noteO L P.way P.a 100 k = some (noteF L P.way P.s k) := by
 unfold noteO
 rw [hp.2, Option.bind_some, if_neg (by omega)]
theorem mv_cons (L : Notes) (e : Ed) (es : List Ed) (x : Int) (xs : List Int) : mvL L (e :: es) (x :: xs) = mvL (moveL L e.e4 x) es xs := by rw [mvL]
/-! Which parts a plan has. -/
theorem send_ok {g : List Ed} {fr td : Int} {L : Notes} {a : Int} {P : Prt} {y : Fnd} (h : sendF g fr td 100 L a = some (P, y)) : POk g P ∧ P.a = a ∧ bestF L g fr td a 100 = some y ∧ P.way = y.way := by
 unfold sendF at h
 rw [Option.bind_eq_some_iff] at h
 obtain ⟨y', hy, h⟩ := h
 rw [Option.map_eq_some_iff] at h
 obtain ⟨r, hr, h⟩ := h
 injection h with h1 h2
 subst h1 h2
 exact ⟨⟨(best_ok hy).2.mem, hr⟩, rfl, hy, rfl⟩
theorem sends_ok {g : List Ed} {fr td : Int} : ∀ (as_ : List Int) (L : Notes) (q : Rat) (r : List Prt × Rat), sendsF g fr td 100 L q as_ = some r → (∀ P ∈ r.1, POk g P) ∧ r.1.length = as_.length
 | [], L, q, r, h => by
  simp [sendsF] at h
  subst h
  exact ⟨fun P hP => by simp at hP, rfl⟩
 | a :: as_, L, q, r, h => by
  rw [sends_cons] at h
  split at h
  ·simp at h
  ·rename_i P y hs
   rw [Option.map_eq_some_iff] at h
   obtain ⟨r', hr', rfl⟩ := h
   obtain ⟨h1, h2⟩ := sends_ok as_ _ _ r' hr'
   refine ⟨fun Q hQ => ?_, by simp [h2]⟩
   rcases List.mem_cons.1 hQ with rfl | hQ
   ·exact (send_ok hs).1
   ·exact h1 Q hQ
theorem best_fold {α : Type} {f : Nat → Option α} {m : Option α → Option α → Option α} (hm : ∀ b o r, m b o = some r → b = some r ∨ o = some r) : ∀ (l : List Nat) (b : Option α) (r : α), l.foldl (fun b i => m b (f i)) b = some r → b = some r ∨ ∃ i ∈ l, f i = some r
 | [], b, r, h => .inl h
 | i :: l, b, r, h => by
  rw [List.foldl_cons] at h
  rcases best_fold hm l _ r h with h | ⟨j, hj, h⟩
  ·rcases hm _ _ _ h with h | h
   ·exact .inl h
   ·exact .inr ⟨i, List.mem_cons_self .., h⟩
  ·exact .inr ⟨j, List.mem_cons_of_mem _ hj, h⟩
theorem more_or (b o : Option (List Prt × Rat)) (r : List Prt × Rat) (h : moreF b o = some r) : b = some r ∨ o = some r := by
 unfold moreF at h
 cases o with
 | none => exact .inl h
 | some y =>
  cases b with
  | none => exact .inr h
  | some z =>
   simp only at h
   split at h
   ·exact .inr h
   ·exact .inl h
theorem split_try {L : Notes} {g : List Ed} {fr td a : Int} {N : Nat} {r : List Prt × Rat} (h : splitF L g fr td a 100 (N : Int) = some r) : argsB g fr td a 100 = true ∧ ∃ i, i < N ∧ tryF L g fr td a 100 ((i : Int) + 1) = some r := by
 unfold splitF at h
 split at h
 ·rename_i ha
  refine ⟨ha, ?_⟩
  rw [Int.toNat_natCast] at h
  rcases best_fold (f := fun i : Nat => tryF L g fr td a 100 ((i : Int) + 1)) (m := moreF) more_or _ _ _ h with h | ⟨i, hi, h⟩
  ·simp at h
  ·exact ⟨i, List.mem_range.1 hi, h⟩
 ·simp at h
theorem split_ok {L : Notes} {g : List Ed} {fr td a : Int} {N : Nat} {r : List Prt × Rat} (h : splitF L g fr td a 100 (N : Int) = some r) : (∀ P ∈ r.1, POk g P) ∧ r.1.length ≤ 8 := by
 obtain ⟨_, i, _, ht⟩ := split_try h
 unfold tryF at ht
 split at ht
 ·simp at ht
 ·rename_i sh hsh
  obtain ⟨h1, h2⟩ := sends_ok _ _ _ _ ht
  have := shares_len hsh
  exact ⟨h1, by omega⟩
/-! Memory. -/
structure PayAt (w0 w : World) (p go co bh : Nat) (own : List Int) (lost : Int) (pm bm : Nat) (S : List Cn) (L : Notes) (K : Nat) : Prop where
 led : ∃ bs ns, ns ≤ K ∧ LedAt w p go co bs bh ns own S lost ∧ bs ≠ bm
 mind : ∃ m, m ≤ K ∧ MindAt w pm bm m L
 good : Good L
 nbh : bh ≠ bm
 gr : Gr (fun k => k = p ∨ k = bm) w0 w
theorem map_cells {w : World} {b g : Nat} {es : Array MapEntry} {cl : Nat} {cs : Array Value} {T : TypeId} {fr : Nat × Nat} (hm : w.heap[b]? = some (.map es cl)) (hc : w.heap[g]? = some (.cells cs T fr)) : g ≠ b := by
 intro e
 rw [e, hm] at hc
 cases hc
section
variable {w0 w w' : World} {p go co bh : Nat} {own : List Int} {lost : Int} {pm bm : Nat} {S : List Cn} {L : Notes} {K : Nat}
theorem PayAt.on (h : PayAt w0 w p go co bh own lost pm bm S L K) (hb : Below w.heap.size w w') : PayAt w0 w' p go co bh own lost pm bm S L K := by
 obtain ⟨bs, ns, h1, h2, h3⟩ := h.led
 obtain ⟨m, h4, h5⟩ := h.mind
 exact ⟨⟨bs, ns, h1, h2.on hb, h3⟩, ⟨m, h4, h5.on hb⟩, h.good, h.nbh, h.gr.trans (Gr.of_below hb)⟩
theorem PayAt.base (h : PayAt w0 w p go co bh own lost pm bm S L K) : PayAt w w p go co bh own lost pm bm S L K := ⟨h.led, h.mind, h.good, h.nbh, Gr.refl _ _⟩
theorem PayAt.rebase {w1 : World} (h : PayAt w1 w p go co bh own lost pm bm S L K) (hg : Gr (fun k => k = p ∨ k = bm) w0 w1) : PayAt w0 w p go co bh own lost pm bm S L K := ⟨h.led, h.mind, h.good, h.nbh, hg.trans h.gr⟩
theorem PayAt.more {K' : Nat} (h : PayAt w0 w p go co bh own lost pm bm S L K) (hK : K ≤ K') : PayAt w0 w p go co bh own lost pm bm S L K' := by
 obtain ⟨bs, ns, h1, h2, h3⟩ := h.led
 obtain ⟨m, h4, h5⟩ := h.mind
 exact ⟨⟨bs, ns, by omega, h2, h3⟩, ⟨m, by omega, h5⟩, h.good, h.nbh, h.gr⟩
theorem PayAt.note (h : PayAt w0 w p go co bh own lost pm bm S L K) {L' : Notes} {m K' : Nat} (hM : MindAt w' pm bm m L') (hgd : Good L') (hg : Gr (· = bm) w w') (hm : m ≤ K') (hK : K ≤ K') : PayAt w0 w' p go co bh own lost pm bm S L' K' := by
 obtain ⟨bs, ns, h1, h2, h3⟩ := h.led
 obtain ⟨m', h4, h5⟩ := h.mind
 obtain ⟨es, cl, hmap⟩ := h5.isMap
 refine ⟨⟨bs, ns, by omega, ⟨h2.box.gr hg (fun e => map_cells hmap h2.box e), ?_, h2.len, h2.cap, h2.map.stay (hg.block _ h2.map.lt h3), ?_, h2.ne⟩, h3⟩, ⟨m, hm, hM⟩, hgd, h.nbh, h.gr.trans (hg.mono fun k _ e => .inr e)⟩
 ·obtain ⟨cur, hh, _⟩ := h2.row
  exact h2.row.stay (hg.block _ h2.row.lt (fun e => map_cells hmap hh e))
 ·obtain ⟨es', cl', hm', r⟩ := h2.hold
  exact ⟨es', cl', (hg.block _ (blk_lt hm') (fun e => h.nbh e)).trans hm', r⟩
theorem PayAt.paid (h : PayAt w0 w p go co bh own lost pm bm S L K) {S' : List Cn} {bs' ns' K' : Nat} (hL : LedAt w' p go co bs' bh ns' own S' lost) (hbs : w.heap.size ≤ bs') (hg : Gr (· = p) w w') (hn : ns' ≤ K') (hK : K ≤ K') : PayAt w0 w' p go co bh own lost pm bm S' L K' := by
 obtain ⟨bs, ns, h1, h2, h3⟩ := h.led
 obtain ⟨m', h4, h5⟩ := h.mind
 obtain ⟨es, cl, hmap⟩ := h5.isMap
 refine ⟨⟨bs', ns', hn, hL, by have := h5.lt; omega⟩, ⟨m', by omega, h5.gr hg (fun e => blk_ne h2.box h5.box (by decide) e) (fun e => map_cells hmap h2.box e.symm)⟩, h.good, h.nbh, h.gr.trans (hg.mono fun k _ e => .inl e)⟩
/-- What a plan turns is neither cells of another type than a ledger's. -/
theorem PayAt.far {S0 : List Cn} {L0 : Notes} {K0 : Nat} (h0 : PayAt w0 w0 p go co bh own lost pm bm S0 L0 K0) {b : Nat} {cs : Array Value} {T : TypeId} {fr : Nat × Nat} (hT : T ≠ 103) (hh : w0.heap[b]? = some (.cells cs T fr)) : ¬ (b = p ∨ b = bm) := by
 obtain ⟨bs, ns, h1, h2, h3⟩ := h0.led
 obtain ⟨m, h4, h5⟩ := h0.mind
 obtain ⟨es, cl, hmap⟩ := h5.isMap
 rintro (e | e)
 ·exact blk_ne h2.box hh hT e
 ·exact map_cells hmap hh e
theorem PayAt.rg {S0 : List Cn} {L0 : Notes} {K0 : Nat} (h0 : PayAt w0 w0 p go co bh own lost pm bm S0 L0 K0) (h : PayAt w0 w p go co bh own lost pm bm S L K) {T : TypeId} {k : Nat} {A : Option Addr} {n c : Nat} {l : List (Array Value)} (hT : T ≠ 103) (r : Rg T k w0 A n c l) : Rg T k w A n c l :=
 Rg.gr r h.gr fun b cs fr hh => h0.far hT hh
theorem PayAt.rp {S0 : List Cn} {L0 : Notes} {K0 : Nat} (h0 : PayAt w0 w0 p go co bh own lost pm bm S0 L0 K0) (h : PayAt w0 w p go co bh own lost pm bm S L K) {A : Option Addr} {n c : Nat} {ps : List Prt} (r : RP w0 A n c ps) : RP w A n c ps :=
 r.gr h.gr fun T b cs fr hT hh => h0.far (by rcases hT with rfl | rfl | rfl <;> decide) hh
theorem PayAt.blk {S0 : List Cn} {L0 : Notes} {K0 : Nat} (h0 : PayAt w0 w0 p go co bh own lost pm bm S0 L0 K0) (h : PayAt w0 w p go co bh own lost pm bm S L K) {T : TypeId} {g : Nat} {cs : Array Value} (hT : T ≠ 103) (k : Blk w0 g T cs) : Blk w g T cs :=
 k.gr h.gr (h0.far hT k)
theorem PayAt.pv {S0 : List Cn} {L0 : Notes} {K0 : Nat} (h0 : PayAt w0 w0 p go co bh own lost pm bm S0 L0 K0) (h : PayAt w0 w p go co bh own lost pm bm S L K) {a : Array Value} {P : Prt} (r : PV w0 a P) : PV w a P :=
 r.gr h.gr fun T b cs fr hT hh => h0.far (by rcases hT with rfl | rfl <;> decide) hh
end
/-- A box that is new since w0 is written. -/
theorem PayAt.box {w0 w w' : World} {p go co bh : Nat} {own : List Int} {lost : Int} {pm bm : Nat} {S : List Cn} {L : Notes} {K : Nat} (h : PayAt w0 w p go co bh own lost pm bm S L K) {g : Nat} (hg : Gr (· = g) w w') {T : TypeId} {cs : Array Value} (k : Blk w g T cs) (hT : T ≠ 103 ∧ T ≠ 3 ∧ T ≠ 83) (hlt : w0.heap.size ≤ g) : PayAt w0 w' p go co bh own lost pm bm S L K := by
 obtain ⟨bs, ns, h1, h2, h3⟩ := h.led
 obtain ⟨m, h4, h5⟩ := h.mind
 obtain ⟨es, cl, hmap⟩ := h5.isMap
 refine ⟨⟨bs, ns, h1, ⟨h2.box.gr hg (fun e => blk_ne k h2.box hT.1.symm e), ?_, h2.len, h2.cap, ?_, ?_, h2.ne⟩, h3⟩, ⟨m, h4, h5.gr hg (fun e => blk_ne k h5.box hT.2.2.symm e) (fun e => map_cells hmap k e.symm)⟩, h.good, h.nbh, h.gr.trans_new hg hlt⟩
 ·obtain ⟨cur, hh, _⟩ := h2.row
  exact h2.row.stay (hg.block _ h2.row.lt (fun e => blk_ne k hh hT.2.1.symm e))
 ·obtain ⟨es', cl', hm'⟩ := h2.map.isMap
  exact h2.map.stay (hg.block _ h2.map.lt (fun e => map_cells hm' k e.symm))
 ·obtain ⟨es', cl', hm', r⟩ := h2.hold
  exact ⟨es', cl', (hg.block _ (blk_lt hm') (fun e => map_cells hm' k e.symm)).trans hm', r⟩
/-- A part's cells in a row of parts. -/
theorem RP.at_ {w : World} {A : Option Addr} {n c : Nat} {ps : List Prt} (h : RP w A n c ps) {i : Nat} (hi : i < n) :
 ∃ b off P Aw nw cw As ns cs At nt ct, A = some ⟨b, off, none⟩ ∧ b < w.heap.size ∧ ps[i]? = some P ∧ PV w #[.int .i64 P.a, .slice Aw nw cw, .slice As ns cs, .slice At nt ct] P ∧
  w.cell? ⟨b, off + i * 4, none⟩ = some (.int .i64 P.a) ∧ w.cell? ⟨b, off + i * 4 + 1, none⟩ = some (.slice Aw nw cw) ∧ w.cell? ⟨b, off + i * 4 + 2, none⟩ = some (.slice As ns cs) ∧ w.cell? ⟨b, off + i * 4 + 3, none⟩ = some (.slice At nt ct) := by
 have hpl := h.len
 obtain ⟨l, r, hl, hp⟩ := h
 obtain ⟨b, off, a, e, hb, ha, hc⟩ := r.cells hi
 have hpi : ps[i]? = some ps[i] := List.getElem?_eq_getElem (by omega)
 have hv := hp i a _ ha hpi
 have hv2 := hv
 obtain ⟨Aw, nw, cw, As, ns, cs, At, nt, ct, rfl, _⟩ := hv
 exact ⟨b, off, ps[i], Aw, nw, cw, As, ns, cs, At, nt, ct, e, hb, hpi, hv2, hc 0 _ rfl, hc 1 _ rfl, hc 2 _ rfl, hc 3 _ rfl⟩
def stV (o : Option (Nat × Int)) : Int := match o with
 | none => -1
 | some k => k.1
/-- Where the parts stand: none has stopped yet, or one has. -/
def StepAt (w0 w : World) (p go co bh : Nat) (own : List Int) (lost : Int) (pm bm : Nat) (S : List Cn) (L : Notes) (K : Nat) (ps : List Prt) (i : Nat) : Option (Nat × Int) → Prop
 | none => stopF (stF S (ps.take i)) (ps.drop i) i = stopF S ps 0 ∧ PayAt w0 w p go co bh own lost pm bm (stF S (ps.take i)) (lnF L (ps.take i)) (K + 40 * i)
 | some k => i = k.1 + 1 ∧ stopF S ps 0 = some k ∧ PayAt w0 w p go co bh own lost pm bm (stF S (ps.take k.1)) (noteF (lnF L (ps.take k.1)) ((ps.getD k.1 ⟨0, [], [], []⟩).way) ((ps.getD k.1 ⟨0, [], [], []⟩).s) k.2) (K + 40 * i)
end Go.Proofs.YthefgdehfgkhhaaGreat
