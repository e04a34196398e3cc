/-
  planPay: a payer plans, and tries its parts; where one is stopped, all come back, and it plans anew.
-/
import Derived.Test.YthefgdehfgkhhaaGreatK01
import Derived.Test.YthefgdehfgkhhaaGreatK23
import Derived.Test.YthefgdehfgkhhaaGreatK15
namespace Go.Proofs.YthefgdehfgkhhaaGreat
open Go.RowKit Go.Maps
set_option linter.unusedVariables false
set_option linter.unusedSimpArgs false
attribute [local go_sem] Oper.semAt_some
def RetPl (w : World) (p go co bh : Nat) (own : List Int) (lost : Int) (pm bm : Nat) (K : Nat) (R : PlanR) (e : Ending) (w' : World) : Prop :=
 ∃ A c, e = .returned (.agg #[.bool R.paid, .slice A R.parts.length c, .int .i64 (R.tries : Int), .bool true]) ∧ RP w' A R.parts.length c R.parts ∧ PayAt w w' p go co bh own lost pm bm R.S R.L K
/-- What is read of a tried payment, how often it was planned. -/
def triesAt (w : World) (g : Nat) : Nat := match w.cell? ⟨g, 2, none⟩ with
 | some (.int _ z) => z.toNat
 | _ => 0
theorem tries_eq {w : World} {g t : Nat} {a b d : Value} {T : TypeId} (h : Blk w g T #[a, b, .int .i64 (t : Int), d]) : triesAt w g = t := by
 unfold triesAt
 rw [h.cell 2]
 rfl
theorem planF_none {g : List Ed} {fr td a most : Int} {f t : Nat} {S : List Cn} {L : Notes} (h : splitF L g fr td a 100 most = none) : planF g fr td a most (f + 1) t S L = ⟨false, [], t, S, L⟩ := by rw [planF, h]
theorem planF_paid {g : List Ed} {fr td a most : Int} {f t : Nat} {S : List Cn} {L : Notes} {r : List Prt × Rat} (h : splitF L g fr td a 100 most = some r) (hs : stopF S r.1 0 = none) : planF g fr td a most (f + 1) t S L = ⟨true, r.1, t + 1, stF S r.1, lnF L r.1⟩ := by rw [planF, h]; simp only [hs]
theorem planF_more {g : List Ed} {fr td a most : Int} {f t : Nat} {S : List Cn} {L : Notes} {r : List Prt × Rat} {k : Nat × Int} (h : splitF L g fr td a 100 most = some r) (hs : stopF S r.1 0 = some k) : planF g fr td a most (f + 1) t S L = planF g fr td a most f (t + 1) S (bkL (noteF (lnF L (r.1.take k.1)) ((r.1.getD k.1 ⟨0, [], [], []⟩).way) ((r.1.getD k.1 ⟨0, [], [], []⟩).s) k.2) (r.1.take k.1).reverse) := by rw [planF, h]; simp only [hs]
def triedZ : Array Value := #[.bool false, .slice none 0 0, .int .i64 0, .bool false]
set_option maxRecDepth 100000 in
set_option maxHeartbeats 8000000 in
theorem planpay_any (w : World) (p go co bh : Nat) (own : List Int) (lost : Int) (pm bm : Nat) (S0 : List Cn) (L0 : Notes) (K0 : Nat) (h : PayAt w w p go co bh own lost pm bm S0 L0 K0) (hK : K0 ≤ 400000) (Ag : Option Addr) (ng cg : Nat) (g : List Ed) (hg : RE w Ag ng cg g) (hng : ng ≤ 1048576) (hi : GInv S0 g) (fr td a : Int) (N : Nat) (hN1 : 1 ≤ N) (hN8 : N ≤ 8) :
 Calls Tryz.prog 12 #[.pointer (some ⟨p, 0, none⟩), .slice Ag ng cg, .pointer (some ⟨pm, 0, none⟩), .int .i64 fr, .int .i64 td, .int .i64 a, .int .i64 (N : Int)] w (RetPl w p go co bh own lost pm bm (K0 + 7200) (planF g fr td a (N : Int) 12 0 S0 L0)) := by
 have HA := Lib.hid h
 have HG := Lib.hid hg
 have HI := Lib.hid hi
 obtain ⟨W0, hW0⟩ : ∃ W, W = (w.alloc (.cells #[.bool false, .slice none 0 0, .int .i64 0, .bool false] 45)).alloc (.cells #[.bool false, .slice none 0 0, .int .i64 0, .bool true] 45) := ⟨_, rfl⟩
 have hB0 : Below w.heap.size w W0 := by rw [hW0]; exact ((Below.refl _ _).alloc (Nat.le_refl _) _).alloc (by simp) _
 have k14 : Blk W0 w.heap.size 45 #[.bool false, .slice none 0 0, .int .i64 0, .bool false] := by rw [hW0]; exact (Blk.new w _ _).alloc _
 have k15 : Blk W0 (w.heap.size + 1) 45 #[.bool false, .slice none 0 0, .int .i64 0, .bool true] := by
  rw [hW0]
  have := Blk.new (w.alloc (.cells #[.bool false, .slice none 0 0, .int .i64 0, .bool false] 45)) 45 #[.bool false, .slice none 0 0, .int .i64 0, .bool true]
  rw [World.size_alloc] at this
  exact this
 clear h hg hi
 go_enter Tryz.func12, Tryz.ntmps12
 go_wp2_with fail
 rw [← hW0]
 clear hW0
 obtain ⟨b15, h15⟩ : ∃ z, w.heap.size + 1 = z := ⟨_, rfl⟩
 rw [h15] at k15 ⊢
 obtain ⟨b14, h14⟩ : ∃ z, w.heap.size = z := ⟨_, rfl⟩
 rw [h14] at k14 ⊢
 have HBN := Lib.hid (And.intro h14 h15)
 have HK14 := Lib.hid k14
 have HK15 := Lib.hid k15
 have HA0 := Lib.hid (HA.out.on hB0)
 clear h14 h15 k14 k15 hB0
 go_loopw [18] (fun xv wr => ∃ (t : Nat) (L : Notes), t ≤ 12 ∧ Hid (planF g fr td a (N : Int) (12 - t) t S0 L = planF g fr td a (N : Int) 12 0 S0 L0) ∧ Hid (PayAt w wr p go co bh own lost pm bm S0 L (K0 + 600 * t)) ∧ Hid (Blk wr b15 45 #[.bool false, .slice none 0 0, .int .i64 (t : Int), .bool true]) ∧ Hid (Blk wr b14 45 #[.bool false, .slice none 0 0, .int .i64 0, .bool false])) (fun _ wr => 12 - triesAt wr b15)
 case atStart => exact ⟨0, L0, by omega, Lib.hid rfl, HA0, HK15, HK14⟩
 case round =>
  obtain ⟨t, L, ht, HQ, HP, HK15, HK14⟩ := hrel
  clear HA0
  have k15 := HK15.out
  have d2 := k15.cell 2
  simp at d2
  by_cases hlt : t < 12
  ·have ht' : (t : Int) < 12 := by omega
   obtain ⟨f0, hf0⟩ : ∃ f, 12 - t = f + 1 := ⟨11 - t, by omega⟩
   have HQ : Hid (planF g fr td a (N : Int) (f0 + 1) t S0 L = planF g fr td a (N : Int) 12 0 S0 L0) := Lib.hid (by rw [← hf0]; exact HQ.out)
   have HF0 := Lib.hid hf0
   clear hf0
   obtain ⟨m, hm, hM⟩ := HP.out.mind
   have hgr := HA.out.rg HP.out (by decide) HG.out
   go_upto_region 3 with (fail)
   go_wp2_with fail
   refine (sbest_any wr pm bm m L hM HP.out.good (by omega) Ag ng cg g hgr hng fr td a 100 N hN1 hN8).mono ?_
   rintro y W1 ⟨hb, hs⟩
   have HP1 := Lib.hid (HP.out.on hb)
   replace k15 := k15.below hb k15.lt
   have k14 := HK14.out.below hb HK14.out.lt
   clear hb hM hgr d2
   obtain ⟨os, hos⟩ : ∃ z, splitF L g fr td a 100 (N : Int) = z := ⟨_, rfl⟩
   rw [hos] at hs
   have HOS := Lib.hid hos
   clear hos
   rcases os with _ | r
   ·obtain ⟨z, hz, rfl⟩ := hs
    have hz1 : (z != 0) = true := by simpa using hz
    go_upto_region 4 with (fail)
    obtain ⟨W2, hW2⟩ : ∃ W, W = W1.alloc (.cells #[.slice none 0 0, .slice none 0 0] 34) := ⟨_, rfl⟩
    have hb2 : Below W1.heap.size W1 W2 := by rw [hW2]; exact (Below.refl _ _).alloc (Nat.le_refl _) _
    rw [← hW2]
    clear hW2
    have HP2 := Lib.hid (HP1.out.on hb2)
    replace k15 := k15.below hb2 k15.lt
    replace k14 := k14.below hb2 k14.lt
    clear hb2 HP1
    have HR : Hid (planF g fr td a (N : Int) 12 0 S0 L0 = ⟨false, [], t, S0, L⟩) := Lib.hid (by rw [← HQ.out, planF_none HOS.out])
    have y0 := k15.cell 0
    have y1 := k15.cell 1
    have y2 := k15.cell 2
    have y3 := k15.cell 3
    have x0 := k14.cell 0
    have x1 := k14.cell 1
    have x2 := k14.cell 2
    have x3 := k14.cell 3
    have f0 := k14.frozen 0
    have f1 := k14.frozen 1
    have f2 := k14.frozen 2
    have f3 := k14.frozen 3
    simp at y0 y1 y2 y3 x0 x1 x2 x3
    have k9 := (((k14.set_ 0 (.bool false)).set_ 1 (.slice none 0 0)).set_ 2 (.int .i64 (t : Int))).set_ 3 (.bool true)
    obtain ⟨W9, hW9⟩ : ∃ W, W = (((W2.setCell ⟨b14, 0, none⟩ (.bool false)).setCell ⟨b14, 1, none⟩ (.slice none 0 0)).setCell ⟨b14, 2, none⟩ (.int .i64 (t : Int))).setCell ⟨b14, 3, none⟩ (.bool true) := ⟨_, rfl⟩
    have hg9 : Gr (· = b14) W2 W9 := by rw [hW9]; exact ((((Gr.refl (· = b14) W2).setCell (g := b14) (i := 0) (fun _ => show b14 = b14 from rfl) _).setCell (g := b14) (i := 1) (fun _ => show b14 = b14 from rfl) _).setCell (g := b14) (i := 2) (fun _ => show b14 = b14 from rfl) _).setCell (g := b14) (i := 3) (fun _ => show b14 = b14 from rfl) _
    rw [← hW9] at k9
    have HK9 := Lib.hid k9
    clear k9
    have HP9 : Hid (PayAt w W9 p go co bh own lost pm bm S0 L (K0 + 600 * t)) := Lib.hid (by
     have hq := HP2.out
     obtain ⟨bs, ns, q1, q2, q3⟩ := hq.led
     obtain ⟨m9, q4, q5⟩ := hq.mind
     exact hq.box hg9 k14 (by decide) (by have := HBN.out; omega))
    have HRT : Hid (RetPl w p go co bh own lost pm bm (K0 + 7200) (planF g fr td a (N : Int) 12 0 S0 L0) (.returned (.agg #[.bool false, .slice none 0 0, .int .i64 (t : Int), .bool true])) W9) := Lib.hid (by rw [HR.out]; exact ⟨none, 0, rfl, RP.nil _, HP9.out.more (by omega)⟩)
    clear hg9 k14 k15
    go_wp2_with fail
    rw [← hW9]
    refine bodyPost_ret (v := .agg #[.bool false, .slice none 0 0, .int .i64 (t : Int), .bool true]) ?_ rfl HRT.out
    have r0 := HK9.out.cell 0
    have r1 := HK9.out.cell 1
    have r2 := HK9.out.cell 2
    have r3 := HK9.out.cell 3
    simp at r0 r1 r2 r3
    simp [results, Tryz.f12, go_sem, r0, r1, r2, r3]
   ·obtain ⟨h0, A, c, A1, n1, c1, B1, m1, d1, rfl, rP, _⟩ := hs
    obtain ⟨bA, oA, rfl⟩ := rP.some_ h0
    obtain ⟨ps, hps⟩ : ∃ z, r.1 = z := ⟨_, rfl⟩
    obtain ⟨NP, hNP⟩ : ∃ z, ps.length = z := ⟨_, rfl⟩
    have HSP := Lib.hid (split_ok HOS.out)
    rw [hps] at rP h0 HSP ⊢
    rw [hNP] at rP h0 HSP ⊢
    go_upto_region 4 with (fail)
    obtain ⟨W2, hW2⟩ : ∃ W, W = W1.alloc (.cells #[.slice A1 n1 c1, .slice B1 m1 d1] 34) := ⟨_, rfl⟩
    have hb2 : Below W1.heap.size W1 W2 := by rw [hW2]; exact (Below.refl _ _).alloc (Nat.le_refl _) _
    rw [← hW2]
    clear hW2
    have HP2 := Lib.hid (HP1.out.on hb2)
    replace k15 := k15.below hb2 k15.lt
    replace k14 := k14.below hb2 k14.lt
    have rP2 := rP.on hb2
    clear hb2 HP1 rP
    have d2 := k15.cell 2
    have f2 := k15.frozen 2
    simp at d2
    have HOS2 : Hid (splitF L g fr td a 100 (N : Int) = some r) := HOS
    have HPS : Hid (r.1 = ps ∧ ps.length = NP) := Lib.hid ⟨hps, hNP⟩
    clear hps hNP
    go_upto_region 7 with (fail)
    obtain ⟨W3, hW3⟩ : ∃ W, W = W2.setCell ⟨b15, 2, none⟩ (.int .i64 ((t : Int) + 1)) := ⟨_, rfl⟩
    have hg3 : Gr (· = b15) W2 W3 := by rw [hW3]; exact (Gr.refl (· = b15) W2).setCell (g := b15) (fun _ => show b15 = b15 from rfl) _
    have k15b : Blk W3 b15 45 #[.bool false, .slice none 0 0, .int .i64 ((t : Int) + 1), .bool true] := by rw [hW3]; exact k15.set_ 2 _
    rw [← hW3]
    clear hW3 d2 f2
    have HP3 := Lib.hid (HP2.out.box hg3 k15 (by decide) (by have := HBN.out; omega))
    have HB3 := Lib.hid HP3.out.base
    have HRP := Lib.hid (rP2.gr hg3 (fun T b' cs' fr' hT hh => blk_ne k15 hh (by rcases hT with rfl | rfl | rfl <;> decide)))
    replace k14 := k14.gr hg3 (fun e => by have e : b14 = b15 := e; have := HBN.out; omega)
    have HT15 := Lib.hid (tries_eq HK15.out)
    have HK15b := Lib.hid k15b
    have HK14b := Lib.hid k14
    clear k15 k15b k14 hg3 rP2 HP2 HK15 HK14
    have hNP8 : NP ≤ 8 := HSP.out.2
    have hNP0 : 0 < NP := h0
    go_wp2_with fail
    go_loopw [19, 20] (fun sv iv wr => ∃ (i : Nat) (o : Option (Nat × Int)), i ≤ NP ∧ iv = .int .i64 i ∧ sv = .int .i64 (stV o) ∧ Hid (StepAt W3 wr p go co bh own lost pm bm S0 L (K0 + 600 * t) ps i o)) (fun _ iv _ => NP - (intOf iv).toNat)
    case atStart => exact ⟨0, none, by omega, rfl, rfl, Lib.hid ⟨rfl, HB3.out⟩⟩
    case round =>
     obtain ⟨i, o, hi, rfl, rfl, HST⟩ := hrel
     rcases o with _ | k
     ·have HSQ := Lib.hid HST.out.1
      have HPW := Lib.hid HST.out.2
      clear HST
      rw [show stV none = -1 from rfl]
      by_cases hlt2 : i < NP
      ·have hlt3 : (i : Int) < (NP : Int) := by omega
       obtain ⟨b2, o2, P, Aw, nw, cw, As, ns, cs, At, nt, ct, hA, hb2, hx, hpv, q0, q1, q2, q3⟩ := (HB3.out.rp HPW.out HRP.out).at_ hlt2
       injection hA with hA
       injection hA with h1 h2
       subst h1 h2
       have HX := Lib.hid hx
       have HPK := Lib.hid (HSP.out.1 P (List.mem_of_getElem? hx))
       have HIV := Lib.hid (stF_inv (ps.take i) S0 HI.out (fun Q hQ => HSP.out.1 Q (List.mem_of_mem_take hQ)))
       obtain ⟨S, hS⟩ : ∃ z, stF S0 (ps.take i) = z := ⟨_, rfl⟩
       obtain ⟨Ln, hLn⟩ : ∃ z, lnF L (ps.take i) = z := ⟨_, rfl⟩
       rw [hS] at HIV HPW HSQ
       rw [hLn] at HPW
       have HSL : Hid (stF S0 (ps.take i) = S ∧ lnF L (ps.take i) = Ln) := Lib.hid ⟨hS, hLn⟩
       have HSQ : Hid ((if 0 ≤ lacksF S P.way P.s 0 then some (i, lacksF S P.way P.s 0) else stopF (pay1 S P) (ps.drop (i + 1)) (i + 1)) = stopF S0 ps 0) := Lib.hid (by rw [← HSQ.out, drop_at HX.out, stop_cons])
       have HPV := Lib.hid hpv
       obtain ⟨pa, hpa⟩ : ∃ z, P.a = z := ⟨_, rfl⟩
       rw [hpa] at q0 HPV
       have HPA := Lib.hid hpa
       clear hx hpv hS hLn hpa
       go_upto_region 12 with (fail)
       obtain ⟨W4, hW4⟩ : ∃ W, W = wr.alloc (.cells #[.int .i64 pa, .slice Aw nw cw, .slice As ns cs, .slice At nt ct] 51) := ⟨_, rfl⟩
       have hb4 : Below wr.heap.size wr W4 := by rw [hW4]; exact (Below.refl _ _).alloc (Nat.le_refl _) _
       have k21 : Blk W4 wr.heap.size 51 #[.int .i64 pa, .slice Aw nw cw, .slice As ns cs, .slice At nt ct] := by rw [hW4]; exact Blk.new wr _ _
       rw [← hW4]
       obtain ⟨G21, hG21⟩ : ∃ z, wr.heap.size = z := ⟨_, rfl⟩
       rw [hG21] at k21 ⊢
       have HP4 := Lib.hid (HPW.out.on hb4)
       have HPV4 := Lib.hid (HPV.out.on hb4)
       clear hW4 hG21 hb4 q0 q1 q2 q3 HPW HPV
       obtain ⟨bs, nss, hns, hL4, hbm⟩ := HP4.out.led
       have HL4 := Lib.hid hL4
       have HBM := Lib.hid (And.intro hns hbm)
       clear hL4 hns hbm
       have HEI : Hid (∀ e ∈ P.way, EIn S e) := Lib.hid (fun e he => ((HIV.out.1 e (HPK.out.1 e he)).1).isIn (HIV.out.1 e (HPK.out.1 e he)).2)
       have y0 := k21.cell 0
       have y1 := k21.cell 1
       have y2 := k21.cell 2
       have y3 := k21.cell 3
       simp at y0 y1 y2 y3
       go_wp2_with fail
       refine (lacks_any W4 p go co bs bh nss own S lost HL4.out _ P HPV4.out HEI.out).mono ?_
       rintro y W5 ⟨rfl, hb⟩
       have HP5 := Lib.hid (HP4.out.on hb)
       have HPV5 := Lib.hid (HPV4.out.on hb)
       have HL5 := Lib.hid (HL4.out.on hb)
       replace k21 := k21.below hb k21.lt
       clear hb HP4 HPV4 HL4 y0 y1 y2 y3
       obtain ⟨at_, hat⟩ : ∃ z, lacksF S P.way P.s 0 = z := ⟨_, rfl⟩
       have HLK := Lib.hid (lacks_iff HIV.out HPK.out)
       rw [hat] at HLK HSQ ⊢
       have HAT := Lib.hid hat
       clear hat
       have y0 := k21.cell 0
       have y1 := k21.cell 1
       have y2 := k21.cell 2
       have y3 := k21.cell 3
       simp at y0 y1 y2 y3
       go_wp2_with fail
       refine (legs_any W5 p go co bs bh nss own S lost HL5.out _ P HPV5.out HEI.out false).mono ?_
       rintro y W6 ⟨Al, cl, rfl, hrl, hb⟩
       have HP6 := Lib.hid (HP5.out.on hb)
       have HPV6 := Lib.hid (HPV5.out.on hb)
       have HL6 := Lib.hid (HL5.out.on hb)
       replace k21 := k21.below hb k21.lt
       clear hb HP5 HPV5 HL5 y0 y1 y2 y3
       have HLO := Lib.hid (legs_ok HIV.out HPK.out false)
       have HLL : Hid ((legsF S false P.way P.s).length ≤ 8) := Lib.hid (Nat.le_trans (legs_len _ _ _ _) (way_lens HPK.out.way.1).2)
       have HRL := Lib.hid hrl
       clear hrl
       go_wp2_with fail
       refine (pay_any W6 p go co bs bh nss own S lost HL6.out HIV.out.2.1 Al _ cl _ HRL.out HLO.out (by have := HLL.out; omega) (by have h1 := HLL.out; have h2 := HBM.out.1; omega)).mono ?_
       intro y W7 hpay
       have HLK2 := HLK.out
       rcases HLK2 with ⟨hneg, S2, hS2⟩ | ⟨hpos, hno⟩
       ·rw [hS2] at hpay
        obtain ⟨rfl, ⟨bs2, hL7, hbs2⟩, hg7⟩ := hpay
        have hat1 : at_ = -1 := by rcases lacks_range S P.way P.s 0 with h | h; exact HAT.out.symm.trans h; have := HAT.out; omega
        subst hat1
        have HP7 := Lib.hid (HP6.out.paid (K' := K0 + 600 * t + 40 * i + 8) hL7 hbs2 hg7 (by have h1 := HLL.out; have h2 := HBM.out.1; omega) (by omega))
        have HPV7 := Lib.hid (HPV6.out.gr hg7 (fun T b' cs' fr' hT hh e => blk_ne HL6.out.box hh (by rcases hT with rfl | rfl <;> decide) e))
        replace k21 := k21.gr hg7 (fun e => blk_ne HL6.out.box k21 (by decide) e)
        have HS2 := Lib.hid hS2
        clear hg7 hL7 hbs2 HP6 HPV6 HL6 HRL hS2 hneg HLK
        have y0 := k21.cell 0
        have y1 := k21.cell 1
        have y2 := k21.cell 2
        have y3 := k21.cell 3
        simp at y0 y1 y2 y3
        obtain ⟨m, hm, hM⟩ := HP7.out.mind
        have HMM := Lib.hid hM
        have HMK := Lib.hid hm
        clear hM hm
        obtain ⟨Aw2, nw2, cw2, As2, ns2, cs2, At2, nt2, ct2, ecs, rW, rS, rT, hn8, hnn⟩ := HPV7.out
        simp at ecs
        obtain ⟨e0, ⟨rfl, rfl, rfl⟩, ⟨rfl, rfl, rfl⟩, rfl, rfl, rfl⟩ := ecs
        have HRW := Lib.hid rW
        have HRS := Lib.hid rS
        have HN8 := Lib.hid (And.intro hn8 hnn)
        clear rW rS rT hn8 hnn e0
        have HNO : Hid (noteO Ln P.way pa 100 (-1) = some (noteF Ln P.way P.s (-1))) := Lib.hid (by rw [← HPA.out]; exact note_some HPK.out Ln (by omega) (by omega))
        go_wp2_with fail
        refine (note_any W7 pm bm m Ln HMM.out HP7.out.good (by have := HMK.out; omega) Aw nw cw P.way HRW.out (by have := HN8.out; omega) pa 100 (-1)).mono ?_
        rw [HNO.out]
        rintro y W8 ⟨rfl, hg8, hgd, m2, hm2, hM2⟩
        have HP8 := Lib.hid (HP7.out.note (K' := K0 + 600 * t + 40 * i + 16) hM2 hgd hg8 (by have := HMK.out; omega) (by omega))
        have HB8 := Lib.hid HP8.out.base
        have hmp := HMM.out.isMap
        obtain ⟨esm, clm, hmp⟩ := hmp
        replace k21 := k21.gr hg8 (fun e => map_cells hmp k21 e)
        have HRW8 := Lib.hid (Rg.gr HRW.out hg8 (fun b' cs' fr' hh e => map_cells hmp hh e))
        have HRS8 := Lib.hid (Rg.gr HRS.out hg8 (fun b' cs' fr' hh e => map_cells hmp hh e))
        have HK21 := Lib.hid k21
        clear hg8 hgd hm2 hM2 hmp HMM HMK HRW HRS k21 y0 y1 y2 y3 HP7 HPV7
        have hnw8 : nw ≤ 8 := HN8.out.1
        have hns : ns = nw := HN8.out.2
        subst hns
        go_wp2_with fail
        go_loopw [24] (fun jv wr => ∃ (j : Nat) (L2 : Notes), j ≤ ns ∧ jv = .int .i64 j ∧ Hid (mvL L2 (P.way.drop j) (P.s.drop j) = mvL (noteF Ln P.way P.s (-1)) P.way P.s) ∧ Hid (PayAt W8 wr p go co bh own lost pm bm S2 L2 (K0 + 600 * t + 40 * i + 16 + 2 * j))) (fun jv _ => ns - (intOf jv).toNat)
        case atStart => exact ⟨0, _, Nat.zero_le _, rfl, Lib.hid rfl, HB8⟩
        case round =>
         obtain ⟨j, L2, hj, rfl, HMQ, HPX⟩ := hrel
         have k21 := HB8.out.blk HPX.out (by decide) HK21.out
         have y0 := k21.cell 0
         have y1 := k21.cell 1
         have y2 := k21.cell 2
         have y3 := k21.cell 3
         simp at y0 y1 y2 y3
         by_cases hlj : j < ns
         ·have hlj2 : (j : Int) < (ns : Int) := by omega
          obtain ⟨ba, oa, e, hA, hba, hx, _, a0, a1, a2, a3, a4, a5, a6, a7, a8⟩ := (HB8.out.rg HPX.out (by decide) HRW8.out).edge hlj
          obtain ⟨bs9, os9, hAs, hbs9, hxs, s0⟩ := (HB8.out.rg HPX.out (by decide) HRS8.out).num hlj
          subst hA
          subst hAs
          obtain ⟨x, hxx⟩ : ∃ z, P.s.getD j 0 = z := ⟨_, rfl⟩
          rw [hxx] at s0 hxs
          have HMQ2 : Hid (mvL (moveL L2 e.e4 x) (P.way.drop (j + 1)) (P.s.drop (j + 1)) = mvL (noteF Ln P.way P.s (-1)) P.way P.s) := Lib.hid (by rw [← HMQ.out, drop_at hx, drop_at hxs, mv_cons])
          clear hx hxs hxx
          obtain ⟨f, t1, ch, r_, p0, p1, p2, p3, p4⟩ := e
          dsimp only at a0 a1 a2 a3 a4 a5 a6 a7 a8
          obtain ⟨m, hm, hM⟩ := HPX.out.mind
          have HMM := Lib.hid hM
          have HMK := Lib.hid hm
          have hmb : m < 900000 := by omega
          clear hM hm
          have hl21 := k21.lt
          go_upto_region 22 with (fail)
          refine wp_region_noPanic ?_
          refine ord_begin 11 (fun wx => Below wr.heap.size wr wx) (by kernel_rfl) ?_
          have hx0 : Below wr.heap.size wr wr.drew := (Below.refl _ _).drew
          refine ord_take (i := 0) (v := ?_) (by kernel_rfl) rfl (by decide) (by kernel_rfl) (by kernel_rfl) (fun _ _ _ h => h) (Or.inl ⟨by rfl, ?_⟩) hx0 ?_
          rotate_left
          ·intro wz hz; go_simp; (try with_reducible rfl)
          try simp only [Act.put, pu]
          refine ord_take (i := 1) (v := ?_) (by kernel_rfl) rfl (by decide) (by kernel_rfl) (by kernel_rfl) (fun _ _ _ h => h) (Or.inl ⟨by rfl, ?_⟩) hx0 ?_
          rotate_left
          ·intro wz hz; go_simp; (try with_reducible rfl)
          try simp only [Act.put, pu]
          refine ord_take (i := 2) (v := ?_) (by kernel_rfl) rfl (by decide) (by kernel_rfl) (by kernel_rfl) (fun _ _ _ h => h) (Or.inl ⟨by rfl, ?_⟩) hx0 ?_
          rotate_left
          ·intro wz hz; have j3 := k21.below hz hl21; have z1 := j3.cell 1; have z2 := j3.cell 2; simp at z1 z2; go_simp; (try with_reducible rfl)
          try simp only [Act.put, pu]
          refine ord_take (i := 3) (v := ?_) (by kernel_rfl) rfl (by decide) (by kernel_rfl) (by kernel_rfl) (fun _ _ _ h => h) (Or.inl ⟨by rfl, ?_⟩) hx0 ?_
          rotate_left
          ·intro wz hz; go_simp; (try with_reducible rfl)
          try simp only [Act.put, pu]
          refine ord_take (i := 4) (v := ?_) (by kernel_rfl) rfl (by decide) (by kernel_rfl) (by kernel_rfl) (fun _ _ _ h => h) (Or.inl ⟨by rfl, ?_⟩) hx0 ?_
          rotate_left
          ·intro wz hz; go_simp; (try with_reducible rfl)
          try simp only [Act.put, pu]
          refine ord_take (i := 5) (v := ?_) (by kernel_rfl) rfl (by decide) (by kernel_rfl) (by kernel_rfl) (fun _ _ _ h => h) (Or.inl ⟨by rfl, ?_⟩) hx0 ?_
          rotate_left
          ·intro wz hz; have z3 := (hz.cell (p := ⟨ba, _, none⟩) hba).trans a0; have z4 := (hz.cell (p := ⟨ba, _, none⟩) hba).trans a1; have z5 := (hz.cell (p := ⟨ba, _, none⟩) hba).trans a2; have z6 := (hz.cell (p := ⟨ba, _, none⟩) hba).trans a3; have z7 := (hz.cell (p := ⟨ba, _, none⟩) hba).trans a4; have z8 := (hz.cell (p := ⟨ba, _, none⟩) hba).trans a5; have z9 := (hz.cell (p := ⟨ba, _, none⟩) hba).trans a6; have z10 := (hz.cell (p := ⟨ba, _, none⟩) hba).trans a7; have z11 := (hz.cell (p := ⟨ba, _, none⟩) hba).trans a8; go_simp; (try with_reducible rfl)
          try simp only [Act.put, pu]
          refine ord_take (i := 6) (v := ?_) (by kernel_rfl) rfl (by decide) (by kernel_rfl) (by kernel_rfl) (fun _ _ _ h => h) (Or.inl ⟨by rfl, ?_⟩) hx0 ?_
          rotate_left
          ·intro wz hz; go_simp; (try with_reducible rfl)
          try simp only [Act.put, pu]
          refine ord_take (i := 7) (v := ?_) (by kernel_rfl) rfl (by decide) (by kernel_rfl) (by kernel_rfl) (fun _ _ _ h => h) (Or.inl ⟨by rfl, ?_⟩) hx0 ?_
          rotate_left
          ·intro wz hz; have j3 := k21.below hz hl21; have z1 := j3.cell 1; have z2 := j3.cell 2; simp at z1 z2; go_simp; (try with_reducible rfl)
          try simp only [Act.put, pu]
          refine ord_take (i := 8) (v := ?_) (by kernel_rfl) rfl (by decide) (by kernel_rfl) (by kernel_rfl) (fun _ _ _ h => h) (Or.inl ⟨by rfl, ?_⟩) hx0 ?_
          rotate_left
          ·intro wz hz; go_simp; (try with_reducible rfl)
          try simp only [Act.put, pu]
          refine ord_take (i := 9) (v := ?_) (by kernel_rfl) rfl (by decide) (by kernel_rfl) (by kernel_rfl) (fun _ _ _ h => h) (Or.inl ⟨by rfl, ?_⟩) hx0 ?_
          rotate_left
          ·intro wz hz; go_simp; (try with_reducible rfl)
          try simp only [Act.put, pu]
          refine ord_take (i := 10) (v := ?_) (by kernel_rfl) rfl (by decide) (by kernel_rfl) (by kernel_rfl) (fun _ _ _ h => h) (Or.inl ⟨by rfl, ?_⟩) hx0 ?_
          rotate_left
          ·intro wz hz; have z20 := (hz.cell (p := ⟨bs9, _, none⟩) hbs9).trans s0; go_simp; (try with_reducible rfl)
          try simp only [Act.put, pu]
          refine ord_rest (by kernel_rfl) ?_
          refine any_step (i := 11) rfl (by kernel_rfl) (by rfl) (fun K hK => ?_)
          go_simp
          refine (moved_any wr.drew pm bm m L2 (HMM.out.on hx0) HPX.out.good hmb ⟨f, t1, ch, r_, p0, p1, p2, p3, p4⟩ x).mono ?_
          rintro y W9 ⟨rfl, hM2, hg2⟩
          refine hK _ _ ?_
          clear hK K
          try simp only [Act.put, pu]
          refine wpAny_done (by kernel_rfl) ?_ _
          refine NoPanic.normal ?_
          have HPY : Hid (PayAt W8 W9 p go co bh own lost pm bm S2 (moveL L2 (Ed.e4 ⟨f, t1, ch, r_, p0, p1, p2, p3, p4⟩) x) (K0 + 600 * t + 40 * i + 16 + 2 * (j + 1))) := Lib.hid ((HPX.out.on (w' := wr.drew) hx0).note hM2 (HPX.out.good.move _ _) (Gr.of_grown (M := (· = bm)) hg2 rfl) (by have := HMK.out; omega) (by omega))
          clear hM2 hg2 k21 y0 y1 y2 y3 a0 a1 a2 a3 a4 a5 a6 a7 a8 s0 hl21
          go_wp2_with fail
          go_roundw
          case rel => exact ⟨j + 1, _, by omega, by go_num, HMQ2, HPY⟩
          case measure => simp [intOf]; omega
         ·have hjn : j = ns := by omega
          have HL2 : Hid (L2 = mvL (noteF Ln P.way P.s (-1)) P.way P.s) := Lib.hid (by
           have h1 := HMQ.out
           rw [List.drop_of_length_le (by rw [hjn]; exact Nat.le_of_eq (Rg.elen HRW8.out))] at h1
           exact h1)
          have HSTN : Hid (StepAt W3 wr p go co bh own lost pm bm S0 L (K0 + 600 * t) ps (i + 1) none) := Lib.hid (by
           have hp1 : pay1 S P = S2 := by unfold pay1; rw [HS2.out]; rfl
           have h1 : stF S0 (ps.take (i + 1)) = S2 := by rw [take_snoc HX.out, stF_snoc, HSL.out.1, hp1]
           have h2 : lnF L (ps.take (i + 1)) = L2 := by rw [take_snoc HX.out, lnF_snoc, HSL.out.2, HL2.out]
           have h3 := HSQ.out
           rw [if_neg (by decide), hp1] at h3
           refine ⟨by rw [h1]; exact h3, ?_⟩
           rw [h1, h2]
           exact (HPX.out.rebase HP8.out.gr).more (by omega))
          go_wp2_with fail
          go_roundw
          case rel => exact ⟨i + 1, none, by omega, by go_num, rfl, HSTN⟩
          case measure => simp [intOf]; omega
       ·rw [hno] at hpay
        obtain ⟨rfl, hb⟩ := hpay
        have HP7 := Lib.hid (HP6.out.on hb)
        have HPV7 := Lib.hid (HPV6.out.on hb)
        replace k21 := k21.below hb k21.lt
        clear hb HP6 HPV6 HL6 HRL
        have g1 : ¬ at_ < 0 := by omega
        have g2 : 0 ≤ at_ := hpos
        have y0 := k21.cell 0
        have y1 := k21.cell 1
        have y2 := k21.cell 2
        have y3 := k21.cell 3
        simp at y0 y1 y2 y3
        obtain ⟨m, hm, hM⟩ := HP7.out.mind
        have HMM := Lib.hid hM
        have HMK := Lib.hid hm
        clear hM hm
        obtain ⟨Aw2, nw2, cw2, As2, ns2, cs2, At2, nt2, ct2, ecs, rW, rS, rT, hn8, hnn⟩ := HPV7.out
        simp at ecs
        obtain ⟨e0, ⟨rfl, rfl, rfl⟩, ⟨rfl, rfl, rfl⟩, rfl, rfl, rfl⟩ := ecs
        have HRW := Lib.hid rW
        have HN8 := Lib.hid (And.intro hn8 hnn)
        clear rW rS rT hn8 hnn e0
        have HNO : Hid (noteO Ln P.way pa 100 at_ = some (noteF Ln P.way P.s at_)) := Lib.hid (by rw [← HPA.out]; exact note_some HPK.out Ln (by omega) (by rcases lacks_range S P.way P.s 0 with h | h; have := HAT.out; omega; have := HAT.out; omega))
        go_wp2_with fail
        refine (note_any W7 pm bm m Ln HMM.out HP7.out.good (by have := HMK.out; omega) Aw nw cw P.way HRW.out (by have := HN8.out; omega) pa 100 at_).mono ?_
        rw [HNO.out]
        rintro y W8 ⟨rfl, hg8, hgd, m2, hm2, hM2⟩
        have HP8 := Lib.hid (HP7.out.note (K' := K0 + 600 * t + 40 * (i + 1)) hM2 hgd hg8 (by have := HMK.out; omega) (by omega))
        have HSTN : Hid (StepAt W3 W8 p go co bh own lost pm bm S0 L (K0 + 600 * t) ps (i + 1) (some (i, at_))) := Lib.hid (by
         have h3 := HSQ.out
         rw [if_pos hpos] at h3
         have hgP : ps.getD i ⟨0, [], [], []⟩ = P := by rw [List.getD_eq_getElem?_getD, HX.out]; rfl
         refine ⟨rfl, h3.symm, ?_⟩
         dsimp only
         rw [HSL.out.1, HSL.out.2, hgP]
         exact HP8.out)
        clear hg8 hgd hm2 hM2 k21 y0 y1 y2 y3 HRW HMM
        go_wp2_with fail
        go_roundw
        case rel => exact ⟨i + 1, some (i, at_), by omega, by go_num, rfl, HSTN⟩
        case measure => simp [intOf]; omega
      ·have hin : i = NP := by omega
       subst hin
       have HNONE : Hid (stopF S0 ps 0 = none) := Lib.hid (by rw [← HSQ.out, List.drop_of_length_le (by rw [HPS.out.2]; exact Nat.le_refl _)]; rfl)
       have HTK : Hid (ps.take i = ps) := Lib.hid (List.take_of_length_le (by rw [HPS.out.2]; exact Nat.le_refl _))
       rw [HTK.out] at HPW
       have k15 := HB3.out.blk HPW.out (by decide) HK15b.out
       have k14 := HB3.out.blk HPW.out (by decide) HK14b.out
       have rP := HB3.out.rp HPW.out HRP.out
       have y0 := k15.cell 0
       have y1 := k15.cell 1
       have f0 := k15.frozen 0
       have f1 := k15.frozen 1
       simp at y0 y1
       have HRP4 := Lib.hid rP
       clear rP
       go_upto_region 26 with (fail)
       obtain ⟨W4, hW4⟩ : ∃ W, W = (wr.setCell ⟨b15, 0, none⟩ (.bool true)).setCell ⟨b15, 1, none⟩ (.slice (some ⟨bA, oA, none⟩) i c) := ⟨_, rfl⟩
       have hg4 : Gr (· = b15) wr W4 := by rw [hW4]; exact ((Gr.refl (· = b15) wr).setCell (g := b15) (i := 0) (fun _ => show b15 = b15 from rfl) _).setCell (g := b15) (i := 1) (fun _ => show b15 = b15 from rfl) _
       have k15b : Blk W4 b15 45 #[.bool true, .slice (some ⟨bA, oA, none⟩) i c, .int .i64 ((t : Int) + 1), .bool true] := by rw [hW4]; exact (k15.set_ 0 _).set_ 1 _
       rw [← hW4]
       have HP4 := Lib.hid ((HPW.out.rebase HP3.out.gr).box hg4 k15 (by decide) (by have := HBN.out; omega))
       have HRP5 := Lib.hid (HRP4.out.gr hg4 (fun T b' cs' fr' hT hh => blk_ne k15 hh (by rcases hT with rfl | rfl | rfl <;> decide)))
       replace k14 := k14.gr hg4 (fun e => by have e : b14 = b15 := e; have := HBN.out; omega)
       clear hW4 hg4 y0 y1 f0 f1 k15 HPW HRP4
       have k15 := k15b
       clear k15b
       have y0 := k15.cell 0
       have y1 := k15.cell 1
       have y2 := k15.cell 2
       have y3 := k15.cell 3
       have x0 := k14.cell 0
       have x1 := k14.cell 1
       have x2 := k14.cell 2
       have x3 := k14.cell 3
       have f0 := k14.frozen 0
       have f1 := k14.frozen 1
       have f2 := k14.frozen 2
       have f3 := k14.frozen 3
       simp at y0 y1 y2 y3 x0 x1 x2 x3
       have k9 := (((k14.set_ 0 (.bool true)).set_ 1 (.slice (some ⟨bA, oA, none⟩) i c)).set_ 2 (.int .i64 ((t : Int) + 1))).set_ 3 (.bool true)
       obtain ⟨W9, hW9⟩ : ∃ W, W = (((W4.setCell ⟨b14, 0, none⟩ (.bool true)).setCell ⟨b14, 1, none⟩ (.slice (some ⟨bA, oA, none⟩) i c)).setCell ⟨b14, 2, none⟩ (.int .i64 ((t : Int) + 1))).setCell ⟨b14, 3, none⟩ (.bool true) := ⟨_, rfl⟩
       have hg9 : Gr (· = b14) W4 W9 := by rw [hW9]; exact ((((Gr.refl (· = b14) W4).setCell (g := b14) (i := 0) (fun _ => show b14 = b14 from rfl) _).setCell (g := b14) (i := 1) (fun _ => show b14 = b14 from rfl) _).setCell (g := b14) (i := 2) (fun _ => show b14 = b14 from rfl) _).setCell (g := b14) (i := 3) (fun _ => show b14 = b14 from rfl) _
       rw [← hW9] at k9
       have HK9 := Lib.hid k9
       clear k9
       have HP9 : Hid (PayAt w W9 p go co bh own lost pm bm (stF S0 ps) (lnF L ps) (K0 + 600 * t + 40 * i)) := Lib.hid (by
        have hq := HP4.out
        obtain ⟨bs, ns, q1, q2, q3⟩ := hq.led
        obtain ⟨m9, q4, q5⟩ := hq.mind
        exact hq.box hg9 k14 (by decide) (by have := HBN.out; omega))
       have HRP6 := Lib.hid (HRP5.out.gr hg9 (fun T b' cs' fr' hT hh => blk_ne k14 hh (by rcases hT with rfl | rfl | rfl <;> decide)))
       have HRT : Hid (RetPl w p go co bh own lost pm bm (K0 + 7200) (planF g fr td a (N : Int) 12 0 S0 L0) (.returned (.agg #[.bool true, .slice (some ⟨bA, oA, none⟩) i c, .int .i64 ((t : Int) + 1), .bool true])) W9) := Lib.hid (by
        rw [← HQ.out, planF_paid HOS2.out (by rw [HPS.out.1]; exact HNONE.out), HPS.out.1]
        refine ⟨some ⟨bA, oA, none⟩, c, ?_, ?_, HP9.out.more (by omega)⟩
        ·dsimp only
         rw [HPS.out.2]
         rfl
        ·dsimp only
         rw [HPS.out.2]
         exact HRP6.out)
       clear hg9 k14 k15
       go_wp2_with fail
       rw [← hW9]
       refine bodyPost_ret (v := .agg #[.bool true, .slice (some ⟨bA, oA, none⟩) i c, .int .i64 ((t : Int) + 1), .bool true]) ?_ rfl HRT.out
       have r0 := HK9.out.cell 0
       have r1 := HK9.out.cell 1
       have r2 := HK9.out.cell 2
       have r3 := HK9.out.cell 3
       simp at r0 r1 r2 r3
       simp [results, Tryz.f12, go_sem, r0, r1, r2, r3]
     ·have HSTK := Lib.hid HST.out.2.1
      have HPK0 := Lib.hid HST.out.2.2
      have HIK := Lib.hid HST.out.1
      clear HST
      obtain ⟨kk, at_⟩ := k
      dsimp only at HPK0 HIK
      rw [show stV (some (kk, at_)) = (kk : Int) from rfl]
      have hk0 : ¬ (kk : Int) < 0 := by omega
      have hkN : kk < NP ∧ kk ≤ 8 := by have := HIK.out; omega
      obtain ⟨hkN, hk8⟩ := hkN
      obtain ⟨q, hq1, _, hq2⟩ := stop_spec ps S0 0 (kk, at_) HSTK.out
      have hqk : q = kk := by dsimp only at hq1; omega
      rw [hqk] at hq2
      have HNL := Lib.hid hq2
      clear hq1 hq2 hqk
      have HBK := Lib.hid HPK0.out.base
      obtain ⟨Lk, hLk⟩ : ∃ z, noteF (lnF L (ps.take kk)) ((ps.getD kk ⟨0, [], [], []⟩).way) ((ps.getD kk ⟨0, [], [], []⟩).s) at_ = z := ⟨_, rfl⟩
      rw [hLk] at HPK0 HBK
      have HLK0 := Lib.hid hLk
      clear hLk
      have hwk : wrap64 ((kk : Int) - 1) = (kk : Int) - 1 := wrap64_of_isI ⟨by omega, by omega⟩
      by_cases hlt2 : (i : Int) < (NP : Int)
      all_goals (
       go_wp2_with fail
       clear hlt2 hwk
       go_loopw [25] (fun jv wr => ∃ (j : Nat) (L2 : Notes), j ≤ kk ∧ jv = .int .i64 ((j : Int) - 1) ∧ Hid (bkL L2 ((ps.take j).reverse) = bkL Lk ((ps.take kk).reverse)) ∧ Hid (PayAt W3 wr p go co bh own lost pm bm (stF S0 (ps.take j)) L2 (K0 + 600 * t + 40 * i + 30 * (kk - j)))) (fun jv _ => (intOf jv + 1).toNat)
       case atStart => exact ⟨kk, Lk, Nat.le_refl _, rfl, Lib.hid rfl, Lib.hid (HPK0.out.more (by omega))⟩
       case round =>
        obtain ⟨j, L2, hj, rfl, HJQ, HPJ⟩ := hrel
        rcases Nat.eq_zero_or_pos j with hj0 | hj0
        ·subst hj0
         have hm1 : ¬ (0 : Int) ≤ (((0 : Nat) : Int) - 1) := by decide
         have HPN : Hid (PayAt w wr p go co bh own lost pm bm S0 L2 (K0 + 600 * (t + 1))) := Lib.hid ((HPJ.out.rebase HP3.out.gr).more (by have := HIK.out; omega))
         have HQN : Hid (planF g fr td a (N : Int) (12 - (t + 1)) (t + 1) S0 L2 = planF g fr td a (N : Int) 12 0 S0 L0) := Lib.hid (by
          have hL2 : L2 = bkL Lk ((ps.take kk).reverse) := HJQ.out
          rw [← HQ.out, planF_more (k := (kk, at_)) HOS2.out (by rw [HPS.out.1]; exact HSTK.out), HPS.out.1]
          dsimp only
          rw [HLK0.out, ← hL2, show 12 - (t + 1) = f0 by have := HF0.out; omega])
         have HK15n := Lib.hid (HB3.out.blk HPJ.out (by decide) HK15b.out)
         have HK14n := Lib.hid (HB3.out.blk HPJ.out (by decide) HK14b.out)
         clear HPJ HJQ
         go_wp2_with fail
         go_roundw
         case rel => exact ⟨t + 1, L2, by omega, HQN, HPN, HK15n, HK14n⟩
         case measure => rw [tries_eq (t := t + 1) HK15n.out, HT15.out]; omega
        ·obtain ⟨q, rfl⟩ : ∃ q, j = q + 1 := ⟨j - 1, by omega⟩
         rw [show (((q + 1 : Nat) : Int) - 1) = (q : Int) by omega]
         have hq0 : (0 : Int) ≤ (q : Int) := by omega
         have hqN : q < NP := by omega
         have hqN2 : (q : Int) < (NP : Int) := by omega
         obtain ⟨b2, o2, P, Aw, nw, cw, As, ns, cs, At, nt, ct, hA, hb2, hx, hpv, q0, q1, q2, q3⟩ := (HB3.out.rp HPJ.out HRP.out).at_ hqN
         injection hA with hA
         injection hA with h1 h2
         subst h1 h2
         have HX := Lib.hid hx
         have HPK := Lib.hid (HSP.out.1 P (List.mem_of_getElem? hx))
         have HIV := Lib.hid (stF_inv (ps.take q) S0 HI.out (fun Q hQ => HSP.out.1 Q (List.mem_of_mem_take hQ)))
         obtain ⟨Sq, hSq⟩ : ∃ z, stF S0 (ps.take q) = z := ⟨_, rfl⟩
         rw [hSq] at HIV
         have HSQ := Lib.hid hSq
         have HS2X : Hid (∃ S2, payF Sq (legsF Sq false P.way P.s) = some S2 ∧ stF S0 (ps.take (q + 1)) = S2) := Lib.hid (by
          have hng := HNL.out q P (by omega) hx
          rw [hSq] at hng
          rcases lacks_iff HIV.out HPK.out with ⟨_, S2, h2⟩ | ⟨h, _⟩
          ·exact ⟨S2, h2, by rw [take_snoc hx, stF_snoc, hSq]; unfold pay1; rw [h2]; rfl⟩
          ·omega)
         obtain ⟨S2, hS2, hS3⟩ := HS2X.out
         rw [hS3] at HPJ
         have HIV2 := Lib.hid (HIV.out.pay HPK.out false hS2)
         have HBP := Lib.hid (pay_back HIV.out HPK.out hS2)
         have HPV := Lib.hid hpv
         obtain ⟨pa, hpa⟩ : ∃ z, P.a = z := ⟨_, rfl⟩
         rw [hpa] at q0 HPV
         have HTKS : Hid ((ps.take (q + 1)).reverse = P :: (ps.take q).reverse) := Lib.hid (by rw [take_snoc hx, List.reverse_append]; rfl)
         obtain ⟨bs, nss, hns, hL, hbm⟩ := HPJ.out.led
         have HL := Lib.hid hL
         have HBM := Lib.hid (And.intro hns hbm)
         have HEI : Hid (∀ e ∈ P.way, EIn S2 e) := Lib.hid (fun e he => ((HIV2.out.1 e (HPK.out.1 e he)).1).isIn (HIV2.out.1 e (HPK.out.1 e he)).2)
         clear hx hpv hSq hS2 hS3 HS2X hL hns hbm hpa
         go_wp2_with fail
         refine (legs_any wr p go co bs bh nss own S2 lost HL.out _ P HPV.out HEI.out true).mono ?_
         rintro y W5 ⟨Al, cl, rfl, hrl, hb⟩
         have HP5 := Lib.hid (HPJ.out.on hb)
         have HL5 := Lib.hid (HL.out.on hb)
         have HLO := Lib.hid (legs_ok HIV2.out HPK.out true)
         have HLL : Hid ((legsF S2 true P.way P.s).length ≤ 8) := Lib.hid (Nat.le_trans (legs_len _ _ _ _) (way_lens HPK.out.way.1).2)
         have HRL := Lib.hid hrl
         clear hb hrl q0 q1 q2 q3 HL HPJ HPV
         go_wp2_with fail
         refine (pay_any W5 p go co bs bh nss own S2 lost HL5.out HIV2.out.2.1 Al _ cl _ HRL.out HLO.out (by have := HLL.out; omega) (by have h1 := HLL.out; have h2 := HBM.out.1; omega)).mono ?_
         rw [HBP.out]
         rintro y W6 ⟨rfl, ⟨bs2, hL6, hbs2⟩, hg6⟩
         have HP6 := Lib.hid (HP5.out.paid (K' := K0 + 600 * t + 40 * i + 30 * (kk - (q + 1)) + 8) hL6 hbs2 hg6 (by have h1 := HLL.out; have h2 := HBM.out.1; omega) (by omega))
         have HB6 := Lib.hid HP6.out.base
         clear hL6 hbs2 hg6 HP5 HL5 HRL HLO HBM HEI
         obtain ⟨M, hM⟩ : ∃ z, P.way.length = z := ⟨_, rfl⟩
         have HMW := Lib.hid hM
         have hM8 : M ≤ 8 := by rw [← hM]; exact (way_lens HPK.out.way.1).2
         clear hM
         go_wp2_with fail
         go_loopw [26] (fun jv wr => ∃ (j2 : Nat) (L3 : Notes), j2 ≤ M ∧ jv = .int .i64 j2 ∧ Hid (mvL L3 ((P.way.map backE).drop j2) (P.s.drop j2) = mvL L2 (P.way.map backE) P.s) ∧ Hid (PayAt W6 wr p go co bh own lost pm bm Sq L3 (K0 + 600 * t + 40 * i + 30 * (kk - (q + 1)) + 8 + 2 * j2))) (fun jv _ => M - (intOf jv).toNat)
         case atStart => exact ⟨0, L2, Nat.zero_le _, rfl, Lib.hid rfl, HB6⟩
         case round =>
          obtain ⟨j2, L3, hj2, rfl, HMQ, HPX⟩ := hrel
          have HPX3 := Lib.hid (HPX.out.rebase HP6.out.gr)
          obtain ⟨b2, o2, P3, Aw, nw, cw, As, ns, cs, At, nt, ct, hA, hb2, hx3, hpv, q0, q1, q2, q3⟩ := (HB3.out.rp HPX3.out HRP.out).at_ hqN
          injection hA with hA
          injection hA with h1 h2
          subst h1 h2
          have hP3 : P3 = P := Option.some.inj (hx3.symm.trans HX.out)
          subst hP3
          obtain ⟨Aw2, nw2, cw2, As2, ns2, cs2, At2, nt2, ct2, ecs, rW, rS, rT, hn8, hnn⟩ := hpv
          simp at ecs
          obtain ⟨⟨rfl, rfl, rfl⟩, ⟨rfl, rfl, rfl⟩, rfl, rfl, rfl⟩ := ecs
          have hnM : nw = M := rW.elen.symm.trans HMW.out
          subst hnn
          subst hnM
          clear rT hx3 hn8
          by_cases hlj : j2 < ns
          ·have hlj2 : (j2 : Int) < (ns : Int) := by omega
           obtain ⟨ba, oa, e, hA, hba, hx, _, a0, a1, a2, a3, a4, a5, a6, a7, a8⟩ := rW.edge hlj
           obtain ⟨bs9, os9, hAs, hbs9, hxs, s0⟩ := rS.num hlj
           subst hA
           subst hAs
           obtain ⟨x, hxx⟩ : ∃ z, P3.s.getD j2 0 = z := ⟨_, rfl⟩
           rw [hxx] at s0 hxs
           have HMQ2 : Hid (mvL (moveL L3 (backE e).e4 x) ((P3.way.map backE).drop (j2 + 1)) (P3.s.drop (j2 + 1)) = mvL L2 (P3.way.map backE) P3.s) := Lib.hid (by
            have hxb : (P3.way.map backE)[j2]? = some (backE e) := by rw [List.getElem?_map, hx]; rfl
            rw [← HMQ.out, drop_at hxb, drop_at hxs, mv_cons])
           clear hx hxs hxx rW rS
           obtain ⟨f, t1, ch, r_, p0, p1, p2, p3, p4⟩ := e
           dsimp only at a0 a1 a2 a3 a4 a5 a6 a7 a8
           obtain ⟨m, hm, hM⟩ := HPX.out.mind
           have HMM := Lib.hid hM
           have HMK := Lib.hid hm
           have hmb : m < 900000 := by omega
           clear hM hm
           go_upto_region 36 with (fail)
           refine wp_region_noPanic ?_
           refine ord_begin 18 (fun wx => Below wr.heap.size wr wx) (by kernel_rfl) ?_
           have hx0 : Below wr.heap.size wr wr.drew := (Below.refl _ _).drew
           refine ord_take (i := 0) (v := ?_) (by kernel_rfl) rfl (by decide) (by kernel_rfl) (by kernel_rfl) (fun _ _ _ h => h) (Or.inl ⟨by rfl, ?_⟩) hx0 ?_
           rotate_left
           ·intro wz hz; go_simp; (try with_reducible rfl)
           try simp only [Act.put, pu]
           refine ord_take (i := 1) (v := ?_) (by kernel_rfl) rfl (by decide) (by kernel_rfl) (by kernel_rfl) (fun _ _ _ h => h) (Or.inl ⟨by rfl, ?_⟩) hx0 ?_
           rotate_left
           ·intro wz hz; go_simp; (try with_reducible rfl)
           try simp only [Act.put, pu]
           refine ord_take (i := 2) (v := ?_) (by kernel_rfl) rfl (by decide) (by kernel_rfl) (by kernel_rfl) (fun _ _ _ h => h) (Or.inl ⟨by rfl, ?_⟩) hx0 ?_
           rotate_left
           ·intro wz hz; go_simp; (try with_reducible rfl)
           try simp only [Act.put, pu]
           refine ord_take (i := 3) (v := ?_) (by kernel_rfl) rfl (by decide) (by kernel_rfl) (by kernel_rfl) (fun _ _ _ h => h) (Or.inl ⟨by rfl, ?_⟩) hx0 ?_
           rotate_left
           ·intro wz hz; go_simp; (try with_reducible rfl)
           try simp only [Act.put, pu]
           refine ord_take (i := 4) (v := ?_) (by kernel_rfl) rfl (by decide) (by kernel_rfl) (by kernel_rfl) (fun _ _ _ h => h) (Or.inl ⟨by rfl, ?_⟩) hx0 ?_
           rotate_left
           ·intro wz hz; go_simp; (try with_reducible rfl)
           try simp only [Act.put, pu]
           refine ord_take (i := 5) (v := ?_) (by kernel_rfl) rfl (by decide) (by kernel_rfl) (by kernel_rfl) (fun _ _ _ h => h) (Or.inl ⟨by rfl, ?_⟩) hx0 ?_
           rotate_left
           ·intro wz hz; have z1 := (hz.cell (p := ⟨bA, _, none⟩) hb2).trans q1; go_simp; (try with_reducible rfl)
           try simp only [Act.put, pu]
           refine ord_take (i := 6) (v := ?_) (by kernel_rfl) rfl (by decide) (by kernel_rfl) (by kernel_rfl) (fun _ _ _ h => h) (Or.inl ⟨by rfl, ?_⟩) hx0 ?_
           rotate_left
           ·intro wz hz; go_simp; (try with_reducible rfl)
           try simp only [Act.put, pu]
           refine ord_take (i := 7) (v := ?_) (by kernel_rfl) rfl (by decide) (by kernel_rfl) (by kernel_rfl) (fun _ _ _ h => h) (Or.inl ⟨by rfl, ?_⟩) hx0 ?_
           rotate_left
           ·intro wz hz; go_simp; (try with_reducible rfl)
           try simp only [Act.put, pu]
           refine ord_take (i := 8) (v := ?_) (by kernel_rfl) rfl (by decide) (by kernel_rfl) (by kernel_rfl) (fun _ _ _ h => h) (Or.inl ⟨by rfl, ?_⟩) hx0 ?_
           rotate_left
           ·intro wz hz; have z3 := (hz.cell (p := ⟨ba, _, none⟩) hba).trans a0; have z4 := (hz.cell (p := ⟨ba, _, none⟩) hba).trans a1; have z5 := (hz.cell (p := ⟨ba, _, none⟩) hba).trans a2; have z6 := (hz.cell (p := ⟨ba, _, none⟩) hba).trans a3; have z7 := (hz.cell (p := ⟨ba, _, none⟩) hba).trans a4; have z8 := (hz.cell (p := ⟨ba, _, none⟩) hba).trans a5; have z9 := (hz.cell (p := ⟨ba, _, none⟩) hba).trans a6; have z10 := (hz.cell (p := ⟨ba, _, none⟩) hba).trans a7; have z11 := (hz.cell (p := ⟨ba, _, none⟩) hba).trans a8; go_simp; (try with_reducible rfl)
           try simp only [Act.put, pu]
           refine ord_take (i := 10) (v := ?_) (by kernel_rfl) rfl (by decide) (by kernel_rfl) (by kernel_rfl) (fun _ _ _ h => h) (Or.inl ⟨by rfl, ?_⟩) hx0 ?_
           rotate_left
           ·intro wz hz; go_simp; (try with_reducible rfl)
           try simp only [Act.put, pu]
           refine ord_take (i := 11) (v := ?_) (by kernel_rfl) rfl (by decide) (by kernel_rfl) (by kernel_rfl) (fun _ _ _ h => h) (Or.inl ⟨by rfl, ?_⟩) hx0 ?_
           rotate_left
           ·intro wz hz; go_simp; (try with_reducible rfl)
           try simp only [Act.put, pu]
           refine ord_take (i := 12) (v := ?_) (by kernel_rfl) rfl (by decide) (by kernel_rfl) (by kernel_rfl) (fun _ _ _ h => h) (Or.inl ⟨by rfl, ?_⟩) hx0 ?_
           rotate_left
           ·intro wz hz; go_simp; (try with_reducible rfl)
           try simp only [Act.put, pu]
           refine ord_take (i := 13) (v := ?_) (by kernel_rfl) rfl (by decide) (by kernel_rfl) (by kernel_rfl) (fun _ _ _ h => h) (Or.inl ⟨by rfl, ?_⟩) hx0 ?_
           rotate_left
           ·intro wz hz; go_simp; (try with_reducible rfl)
           try simp only [Act.put, pu]
           refine ord_take (i := 14) (v := ?_) (by kernel_rfl) rfl (by decide) (by kernel_rfl) (by kernel_rfl) (fun _ _ _ h => h) (Or.inl ⟨by rfl, ?_⟩) hx0 ?_
           rotate_left
           ·intro wz hz; have z2 := (hz.cell (p := ⟨bA, _, none⟩) hb2).trans q2; go_simp; (try with_reducible rfl)
           try simp only [Act.put, pu]
           refine ord_take (i := 15) (v := ?_) (by kernel_rfl) rfl (by decide) (by kernel_rfl) (by kernel_rfl) (fun _ _ _ h => h) (Or.inl ⟨by rfl, ?_⟩) hx0 ?_
           rotate_left
           ·intro wz hz; go_simp; (try with_reducible rfl)
           try simp only [Act.put, pu]
           refine ord_take (i := 16) (v := ?_) (by kernel_rfl) rfl (by decide) (by kernel_rfl) (by kernel_rfl) (fun _ _ _ h => h) (Or.inl ⟨by rfl, ?_⟩) hx0 ?_
           rotate_left
           ·intro wz hz; go_simp; (try with_reducible rfl)
           try simp only [Act.put, pu]
           refine ord_take (i := 17) (v := ?_) (by kernel_rfl) rfl (by decide) (by kernel_rfl) (by kernel_rfl) (fun _ _ _ h => h) (Or.inl ⟨by rfl, ?_⟩) hx0 ?_
           rotate_left
           ·intro wz hz; have z20 := (hz.cell (p := ⟨bs9, _, none⟩) hbs9).trans s0; go_simp; (try with_reducible rfl)
           try simp only [Act.put, pu]
           refine ord_step (i := 9) rfl (by decide) (by kernel_rfl) (by rfl) (fun K hK => ?_)
           go_simp
           refine (pback_any ⟨f, t1, ch, r_, p0, p1, p2, p3, p4⟩ wr.drew).mono ?_
           rintro y X36_1 ⟨rfl, hb⟩
           have hx1 := bltB hx0 hx0.size hb
           clear hb hx0
           refine hK _ _ hx1 ?_
           clear hK K
           try simp only [Act.put, pu]
           refine ord_rest (by kernel_rfl) ?_
           refine any_step (i := 18) rfl (by kernel_rfl) (by rfl) (fun K hK => ?_)
           go_simp
           refine (moved_any X36_1 pm bm m L3 (HMM.out.on hx1) HPX.out.good hmb (backE ⟨f, t1, ch, r_, p0, p1, p2, p3, p4⟩) x).mono ?_
           rintro y W9 ⟨rfl, hM2, hg2⟩
           refine hK _ _ ?_
           clear hK K
           try simp only [Act.put, pu]
           refine wpAny_done (by kernel_rfl) ?_ _
           refine NoPanic.normal ?_
           have HPY : Hid (PayAt W6 W9 p go co bh own lost pm bm Sq (moveL L3 (backE ⟨f, t1, ch, r_, p0, p1, p2, p3, p4⟩).e4 x) (K0 + 600 * t + 40 * i + 30 * (kk - (q + 1)) + 8 + 2 * (j2 + 1))) := Lib.hid ((HPX.out.on (w' := X36_1) hx1).note hM2 (HPX.out.good.move _ _) (Gr.of_grown (M := (· = bm)) hg2 rfl) (by have := HMK.out; omega) (by omega))
           clear hM2 hg2 a0 a1 a2 a3 a4 a5 a6 a7 a8 s0 q0 q1 q2 q3
           go_wp2_with fail
           go_roundw
           case rel => exact ⟨j2 + 1, _, by omega, by go_num, HMQ2, HPY⟩
           case measure => simp [intOf]; omega
          ·have hjn : j2 = ns := by omega
           have HL3 : Hid (L3 = mvL L2 (P3.way.map backE) P3.s) := Lib.hid (by
            have h1 := HMQ.out
            rw [List.drop_of_length_le (by rw [hjn, List.length_map]; exact Nat.le_of_eq HMW.out)] at h1
            exact h1)
           have HJQ2 : Hid (bkL L3 ((ps.take q).reverse) = bkL Lk ((ps.take kk).reverse)) := Lib.hid (by rw [← HJQ.out, HTKS.out, bk_cons, HL3.out])
           have HPJ2 : Hid (PayAt W3 wr p go co bh own lost pm bm (stF S0 (ps.take q)) L3 (K0 + 600 * t + 40 * i + 30 * (kk - q))) := Lib.hid (by rw [HSQ.out]; exact HPX3.out.more (by omega))
           have hwq : wrap64 ((q : Int) - 1) = (q : Int) - 1 := wrap64_of_isI ⟨by omega, by omega⟩
           clear rW rS HMQ HPX HPX3
           go_wp2_with fail
           go_roundw
           case rel => exact ⟨q, L3, by omega, (by first | rfl | exact congrArg (Value.int .i64) (by omega) | (rw [hwq])), HJQ2, HPJ2⟩
           case measure => (try rw [hwq]); simp [intOf] <;> omega)
  ·have ht12 : t = 12 := by omega
   subst ht12
   have HR : Hid (planF g fr td a (N : Int) 12 0 S0 L0 = ⟨false, [], 12, S0, L⟩) := Lib.hid (by rw [← HQ.out]; rfl)
   have k14 := HK14.out
   clear d2
   have y0 := k15.cell 0
   have y1 := k15.cell 1
   have y2 := k15.cell 2
   have y3 := k15.cell 3
   have x0 := k14.cell 0
   have x1 := k14.cell 1
   have x2 := k14.cell 2
   have x3 := k14.cell 3
   have f0 := k14.frozen 0
   have f1 := k14.frozen 1
   have f2 := k14.frozen 2
   have f3 := k14.frozen 3
   simp at y0 y1 y2 y3 x0 x1 x2 x3
   have k9 := (((k14.set_ 0 (.bool false)).set_ 1 (.slice none 0 0)).set_ 2 (.int .i64 12)).set_ 3 (.bool true)
   obtain ⟨W9, hW9⟩ : ∃ W, W = (((wr.setCell ⟨b14, 0, none⟩ (.bool false)).setCell ⟨b14, 1, none⟩ (.slice none 0 0)).setCell ⟨b14, 2, none⟩ (.int .i64 12)).setCell ⟨b14, 3, none⟩ (.bool true) := ⟨_, rfl⟩
   have hg9 : Gr (· = b14) wr W9 := by rw [hW9]; exact ((((Gr.refl (· = b14) wr).setCell (g := b14) (i := 0) (fun _ => show b14 = b14 from rfl) _).setCell (g := b14) (i := 1) (fun _ => show b14 = b14 from rfl) _).setCell (g := b14) (i := 2) (fun _ => show b14 = b14 from rfl) _).setCell (g := b14) (i := 3) (fun _ => show b14 = b14 from rfl) _
   rw [← hW9] at k9
   have HK9 := Lib.hid k9
   clear k9
   have HP9 : Hid (PayAt w W9 p go co bh own lost pm bm S0 L (K0 + 600 * 12)) := Lib.hid (by
    have hq := HP.out
    obtain ⟨bs, ns, q1, q2, q3⟩ := hq.led
    obtain ⟨m9, q4, q5⟩ := hq.mind
    exact hq.box hg9 k14 (by decide) (by have := HBN.out; omega))
   have HRT : Hid (RetPl w p go co bh own lost pm bm (K0 + 7200) (planF g fr td a (N : Int) 12 0 S0 L0) (.returned (.agg #[.bool false, .slice none 0 0, .int .i64 12, .bool true])) W9) := Lib.hid (by rw [HR.out]; exact ⟨none, 0, rfl, RP.nil _, HP9.out.more (by omega)⟩)
   clear hg9 k14 k15
   go_wp2_with fail
   rw [← hW9]
   refine bodyPost_ret (v := .agg #[.bool false, .slice none 0 0, .int .i64 12, .bool true]) ?_ rfl HRT.out
   have r0 := HK9.out.cell 0
   have r1 := HK9.out.cell 1
   have r2 := HK9.out.cell 2
   have r3 := HK9.out.cell 3
   simp at r0 r1 r2 r3
   simp [results, Tryz.f12, go_sem, r0, r1, r2, r3]
end Go.Proofs.YthefgdehfgkhhaaGreat
