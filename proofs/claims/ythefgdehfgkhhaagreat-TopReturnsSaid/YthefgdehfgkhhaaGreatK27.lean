/-
  TopReturns: what was settled over a way is known to come back.
-/
import Derived.Test.YthefgdehfgkhhaaGreatK01
import Derived.Test.YthefgdehfgkhhaaGreatK26
import Derived.Test.YthefgdehfgkhhaaGreatRows
import Derived.ProofKit
import Derived.Deep.Slices
import Derived.Deep.Fields
import Derived.ChangeSame
import Derived.OpenShut
import Derived.SizedLaws
import Derived.Lib.SmallJoins
namespace Go.Proofs.YthefgdehfgkhhaaGreat
open Go.RowKit Go.Maps
set_option linter.unusedVariables false
set_option linter.unusedSimpArgs false
attribute [local go_sem] Oper.semAt_some
set_option maxRecDepth 100000 in
set_option maxHeartbeats 8000000 in
theorem tret_any (w : World) (A : Option Addr) (n c : Nat) (ls : List Lk) (h : RK w A n ls) (hl : ∀ l ∈ ls, l.ok) (fr td am : Nat) (hfr : fr < 256) (htd : td < 256) (ham : am < 65536) :
 Calls Tryz.prog 4 #[.slice A n c, .int .u8 (fr : Int), .int .u8 (td : Int), .int .u16 (am : Int)] w fun e w' => e = .returned (.bool true) ∧ Below w.heap.size w w' := by
 have HR := Lib.hid h
 have HOK := Lib.hid hl
 obtain ⟨fr5, hf5⟩ : ∃ z : Nat, fr % 5 = z := ⟨_, rfl⟩
 obtain ⟨td5, ht5⟩ : ∃ z : Nat, td % 5 = z := ⟨_, rfl⟩
 have hq1 : fr5 < 5 := by omega
 have hq2 : td5 < 5 := by omega
 have ef5 : (fr : Int) % 5 = (fr5 : Int) := by omega
 have et5 : (td : Int) % 5 = (td5 : Int) := by omega
 clear h hl hf5 ht5
 go_enter Tryz.func4, Tryz.ntmps4
 go_wp2_with fail
 refine (awake_any w).mono ?_
 rintro y W1 ⟨rfl, hb⟩
 have HB1 := Lib.hid hb
 clear hb
 go_wp2_with fail
 refine (net_any W1 A n c ls (HR.out.on HB1.out) HOK.out).mono ?_
 rintro y W2 ⟨p, go, co, bs, bh, ns, Ag, cg, rfl, hL, hns, hg, hlen, hb, hpn⟩
 have HL2 := Lib.hid hL
 have HG2 := Lib.hid hg
 have HNS := Lib.hid hns
 have HLE := Lib.hid hlen
 have HPW : Hid (w.heap.size ≤ p) := Lib.hid (Nat.le_trans HB1.out.size hpn)
 have HB2 := Lib.hid (bltB HB1.out HB1.out.size hb)
 clear hL hg hns hlen hb hpn HB1
 obtain ⟨NG, hNG⟩ : ∃ z, (ofG (netO ls).es).length = z := ⟨_, rfl⟩
 rw [hNG] at HG2 HLE ⊢
 clear hNG
 go_wp2_with fail
 refine (lnew_any W2).mono ?_
 rintro y W3 ⟨pm, bm, rfl, hM, hpm, hbm, hb⟩
 have HL3 := Lib.hid (HL2.out.on hb)
 have HG3 := Lib.hid (HG2.out.on hb)
 have HM3 := Lib.hid hM
 have HB3 := Lib.hid (bltB HB2.out HB2.out.size hb)
 have HFR : Hid (w.heap.size ≤ p ∧ w.heap.size ≤ bm) := Lib.hid (by have h1 := HB2.out.size; have h2 := HPW.out; omega)
 have HNE : Hid (bs ≠ bm ∧ bh ≠ bm) := Lib.hid (by
  have h1 := HL2.out.map.lt
  obtain ⟨es, cl, hm, _⟩ := HL2.out.hold
  have h2 := blk_lt hm
  omega)
 clear hM hb hpm hbm HL2 HG2 HB2 HPW
 go_upto_region 6 with (fail)
 go_wp2_with fail
 rw [ef5, et5]
 clear ef5 et5
 have HPP := planpay_any W3 p go co bh _ 0 pm bm (netO ls).S [] 8 (pay_start HL3.out HM3.out HNE.out.1 HNE.out.2 HNS.out) (by omega) Ag NG cg _ HG3.out (by have := HLE.out; omega) (net_inv HOK.out) (fr5 : Int) (td5 : Int) ((1 : Int) + (am : Int)) 1 (by omega) (by omega)
 have HOB := Lib.hid (fun hp => one_back (g := ofG (netO ls).es) (fr := (fr5 : Int)) (td := (td5 : Int)) (a := (1 : Int) + (am : Int)) (S := (netO ls).S) (f := 12) (t := 0) (L := []) Good.nil (net_inv HOK.out) hp)
 obtain ⟨RR, hRR⟩ : ∃ z, (planF (ofG (netO ls).es) (fr5 : Int) (td5 : Int) ((1 : Int) + (am : Int)) ((1 : Nat) : Int) 12 0 (netO ls).S []) = z := ⟨_, rfl⟩
 rw [hRR] at HPP HOB
 refine HPP.mono ?_
 rintro y W4 ⟨A4, c4, rfl, hrp, hpay⟩
 clear hRR HPP HL3 HM3 HNE HNS
 obtain ⟨paid, parts, tries, S4, L4⟩ := RR
 dsimp only at hrp hpay ⊢
 have HB4 : Hid (Below w.heap.size w W4) := Lib.hid (HB3.out.trans (hpay.gr.below (B := w.heap.size) HB3.out.size (fun k hk e => by have h1 := HFR.out; omega)))
 have HP4 := Lib.hid hpay
 obtain ⟨NP, hNP⟩ : ∃ z, parts.length = z := ⟨_, rfl⟩
 rw [hNP] at hrp ⊢
 have HRP4 := Lib.hid hrp
 have HNP := Lib.hid hNP
 clear hpay hrp hNP HB3 HG3 HLE
 go_upto_region 7 with (fail)
 obtain ⟨W5, hW5⟩ : ∃ W, W = W4.alloc (.cells #[.bool paid, .slice A4 NP c4, .int .i64 (tries : Int), .bool true] 45) := ⟨_, rfl⟩
 have hb5 : Below W4.heap.size W4 W5 := by rw [hW5]; exact (Below.refl _ _).alloc (Nat.le_refl _) _
 have k13 : Blk W5 W4.heap.size 45 #[.bool paid, .slice A4 NP c4, .int .i64 (tries : Int), .bool true] := by rw [hW5]; exact Blk.new W4 _ _
 rw [← hW5]
 obtain ⟨G13, hG13⟩ : ∃ z, W4.heap.size = z := ⟨_, rfl⟩
 rw [hG13] at k13 ⊢
 have HP5 := Lib.hid (HP4.out.on hb5)
 have HRP5 := Lib.hid (HRP4.out.on hb5)
 have HB5 := Lib.hid (bltB HB4.out HB4.out.size hb5)
 clear hW5 hb5 hG13 HP4 HRP4 HB4
 have y0 := k13.cell 0
 have y1 := k13.cell 1
 have y2 := k13.cell 2
 have y3 := k13.cell 3
 simp at y0 y1 y2 y3
 cases paid with
 | false =>
  clear HOB
  go_wp2_with fail
  go_ret
  exact ⟨rfl, HB5.out⟩
 | true =>
  obtain ⟨P, hps, hpk, hgi, hodd, hback⟩ := HOB.out rfl
  dsimp only at hps hgi hodd hback
  subst hps
  have hNP1 : NP = 1 := HNP.out.symm
  subst hNP1
  have HPK := Lib.hid hpk
  have HGI := Lib.hid hgi
  have HOD := Lib.hid hodd
  have HBK := Lib.hid hback
  clear hpk hgi hodd hback HOB HNP
  go_wp2_with fail
  refine (fof_v W5 1 1 (by decide) (by decide)).mono ?_
  rintro y W6 ⟨v_o, rfl, I_o, hb⟩
  rw [show decide (0 < 1) = true from rfl]
  replace I_o := I_o.as (show mkRat ((1 : Nat) : Int) 1 = 1 from rfl)
  have HP6 := Lib.hid (HP5.out.on hb)
  have HRP6 := Lib.hid (HRP5.out.on hb)
  have HB6 := Lib.hid (bltB HB5.out HB5.out.size hb)
  replace k13 := k13.below hb k13.lt
  clear hb HRP5 HB5 y0 y1 y2 y3
  obtain ⟨A_o, n_o, c_o, B_o, m_o, d_o, rfl, hI⟩ := I_o
  have I_o : IsQ W6 (.agg #[.slice A_o n_o c_o, .slice B_o m_o d_o]) _ _ := ⟨_, _, _, _, _, _, rfl, hI⟩
  clear hI
  go_upto_region 12 with (fail)
  obtain ⟨W7, hW7⟩ : ∃ W, W = W6.alloc (.cells #[.slice A_o n_o c_o, .slice B_o m_o d_o] 34) := ⟨_, rfl⟩
  have hb : Below W6.heap.size W6 W7 := by rw [hW7]; exact (Below.refl _ _).alloc (Nat.le_refl _) _
  have k14 : Blk W7 W6.heap.size 34 #[.slice A_o n_o c_o, .slice B_o m_o d_o] := by rw [hW7]; exact Blk.new W6 _ _
  rw [← hW7]
  obtain ⟨G14, hG14⟩ : ∃ G, W6.heap.size = G := ⟨_, rfl⟩
  rw [hG14] at k14 ⊢
  replace k13 := k13.below hb k13.lt
  have IO7 := Lib.hid (I_o.on hb)
  have HP7 := Lib.hid (HP6.out.on hb)
  have HRP7 := Lib.hid (HRP6.out.on hb)
  have HB7 := Lib.hid (bltB HB6.out HB6.out.size hb)
  clear hb hW7 hG14 I_o HP6 HRP6 HB6
  obtain ⟨b2, o2, P3, Aw, nw, cw, As, ns_, cs, At, nt, ct, hA, hb2, hx, hpv, q0, q1, q2, q3⟩ := HRP7.out.at_ (show 0 < 1 by decide)
  have hPP : P = P3 := by simpa using hx
  subst hPP
  subst hA
  clear hx
  have HPV := Lib.hid hpv
  obtain ⟨pa, hpa⟩ : ∃ z, P.a = z := ⟨_, rfl⟩
  rw [hpa] at q0 HPV
  clear hpv hpa
  have x1 := k13.cell 1
  simp at x1 q0 q1 q2 q3
  go_upto_region 15 with (fail)
  obtain ⟨W8, hW8⟩ : ∃ W, W = W7.alloc (.cells #[.int .i64 pa, .slice Aw nw cw, .slice As ns_ cs, .slice At nt ct] 51) := ⟨_, rfl⟩
  have hb : Below W7.heap.size W7 W8 := by rw [hW8]; exact (Below.refl _ _).alloc (Nat.le_refl _) _
  have k16 : Blk W8 W7.heap.size 51 #[.int .i64 pa, .slice Aw nw cw, .slice As ns_ cs, .slice At nt ct] := by rw [hW8]; exact Blk.new W7 _ _
  rw [← hW8]
  obtain ⟨G16, hG16⟩ : ∃ G, W7.heap.size = G := ⟨_, rfl⟩
  rw [hG16] at k16 ⊢
  have HK14 := Lib.hid (k14.below hb k14.lt)
  have HK16 := Lib.hid k16
  have IO8 := Lib.hid (IO7.out.on hb)
  have HP8 := Lib.hid (HP7.out.on hb)
  have HPV8 := Lib.hid (HPV.out.on hb)
  have HB8 := Lib.hid (bltB HB7.out HB7.out.size hb)
  clear hb hW8 hG16 IO7 HP7 HPV HB7 HRP7 q0 q1 q2 q3 x1 k13 k14 k16 hb2
  obtain ⟨Aw2, nw2, cw2, As2, ns2, cs2, At2, nt2, ct2, ecs, rW, rS, rT, hn8, hnn⟩ := HPV8.out
  simp at ecs
  obtain ⟨e0, ⟨rfl, rfl, rfl⟩, ⟨rfl, rfl, rfl⟩, rfl, rfl, rfl⟩ := ecs
  subst hnn
  have HRW := Lib.hid rW
  have HRS := Lib.hid rS
  clear rW rS rT e0
  obtain ⟨m5, hm5, hM5⟩ := HP8.out.mind
  have HM8 := Lib.hid hM5
  clear hM5 hm5
  go_wp2_with fail
  go_loopw [17] (fun iv wr => ∃ i : Nat, i ≤ ns_ ∧ iv = .int .i64 i ∧ Hid (Below W8.heap.size W8 wr)) (fun iv _ => ns_ - (intOf iv).toNat)
  case atStart => exact ⟨0, Nat.zero_le _, rfl, Lib.hid (Below.refl _ _)⟩
  case round =>
   obtain ⟨i, hi, rfl, HB⟩ := hrel
   have k16 := HK16.out.below HB.out HK16.out.lt
   have y1 := k16.cell 1
   have y2 := k16.cell 2
   simp at y1 y2
   by_cases hlt : i < ns_
   ·have hlt' : (i : Int) < (ns_ : Int) := by omega
    obtain ⟨ba, oa, e, hA, hba, hx, _, a0, a1, a2, a3, a4, a5, a6, a7, a8⟩ := (HRW.out.on HB.out).edge hlt
    obtain ⟨bs9, os9, hAs, hbs9, hxs, s0⟩ := (HRS.out.on HB.out).num hlt
    subst hA
    subst hAs
    obtain ⟨x, hxx⟩ : ∃ z, P.s.getD i 0 = z := ⟨_, rfl⟩
    rw [hxx] at s0 hxs
    have HOX := Lib.hid (HOD.out i e x hx hxs)
    clear hx hxs hxx
    obtain ⟨f, t1, ch, r_, p0, p1, p2, p3, p4⟩ := e
    dsimp only at a0 a1 a2 a3 a4 a5 a6 a7 a8
    have HMW := Lib.hid (HM8.out.on HB.out)
    have k14 := HK14.out.below HB.out HK14.out.lt
    have IOq := IO8.out.on HB.out
    go_upto_region 18 with (fail)
    refine wp_region_noPanic ?_
    refine ord_begin 18 (fun wx => Below wr.heap.size wr wx) (by kernel_rfl) ?_
    have hx0 : Below wr.heap.size wr wr.drew := (Below.refl _ _).drew
    refine ord_funnelV (F := ?F18) (k := 2) #[true, true, true, true, true, true, true, true, true, true, true, true, true, true, true, true, true, false, false] (fun y G X => IsQ X y (oddQ L4 (backE ⟨f, t1, ch, r_, p0, p1, p2, p3, p4⟩) x) 2 ∧ Blk X G 34 #[.slice none 0 0, .slice none 0 0] ∧ Below wr.heap.size wr X ∧ wr.heap.size ≤ G) ?_ ?_
    rotate_left
    ·intro HQ
     refine ord_take (i := 0) (v := ?_) (by kernel_rfl) rfl (by decide) (by kernel_rfl) (by kernel_rfl) (fun _ _ _ h => h) (Or.inl ⟨by rfl, ?_⟩) hx0 ?_
     rotate_left
     ·intro wz hz; go_simp; (try with_reducible rfl)
     try simp only [Act.put, pu]
     refine ord_take (i := 1) (v := ?_) (by kernel_rfl) rfl (by decide) (by kernel_rfl) (by kernel_rfl) (fun _ _ _ h => h) (Or.inl ⟨by rfl, ?_⟩) hx0 ?_
     rotate_left
     ·intro wz hz; go_simp; (try with_reducible rfl)
     try simp only [Act.put, pu]
     refine ord_take (i := 2) (v := ?_) (by kernel_rfl) rfl (by decide) (by kernel_rfl) (by kernel_rfl) (fun _ _ _ h => h) (Or.inl ⟨by rfl, ?_⟩) hx0 ?_
     rotate_left
     ·intro wz hz; have j3 := k16.below hz k16.lt; have z1 := j3.cell 1; have z2 := j3.cell 2; simp at z1 z2; go_simp; (try with_reducible rfl)
     try simp only [Act.put, pu]
     refine ord_take (i := 3) (v := ?_) (by kernel_rfl) rfl (by decide) (by kernel_rfl) (by kernel_rfl) (fun _ _ _ h => h) (Or.inl ⟨by rfl, ?_⟩) hx0 ?_
     rotate_left
     ·intro wz hz; go_simp; (try with_reducible rfl)
     try simp only [Act.put, pu]
     refine ord_take (i := 4) (v := ?_) (by kernel_rfl) rfl (by decide) (by kernel_rfl) (by kernel_rfl) (fun _ _ _ h => h) (Or.inl ⟨by rfl, ?_⟩) hx0 ?_
     rotate_left
     ·intro wz hz; go_simp; (try with_reducible rfl)
     try simp only [Act.put, pu]
     refine ord_take (i := 5) (v := ?_) (by kernel_rfl) rfl (by decide) (by kernel_rfl) (by kernel_rfl) (fun _ _ _ h => h) (Or.inl ⟨by rfl, ?_⟩) hx0 ?_
     rotate_left
     ·intro wz hz; have z3 := (hz.cell (p := ⟨ba, _, none⟩) hba).trans a0; have z4 := (hz.cell (p := ⟨ba, _, none⟩) hba).trans a1; have z5 := (hz.cell (p := ⟨ba, _, none⟩) hba).trans a2; have z6 := (hz.cell (p := ⟨ba, _, none⟩) hba).trans a3; have z7 := (hz.cell (p := ⟨ba, _, none⟩) hba).trans a4; have z8 := (hz.cell (p := ⟨ba, _, none⟩) hba).trans a5; have z9 := (hz.cell (p := ⟨ba, _, none⟩) hba).trans a6; have z10 := (hz.cell (p := ⟨ba, _, none⟩) hba).trans a7; have z11 := (hz.cell (p := ⟨ba, _, none⟩) hba).trans a8; go_simp; (try with_reducible rfl)
     try simp only [Act.put, pu]
     refine ord_take (i := 7) (v := ?_) (by kernel_rfl) rfl (by decide) (by kernel_rfl) (by kernel_rfl) (fun _ _ _ h => h) (Or.inl ⟨by rfl, ?_⟩) hx0 ?_
     rotate_left
     ·intro wz hz; go_simp; (try with_reducible rfl)
     try simp only [Act.put, pu]
     refine ord_take (i := 8) (v := ?_) (by kernel_rfl) rfl (by decide) (by kernel_rfl) (by kernel_rfl) (fun _ _ _ h => h) (Or.inl ⟨by rfl, ?_⟩) hx0 ?_
     rotate_left
     ·intro wz hz; have j3 := k16.below hz k16.lt; have z1 := j3.cell 1; have z2 := j3.cell 2; simp at z1 z2; go_simp; (try with_reducible rfl)
     try simp only [Act.put, pu]
     refine ord_take (i := 9) (v := ?_) (by kernel_rfl) rfl (by decide) (by kernel_rfl) (by kernel_rfl) (fun _ _ _ h => h) (Or.inl ⟨by rfl, ?_⟩) hx0 ?_
     rotate_left
     ·intro wz hz; go_simp; (try with_reducible rfl)
     try simp only [Act.put, pu]
     refine ord_take (i := 10) (v := ?_) (by kernel_rfl) rfl (by decide) (by kernel_rfl) (by kernel_rfl) (fun _ _ _ h => h) (Or.inl ⟨by rfl, ?_⟩) hx0 ?_
     rotate_left
     ·intro wz hz; go_simp; (try with_reducible rfl)
     try simp only [Act.put, pu]
     refine ord_take (i := 11) (v := ?_) (by kernel_rfl) rfl (by decide) (by kernel_rfl) (by kernel_rfl) (fun _ _ _ h => h) (Or.inl ⟨by rfl, ?_⟩) hx0 ?_
     rotate_left
     ·intro wz hz; have z20 := (hz.cell (p := ⟨bs9, _, none⟩) hbs9).trans s0; go_simp; (try with_reducible rfl)
     try simp only [Act.put, pu]
     refine ord_step2 (i := 6) (k := 16) rfl rfl (by decide) (by decide) (by kernel_rfl) (by rfl) (by rfl) (fun K hK => ?_) (fun K hK => ?_)
     ·go_simp
      refine (pback_any ⟨f, t1, ch, r_, p0, p1, p2, p3, p4⟩ wr.drew).mono ?_
      rintro y X18_1 ⟨rfl, hb⟩
      have hx1 := bltB hx0 hx0.size hb
      clear hb
      refine hK _ _ hx1 ?_
      clear hK K
      try simp only [Act.put, pu]
      refine ord_step2 (i := 12) (k := 16) rfl rfl (by decide) (by decide) (by kernel_rfl) (by rfl) (by rfl) (fun K hK => ?_) (fun K hK => ?_)
      ·go_simp
       refine (odds_v X18_1 pm bm m5 L4 (HMW.out.on hx1) HP5.out.good (backE ⟨f, t1, ch, r_, p0, p1, p2, p3, p4⟩) x HOX.out.1).mono ?_
       rintro y X18_2 ⟨v_x, rfl, I_x, hb⟩
       have hx2 := bltB hx1 hx1.size hb
       clear hb
       refine hK _ _ hx2 ?_
       clear hK K
       try simp only [Act.put, pu]
       refine ord_take (i := 13) (v := ?_) (by kernel_rfl) rfl (by decide) (by kernel_rfl) (by kernel_rfl) (fun _ _ _ h => h) (Or.inl ⟨by rfl, ?_⟩) hx2 ?_
       rotate_left
       ·intro wz hz; go_simp; (try with_reducible rfl)
       try simp only [Act.put, pu]
       refine ord_take (i := 14) (v := ?_) (by kernel_rfl) rfl (by decide) (by kernel_rfl) (by kernel_rfl) (fun _ _ _ h => h) (Or.inl ⟨by rfl, ?_⟩) hx2 ?_
       rotate_left
       ·intro wz hz; go_simp; (try with_reducible rfl)
       try simp only [Act.put, pu]
       refine ord_take (i := 15) (v := ?_) (by kernel_rfl) rfl (by decide) (by kernel_rfl) (by kernel_rfl) (fun _ _ _ h => h) (Or.inl ⟨by rfl, ?_⟩) hx2 ?_
       rotate_left
       ·intro wz hz; go_simp; (try with_reducible rfl)
       try simp only [Act.put, pu]
       refine ord_step (i := 16) rfl (by decide) (by kernel_rfl) (by rfl) (fun K hK => ?_)
       go_simp
       obtain ⟨G_x, hG⟩ : ∃ G, X18_2.heap.size = G := ⟨_, rfl⟩
       have hN : Blk (X18_2.alloc (.cells #[.slice none 0 0, .slice none 0 0] 34)) G_x 34 #[.slice none 0 0, .slice none 0 0] := hG ▸ Blk.new X18_2 _ _
       have hG2 : wr.heap.size ≤ G_x := hG ▸ hx2.size
       have hb : Below X18_2.heap.size X18_2 (X18_2.alloc (.cells #[.slice none 0 0, .slice none 0 0] 34)) := (Below.refl _ _).alloc (Nat.le_refl _) _
       replace I_x := I_x.on hb
       rw [hG]
       have hx3 := bltB hx2 hx2.size hb
       clear hb
       refine hK _ _ hx3 ?_
       clear hK K
       try simp only [Act.put, pu]
       generalize X18_2.alloc (.cells #[.slice none 0 0, .slice none 0 0] 34) = Y18_3 at hN hx3 I_x ⊢
       clear hG
       refine ord_relist #[true, true, true, true, true, true, true, true, true, true, true, true, true, true, true, true, true, false, false] (by kernel_rfl) ?_
       exact HQ v_x G_x _ ⟨I_x, hN, hx3, hG2⟩
      ·go_simp
       obtain ⟨G_x, hG⟩ : ∃ G, X18_1.heap.size = G := ⟨_, rfl⟩
       have hN : Blk (X18_1.alloc (.cells #[.slice none 0 0, .slice none 0 0] 34)) G_x 34 #[.slice none 0 0, .slice none 0 0] := hG ▸ Blk.new X18_1 _ _
       have hG2 : wr.heap.size ≤ G_x := hG ▸ hx1.size
       have hb : Below X18_1.heap.size X18_1 (X18_1.alloc (.cells #[.slice none 0 0, .slice none 0 0] 34)) := (Below.refl _ _).alloc (Nat.le_refl _) _
       rw [hG]
       have hx4 := bltB hx1 hx1.size hb
       clear hb
       refine hK _ _ hx4 ?_
       clear hK K
       try simp only [Act.put, pu]
       generalize X18_1.alloc (.cells #[.slice none 0 0, .slice none 0 0] 34) = Y18_4 at hN hx4  ⊢
       clear hG
       refine ord_step (i := 12) rfl (by decide) (by kernel_rfl) (by rfl) (fun K hK => ?_)
       go_simp
       refine (odds_v Y18_4 pm bm m5 L4 (HMW.out.on hx4) HP5.out.good (backE ⟨f, t1, ch, r_, p0, p1, p2, p3, p4⟩) x HOX.out.1).mono ?_
       rintro y X18_5 ⟨v_x, rfl, I_x, hb⟩
       replace hN := hN.below hb hN.lt
       have hx5 := bltB hx4 hx4.size hb
       clear hb
       refine hK _ _ hx5 ?_
       clear hK K
       try simp only [Act.put, pu]
       refine ord_take (i := 13) (v := ?_) (by kernel_rfl) rfl (by decide) (by kernel_rfl) (by kernel_rfl) (fun _ _ _ h => h) (Or.inl ⟨by rfl, ?_⟩) hx5 ?_
       rotate_left
       ·intro wz hz; go_simp; (try with_reducible rfl)
       try simp only [Act.put, pu]
       refine ord_take (i := 14) (v := ?_) (by kernel_rfl) rfl (by decide) (by kernel_rfl) (by kernel_rfl) (fun _ _ _ h => h) (Or.inl ⟨by rfl, ?_⟩) hx5 ?_
       rotate_left
       ·intro wz hz; go_simp; (try with_reducible rfl)
       try simp only [Act.put, pu]
       refine ord_take (i := 15) (v := ?_) (by kernel_rfl) rfl (by decide) (by kernel_rfl) (by kernel_rfl) (fun _ _ _ h => h) (Or.inl ⟨by rfl, ?_⟩) hx5 ?_
       rotate_left
       ·intro wz hz; go_simp; (try with_reducible rfl)
       try simp only [Act.put, pu]
       refine ord_relist #[true, true, true, true, true, true, true, true, true, true, true, true, true, true, true, true, true, false, false] (by kernel_rfl) ?_
       exact HQ v_x G_x _ ⟨I_x, hN, hx5, hG2⟩
     ·go_simp
      obtain ⟨G_x, hG⟩ : ∃ G, wr.heap.size = G := ⟨_, rfl⟩
      have hN : Blk ((wr.alloc (.cells #[.slice none 0 0, .slice none 0 0] 34)).drew) G_x 34 #[.slice none 0 0, .slice none 0 0] := hG ▸ (Blk.new wr _ _).drew
      have hG2 : wr.heap.size ≤ G_x := hG ▸ Nat.le_refl _
      rw [hG]
      have hx6 : Below wr.heap.size wr ((wr.alloc (.cells #[.slice none 0 0, .slice none 0 0] 34)).drew) := ((Below.refl _ _).alloc (Nat.le_refl _) _).drew
      refine hK _ _ hx6 ?_
      clear hK K
      try simp only [Act.put, pu]
      generalize (wr.alloc (.cells #[.slice none 0 0, .slice none 0 0] 34)).drew = Y18_6 at hN hx6 ⊢
      clear hG
      refine ord_step (i := 6) rfl (by decide) (by kernel_rfl) (by rfl) (fun K hK => ?_)
      go_simp
      refine (pback_any ⟨f, t1, ch, r_, p0, p1, p2, p3, p4⟩ Y18_6).mono ?_
      rintro y X18_7 ⟨rfl, hb⟩
      replace hN := hN.below hb hN.lt
      have hx7 := bltB hx6 hx6.size hb
      clear hb
      refine hK _ _ hx7 ?_
      clear hK K
      try simp only [Act.put, pu]
      refine ord_step (i := 12) rfl (by decide) (by kernel_rfl) (by rfl) (fun K hK => ?_)
      go_simp
      refine (odds_v X18_7 pm bm m5 L4 (HMW.out.on hx7) HP5.out.good (backE ⟨f, t1, ch, r_, p0, p1, p2, p3, p4⟩) x HOX.out.1).mono ?_
      rintro y X18_8 ⟨v_x, rfl, I_x, hb⟩
      replace hN := hN.below hb hN.lt
      have hx8 := bltB hx7 hx7.size hb
      clear hb
      refine hK _ _ hx8 ?_
      clear hK K
      try simp only [Act.put, pu]
      refine ord_take (i := 13) (v := ?_) (by kernel_rfl) rfl (by decide) (by kernel_rfl) (by kernel_rfl) (fun _ _ _ h => h) (Or.inl ⟨by rfl, ?_⟩) hx8 ?_
      rotate_left
      ·intro wz hz; go_simp; (try with_reducible rfl)
      try simp only [Act.put, pu]
      refine ord_take (i := 14) (v := ?_) (by kernel_rfl) rfl (by decide) (by kernel_rfl) (by kernel_rfl) (fun _ _ _ h => h) (Or.inl ⟨by rfl, ?_⟩) hx8 ?_
      rotate_left
      ·intro wz hz; go_simp; (try with_reducible rfl)
      try simp only [Act.put, pu]
      refine ord_take (i := 15) (v := ?_) (by kernel_rfl) rfl (by decide) (by kernel_rfl) (by kernel_rfl) (fun _ _ _ h => h) (Or.inl ⟨by rfl, ?_⟩) hx8 ?_
      rotate_left
      ·intro wz hz; go_simp; (try with_reducible rfl)
      try simp only [Act.put, pu]
      refine ord_relist #[true, true, true, true, true, true, true, true, true, true, true, true, true, true, true, true, true, false, false] (by kernel_rfl) ?_
      exact HQ v_x G_x _ ⟨I_x, hN, hx8, hG2⟩
    rintro v_x G_x Z18 ⟨I_x, hN, hx, hG2⟩
    obtain ⟨A_x, n_x, c_x, B_x, m_x, d_x, rfl, hI⟩ := I_x
    have I_x : IsQ Z18 (.agg #[.slice A_x n_x c_x, .slice B_x m_x d_x]) _ _ := ⟨_, _, _, _, _, _, rfl, hI⟩
    clear hI
    have hc0 := hN.cell 0
    have hc1 := hN.cell 1
    have hf0 := hN.frozen 0
    have hf1 := hN.frozen 1
    refine ord_step (i := 17) rfl (by decide) (by kernel_rfl) (by rfl) (fun K hK => ?_)
    go_simp
    obtain ⟨k_x, I_x, hx⟩ := isq_store hN I_x hx hG2
    clear hc0 hc1 hf0 hf1 hN
    generalize (Z18.setCell ⟨G_x, 0, none⟩ (.slice A_x n_x c_x)).setCell ⟨G_x, 1, none⟩ (.slice B_x m_x d_x) = V18 at k_x I_x hx ⊢
    refine hK _ _ hx ?_
    clear hK K
    try simp only [Act.put, pu]
    refine ord_rest (by kernel_rfl) ?_
    refine any_step (i := 18) rfl (by kernel_rfl) (by rfl) (fun K hK => ?_)
    go_simp
    refine hK _ _ ?_
    clear hK K
    try simp only [Act.put, pu]
    refine wpAny_done (by kernel_rfl) ?_ _
    refine NoPanic.normal ?_
    replace k14 := k14.below hx k14.lt
    replace IOq := IOq.on hx
    replace I_x := I_x.as HOX.out.2
    have HB2 := Lib.hid (bltB HB.out HB.out.size hx)
    clear hx hG2 k16 y1 y2 a0 a1 a2 a3 a4 a5 a6 a7 a8 s0 HMW HB
    have a0 := k14.cell 0
    have a1 := k14.cell 1
    have b0 := k_x.cell 0
    have b1 := k_x.cell 1
    go_wp2_with fail
    clear a0 a1 b0 b1
    refine (fcmp_v I_x IOq (by decide) (by decide)).mono ?_
    rintro y W9 ⟨rfl, hb⟩
    rw [show cmpQ 1 1 = 0 from cmpQ_eq rfl]
    have HB3 := Lib.hid (bltB HB2.out HB2.out.size hb)
    clear hb I_x IOq k14 k_x HB2
    go_wp2_with fail
    go_roundw
    case rel => exact ⟨i + 1, by omega, by go_num, HB3⟩
    case measure => simp [intOf]; omega
   ·have hin : i = ns_ := by omega
    subst hin
    have HP9 := Lib.hid (HP8.out.on HB.out)
    have HPV9 := Lib.hid (HPV8.out.on HB.out)
    have HB9 := Lib.hid (bltB HB8.out HB8.out.size HB.out)
    clear HB HP8 HPV8 HB8 HM8 HRW HRS HK14 IO8
    obtain ⟨bs4, nss, hnss, hL4, hbm4⟩ := HP9.out.led
    have HL9 := Lib.hid hL4
    have HBM := Lib.hid hnss
    have HEI : Hid (∀ e ∈ P.way, EIn S4 e) := Lib.hid (fun e he => ((HGI.out.1 e (HPK.out.1 e he)).1).isIn (HGI.out.1 e (HPK.out.1 e he)).2)
    have y0 := k16.cell 0
    have y3 := k16.cell 3
    simp at y0 y3
    clear hL4 hnss hbm4
    go_wp2_with fail
    refine (legs_any wr p go co bs4 bh nss _ S4 0 HL9.out _ P HPV9.out HEI.out true).mono ?_
    rintro y W10 ⟨Al, cl, rfl, hrl, hb⟩
    have HL10 := Lib.hid (HL9.out.on hb)
    have HB10 := Lib.hid (bltB HB9.out HB9.out.size hb)
    have HLO := Lib.hid (legs_ok HGI.out HPK.out true)
    have HLL : Hid ((legsF S4 true P.way P.s).length ≤ 8) := Lib.hid (Nat.le_trans (legs_len _ _ _ _) (way_lens HPK.out.way.1).2)
    have HRL := Lib.hid hrl
    clear hb hrl HL9 HB9 y0 y1 y2 y3 k16 HPV9
    go_wp2_with fail
    refine (pay_any W10 p go co bs4 bh nss _ S4 0 HL10.out HGI.out.2.1 Al _ cl _ HRL.out HLO.out (by have := HLL.out; omega) (by have h1 := HLL.out; have h2 := HBM.out; omega)).mono ?_
    rw [HBK.out]
    rintro y W11 ⟨rfl, ⟨bs5, hL11, _⟩, hg11⟩
    have HL11 := Lib.hid hL11
    have HB11 : Hid (Below w.heap.size w W11) := Lib.hid (HB10.out.trans (hg11.below (B := w.heap.size) HB10.out.size (fun k hk e => by have h1 := HFR.out; have e : k = p := e; omega)))
    clear hL11 hg11 HL10 HB10 HRL
    go_wp2_with fail
    go_loopw [20] (fun iv wr => ∃ i : Nat, i ≤ 5 ∧ iv = .int .i64 i ∧ Hid (Below W11.heap.size W11 wr)) (fun iv _ => 5 - (intOf iv).toNat)
    case atStart => exact ⟨0, Nat.zero_le _, rfl, Lib.hid (Below.refl _ _)⟩
    case round =>
     obtain ⟨i, hi, rfl, HB⟩ := hrel
     by_cases hlt : i < 5
     ·have hlt' : (i : Int) < 5 := by omega
      have hwo := net_worth HOK.out hlt
      go_wp2_with fail
      refine (worth_any wr p go co bs5 bh _ _ (netO ls).S 0 (HL11.out.on HB.out) i hlt (fun s hs => by have := (net_inv HOK.out).2.1 s hs; omega) (net_own HOK.out hlt).1 (by rw [hwo]; omega)).mono ?_
      rintro y W12 ⟨rfl, hb⟩
      rw [hwo]
      have HB2 := Lib.hid (bltB HB.out HB.out.size hb)
      clear hb HB hwo
      go_wp2_with fail
      go_roundw
      case rel => exact ⟨i + 1, by omega, by go_num, HB2⟩
      case measure => simp [intOf]; omega
     ·have hi5 : i = 5 := by omega
      subst hi5
      have HBE := Lib.hid (bltB HB11.out HB11.out.size HB.out)
      go_wp2_with fail
      go_ret
      exact ⟨rfl, HBE.out⟩
end Go.Proofs.YthefgdehfgkhhaaGreat
namespace Go.Proofs.YthefgdehfgkhhaaGreat
open Go.ChangeShapes Go.WideShapes Go.ChangeAt Go.RowKit Go.Deep
set_option linter.unusedVariables false
set_option linter.unusedSimpArgs false
theorem own : ownKnob Tryz.prog.godebug = none := by kernel_rfl
theorem laidOut : laidOutB Tryz.prog = true := by kernel_rfl
theorem cellsU8 : Tryz.prog.cellsOf 5 = 1 := by kernel_rfl
theorem cellsU16 : Tryz.prog.cellsOf 38 = 1 := by kernel_rfl
theorem cells2U8 : Tryz.prog.cellsOf 74 = 2 := by kernel_rfl
theorem cells2U16 : Tryz.prog.cellsOf 73 = 2 := by kernel_rfl
theorem cells3U16 : Tryz.prog.cellsOf 39 = 3 := by kernel_rfl
theorem bytes3U16 : Tryz.prog.bytesOf 39 = 6 := by kernel_rfl
theorem cellsLk : Tryz.prog.cellsOf 76 = 8 := by kernel_rfl
section
variable {H : Type} {enc : TypeId × Value → H} {P : Program}
theorem post_of_below {f : Func} {s : ChangeSpec} {apart fresh handsOn again : Bool} {W W' : World} {args : Array Value} {v : Value} {ds gs : List (DataW H)} {before pa pv : List MemPlace}
 (hW : DataW.Whole enc P f.params.toList s.vars apart W args.toList ds gs before)
 (hres : ∀ (b : Nat) (sp : Nat → Bool) (hd : Bool), DataW.TrodAll enc P W' b sp hd f.resultTypes.toList (v.resultList f.resultTypes.size) (s.fn H (ds ++ gs)).results [])
 (hargs : ∀ sp : Nat → Bool, (∀ p ∈ before, sp p.block = true) → DataW.TrodAll enc P W' 0 sp true f.params.toList args.toList (s.fn H (ds ++ gs)).args pa)
 (hvars : ∀ sp : Nat → Bool, (∀ p ∈ before, sp p.block = true) → DataW.TrodVars enc P W' sp s.vars (s.fn H (ds ++ gs)).vars pv)
 (hps : before = pa ++ pv) (hb : Below W.heap.size W W')
 (hok : ∀ (j : Nat) (t : TypeId) (r : Value), f.resultTypes[j]? = some t → (v.resultList f.resultTypes.size)[j]? = some r → Value.okWide P W' .any 0 t r) :
 s.post enc P f apart fresh handsOn again W args v W' := by
 have hlt : ∀ p ∈ before, p.block < W.heap.size := fun p hp => hW.lt p hp
 have hold : ∀ p ∈ before, (fun b => decide (b < W.heap.size)) p.block = true := fun p hp => by simpa using hlt p hp
 refine ⟨ds, gs, before, [], pa, pv, hW, hres _ _ _, hargs _ hold, hvars _ hold, World.keptBut_mono (fun p hp => ⟨hp, ?_⟩) (hb.frame (· ∈ before)), fun _ => ?_⟩
 ·rw [hps, List.mem_append] at hp
  exact Or.inr hp
 ·obtain ⟨_, _, _, _, _, hz, hn⟩ := hW
  refine ⟨hok, _, _, ([] ++ pa) ++ pv, ⟨[] ++ pa, pv, trodAll_append (hargs _ (fun _ _ => rfl)) (hres _ _ _), hvars _ (fun _ _ => rfl), rfl, ?_, ?_⟩, ?_⟩
  ·intro b off hp
   have hin : MemPlace.cell b off ∈ before := by rw [hps]; simpa using hp
   rw [hb.frozen (hlt _ hin)]
   exact hz b off hin
  ·intro ha
   have := hn ha
   rw [hps] at this
   simpa using this
  ·intro p hp _
   rw [hps]
   simpa using hp
end
theorem wf_u8 {n : Int} (h : (Lit.int .u8 n).wf = true) : ∃ m : Nat, n = (m : Int) ∧ m < 256 := by
 simp [Lit.wf, IntKind.min, IntKind.max, IntKind.signed, IntKind.bits] at h
 exact ⟨n.toNat, by omega, by omega⟩
theorem wf_u16 {n : Int} (h : (Lit.int .u16 n).wf = true) : ∃ m : Nat, n = (m : Int) ∧ m < 65536 := by
 simp [Lit.wf, IntKind.min, IntKind.max, IntKind.signed, IntKind.bits] at h
 exact ⟨n.toNat, by omega, by omega⟩
section
variable {H : Type} {enc : TypeId × Value → H} {w : World} {base : Nat} {spare : Nat → Bool} {held : Bool} {n : Nat} {x : DataW H × List MemPlace}
theorem trod_u8 {cs : List Value} (h : DataW.trod enc Tryz.prog w base spare held n 5 cs = some x) : ∃ a : Nat, cs = [.int .u8 (a : Int)] ∧ a < 256 := by
 obtain ⟨k, q, _, hw⟩ := DataW.trod_int Tryz.underlying5 h
 obtain ⟨m, rfl, hm⟩ := wf_u8 hw
 exact ⟨m, q, hm⟩
theorem trod_u16 {cs : List Value} (h : DataW.trod enc Tryz.prog w base spare held n 38 cs = some x) : ∃ a : Nat, cs = [.int .u16 (a : Int)] ∧ a < 65536 := by
 obtain ⟨k, q, _, hw⟩ := DataW.trod_int Tryz.underlying38 h
 obtain ⟨m, rfl, hm⟩ := wf_u16 hw
 exact ⟨m, q, hm⟩
set_option maxRecDepth 100000 in
theorem trod_2u8 {cs : List Value} (h : DataW.trod enc Tryz.prog w base spare held n 74 cs = some x) : ∃ a b : Nat, cs = [.int .u8 (a : Int), .int .u8 (b : Int)] ∧ a < 256 ∧ b < 256 := by
 obtain ⟨xs, m, _, rfl, hl, hlen, hf⟩ := DataW.trod_array Tryz.underlying74 h
 rw [cells2U8] at hl
 match cs, hl with
 | [b0, b1], _ =>
  match xs, hlen with
  | [x0, x1], _ =>
   have h0 := hf 0 (by omega)
   have h1 := hf 1 (by omega)
   simp [cellsU8] at h0 h1
   obtain ⟨a0, e0, l0⟩ := trod_u8 h0
   obtain ⟨a1, e1, l1⟩ := trod_u8 h1
   simp at e0 e1
   exact ⟨a0, a1, by rw [e0, e1], l0, l1⟩
set_option maxRecDepth 100000 in
theorem trod_2u16 {cs : List Value} (h : DataW.trod enc Tryz.prog w base spare held n 73 cs = some x) : ∃ a b : Nat, cs = [.int .u16 (a : Int), .int .u16 (b : Int)] ∧ a < 65536 ∧ b < 65536 := by
 obtain ⟨xs, m, _, rfl, hl, hlen, hf⟩ := DataW.trod_array Tryz.underlying73 h
 rw [cells2U16] at hl
 match cs, hl with
 | [b0, b1], _ =>
  match xs, hlen with
  | [x0, x1], _ =>
   have h0 := hf 0 (by omega)
   have h1 := hf 1 (by omega)
   simp [cellsU16] at h0 h1
   obtain ⟨a0, e0, l0⟩ := trod_u16 h0
   obtain ⟨a1, e1, l1⟩ := trod_u16 h1
   simp at e0 e1
   exact ⟨a0, a1, by rw [e0, e1], l0, l1⟩
set_option maxRecDepth 100000 in
theorem trod_3u16 {cs : List Value} (h : DataW.trod enc Tryz.prog w base spare held n 39 cs = some x) : ∃ a b c : Nat, cs = [.int .u16 (a : Int), .int .u16 (b : Int), .int .u16 (c : Int)] ∧ a < 65536 ∧ b < 65536 ∧ c < 65536 := by
 obtain ⟨xs, m, _, rfl, hl, hlen, hf⟩ := DataW.trod_array Tryz.underlying39 h
 rw [cells3U16] at hl
 match cs, hl with
 | [b0, b1, b2], _ =>
  match xs, hlen with
  | [x0, x1, x2], _ =>
   have h0 := hf 0 (by omega)
   have h1 := hf 1 (by omega)
   have h2 := hf 2 (by omega)
   simp [cellsU16] at h0 h1 h2
   obtain ⟨a0, e0, l0⟩ := trod_u16 h0
   obtain ⟨a1, e1, l1⟩ := trod_u16 h1
   obtain ⟨a2, e2, l2⟩ := trod_u16 h2
   simp at e0 e1 e2
   exact ⟨a0, a1, a2, by rw [e0, e1, e2], l0, l1, l2⟩
set_option maxRecDepth 100000 in
theorem open_lkL {cs : List Value} (h : DataW.trod enc Tryz.prog w base spare held n 76 cs = some x) : ∃ l : Lk, cs = l.cs.toList ∧ l.ok := by
 obtain ⟨xs, m, _, rfl, hl, hlen, hf⟩ := DataW.trod_struct Tryz.underlying76 h
 rw [cellsLk] at hl
 match cs, hl with
 | [b0, b1, b2, b3, b4, b5, b6, b7], _ =>
  match xs, hlen with
  | [x0, x1, x2, x3, x4], _ =>
   have h0 := hf 0 _ rfl
   have h1 := hf 1 _ rfl
   have h2 := hf 2 _ rfl
   have h3 := hf 3 _ rfl
   have h4 := hf 4 _ rfl
   simp [cellsU8, cellsU16, cells2U8, cells2U16] at h0 h1 h2 h3 h4
   obtain ⟨a0, e0, l0⟩ := trod_u8 h0
   obtain ⟨a1, e1, l1⟩ := trod_u8 h1
   obtain ⟨a2, a3, e2, l2, l3⟩ := trod_2u16 h2
   obtain ⟨a4, a5, e4, l4, l5⟩ := trod_2u8 h3
   obtain ⟨a6, a7, e6, l6, l7⟩ := trod_2u16 h4
   simp at e0 e1 e2 e4 e6
   obtain ⟨rfl, rfl⟩ := e2
   obtain ⟨rfl, rfl⟩ := e4
   obtain ⟨rfl, rfl⟩ := e6
   subst e0 e1
   exact ⟨⟨a0, a1, a2, a3, a4, a5, a6, a7⟩, rfl, ⟨l0, l1⟩, ⟨l2, l3⟩, ⟨l4, l5⟩, l6, l7⟩
end
section
variable {H : Type} {enc : TypeId × Value → H}
/-- The address of a cell that is there. -/
theorem addr_plain {w : World} {a : Addr} {v : Value} (h : w.cell? (a.add 0) = some v) : ∃ b off, a = ⟨b, off, none⟩ ∧ b < w.heap.size := by
 obtain ⟨b, off, vw⟩ := a
 cases vw with
 | some q =>
  exfalso
  simp [Addr.add, World.cell?] at h
  split at h <;> simp at h
 | none =>
  refine ⟨b, off, rfl, ?_⟩
  exact World.block_lt_of_cell? w ⟨b, off, none⟩ (by simpa [Addr.add] using h)
theorem add_at (b off i : Nat) : (⟨b, off, none⟩ : Addr).add i = ⟨b, off + i, none⟩ := by
 unfold Addr.add
 split <;> simp_all
instance : Inhabited Lk := ⟨⟨0, 0, 0, 0, 0, 0, 0, 0⟩⟩
/-- A slice of links, as it reads. -/
theorem open_links {w : World} {v : Value} {d : DataW H} {p : List MemPlace} (hv : ∃ A n c, v = .slice A n c) (h : DataW.Trod enc Tryz.prog w 0 (fun _ => true) true 22 v d p) :
 ∃ A n c l, v = .slice A n c ∧ RK w A n l ∧ ∀ x ∈ l, Lk.ok x := by
 obtain ⟨A0, n0, c0, rfl⟩ := hv
 obtain ⟨fuel, hf⟩ := h
 simp only [Value.cells] at hf
 rcases open_slice Tryz.underlying22 hf with ⟨hv, hx⟩ | ⟨a, len, cap, m, n', D, Pl, hv, hb, hl, hm, hmm, hx, hi⟩
 ·simp at hv
  exact ⟨none, 0, 0, [], by simp [hv], ⟨rfl, fun h => by omega⟩, fun x hx => by simp at hx⟩
 ·simp only [if_true] at hmm
  subst hmm
  have hone : ∀ i, i < len → ∃ l : Lk, l.ok ∧ ∀ j u, l.cs[j]? = some u → w.cell? (a.add (i * 8 + j)) = some u := fun i hi' => by
   obtain ⟨cs', hc, ht'⟩ := hi i (by omega)
   rw [cellsLk] at hc
   obtain ⟨l, rfl, hok⟩ := open_lkL ht'
   obtain ⟨_, hcl, hat⟩ := World.cells?_some hc
   refine ⟨l, hok, fun j u hu => ?_⟩
   have hj : j < 8 := by
    have := (Array.getElem?_eq_some_iff.1 hu).1
    simpa [Lk.cs] using this
   rw [← Go.Deep.add_add, hat j hj]
   simpa using hu
  obtain ⟨f, hf'⟩ := choose_lt (α := Lk) hone
  refine ⟨some a, len, m, (List.range len).map f, ?_, ⟨by simp, fun hpos => ?_⟩, fun x hx => ?_⟩
  ·simp at hv
   simp [hv]
  ·obtain ⟨b, off, rfl, hbl⟩ := addr_plain (show w.cell? (a.add 0) = _ from by simpa using (hf' 0 hpos).2 0 _ rfl)
   refine ⟨b, off, rfl, hbl, fun k l hl2 j u hu => ?_⟩
   have hk : k < len := by
    have := (List.getElem?_eq_some_iff.1 hl2).1
    simpa using this
   have hlk : l = f k := by simpa [hk] using hl2.symm
   have h1 := (hf' k hk).2 j u (by rw [← hlk]; exact hu)
   rw [add_at] at h1
   rw [show off + k * 8 + j = off + (k * 8 + j) by omega]
   exact h1
  ·simp at hx
   obtain ⟨k, hk, rfl⟩ := hx
   exact (hf' k hk).1
section
variable {W W' : World} {v : Value} {d : DataW H} {ps : List MemPlace} {sp : Nat → Bool}
theorem stays_8 (h : DataW.Trod enc Tryz.prog W 0 (fun _ => true) true 5 v d ps) (hb : Below W.heap.size W W') (hlt : ∀ x ∈ ps, x.block < W.heap.size) (hsp : ∀ x ∈ ps, sp x.block = true) : DataW.Trod enc Tryz.prog W' 0 sp true 5 v d ps :=
 WideElems.Trod_stays laidOut (by kernel_rfl) (of_decide_eq_true (by kernel_rfl)) h (fun x hx => hb.same (hlt x hx)) hsp
theorem stays_16 (h : DataW.Trod enc Tryz.prog W 0 (fun _ => true) true 38 v d ps) (hb : Below W.heap.size W W') (hlt : ∀ x ∈ ps, x.block < W.heap.size) (hsp : ∀ x ∈ ps, sp x.block = true) : DataW.Trod enc Tryz.prog W' 0 sp true 38 v d ps :=
 WideElems.Trod_stays laidOut (by kernel_rfl) (of_decide_eq_true (by kernel_rfl)) h (fun x hx => hb.same (hlt x hx)) hsp
theorem stays_l (h : DataW.Trod enc Tryz.prog W 0 (fun _ => true) true 22 v d ps) (hb : Below W.heap.size W W') (hlt : ∀ x ∈ ps, x.block < W.heap.size) (hsp : ∀ x ∈ ps, sp x.block = true) : DataW.Trod enc Tryz.prog W' 0 sp true 22 v d ps :=
 WideElems.Trod_stays laidOut (by kernel_rfl) (of_decide_eq_true (by kernel_rfl)) h (fun x hx => hb.same (hlt x hx)) hsp
end
end
end Go.Proofs.YthefgdehfgkhhaaGreat
namespace Go.Proofs.YthefgdehfgkhhaaGreat.topReturnsP
open Go.ChangeShapes Go.WideShapes Go.ChangeAt Go.RowKit Go.Deep
set_option linter.unusedVariables false
set_option linter.unusedSimpArgs false
set_option maxRecDepth 100000 in
theorem lifted (os : Os) (started : os.Started) (H : Type) (enc : TypeId × Value → H) :
 ReturnsInHanded {} Tryz.checked os 4 .any (Rows.topReturnsSpec.pre6 enc Tryz.prog Tryz.f4 Rows.topReturnsRow.domain false) (Rows.topReturnsSpec.post enc Tryz.prog Tryz.f4 false true false false) := by
 refine returnsInHanded_of_change_sized (C := Tryz.checked) own started (by kernel_rfl) Tryz.func4
  (ChangeSpec.witness6 (enc := enc) (C := Tryz.checked) false ⟨#[], #[.slice none 0 0, .int .u8 0, .int .u8 0, .int .u16 0], []⟩ 8 (by kernel_rfl) (by kernel_rfl) (by kernel_rfl) (by kernel_rfl)) ?_
 intro W base args ds gs before hval0 hW hcnd hsz _
 have hval : ∀ (j : Nat) t v, Tryz.f4.params[j]? = some t → args[j]? = some v → Value.okWide Tryz.prog W .any base t v := hval0
 have hW' := hW
 obtain ⟨p, q, hA0, hV, rfl, hfz, hnd⟩ := hW
 have hA : DataW.TrodAll enc Tryz.prog W 0 (fun _ => true) true Tryz.f4.params.toList args.toList ds p := hA0
 rw [Tryz.params4] at hA hval hsz
 obtain ⟨v0, vs0, d0, ds0, p0, q0, hargs, rfl, rfl, h0, r0⟩ := trodAll_cons hA
 obtain ⟨v1, vs1, d1, ds1, p1, q1, rfl, rfl, rfl, h1, r1⟩ := trodAll_cons r0
 obtain ⟨v2, vs2, d2, ds2, p2, q2, rfl, rfl, rfl, h2, r2⟩ := trodAll_cons r1
 obtain ⟨v3, vs3, d3, ds3, p3, q3, rfl, rfl, rfl, h3, r3⟩ := trodAll_cons r2
 obtain ⟨rfl, rfl, rfl⟩ := trodAll_nil r3
 obtain rfl : args = #[v0, v1, v2, v3] := by cases args; simp_all
 obtain ⟨rfl, rfl⟩ := trodVars_none hV
 clear hA0 hval0
 have hlt : ∀ x, x ∈ p0 ++ (p1 ++ (p2 ++ (p3 ++ ([] : List MemPlace)))) → x.block < W.heap.size := fun x hx => by simpa using hW'.lt x (by simpa using hx)
 obtain ⟨A0, m0, c0, l0, e0, s0, k0⟩ := open_links (by obtain ⟨A, n, c, h⟩ := okWide_slice Tryz.underlying22 (hval 0 22 v0 rfl rfl); exact ⟨A, n, c, h⟩) h0
 obtain ⟨a1, e1, _, _, w1⟩ := open_int Tryz.underlying5 (hval 1 5 v1 rfl rfl) h1
 obtain ⟨a2, e2, _, _, w2⟩ := open_int Tryz.underlying5 (hval 2 5 v2 rfl rfl) h2
 obtain ⟨a3, e3, _, _, w3⟩ := open_int Tryz.underlying38 (hval 3 38 v3 rfl rfl) h3
 obtain ⟨n1, g1, b1⟩ := wf_u8 w1
 obtain ⟨n2, g2, b2⟩ := wf_u8 w2
 obtain ⟨n3, g3, b3⟩ := wf_u16 w3
 have hwalk : Calls Tryz.prog 4 #[v0, v1, v2, v3] W fun e w' => e = .returned (.bool true) ∧ Below W.heap.size W w' := by
  rw [e0, e1, e2, e3, g1, g2, g3]
  exact tret_any W A0 m0 c0 l0 s0 k0 n1 n2 n3 b1 b2 b3
 refine hwalk.mono fun e W' ⟨he, hb⟩ => ?_
 subst he
 refine ⟨_, rfl, post_of_below (pa := p0 ++ (p1 ++ (p2 ++ (p3 ++ [])))) (pv := []) hW' (fun _ _ _ => trodAll_cons_mk (shut_bool Tryz.underlying4 _) trodAll_mk0) (fun sp hsp => ?_) (fun _ _ => rfl) (by simp) hb (ok_one (by kernel_rfl) rfl (okWide_bool_mk Tryz.underlying4 _))⟩
 exact trodAll_cons_mk (stays_l h0 hb (fun x hx => hlt x (by simp [hx])) (fun x hx => hsp x (by simp [hx]))) (trodAll_cons_mk (stays_8 h1 hb (fun x hx => hlt x (by simp [hx])) (fun x hx => hsp x (by simp [hx]))) (trodAll_cons_mk (stays_8 h2 hb (fun x hx => hlt x (by simp [hx])) (fun x hx => hsp x (by simp [hx]))) (trodAll_cons_mk (stays_16 h3 hb (fun x hx => hlt x (by simp [hx])) (fun x hx => hsp x (by simp [hx]))) (trodAll_mk0))))
theorem proved : Rows.TopReturnsSaid :=
 OpenClaim.holds_of_wide 4 Tryz.f4 rfl rfl rfl rfl rfl rfl rfl ⟨rfl, rfl, rfl, rfl, rfl⟩ rfl rfl rfl rfl rfl (by kernel_rfl) Tryz.func4 (by kernel_rfl)
  (of_decide_eq_true (by kernel_rfl)) (by unfold Func.isWrapper; first | (rw [if_pos (by decide +kernel)]; kernel_rfl) | (rw [if_neg (by decide +kernel)]; exact ⟨rfl, rfl⟩))
  (fun os started H enc _ => lifted os started H enc)
#print axioms proved
end Go.Proofs.YthefgdehfgkhhaaGreat.topReturnsP
