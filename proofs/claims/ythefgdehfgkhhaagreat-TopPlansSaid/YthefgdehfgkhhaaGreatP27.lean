/-
  Plain: how a plan ends.
-/
import Derived.Test.YthefgdehfgkhhaaGreatK01
import Derived.Test.YthefgdehfgkhhaaGreatK25
import Derived.Test.YthefgdehfgkhhaaGreatK23
namespace Go.Proofs.YthefgdehfgkhhaaGreat
set_option linter.unusedVariables false
set_option linter.unusedSimpArgs false
/-! Notes stay good. -/
theorem good_note : ∀ (es : List Ed) (xs : List Int) (k : Int) {L : Notes}, Good L → Good (noteF L es xs k)
 | [], xs, k, L, h => by cases xs <;> exact h
 | e :: es, [], k, L, h => h
 | e :: es, x :: xs, k, L, h => by
  rw [note_cons]
  split
  ·exact h.fail _ _
  ·exact good_note es xs _ (h.pass _ _)
theorem good_mv : ∀ (es : List Ed) (xs : List Int) {L : Notes}, Good L → Good (mvL L es xs)
 | [], xs, L, h => by cases xs <;> exact h
 | e :: es, [], L, h => h
 | e :: es, x :: xs, L, h => by
  rw [mv_cons]
  exact good_mv es xs (h.move _ _)
theorem good_ln : ∀ (ps : List Prt) {L : Notes}, Good L → Good (lnF L ps)
 | [], L, h => h
 | P :: ps, L, h => good_ln ps (good_mv _ _ (good_note _ _ _ h))
theorem good_bk : ∀ (ps : List Prt) {L : Notes}, Good L → Good (bkL L ps)
 | [], L, h => h
 | P :: ps, L, h => by
  rw [bk_cons]
  exact good_bk ps (good_mv _ _ h)
/-- How a plan ends: paid by parts that go, or as it was. -/
theorem plan_ends {g : List Ed} {fr td a : Int} {N : Nat} {S : List Cn} : ∀ (f t : Nat) (L : Notes), Good L →
 Good (planF g fr td a (N : Int) f t S L).L ∧ (((planF g fr td a (N : Int) f t S L).paid = false ∧ (planF g fr td a (N : Int) f t S L).parts = [] ∧ (planF g fr td a (N : Int) f t S L).S = S) ∨ ((planF g fr td a (N : Int) f t S L).paid = true ∧ ∃ L0 r, Good L0 ∧ splitF L0 g fr td a 100 (N : Int) = some r ∧ stopF S r.1 0 = none ∧ (planF g fr td a (N : Int) f t S L).parts = r.1 ∧ (planF g fr td a (N : Int) f t S L).S = stF S r.1 ∧ (planF g fr td a (N : Int) f t S L).L = lnF L0 r.1))
 | 0, t, L, hT => ⟨hT, .inl ⟨rfl, rfl, rfl⟩⟩
 | f + 1, t, L, hT => by
  rw [planF]
  cases hs : splitF L g fr td a 100 (N : Int) with
  | none => exact ⟨hT, .inl ⟨rfl, rfl, rfl⟩⟩
  | some r =>
   cases hst : stopF S r.1 0 with
   | none =>
    simp only [hst]
    exact ⟨good_ln _ hT, .inr ⟨by trivial, L, r, hT, hs, hst, rfl, rfl, rfl⟩⟩
   | some k =>
    simp only [hst]
    exact plan_ends f (t + 1) _ (good_bk _ (good_note _ _ _ (good_ln _ hT)))
end Go.Proofs.YthefgdehfgkhhaaGreat
namespace Go.Proofs.YthefgdehfgkhhaaGreat
open Go.RowKit Go.Maps
set_option linter.unusedVariables false
set_option linter.unusedSimpArgs false
attribute [local go_sem] Oper.semAt_some
theorem fee_bd (e : Ed) (a : Int) : 0 ≤ feeV e a ∧ feeV e a ≤ 1125899906842624 := by
 unfold feeV
 split
 ·rename_i h
  unfold feeB at h
  simp only [Bool.and_eq_true] at h
  have := addB_bound h.2.2
  omega
 ·omega
def feeW (q : Int) : List Ed → List Int → Int
 | e :: es, x :: xs => (if e.f = q then feeV e x else 0) + feeW q es xs
 | _, _ => 0
theorem feeW_cons (q : Int) (e : Ed) (es : List Ed) (x : Int) (xs : List Int) : feeW q (e :: es) (x :: xs) = (if e.f = q then feeV e x else 0) + feeW q es xs := by rw [feeW]
theorem feeW_bd (q : Int) : ∀ (es : List Ed) (xs : List Int), 0 ≤ feeW q es xs ∧ feeW q es xs ≤ 1125899906842624 * (es.length : Int)
 | [], xs => by cases xs <;> simp [feeW]
 | e :: es, [] => by simp [feeW]; omega
 | e :: es, x :: xs => by
  have h1 := feeW_bd q es xs
  have h2 := fee_bd e x
  rw [feeW_cons, List.length_cons]
  split <;> omega
def feesF (q : Int) : List Prt → Int
 | [] => 0
 | P :: ps => feeW q (P.way.drop 1) (P.s.drop 1) + feesF q ps
theorem feesF_bd (q : Int) {ps : List Prt} (h : ∀ P ∈ ps, P.way.length ≤ 8) : 0 ≤ feesF q ps ∧ feesF q ps ≤ 9007199254740992 * (ps.length : Int) := by
 induction ps with
 | nil => exact ⟨Int.le_refl _, by simp [feesF]⟩
 | cons P ps ih =>
  have h1 := feeW_bd q (P.way.drop 1) (P.s.drop 1)
  have h2 := ih (fun Q hQ => h Q (List.mem_cons_of_mem _ hQ))
  have h3 := h P (List.mem_cons_self ..)
  have h4 : (P.way.drop 1).length ≤ 8 := by rw [List.length_drop]; omega
  rw [feesF, List.length_cons]
  omega
set_option maxRecDepth 100000 in
set_option maxHeartbeats 4000000 in
theorem pfees_any (w : World) (A : Option Addr) (n c : Nat) (ps : List Prt) (h : RP w A n c ps) (hn : n ≤ 8) (hw : ∀ P ∈ ps, ∀ e ∈ P.way, polB e = true) (hw8 : ∀ P ∈ ps, P.way.length ≤ 8) (q : Int) :
 Calls Tryz.prog 20 #[.slice A n c, .int .i64 q] w fun e w' => e = .returned (.int .i64 (feesF q ps)) ∧ Below w.heap.size w w' := by
 have HR := Lib.hid h
 have HP := Lib.hid hw
 have HL := Lib.hid h.len
 have HBD := Lib.hid (feesF_bd q hw8)
 have HW8 := Lib.hid hw8
 have HTT : Hid (feesF q ps ≤ 72057594037927936) := Lib.hid (by have h1 := HBD.out; have h2 := HL.out; omega)
 clear h hw hw8
 go_enter Tryz.func20, Tryz.ntmps20
 go_wp2_with fail
 go_loopw [5, 6] (fun sv iv wr => ∃ (i : Nat) (s0 : Int), i ≤ n ∧ iv = .int .i64 i ∧ sv = .int .i64 s0 ∧ Hid (0 ≤ s0 ∧ s0 + feesF q (ps.drop i) = feesF q ps) ∧ Hid (Below w.heap.size w wr)) (fun _ iv _ => n - (intOf iv).toNat)
 case atStart => exact ⟨0, 0, Nat.zero_le _, rfl, rfl, Lib.hid ⟨Int.le_refl _, by simp⟩, Lib.hid (Below.refl _ _)⟩
 case round =>
  obtain ⟨i, s0, hi, rfl, rfl, HS, HB⟩ := hrel
  by_cases hlt : i < n
  ·have hlt' : (i : Int) < (n : Int) := by omega
   obtain ⟨b2, o2, P, Aw, nw, cw, As, ns, cs, At, nt, ct, hA, hb2, hx, hpv, q0, q1, q2, q3⟩ := HR.out.at_ hlt
   subst hA
   have HDR : Hid (feesF q (ps.drop i) = feeW q (P.way.drop 1) (P.s.drop 1) + feesF q (ps.drop (i + 1))) := Lib.hid (by rw [drop_at hx]; rfl)
   have HNX : Hid (0 ≤ feesF q (ps.drop (i + 1))) := Lib.hid (feesF_bd q (fun Q hQ => HW8.out Q (List.mem_of_mem_drop hQ))).1
   have HPP := Lib.hid (HP.out P (List.mem_of_getElem? hx))
   obtain ⟨Aw2, nw2, cw2, As2, ns2, cs2, At2, nt2, ct2, ecs, rW, rS, rT, hn8, hnn⟩ := hpv
   simp at ecs
   obtain ⟨⟨rfl, rfl, rfl⟩, ⟨rfl, rfl, rfl⟩, rfl, rfl, rfl⟩ := ecs
   subst hnn
   have HRW := Lib.hid rW
   have HRS := Lib.hid rS
   have HQ := Lib.hid (And.intro q1 q2)
   have HB2 := Lib.hid hb2
   clear rW rS rT hx q0 q1 q2 q3 hb2
   go_wp2_with fail
   go_loopw [5, 7] (fun sv kv wr => ∃ (k : Nat) (s1 : Int), 1 ≤ k ∧ kv = .int .i64 k ∧ sv = .int .i64 s1 ∧ Hid (0 ≤ s1 ∧ s1 + feeW q (P.way.drop k) (P.s.drop k) + feesF q (ps.drop (i + 1)) = feesF q ps) ∧ Hid (Below w.heap.size w wr)) (fun _ kv _ => ns - (intOf kv).toNat)
   case atStart => exact ⟨1, s0, Nat.le_refl _, rfl, rfl, Lib.hid ⟨HS.out.1, by have h1 := HS.out.2; rw [HDR.out] at h1; omega⟩, HB⟩
   case round =>
    obtain ⟨k, s1, hk, rfl, rfl, HI, HBI⟩ := hrel
    have y1 := (HBI.out.cell (p := ⟨b2, _, none⟩) HB2.out).trans HQ.out.1
    have y2 := (HBI.out.cell (p := ⟨b2, _, none⟩) HB2.out).trans HQ.out.2
    have HB2W : Hid (b2 < wr.heap.size) := Lib.hid (Nat.lt_of_lt_of_le HB2.out HBI.out.size)
    by_cases hlk : k < ns
    ·have hlk' : (k : Int) < (ns : Int) := by omega
     obtain ⟨ba, oa, e, hA, hba, hx, _, a0, a1, a2, a3, a4, a5, a6, a7, a8⟩ := (HRW.out.on HBI.out).edge hlk
     obtain ⟨bs9, os9, hAs, hbs9, hxs, c0⟩ := (HRS.out.on HBI.out).num hlk
     subst hA
     subst hAs
     obtain ⟨x, hxx⟩ : ∃ z, P.s.getD k 0 = z := ⟨_, rfl⟩
     rw [hxx] at c0 hxs
     have HPO := Lib.hid (HPP.out e (List.mem_of_getElem? hx))
     have HST : Hid (feeW q (P.way.drop k) (P.s.drop k) = (if e.f = q then feeV e x else 0) + feeW q (P.way.drop (k + 1)) (P.s.drop (k + 1))) := Lib.hid (by rw [drop_at hx, drop_at hxs, feeW_cons])
     have HFB := Lib.hid (fee_bd e x)
     have HRB : Hid (0 ≤ feeW q (P.way.drop (k + 1)) (P.s.drop (k + 1))) := Lib.hid (feeW_bd q _ _).1
     clear hx hxs hxx
     by_cases heq : e.f = q
     ·have HST2 : Hid (feeW q (P.way.drop k) (P.s.drop k) = feeV e x + feeW q (P.way.drop (k + 1)) (P.s.drop (k + 1))) := Lib.hid (by rw [HST.out, if_pos heq])
      obtain ⟨fv, hfv⟩ : ∃ z, feeV e x = z := ⟨_, rfl⟩
      have HFV := Lib.hid hfv
      have HI2 : Hid (0 ≤ s1 + fv ∧ s1 + fv + feeW q (P.way.drop (k + 1)) (P.s.drop (k + 1)) + feesF q (ps.drop (i + 1)) = feesF q ps) := Lib.hid (by have h1 := HI.out; have h2 := HST2.out; have h3 := HFB.out; rw [hfv] at h2 h3; omega)
      have hw : wrap64 (s1 + fv) = s1 + fv := wrap64_of_isI ⟨by have h1 := HI2.out; omega, by have h1 := HI2.out; have h2 := HRB.out; have h3 := HNX.out; have h4 := HTT.out; omega⟩
      clear hfv
      obtain ⟨f, t1, ch, r_, p0, p1, p2, p3, p4⟩ := e
      dsimp only at a0 a1 a2 a3 a4 a5 a6 a7 a8 heq
      subst heq
      go_upto_region 9 with (fail)
      refine wp_region_noPanic ?_
      refine ord_begin 22 (fun wx => Below wr.heap.size wr wx) (by kernel_rfl) ?_
      have hx0 : Below wr.heap.size wr wr.drew := (Below.refl _ _).drew
      refine ord_take (i := 0) (v := ?_) (by kernel_rfl) rfl (by decide) (by kernel_rfl) (by kernel_rfl) (fun _ _ _ h => h) (Or.inl ⟨by rfl, ?_⟩) hx0 ?_
      rotate_left
      ·intro wz hz; go_simp; (try with_reducible rfl)
      try simp only [Act.put, pu]
      refine ord_take (i := 1) (v := ?_) (by kernel_rfl) rfl (by decide) (by kernel_rfl) (by kernel_rfl) (fun _ _ _ h => h) (Or.inl ⟨by rfl, ?_⟩) hx0 ?_
      rotate_left
      ·intro wz hz; go_simp; (try with_reducible rfl)
      try simp only [Act.put, pu]
      refine ord_take (i := 2) (v := ?_) (by kernel_rfl) rfl (by decide) (by kernel_rfl) (by kernel_rfl) (fun _ _ _ h => h) (Or.inl ⟨by rfl, ?_⟩) hx0 ?_
      rotate_left
      ·intro wz hz; go_simp; (try with_reducible rfl)
      try simp only [Act.put, pu]
      refine ord_take (i := 3) (v := ?_) (by kernel_rfl) rfl (by decide) (by kernel_rfl) (by kernel_rfl) (fun _ _ _ h => h) (Or.inl ⟨by rfl, ?_⟩) hx0 ?_
      rotate_left
      ·intro wz hz; go_simp; (try with_reducible rfl)
      try simp only [Act.put, pu]
      refine ord_take (i := 4) (v := ?_) (by kernel_rfl) rfl (by decide) (by kernel_rfl) (by kernel_rfl) (fun _ _ _ h => h) (Or.inl ⟨by rfl, ?_⟩) hx0 ?_
      rotate_left
      ·intro wz hz; have z1 := (hz.cell (p := ⟨b2, _, none⟩) HB2W.out).trans y1; go_simp; (try with_reducible rfl)
      try simp only [Act.put, pu]
      refine ord_take (i := 5) (v := ?_) (by kernel_rfl) rfl (by decide) (by kernel_rfl) (by kernel_rfl) (fun _ _ _ h => h) (Or.inl ⟨by rfl, ?_⟩) hx0 ?_
      rotate_left
      ·intro wz hz; go_simp; (try with_reducible rfl)
      try simp only [Act.put, pu]
      refine ord_take (i := 6) (v := ?_) (by kernel_rfl) rfl (by decide) (by kernel_rfl) (by kernel_rfl) (fun _ _ _ h => h) (Or.inl ⟨by rfl, ?_⟩) hx0 ?_
      rotate_left
      ·intro wz hz; go_simp; (try with_reducible rfl)
      try simp only [Act.put, pu]
      refine ord_take (i := 7) (v := ?_) (by kernel_rfl) rfl (by decide) (by kernel_rfl) (by kernel_rfl) (fun _ _ _ h => h) (Or.inl ⟨by rfl, ?_⟩) hx0 ?_
      rotate_left
      ·intro wz hz; go_simp; (try with_reducible rfl)
      try simp only [Act.put, pu]
      refine ord_take (i := 8) (v := ?_) (by kernel_rfl) rfl (by decide) (by kernel_rfl) (by kernel_rfl) (fun _ _ _ h => h) (Or.inl ⟨by rfl, ?_⟩) hx0 ?_
      rotate_left
      ·intro wz hz; have z3 := (hz.cell (p := ⟨ba, _, none⟩) hba).trans a0; have z4 := (hz.cell (p := ⟨ba, _, none⟩) hba).trans a1; have z5 := (hz.cell (p := ⟨ba, _, none⟩) hba).trans a2; have z6 := (hz.cell (p := ⟨ba, _, none⟩) hba).trans a3; have z7 := (hz.cell (p := ⟨ba, _, none⟩) hba).trans a4; have z8 := (hz.cell (p := ⟨ba, _, none⟩) hba).trans a5; have z9 := (hz.cell (p := ⟨ba, _, none⟩) hba).trans a6; have z10 := (hz.cell (p := ⟨ba, _, none⟩) hba).trans a7; have z11 := (hz.cell (p := ⟨ba, _, none⟩) hba).trans a8; go_simp; (try with_reducible rfl)
      try simp only [Act.put, pu]
      refine ord_take (i := 9) (v := ?_) (by kernel_rfl) rfl (by decide) (by kernel_rfl) (by kernel_rfl) (fun _ _ _ h => h) (Or.inl ⟨by rfl, ?_⟩) hx0 ?_
      rotate_left
      ·intro wz hz; go_simp; (try with_reducible rfl)
      try simp only [Act.put, pu]
      refine ord_take (i := 10) (v := ?_) (by kernel_rfl) rfl (by decide) (by kernel_rfl) (by kernel_rfl) (fun _ _ _ h => h) (Or.inl ⟨by rfl, ?_⟩) hx0 ?_
      rotate_left
      ·intro wz hz; go_simp; (try with_reducible rfl)
      try simp only [Act.put, pu]
      refine ord_take (i := 11) (v := ?_) (by kernel_rfl) rfl (by decide) (by kernel_rfl) (by kernel_rfl) (fun _ _ _ h => h) (Or.inl ⟨by rfl, ?_⟩) hx0 ?_
      rotate_left
      ·intro wz hz; go_simp; (try with_reducible rfl)
      try simp only [Act.put, pu]
      refine ord_take (i := 12) (v := ?_) (by kernel_rfl) rfl (by decide) (by kernel_rfl) (by kernel_rfl) (fun _ _ _ h => h) (Or.inl ⟨by rfl, ?_⟩) hx0 ?_
      rotate_left
      ·intro wz hz; go_simp; (try with_reducible rfl)
      try simp only [Act.put, pu]
      refine ord_take (i := 13) (v := ?_) (by kernel_rfl) rfl (by decide) (by kernel_rfl) (by kernel_rfl) (fun _ _ _ h => h) (Or.inl ⟨by rfl, ?_⟩) hx0 ?_
      rotate_left
      ·intro wz hz; have z2 := (hz.cell (p := ⟨b2, _, none⟩) HB2W.out).trans y2; go_simp; (try with_reducible rfl)
      try simp only [Act.put, pu]
      refine ord_take (i := 14) (v := ?_) (by kernel_rfl) rfl (by decide) (by kernel_rfl) (by kernel_rfl) (fun _ _ _ h => h) (Or.inl ⟨by rfl, ?_⟩) hx0 ?_
      rotate_left
      ·intro wz hz; go_simp; (try with_reducible rfl)
      try simp only [Act.put, pu]
      refine ord_take (i := 15) (v := ?_) (by kernel_rfl) rfl (by decide) (by kernel_rfl) (by kernel_rfl) (fun _ _ _ h => h) (Or.inl ⟨by rfl, ?_⟩) hx0 ?_
      rotate_left
      ·intro wz hz; go_simp; (try with_reducible rfl)
      try simp only [Act.put, pu]
      refine ord_take (i := 16) (v := ?_) (by kernel_rfl) rfl (by decide) (by kernel_rfl) (by kernel_rfl) (fun _ _ _ h => h) (Or.inl ⟨by rfl, ?_⟩) hx0 ?_
      rotate_left
      ·intro wz hz; have z20 := (hz.cell (p := ⟨bs9, _, none⟩) hbs9).trans c0; go_simp; (try with_reducible rfl)
      try simp only [Act.put, pu]
      refine ord_step (i := 17) rfl (by decide) (by kernel_rfl) (by rfl) (fun K hK => ?_)
      go_simp
      refine (fee_any ⟨f, t1, ch, r_, p0, p1, p2, p3, p4⟩ x wr.drew HPO.out).mono ?_
      rintro y X9_1 ⟨rfl, hb⟩
      have hx1 := bltB hx0 hx0.size hb
      clear hb hx0
      refine hK _ _ hx1 ?_
      clear hK K
      try simp only [Act.put, pu]
      refine ord_take (i := 18) (v := ?_) (by kernel_rfl) rfl (by decide) (by kernel_rfl) (by kernel_rfl) (fun _ _ _ h => h) (Or.inl ⟨by rfl, ?_⟩) hx1 ?_
      rotate_left
      ·intro wz hz; go_simp; (try with_reducible rfl)
      try simp only [Act.put, pu]
      refine ord_take (i := 19) (v := ?_) (by kernel_rfl) rfl (by decide) (by kernel_rfl) (by kernel_rfl) (fun _ _ _ h => h) (Or.inl ⟨by rfl, ?_⟩) hx1 ?_
      rotate_left
      ·intro wz hz; go_simp; (try with_reducible rfl)
      try simp only [Act.put, pu]
      refine ord_take (i := 20) (v := ?_) (by kernel_rfl) rfl (by decide) (by kernel_rfl) (by kernel_rfl) (fun _ _ _ h => h) (Or.inl ⟨by rfl, ?_⟩) hx1 ?_
      rotate_left
      ·intro wz hz; go_simp; (try with_reducible rfl)
      try simp only [Act.put, pu]
      refine ord_step (i := 21) rfl (by decide) (by kernel_rfl) (by rfl) (fun K hK => ?_)
      go_simp
      refine hK _ _ hx1 ?_
      clear hK K
      try simp only [Act.put, pu]
      refine ord_rest (by kernel_rfl) ?_
      refine any_step (i := 22) rfl (by kernel_rfl) (by rfl) (fun K hK => ?_)
      go_simp
      refine hK _ _ ?_
      clear hK K
      try simp only [Act.put, pu]
      refine wpAny_done (by kernel_rfl) ?_ _
      refine NoPanic.normal ?_
      have HB3 := Lib.hid (bltB HBI.out HBI.out.size hx1)
      rw [HFV.out]
      clear y1 y2 a0 a1 a2 a3 a4 a5 a6 a7 a8 c0 hx1
      go_wp2_with fail
      go_roundw
      case rel => exact ⟨k + 1, s1 + fv, by omega, by go_num, (by (try rw [hw])), HI2, HB3⟩
      case measure => simp [intOf]; omega
     ·have HI2 : Hid (0 ≤ s1 ∧ s1 + feeW q (P.way.drop (k + 1)) (P.s.drop (k + 1)) + feesF q (ps.drop (i + 1)) = feesF q ps) := Lib.hid (by have h1 := HI.out; have h2 := HST.out; rw [if_neg heq] at h2; omega)
      obtain ⟨f, t1, ch, r_, p0, p1, p2, p3, p4⟩ := e
      dsimp only at a0 a1 a2 a3 a4 a5 a6 a7 a8 heq
      go_wp2_with fail
      go_roundw
      case rel => exact ⟨k + 1, s1, by omega, by go_num, rfl, HI2, HBI⟩
      case measure => simp [intOf]; omega
    ·have hlk' : ¬ (k : Int) < (ns : Int) := by omega
     have HSN : Hid (0 ≤ s1 ∧ s1 + feesF q (ps.drop (i + 1)) = feesF q ps) := Lib.hid (by
      have h1 := HI.out
      have h2 : P.way.drop k = [] := List.drop_of_length_le (by rw [HRW.out.elen]; omega)
      rw [h2] at h1
      have h3 : feeW q [] (P.s.drop k) = 0 := by cases (P.s.drop k) <;> rfl
      omega)
     go_wp2_with fail
     go_roundw
     case rel => exact ⟨i + 1, s1, by omega, by go_num, rfl, HSN, HBI⟩
     case measure => simp [intOf]; omega
  ·have hin : i = n := by omega
   subst hin
   have HT : Hid (s0 = feesF q ps) := Lib.hid (by
    have h1 := HS.out.2
    rw [List.drop_of_length_le (by rw [HL.out]; exact Nat.le_refl _)] at h1
    have h2 : feesF q [] = 0 := rfl
    omega)
   go_wp2_with fail
   go_ret
   exact ⟨by rw [HT.out]; rfl, HB.out⟩
end Go.Proofs.YthefgdehfgkhhaaGreat
namespace Go.Proofs.YthefgdehfgkhhaaGreat
open Go.RowKit Go.Maps
set_option linter.unusedVariables false
set_option linter.unusedSimpArgs false
attribute [local go_sem] Oper.semAt_some
def ptotF : List Prt → Int
 | [] => 0
 | P :: ps => P.s.headD 0 + ptotF ps
theorem ptotF_snoc : ∀ (ps : List Prt) (P : Prt), ptotF (ps ++ [P]) = ptotF ps + P.s.headD 0
 | [], P => by simp [ptotF]
 | Q :: ps, P => by
  show Q.s.headD 0 + ptotF (ps ++ [P]) = (Q.s.headD 0 + ptotF ps) + P.s.headD 0
  rw [ptotF_snoc ps P]
  omega
theorem ptot_bd {ps : List Prt} (h : ∀ P ∈ ps, 0 ≤ P.s.headD 0 ∧ P.s.headD 0 ≤ 1125899906842624) : 0 ≤ ptotF ps ∧ ptotF ps ≤ 1125899906842624 * ps.length := by
 induction ps with
 | nil => exact ⟨Int.le_refl _, by simp [ptotF]⟩
 | cons P ps ih =>
  have h1 := h P (List.mem_cons_self ..)
  have h2 := ih (fun Q hQ => h Q (List.mem_cons_of_mem _ hQ))
  rw [ptotF, List.length_cons]
  omega
set_option maxRecDepth 100000 in
set_option maxHeartbeats 4000000 in
theorem ptotal_any (w : World) (A : Option Addr) (n c : Nat) (ps : List Prt) (h : RP w A n c ps) (hn : n ≤ 8) (hp : ∀ P ∈ ps, 0 ≤ P.s.headD 0 ∧ P.s.headD 0 ≤ 1125899906842624) :
 Calls Tryz.prog 21 #[.slice A n c] w fun e w' => e = .returned (.int .i64 (ptotF ps)) ∧ Below w.heap.size w w' := by
 have HR := Lib.hid h
 have HP := Lib.hid hp
 have HL := Lib.hid h.len
 clear h hp
 go_enter Tryz.func21, Tryz.ntmps21
 go_wp2_with fail
 go_loopw [3, 8] (fun sv iv wr => ∃ i : Nat, i ≤ n ∧ iv = .int .i64 i ∧ sv = .int .i64 (ptotF (ps.take i)) ∧ Hid (Below w.heap.size w wr)) (fun _ iv _ => n - (intOf iv).toNat)
 case atStart => exact ⟨0, Nat.zero_le _, rfl, rfl, Lib.hid (Below.refl _ _)⟩
 case round =>
  obtain ⟨i, hi, rfl, rfl, HB⟩ := hrel
  have HTB := Lib.hid (ptot_bd (ps := ps.take i) (fun P hP => HP.out P (List.mem_of_mem_take hP)))
  have HTL : Hid ((ps.take i).length ≤ 8) := Lib.hid (by rw [List.length_take]; omega)
  by_cases hlt : i < n
  ·have hlt' : (i : Int) < (n : Int) := by omega
   obtain ⟨b2, o2, P, Aw, nw, cw, As, ns, cs, At, nt, ct, hA, hb2, hx, hpv, q0, q1, q2, q3⟩ := (HR.out.on HB.out).at_ hlt
   subst hA
   have HX : Hid (ptotF (ps.take (i + 1)) = ptotF (ps.take i) + P.s.headD 0) := Lib.hid (by rw [take_snoc hx, ptotF_snoc])
   have HPP := Lib.hid (HP.out P (List.mem_of_getElem? hx))
   have HPV := Lib.hid hpv
   obtain ⟨pa, hpa⟩ : ∃ z, P.a = z := ⟨_, rfl⟩
   obtain ⟨T, hT⟩ : ∃ z, ptotF (ps.take i) = z := ⟨_, rfl⟩
   obtain ⟨x, hxx⟩ : ∃ z, P.s.headD 0 = z := ⟨_, rfl⟩
   rw [hpa] at q0 HPV
   rw [hT] at HX HTB ⊢
   rw [hxx] at HX HPP
   have HXX := Lib.hid hxx
   clear hx hpv hpa hT hxx
   go_upto_region 5 with (fail)
   obtain ⟨W4, hW4⟩ : ∃ W, W = wr.alloc (.cells #[.int .i64 pa, .slice Aw nw cw, .slice As ns cs, .slice At nt ct] 51) := ⟨_, rfl⟩
   have hb4 : Below wr.heap.size wr W4 := by rw [hW4]; exact (Below.refl _ _).alloc (Nat.le_refl _) _
   have k5 : Blk W4 wr.heap.size 51 #[.int .i64 pa, .slice Aw nw cw, .slice As ns cs, .slice At nt ct] := by rw [hW4]; exact Blk.new wr _ _
   rw [← hW4]
   obtain ⟨G5, hG5⟩ : ∃ z, wr.heap.size = z := ⟨_, rfl⟩
   rw [hG5] at k5 ⊢
   have HB4 := Lib.hid (bltB HB.out HB.out.size hb4)
   have HPV4 := Lib.hid (HPV.out.on hb4)
   clear hW4 hG5 hb4 HB HPV q0 q1 q2 q3
   obtain ⟨Aw2, nw2, cw2, As2, ns2, cs2, At2, nt2, ct2, ecs, rW, rS, rT, hn8, hnn⟩ := HPV4.out
   simp at ecs
   obtain ⟨e0, ⟨rfl, rfl, rfl⟩, ⟨rfl, rfl, rfl⟩, rfl, rfl, rfl⟩ := ecs
   have y2 := k5.cell 2
   simp at y2
   clear rW rT e0 hnn
   rcases Nat.eq_zero_or_pos ns with h0 | h0
   ·have hx0 : x = 0 := by
     rw [← HXX.out]
     have := rS.ilen
     rw [h0] at this
     rw [List.eq_nil_of_length_eq_zero this]
     rfl
    subst hx0
    have HTN : Hid (T = ptotF (ps.take (i + 1))) := Lib.hid (by rw [HX.out]; omega)
    subst h0
    clear rS hn8
    go_wp2_with fail
    go_roundw
    case rel => exact ⟨i + 1, by omega, by go_num, by rw [HTN.out], HB4⟩
    case measure => simp [intOf]; omega
   ·obtain ⟨bs9, os9, hAs, hbs9, hxs, s0⟩ := rS.num h0
    subst hAs
    have hg : P.s.getD 0 0 = x := by
     rw [← HXX.out]
     cases P.s <;> rfl
    rw [hg] at s0
    simp only [Nat.add_zero] at s0
    have h0' : (0 : Int) < (ns : Int) := by omega
    have hw : wrap64 (T + x) = T + x := wrap64_of_isI ⟨by have h1 := HTB.out; have h2 := HPP.out; omega, by have h1 := HTB.out; have h2 := HPP.out; have h3 := HTL.out; omega⟩
    clear hxs hg rS hn8
    go_wp2_with fail
    go_roundw
    case rel => exact ⟨i + 1, by omega, by go_num, by rw [HX.out]; (try rw [hw]), HB4⟩
    case measure => simp [intOf]; omega
  ·have hin : i = n := by omega
   subst hin
   have HT : Hid (ptotF (ps.take i) = ptotF ps) := Lib.hid (by rw [List.take_of_length_le (by rw [HL.out]; exact Nat.le_refl _)])
   go_wp2_with fail
   go_ret
   exact ⟨by rw [HT.out]; rfl, HB.out⟩
end Go.Proofs.YthefgdehfgkhhaaGreat
namespace Go.Proofs.YthefgdehfgkhhaaGreat
set_option linter.unusedVariables false
set_option linter.unusedSimpArgs false
/-- What a way's edges give a party, and take from it. -/
def wantW (q : Int) : List Ed → List Int → Int
 | e :: es, x :: xs => ((if e.t = q then x else 0) - (if e.f = q then x else 0)) + wantW q es xs
 | _, _ => 0
theorem wantW_cons (q : Int) (e : Ed) (es : List Ed) (x : Int) (xs : List Int) : wantW q (e :: es) (x :: xs) = ((if e.t = q then x else 0) - (if e.f = q then x else 0)) + wantW q es xs := by rw [wantW]
def wantF (q : Int) : List Prt → Int
 | [] => 0
 | P :: ps => wantW q P.way P.s + wantF q ps
theorem wantF_cons (q : Int) (P : Prt) (ps : List Prt) : wantF q (P :: ps) = wantW q P.way P.s + wantF q ps := by rw [wantF]
theorem wantW_nil (q : Int) (xs : List Int) : wantW q [] xs = 0 := by cases xs <;> rfl
theorem wantW_snoc (q : Int) (e : Ed) (x : Int) : ∀ (es : List Ed) (xs : List Int), xs.length = es.length → wantW q (es ++ [e]) (xs ++ [x]) = wantW q es xs + ((if e.t = q then x else 0) - (if e.f = q then x else 0))
 | [], [], _ => by simp [wantW]
 | [], _ :: _, h => by simp at h
 | _ :: _, [], h => by simp at h
 | b :: es, y :: xs, h => by
  rw [List.cons_append, List.cons_append, wantW_cons, wantW_cons, wantW_snoc q e x es xs (by simpa using h)]
  omega
theorem feeW_snoc (q : Int) (e : Ed) (x : Int) : ∀ (es : List Ed) (xs : List Int), xs.length = es.length → feeW q (es ++ [e]) (xs ++ [x]) = feeW q es xs + (if e.f = q then feeV e x else 0)
 | [], [], _ => by simp [feeW]
 | [], _ :: _, h => by simp at h
 | _ :: _, [], h => by simp at h
 | b :: es, y :: xs, h => by
  rw [List.cons_append, List.cons_append, feeW_cons, feeW_cons, feeW_snoc q e x es xs (by simpa using h)]
  omega
theorem feeW_none {q : Int} : ∀ (es : List Ed) (xs : List Int), (∀ e ∈ es, e.f ≠ q) → feeW q es xs = 0
 | [], xs, _ => by cases xs <;> rfl
 | _ :: _, [], _ => rfl
 | e :: es, x :: xs, h => by
  rw [feeW_cons, if_neg (h e (List.mem_cons_self ..)), feeW_none es xs (fun b hb => h b (List.mem_cons_of_mem _ hb))]
  rfl
/-- A way's cost, from the last edge on: what each party has of it. -/
theorem costR_want (q : Int) : ∀ (es : List Ed) (a x : Int) (r : List Int × List Int), costR es a x = some r → (∀ (i : Nat) (e e' : Ed), es[i]? = some e → es[i + 1]? = some e' → e'.t = e.f) →
 ∀ (e0 e1 : Ed), es.head? = some e0 → es.getLast? = some e1 → wantW q es.reverse r.1 = (if e0.t = q then a else 0) + feeW q (es.reverse.drop 1) (r.1.drop 1) - (if e1.f = q then r.1.headD 0 else 0)
 | [], a, x, r, h, hl, e0, e1, h0, h1 => by simp at h0
 | [e], a, x, r, h, hl, e0, e1, h0, h1 => by
  rw [costR_cons] at h
  split at h
  ·rw [if_pos (by simp)] at h
   simp [costR] at h
   subst h
   simp at h0 h1
   subst h0 h1
   simp [wantW, feeW]
  ·simp at h
 | e :: e' :: es, a, x, r, h, hl, e0, e1, h0, h1 => by
  rw [costR_cons] at h
  split at h
  ·split at h
   ·rename_i _ h2
    simp only [List.isEmpty_cons, Bool.false_or, Bool.and_eq_true] at h2
    rw [if_pos h2.2, Option.map_eq_some_iff] at h
    obtain ⟨r', hr', rfl⟩ := h
    have ih := costR_want q (e' :: es) _ _ r' hr' (fun i b b' hb hb' => hl (i + 1) b b' (by simpa using hb) (by simpa using hb')) e' e1 rfl (by simpa using h1)
    have hlen := (costR_len (e' :: es) _ _ r'.1 r'.2 hr').1
    have hc := hl 0 e e' rfl rfl
    simp at h0
    subst h0
    dsimp only
    rw [List.reverse_cons, wantW_snoc _ _ _ _ _ (by rw [List.length_reverse]; exact hlen), ih, hc]
    have hd1 : ((e' :: es).reverse ++ [e]).drop 1 = (e' :: es).reverse.drop 1 ++ [e] := by
     rw [List.drop_append_of_le_length (by simp)]
    have hd2 : (r'.1 ++ [a]).drop 1 = r'.1.drop 1 ++ [a] := by
     rw [List.drop_append_of_le_length (by rw [hlen]; simp)]
    have hd3 : (r'.1 ++ [a]).headD 0 = r'.1.headD 0 := by
     cases hr : r'.1 with
     | nil => rw [hr] at hlen; simp at hlen
     | cons z zs => rfl
    rw [hd1, hd2, hd3, feeW_snoc _ _ _ _ _ (by rw [List.length_drop, List.length_drop, List.length_reverse, hlen])]
    split <;> split <;> split <;> omega
   ·simp at h
  ·simp at h
/-! A part of a plan: it goes from the payer to the payee. -/
structure PGo (g : List Ed) (fr td : Int) (P : Prt) : Prop where
 ok : POk g P
 ne : P.way ≠ []
 head : ∀ e, P.way.head? = some e → e.f = fr
 last : ∀ e, P.way.getLast? = some e → e.t = td
theorem PGo.link {g : List Ed} {fr td : Int} {P : Prt} (h : PGo g fr td P) {i : Nat} {e e' : Ed} (he : P.way[i]? = some e) (he' : P.way[i + 1]? = some e') : e.t = e'.f := by
 have hi := (List.getElem?_eq_some_iff.1 he').1
 have hw := wayB_at h.ok.way.1 hi
 unfold wayAt at hw
 rw [eAt_some he', show i + 1 - 1 = i by omega, eAt_some he] at hw
 simp only [Bool.and_eq_true, Bool.or_eq_true, decide_eq_true_eq] at hw
 rcases hw.2.1 with h | h
 ·omega
 ·exact h
theorem PGo.want {g : List Ed} {fr td : Int} {P : Prt} (h : PGo g fr td P) (q : Int) : wantW q P.way P.s = (if td = q then P.a else 0) + (if q ≠ fr ∧ q ≠ td then feeW q (P.way.drop 1) (P.s.drop 1) else 0) - (if fr = q then P.s.headD 0 else 0) := by
 have hc := h.ok.2
 have hcr : costR P.way.reverse P.a 100 = some (P.s, P.t) := by
  unfold cost at hc
  split at hc
  ·exact hc
  ·simp at hc
 obtain ⟨e0, h0⟩ : ∃ e, P.way.head? = some e := by
  cases hw : P.way with
  | nil => exact absurd hw h.ne
  | cons e es => exact ⟨e, rfl⟩
 obtain ⟨e1, h1⟩ : ∃ e, P.way.getLast? = some e := ⟨_, List.getLast?_eq_some_getLast h.ne⟩
 have hf := h.head e0 h0
 have ht := h.last e1 h1
 have h0' : P.way[0]? = some e0 := by rw [← List.head?_eq_getElem?]; exact h0
 have h1' : P.way[P.way.length - 1]? = some e1 := by rw [← List.getLast?_eq_getElem?]; exact h1
 have key := costR_want q P.way.reverse P.a 100 (P.s, P.t) hcr (fun i e e' he he' => by
  have hi := (List.getElem?_eq_some_iff.1 he').1
  rw [List.length_reverse] at hi
  rw [List.getElem?_reverse (by omega)] at he he'
  refine h.link (i := P.way.length - 1 - (i + 1)) he' ?_
  rw [show P.way.length - 1 - (i + 1) + 1 = P.way.length - 1 - i by omega]
  exact he) e1 e0 (by rw [List.head?_reverse]; exact h1) (by rw [List.getLast?_reverse]; exact h0)
 rw [List.reverse_reverse] at key
 rw [key, hf, ht]
 have hin : ∀ e ∈ P.way.drop 1, ∃ j, 1 ≤ j ∧ j < P.way.length ∧ P.way[j]? = some e := by
  intro e he
  obtain ⟨j, hj, rfl⟩ := List.mem_iff_getElem.1 he
  rw [List.length_drop] at hj
  exact ⟨1 + j, by omega, by omega, by rw [List.getElem_drop]; exact List.getElem?_eq_getElem _⟩
 have hnf : q = fr ∨ q = td → feeW q (P.way.drop 1) (P.s.drop 1) = 0 := by
  intro hq
  refine feeW_none _ _ fun e he => ?_
  obtain ⟨j, hj1, hj2, hj⟩ := hin e he
  rcases hq with rfl | rfl
  ·obtain ⟨b, hb⟩ : ∃ b, P.way[j - 1]? = some b := ⟨_, List.getElem?_eq_getElem (by omega)⟩
   have hl := h.link (i := j - 1) hb (by rw [show j - 1 + 1 = j by omega]; exact hj)
   rw [← hl, ← hf]
   rcases Nat.eq_zero_or_pos (j - 1) with hz | hz
   ·rw [hz, h0'] at hb
    injection hb with hb
    subst hb
    exact fun e' => (edge_spec (h.ok.edge (List.mem_of_getElem? h0')).2).2.2.1 e'.symm
   ·exact fun e' => (way_fresh h.ok.way.1 hz h0' hb).1 e'.symm
  ·rw [← ht]
   rcases Nat.lt_or_ge j (P.way.length - 1) with hlt | hge
   ·exact (way_fresh h.ok.way.1 hlt hj h1').1
   ·rw [show P.way.length - 1 = j by omega, hj] at h1'
    injection h1' with h1'
    subst h1'
    exact (edge_spec (h.ok.edge (List.mem_of_getElem? hj)).2).2.2.1
 by_cases hq : q = fr ∨ q = td
 ·rw [hnf hq]
  rw [if_neg (show ¬(q ≠ fr ∧ q ≠ td) by rcases hq with h | h <;> simp [h])]
 ·rw [if_pos (show q ≠ fr ∧ q ≠ td from ⟨fun e => hq (.inl e), fun e => hq (.inr e)⟩)]
theorem send_go {g : List Ed} {fr td : Int} {L : Notes} {a : Int} {P : Prt} {y : Fnd} (h : sendF g fr td 100 L a = some (P, y)) : PGo g fr td P ∧ P.a = a := by
 obtain ⟨h1, h2, h3, h4⟩ := send_ok h
 have hk := (best_ok h3).2
 exact ⟨⟨h1, by rw [h4]; exact hk.ne, by rw [h4]; exact hk.head, by rw [h4]; exact hk.last⟩, h2⟩
theorem sends_go {g : List Ed} {fr td : Int} : ∀ (as_ : List Int) (L : Notes) (q : Rat) (r : List Prt × Rat), sendsF g fr td 100 L q as_ = some r → (∀ P ∈ r.1, PGo g fr td P) ∧ r.1.map (·.a) = as_
 | [], L, q, r, h => by
  simp [sendsF] at h
  subst h
  exact ⟨fun P hP => by simp at hP, rfl⟩
 | a :: as_, L, q, r, h => by
  rw [sends_cons] at h
  split at h
  ·simp at h
  ·rename_i P y hs
   rw [Option.map_eq_some_iff] at h
   obtain ⟨r', hr', rfl⟩ := h
   obtain ⟨h1, h2⟩ := sends_go as_ _ _ r' hr'
   refine ⟨fun Q hQ => ?_, by simp [h2, (send_go hs).2]⟩
   rcases List.mem_cons.1 hQ with rfl | hQ
   ·exact (send_go hs).1
   ·exact h1 Q hQ
theorem range_sum (c : Int) (k : Int) (hk : 0 ≤ k) : ∀ n : Nat, ((List.range n).map fun (i : Nat) => c + if (i : Int) < k then 1 else 0).sum = (n : Int) * c + min (n : Int) k
 | 0 => by simp; omega
 | n + 1 => by
  rw [List.range_succ, List.map_append, List.sum_append, range_sum c k hk n]
  have : ((n + 1 : Nat) : Int) * c = (n : Int) * c + c := by rw [Int.natCast_add, Int.add_mul]; simp
  rw [this]
  simp
  split <;> omega
theorem shares_sum {a n : Int} {l : List Int} (h : shares a n = some l) : l.sum = a := by
 unfold shares at h
 split at h
 ·simp at h
 ·rename_i hc
  simp only [Option.some.injEq] at h
  subst h
  have hn : (n.toNat : Int) = n := Int.toNat_of_nonneg (by omega)
  have h1 := Int.emod_nonneg a (show n ≠ 0 by omega)
  have h2 := Int.emod_lt_of_pos a (show 0 < n by omega)
  rw [range_sum _ _ h1, hn, Int.min_eq_right (by omega)]
  have := Int.mul_ediv_add_emod a n
  omega
theorem split_go {L : Notes} {g : List Ed} {fr td a : Int} {N : Nat} {r : List Prt × Rat} (h : splitF L g fr td a 100 (N : Int) = some r) : fr ≠ td ∧ (∀ P ∈ r.1, PGo g fr td P) ∧ (r.1.map (·.a)).sum = a := by
 obtain ⟨ha, i, _, ht⟩ := split_try h
 refine ⟨?_, ?_⟩
 ·unfold argsB at ha
  simp only [Bool.and_eq_true, decide_eq_true_eq] at ha
  exact ha.2.2.2.1
 ·unfold tryF at ht
  split at ht
  ·simp at ht
  ·rename_i sh hsh
   obtain ⟨h1, h2⟩ := sends_go _ _ _ _ ht
   exact ⟨h1, by rw [h2]; exact shares_sum hsh⟩
theorem wants_go {g : List Ed} {fr td : Int} (hft : fr ≠ td) : ∀ (ps : List Prt), (∀ P ∈ ps, PGo g fr td P) → (∀ q, q ≠ fr → q ≠ td → wantF q ps = feesF q ps) ∧ wantF td ps = (ps.map (·.a)).sum ∧ wantF fr ps = - ptotF ps
 | [], _ => ⟨fun _ _ _ => rfl, rfl, rfl⟩
 | P :: ps, h => by
  obtain ⟨h1, h2, h3⟩ := wants_go hft ps (fun Q hQ => h Q (List.mem_cons_of_mem _ hQ))
  have hP := h P (List.mem_cons_self ..)
  refine ⟨fun q q1 q2 => ?_, ?_, ?_⟩
  ·rw [wantF_cons, hP.want, if_neg (Ne.symm q2), if_pos ⟨q1, q2⟩, if_neg (Ne.symm q1), h1 q q1 q2, feesF]
   omega
  ·rw [wantF_cons, hP.want, if_pos rfl, if_neg (fun h => h.2 rfl), if_neg hft, h2, List.map_cons, List.sum_cons]
   omega
  ·rw [wantF_cons, hP.want, if_neg (Ne.symm hft), if_neg (fun h => h.1 rfl), if_pos rfl, h3, ptotF]
   omega
/-! All parties together. -/
def PIn (S : List Cn) : Prop := ∀ s ∈ S, (0 ≤ s.p0 ∧ s.p0 < 5) ∧ (0 ≤ s.p1 ∧ s.p1 < 5)
def sum5 (f : Int → Int) : Int := f 0 + f 1 + f 2 + f 3 + f 4
theorem sum5_one {p x : Int} (h : 0 ≤ p ∧ p < 5) : sum5 (fun q => if p = q then x else 0) = x := by
 unfold sum5
 have : p = 0 ∨ p = 1 ∨ p = 2 ∨ p = 3 ∨ p = 4 := by omega
 rcases this with rfl | rfl | rfl | rfl | rfl <;> simp
theorem want5_way {es : List Ed} : ∀ (xs : List Int), (∀ e ∈ es, (0 ≤ e.f ∧ e.f < 5) ∧ (0 ≤ e.t ∧ e.t < 5)) → sum5 (fun q => wantW q es xs) = 0 := by
 induction es with
 | nil => intro xs _; cases xs <;> rfl
 | cons e es ih =>
  intro xs h
  cases xs with
  | nil => rfl
  | cons x xs =>
   have h1 := ih xs (fun b hb => h b (List.mem_cons_of_mem _ hb))
   obtain ⟨h2, h3⟩ := h e (List.mem_cons_self ..)
   have e1 := sum5_one (x := x) h2
   have e2 := sum5_one (x := x) h3
   simp only [sum5, wantW_cons] at h1 e1 e2 ⊢
   omega
theorem edge_in {S : List Cn} {g : List Ed} (hg : GInv S g) (hp : PIn S) {e : Ed} (he : e ∈ g) : (0 ≤ e.f ∧ e.f < 5) ∧ (0 ≤ e.t ∧ e.t < 5) := by
 obtain ⟨⟨s, hs, hh, _⟩, _⟩ := hg.1 e he
 have := hp s (lookS_mem hs).1
 rcases hh with ⟨h1, h2⟩ | ⟨h1, h2⟩ <;> omega
theorem want5 {S : List Cn} {g : List Ed} (hg : GInv S g) (hp : PIn S) : ∀ (ps : List Prt), (∀ P ∈ ps, POk g P) → sum5 (fun q => wantF q ps) = 0
 | [], _ => rfl
 | P :: ps, h => by
  have h1 := want5 hg hp ps (fun Q hQ => h Q (List.mem_cons_of_mem _ hQ))
  have h2 := want5_way (es := P.way) P.s (fun e he => edge_in hg hp ((h P (List.mem_cons_self ..)).1 e he))
  simp only [sum5, wantF_cons] at h1 h2 ⊢
  omega
theorem payF_in : ∀ (ls : List Lg) (S S2 : List Cn), PIn S → payF S ls = some S2 → PIn S2
 | [], S, S2, h, hp => by simp [payF] at hp; subst hp; exact h
 | l :: ls, S, S2, h, hp => by
  cases hs : lookS S l.c with
  | none => rw [payF, hs] at hp; simp at hp
  | some s =>
   rw [pay_cons _ _ _ hs] at hp
   split at hp
   ·simp at hp
   ·refine payF_in ls _ S2 (fun x hx => ?_) hp
    rcases mem_putS hx with hx | rfl
    ·exact h x hx
    ·obtain ⟨m1, m2, _⟩ := moveS_sum s l
     rw [m1, m2]
     exact h s (lookS_mem hs).1
theorem st_in : ∀ (ps : List Prt) (S : List Cn), PIn S → PIn (stF S ps)
 | [], S, h => h
 | P :: ps, S, h => by
  refine st_in ps _ ?_
  unfold pay1
  cases hp : payF S (legsF S false P.way P.s) with
  | none => exact h
  | some S2 => exact payF_in _ _ _ h hp
/-! What a party is worth behind a payment. -/
theorem sumW_cons (s : Cn) (S : List Cn) (q : Int) : sumW (s :: S) q = partW s q + sumW S q := by
 unfold sumW
 rw [List.map_cons, List.sum_cons]
theorem sumW_set {s s' : Cn} (hc : s'.c = s.c) (q : Int) : ∀ (S : List Cn), lookS S s.c = some s → sumW (putS S s') q = sumW S q - partW s q + partW s' q
 | [], h => by simp [lookS] at h
 | x :: S, h => by
  unfold lookS at h
  unfold putS
  by_cases e : x.c = s.c
  ·rw [if_pos e] at h
   injection h with h
   subst h
   rw [if_pos hc.symm, sumW_cons, sumW_cons]
   omega
  ·rw [if_neg e] at h
   rw [if_neg (by rw [hc]; exact e), sumW_cons, sumW_cons, sumW_set hc q S h]
   omega
theorem leg_part {S : List Cn} {e : Ed} {s : Cn} (hs : Ch S e s) (x q : Int) : partW (moveS s (legF S false e x)) q - partW s q = (if e.t = q then x else 0) - (if e.f = q then x else 0) := by
 have h1 := sideF_eq hs.look
 have hne := hs.ne
 unfold legF moveS partW
 rw [h1]
 rcases hs.ends with ⟨a, b⟩ | ⟨a, b⟩
 ·simp only [a, b, if_true, Bool.false_eq_true, if_false]
  split <;> split <;> omega
 ·have : ¬ s.p0 = e.f := by rw [a]; exact fun e' => hne e'.symm
  rw [if_neg this]
  simp only [a, b, Bool.false_eq_true, if_false, show ¬ (1 : Int) = 0 by decide]
  split <;> split <;> omega
theorem pay_want (S : List Cn) (q : Int) : ∀ (es : List Ed) (xs : List Int) (S' S2 : List Cn), es.Pairwise (fun a b => a.c ≠ b.c) → Agree S S' es → (∀ e ∈ es, ∃ s, Ch S e s) → payF S' (legsF S false es xs) = some S2 → sumW S2 q = sumW S' q + wantW q es xs
 | [], xs, S', S2, _, _, _, h => by
  simp [legsF, payF] at h
  subst h
  rw [wantW_nil]
  omega
 | e :: es, [], S', S2, _, _, _, h => by
  simp [legsF, payF] at h
  subst h
  show sumW S' q = sumW S' q + 0
  omega
 | e :: es, x :: xs, S', S2, hd, ha, hc, h => by
  rw [List.pairwise_cons] at hd
  obtain ⟨h1, h2⟩ := ha e (List.mem_cons_self ..)
  obtain ⟨s, hs⟩ := hc e (List.mem_cons_self ..)
  have hs' : lookS S' (legF S false e x).c = some s := h1.trans hs.look
  have hsc : s.c = e.c := (lookS_mem hs.look).2
  rw [legsF, pay_cons _ _ _ hs'] at h
  split at h
  ·simp at h
  ·have hmc : (moveS s (legF S false e x)).c = e.c := by rw [move_c]; exact hsc
   rw [pay_want S q es xs _ S2 hd.2 (agree_tail ha hd.1 _ hmc) (fun b hb => hc b (List.mem_cons_of_mem _ hb)) h, sumW_set (s := s) (by rw [move_c]) q S' (by rw [hsc, h1]; exact hs.look), wantW_cons]
   have := leg_part hs x q
   omega
theorem st_want {g : List Ed} (q : Int) : ∀ (ps : List Prt) (S : List Cn) (i : Nat), GInv S g → (∀ P ∈ ps, POk g P) → stopF S ps i = none → sumW (stF S ps) q = sumW S q + wantF q ps
 | [], S, i, _, _, _ => by show sumW S q = sumW S q + 0; omega
 | P :: ps, S, i, hg, hp, hst => by
  rw [stop_cons] at hst
  split at hst
  ·simp at hst
  ·rename_i hl
   have hP := hp P (List.mem_cons_self ..)
   rcases lacks_iff hg hP with ⟨_, S2, h2⟩ | ⟨hpos, _⟩
   ·have e1 : pay1 S P = S2 := by unfold pay1; rw [h2]; rfl
    rw [e1] at hst
    show sumW (stF (pay1 S P) ps) q = _
    rw [e1, st_want q ps S2 (i + 1) (hg.pay hP false h2) (fun Q hQ => hp Q (List.mem_cons_of_mem _ hQ)) hst, wantF_cons,
     pay_want S q P.way P.s S S2 (way_once hg hP.1 hP.way.1) (agree_refl hg hP.1) (fun e he => ginv_ch hg (hP.edge he).1 (hP.edge he).2) h2]
    omega
   ·omega
theorem part5 {s : Cn} (h : (0 ≤ s.p0 ∧ s.p0 < 5) ∧ (0 ≤ s.p1 ∧ s.p1 < 5)) : sum5 (partW s) = s.h0 + s.h1 := by
 have h1 := sum5_one (x := s.h0) h.1
 have h2 := sum5_one (x := s.h1) h.2
 unfold sum5 at h1 h2 ⊢
 unfold partW
 omega
def allS (S : List Cn) : Int := (S.map fun s => s.h0 + s.h1).sum
theorem all5 : ∀ {S : List Cn}, PIn S → sum5 (sumW S) = allS S
 | [], _ => rfl
 | s :: S, h => by
  have h1 := all5 (S := S) (fun x hx => h x (List.mem_cons_of_mem _ hx))
  have h2 := part5 (h s (List.mem_cons_self ..))
  unfold sum5 at h1 h2 ⊢
  simp only [sumW_cons]
  show _ = (s.h0 + s.h1) + allS S
  omega
theorem allS_cons (s : Cn) (S : List Cn) : allS (s :: S) = (s.h0 + s.h1) + allS S := rfl
theorem allS_perm {S T : List Cn} (h : T.Perm S) : allS T = allS S := by
 induction h with
 | nil => rfl
 | cons s _ ih => rw [allS_cons, allS_cons, ih]
 | swap s t l => rw [allS_cons, allS_cons, allS_cons, allS_cons]; omega
 | trans _ _ h1 h2 => exact h1.trans h2
theorem sumW_pos {S : List Cn} (h : SOk S) (q : Int) : 0 ≤ sumW S q := by
 induction S with
 | nil => exact Int.le_refl _
 | cons s S ih =>
  have h1 := ih (fun x hx => h x (List.mem_cons_of_mem _ hx))
  have h2 := h s (List.mem_cons_self ..)
  have h3 := partW_bound (i := q) h2.1 h2.2.1
  rw [sumW_cons]
  omega
theorem tot5 (own : List Int) (S : List Cn) : totF own S 5 = (own.getD 0 0 + sumW S 0) + (own.getD 1 0 + sumW S 1) + (own.getD 2 0 + sumW S 2) + (own.getD 3 0 + sumW S 3) + (own.getD 4 0 + sumW S 4) := by
 rw [totF_succ, totF_succ, totF_succ, totF_succ, totF_succ]
 show 0 + (own.getD 0 0 + sumW S 0) + (own.getD 1 0 + sumW S 1) + (own.getD 2 0 + sumW S 2) + (own.getD 3 0 + sumW S 3) + (own.getD 4 0 + sumW S 4) = _
 omega
/-- What a plan leaves. -/
structure PlanL (own : List Int) (g : List Ed) (fr td a : Int) (R : PlanR) : Prop where
 worth : ∀ q, q < 5 → worthF own R.S q = 1073741824 + wantF (q : Int) R.parts
 ok : SOk R.S
 ins : PIn R.S
 parts : (∀ P ∈ R.parts, POk g P) ∧ R.parts.length ≤ 8
 edges : ∀ P ∈ R.parts, ∀ e ∈ P.way, (0 ≤ e.f ∧ e.f < 5) ∧ (0 ≤ e.t ∧ e.t < 5)
 zero : R.paid = false → R.parts = []
 sum : sum5 (fun q => wantF q R.parts) = 0
 wants : R.paid = true → fr ≠ td ∧ (∀ q, q ≠ fr → q ≠ td → wantF q R.parts = feesF q R.parts) ∧ wantF td R.parts = a ∧ wantF fr R.parts = - ptotF R.parts
theorem plan_law {own : List Int} {g : List Ed} {fr td a : Int} {N : Nat} {S : List Cn} {f t : Nat} {L : Notes} (hgd : Good L) (hg : GInv S g) (hin : PIn S) (hw : ∀ q, q < 5 → worthF own S q = 1073741824) :
 PlanL own g fr td a (planF g fr td a (N : Int) f t S L) := by
 obtain ⟨hG, hE⟩ := plan_ends (g := g) (fr := fr) (td := td) (a := a) (N := N) (S := S) f t L hgd
 generalize planF g fr td a (N : Int) f t S L = R at hG hE ⊢
 rcases hE with ⟨h1, h2, h3⟩ | ⟨h1, L0, r, hL0, hs, hst, hps, hS, hL⟩
 ·refine ⟨fun q hq => ?_, by rw [h3]; exact hg.2.1, by rw [h3]; exact hin, by rw [h2]; exact ⟨fun P hP => by simp at hP, by simp⟩, by rw [h2]; exact fun P hP => by simp at hP, fun _ => h2, by rw [h2]; rfl, fun h => by rw [h1] at h; cases h⟩
  rw [h3, h2, hw q hq]
  rfl
 ·obtain ⟨hp, hlen⟩ := split_ok hs
  obtain ⟨hft, hgo, hsum⟩ := split_go hs
  obtain ⟨w1, w2, w3⟩ := wants_go hft r.1 hgo
  refine ⟨fun q hq => ?_, by rw [hS]; exact (stF_inv r.1 S hg hp).2.1, by rw [hS]; exact st_in _ _ hin, by rw [hps]; exact ⟨hp, hlen⟩, by rw [hps]; exact fun P hP e he => edge_in hg hin ((hp P hP).1 e he), fun h => (by rw [h1] at h; cases h), by rw [hps]; exact want5 hg hin r.1 hp, fun _ => ⟨hft, by rw [hps]; exact w1, by rw [hps, w2]; exact hsum, by rw [hps]; exact w3⟩⟩
  have h5 := hw q hq
  have h6 := st_want (q : Int) r.1 S 0 hg hp hst
  unfold worthF at h5 ⊢
  rw [hS, h6, hps]
  omega
/-- All together have what they had. -/
theorem PlanL.total {own : List Int} {g : List Ed} {fr td a : Int} {R : PlanR} (h : PlanL own g fr td a R) : totF own R.S 5 = 5368709120 ∧ (own.getD 0 0 + own.getD 1 0 + own.getD 2 0 + own.getD 3 0 + own.getD 4 0) + allS R.S = 5368709120 := by
 have h0 : own.getD 0 0 + sumW R.S 0 = 1073741824 + wantF 0 R.parts := h.worth 0 (by decide)
 have h1 : own.getD 1 0 + sumW R.S 1 = 1073741824 + wantF 1 R.parts := h.worth 1 (by decide)
 have h2 : own.getD 2 0 + sumW R.S 2 = 1073741824 + wantF 2 R.parts := h.worth 2 (by decide)
 have h3 : own.getD 3 0 + sumW R.S 3 = 1073741824 + wantF 3 R.parts := h.worth 3 (by decide)
 have h4 : own.getD 4 0 + sumW R.S 4 = 1073741824 + wantF 4 R.parts := h.worth 4 (by decide)
 have hs := h.sum
 have ha := all5 h.ins
 simp only [sum5] at hs ha
 rw [tot5]
 omega
theorem PlanL.bound {own : List Int} {g : List Ed} {fr td a : Int} {R : PlanR} (h : PlanL own g fr td a R) (ho : ∀ q, q < 5 → 0 ≤ own.getD q 0) (q : Nat) (hq : q < 5) : 0 ≤ worthF own R.S q ∧ worthF own R.S q ≤ 5368709120 := by
 have ht := h.total.1
 have hp : ∀ i, i < 5 → 0 ≤ worthF own R.S i := fun i hi => by
  have := ho i hi
  have := sumW_pos h.ok (i : Int)
  unfold worthF
  omega
 rw [tot5] at ht
 have q0 : 0 ≤ own.getD 0 0 + sumW R.S 0 := hp 0 (by decide)
 have q1 : 0 ≤ own.getD 1 0 + sumW R.S 1 := hp 1 (by decide)
 have q2 : 0 ≤ own.getD 2 0 + sumW R.S 2 := hp 2 (by decide)
 have q3 : 0 ≤ own.getD 3 0 + sumW R.S 3 := hp 3 (by decide)
 have q4 : 0 ≤ own.getD 4 0 + sumW R.S 4 := hp 4 (by decide)
 have : q = 0 ∨ q = 1 ∨ q = 2 ∨ q = 3 ∨ q = 4 := by omega
 rcases this with rfl | rfl | rfl | rfl | rfl
 ·show 0 ≤ own.getD 0 0 + sumW R.S 0 ∧ own.getD 0 0 + sumW R.S 0 ≤ _; omega
 ·show 0 ≤ own.getD 1 0 + sumW R.S 1 ∧ own.getD 1 0 + sumW R.S 1 ≤ _; omega
 ·show 0 ≤ own.getD 2 0 + sumW R.S 2 ∧ own.getD 2 0 + sumW R.S 2 ≤ _; omega
 ·show 0 ≤ own.getD 3 0 + sumW R.S 3 ∧ own.getD 3 0 + sumW R.S 3 ≤ _; omega
 ·show 0 ≤ own.getD 4 0 + sumW R.S 4 ∧ own.getD 4 0 + sumW R.S 4 ≤ _; omega
/-! The net's parties. -/
theorem NetIn.step {x : NetS} {i : Nat} {l : Lk} (h : PIn x.S) : PIn (netStep x l i).S := by
 unfold netStep
 split
 ·exact h
 ·intro s hs
  rcases mem_putS hs with hs | rfl
  ·exact h s hs
  ·have hm1 : l.a % 5 < 5 := Nat.mod_lt _ (by decide)
   have hm2 : l.b % 5 < 5 := Nat.mod_lt _ (by decide)
   show (0 ≤ ((l.a % 5 : Nat) : Int) ∧ ((l.a % 5 : Nat) : Int) < 5) ∧ (0 ≤ ((l.b % 5 : Nat) : Int) ∧ ((l.b % 5 : Nat) : Int) < 5)
   omega
theorem netF_in : ∀ (ls : List Lk) (i : Nat) (x : NetS), PIn x.S → PIn (netF ls i x).S
 | [], i, x, h => h
 | l :: ls, i, x, h => netF_in ls (i + 1) (netStep x l i) (NetIn.step h)
theorem net_in (ls : List Lk) : PIn (netO ls).S := netF_in _ _ _ (fun s hs => by simp at hs)
end Go.Proofs.YthefgdehfgkhhaaGreat
