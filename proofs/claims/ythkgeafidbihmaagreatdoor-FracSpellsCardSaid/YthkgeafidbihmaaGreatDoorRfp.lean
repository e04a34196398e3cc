/-
  The document's fractions: Right, taken, Text, Parse.
-/
import Derived.Test.YthkgeafidbihmaaGreatDoorFref
import Derived.Test.YthkgeafidbihmaaGreatDoorFracT
import Derived.Test.YthkgeafidbihmaaGreatDoorRefG
import Derived.Test.YthkgeafidbihmaaGreatDoorRefP
import Derived.Test.YthkgeafidbihmaaGreatDoorFracPs

/-
  The document's fractions: Right, taken, Text.
-/
namespace Go.Proofs.YthkgeafidbihmaaGreatDoor
open Go.RowKit Go.Shelf
set_option linter.unusedVariables false
set_option linter.unusedSimpArgs false
attribute [local go_sem] Oper.semAt_some

set_option maxRecDepth 100000 in
theorem rfright_any (w : World) (A B : Option Addr) (n c m d : Nat) (l k : List Nat) (h1 : Rd w w.heap.size A n c l) (h2 : Rd w w.heap.size B m d k) (hn : n ≤ 60000) (hm : m ≤ 60000) :
    Calls Tryz.prog 25 #[.agg #[.slice A n c, .slice B m d]] w fun e w' => e = .returned (.bool (frR l k)) ∧ Below w.heap.size w w' := by
  have hB0 : Blk (w.alloc (.cells #[.slice A n c, .slice B m d] 24)) w.heap.size 24 #[.slice A n c, .slice B m d] := Blk.new w _ _
  have hb0 : Below w.heap.size w (w.alloc (.cells #[.slice A n c, .slice B m d] 24)) := (Below.refl _ _).alloc (Nat.le_refl _) _
  have k1 := h1.on hb0
  have k2 := h2.on hb0
  have hkl := h2.len
  clear h1 h2
  obtain ⟨w0, hw0⟩ : ∃ w0, w0 = w.alloc (.cells #[.slice A n c, .slice B m d] 24) := ⟨_, rfl⟩
  rw [← hw0] at hB0 hb0 k1 k2
  have hc0 := hB0.cell 0
  have hc1 := hB0.cell 1
  rcases hr : rightB l with _ | _
  · have HF : Hid (frR l k = false) := Lib.hid (by unfold frR; rw [hr]; rfl)
    have HR := Lib.hid hr
    obtain ⟨z, hz⟩ : ∃ z, rightB k = z := ⟨_, rfl⟩
    have HK := Lib.hid hz
    clear hr hz
    go_enter Tryz.func25, Tryz.ntmps25
    go_wp2_with fail
    rw [← hw0]
    clear hw0
    go_wp2_with fail
    refine (rright_any _ _ _ _ _ _ k1 (by omega)).mono ?_
    rintro e w' ⟨rfl, rfl⟩
    rw [HR.out]
    go_wp2_with fail
    refine (rright_any _ _ _ _ _ _ k2 (by omega)).mono ?_
    rintro e w' ⟨rfl, rfl⟩
    rw [HK.out]
    go_wp2_with fail
    go_ret
    exact ⟨by rw [HF.out]; rfl, hb0⟩
  · have HR := Lib.hid hr
    rcases hk : rightB k with _ | _
    · have HF : Hid (frR l k = false) := Lib.hid (by unfold frR; rw [hr, hk]; rfl)
      have HK := Lib.hid hk
      clear hr hk
      go_enter Tryz.func25, Tryz.ntmps25
      go_wp2_with fail
      rw [← hw0]
      clear hw0
      go_wp2_with fail
      refine (rright_any _ _ _ _ _ _ k1 (by omega)).mono ?_
      rintro e w' ⟨rfl, rfl⟩
      rw [HR.out]
      go_wp2_with fail
      refine (rright_any _ _ _ _ _ _ k2 (by omega)).mono ?_
      rintro e w' ⟨rfl, rfl⟩
      rw [HK.out]
      go_wp2_with fail
      go_ret
      exact ⟨by rw [HF.out]; rfl, hb0⟩
    · have HK := Lib.hid hk
      rcases Nat.eq_zero_or_pos m with hm0 | hm0
      · have HF : Hid (frR l k = false) := Lib.hid (by unfold frR; rw [hr, hk, hkl, hm0]; rfl)
        subst hm0
        clear hr hk
        go_enter Tryz.func25, Tryz.ntmps25
        go_wp2_with fail
        rw [← hw0]
        clear hw0
        go_wp2_with fail
        refine (rright_any _ _ _ _ _ _ k1 (by omega)).mono ?_
        rintro e w' ⟨rfl, rfl⟩
        rw [HR.out]
        go_wp2_with fail
        refine (rright_any _ _ _ _ _ _ k2 (by omega)).mono ?_
        rintro e w' ⟨rfl, rfl⟩
        rw [HK.out]
        go_wp2_with fail
        go_ret
        exact ⟨by rw [HF.out]; rfl, hb0⟩
      · have hpos : ((m : Int) == 0) = false := by simp; omega
        obtain ⟨X, rfl⟩ := as_digs k1.dig hr
        obtain ⟨Y, rfl⟩ := as_digs k2.dig hk
        have HF : Hid (frR (digs X) (digs Y) = decide (Nat.gcd X Y = 1)) := Lib.hid (by
          unfold frR
          rw [rightB_digs, rightB_digs, hkl, tv_digs, tv_digs, decide_eq_true hm0]
          rfl)
        clear hr hk
        go_enter Tryz.func25, Tryz.ntmps25
        go_wp2_with fail
        rw [← hw0]
        clear hw0
        go_wp2_with fail
        refine (rright_any _ _ _ _ _ _ k1 (by omega)).mono ?_
        rintro e w' ⟨rfl, rfl⟩
        rw [HR.out]
        go_wp2_with fail
        refine (rright_any _ _ _ _ _ _ k2 (by omega)).mono ?_
        rintro e w' ⟨rfl, rfl⟩
        rw [HK.out]
        go_wp2_with fail
        refine (rgcd_any _ _ _ _ _ _ _ _ _ k1 k2 (by omega) (by omega)).mono ?_
        rintro e w1 ⟨C, p, q, rfl, r, hb⟩
        rw [tv_digs, tv_digs] at r
        have hp : p ≤ 60000 := by
          have h1 := rd_lt k1 (Nat.le_refl _)
          have h2 := rd_lt k2 (Nat.le_refl _)
          have h3 := rd_le r (bd_gcd (m := 60000) h1 h2 (by omega) (by omega) (by decide))
          exact h3
        have hb1 := bltB hb0 hb0.size hb
        clear hb k1 k2 hc0 hc1 hB0 hb0
        go_wp2_with fail
        refine (rone_any w1).mono ?_
        rintro e w2 ⟨D, p2, q2, rfl, r2, hb⟩
        have hp2 : p2 ≤ 60000 := by have := rd_le r2 (show 1 < 4294967296 ^ 1 by decide); omega
        have r := r.on hb
        have hb2 := bltB hb1 hb1.size hb
        clear hb hb1
        go_wp2_with fail
        refine (rcmp_any _ _ _ _ _ _ _ _ _ r r2 (by omega) (by omega)).mono ?_
        rintro e w3 ⟨rfl, rfl⟩
        rw [tv_digs, tv_digs]
        have HC : Hid ((cmpI ((Nat.gcd X Y : Nat) : Int) ((1 : Nat) : Int) == 0) = decide (Nat.gcd X Y = 1)) := Lib.hid (by
          rw [cmpI_nat]
          by_cases h : Nat.gcd X Y = 1
          · rw [decide_eq_true h, if_neg (by omega), if_neg (by omega)]; rfl
          · rw [decide_eq_false h]; split <;> (try split) <;> first | rfl | omega)
        clear r r2
        generalize cmpI ((Nat.gcd X Y : Nat) : Int) ((1 : Nat) : Int) = cz at *
        go_wp2_with fail
        go_ret
        exact ⟨by rw [HF.out, ← HC.out]; rfl, hb2⟩

set_option maxRecDepth 100000 in
/-- What counts of a fraction, in the document. -/
theorem rftaken_any (w : World) (A B : Option Addr) (n c m d : Nat) (l k : List Nat) (h1 : Rd w w.heap.size A n c l) (h2 : Rd w w.heap.size B m d k) (hn : n ≤ 60000) (hm : m ≤ 60000) :
    Calls Tryz.prog 31 #[.agg #[.slice A n c, .slice B m d]] w (RetFr w (frN l k) (frD l k)) := by
  have hb0 : Below w.heap.size w ((w.alloc (.cells #[.slice A n c, .slice B m d] 24)).alloc (.cells #[.slice none 0 0, .slice none 0 0] 24)) := ((Below.refl _ _).alloc (Nat.le_refl _) _).alloc (by simp) _
  have hB0 : Blk ((w.alloc (.cells #[.slice A n c, .slice B m d] 24)).alloc (.cells #[.slice none 0 0, .slice none 0 0] 24)) w.heap.size 24 #[.slice A n c, .slice B m d] := (Blk.new w _ _).alloc _
  have hR0 : Blk ((w.alloc (.cells #[.slice A n c, .slice B m d] 24)).alloc (.cells #[.slice none 0 0, .slice none 0 0] 24)) (w.heap.size + 1) 24 #[.slice none 0 0, .slice none 0 0] := by
    have := Blk.new (w.alloc (.cells #[.slice A n c, .slice B m d] 24)) 24 #[.slice none 0 0, .slice none 0 0]
    rw [World.size_alloc] at this
    exact this
  have k1 := h1.on hb0
  have k2 := h2.on hb0
  clear h1 h2
  obtain ⟨w0, hw0⟩ : ∃ w0, w0 = (w.alloc (.cells #[.slice A n c, .slice B m d] 24)).alloc (.cells #[.slice none 0 0, .slice none 0 0] 24) := ⟨_, rfl⟩
  rw [← hw0] at hB0 hR0 hb0 k1 k2
  have hc0 := hB0.cell 0
  have hc1 := hB0.cell 1
  go_enter Tryz.func31, Tryz.ntmps31
  go_wp2_with fail
  rw [← hw0]
  clear hw0
  go_wp2_with fail
  refine (rfright_any _ _ _ _ _ _ _ _ _ k1 k2 hn hm).mono ?_
  rintro e w1 ⟨rfl, hb⟩
  have hB1 := hB0.below hb hB0.lt
  have hR1 := hR0.below hb hR0.lt
  have hb1 := bltB hb0 hb0.size hb
  have k1 := k1.on hb
  have k2 := k2.on hb
  have hc0 := hB1.cell 0
  have hc1 := hB1.cell 1
  have hd0 := hR1.cell 0
  have hd1 := hR1.cell 1
  have hf0 := hR1.frozen 0
  have hf1 := hR1.frozen 1
  clear hb hB0 hR0 hb0
  rcases hr : frR l k with _ | _
  · have HN : Hid (frN l k = 0 ∧ frD l k = 1) := Lib.hid (by unfold frN frD; rw [hr]; exact ⟨rfl, rfl⟩)
    clear hr
    go_wp2_with fail
    refine (rzero_any w1).mono ?_
    rintro e w2 ⟨A2, n2, c2, B2, m2, d2, rfl, r1, r2, hb⟩
    have hR2 := hR1.below hb hR1.lt
    have hb2 := bltB hb1 hb1.size hb
    have hd0 := hR2.cell 0
    have hd1 := hR2.cell 1
    have hf0 := hR2.frozen 0
    have hf1 := hR2.frozen 1
    clear hb hB1 hR1 hb1 hc0 hc1
    go_wp2_with fail
    obtain ⟨h4, hr1, hr2, hb4⟩ := fr_store hR2 r1 r2 hb2 (by omega)
    refine bodyPost_ret (v := .agg #[.slice A2 n2 c2, .slice B2 m2 d2]) ?_ rfl ?_
    · have e0 := h4.cell 0
      have e1 := h4.cell 1
      simp [results, Tryz.f31, go_sem, e0, e1]
    · exact ⟨A2, n2, c2, B2, m2, d2, rfl, by rw [HN.out.1]; exact hr1, by rw [HN.out.2]; exact hr2, hb4⟩
  · have hrr := hr
    unfold frR at hrr
    simp only [Bool.and_eq_true] at hrr
    have HN : Hid (digs (frN l k) = l ∧ digs (frD l k) = k) := Lib.hid (by
      unfold frN frD
      rw [hr, if_pos rfl, if_pos rfl, tv_right hrr.1, tv_right hrr.2.1]
      exact ⟨digs_val k1.dig hrr.1, digs_val k2.dig hrr.2.1⟩)
    clear hr hrr
    go_wp2_with fail
    obtain ⟨h4, hr1, hr2, hb4⟩ := fr_store hR1 k1 k2 hb1 (by omega)
    refine bodyPost_ret (v := .agg #[.slice A n c, .slice B m d]) ?_ rfl ?_
    · have e0 := h4.cell 0
      have e1 := h4.cell 1
      simp [results, Tryz.f31, go_sem, e0, e1]
    · exact ⟨A, n, c, B, m, d, rfl, by rw [HN.out.1]; exact hr1, by rw [HN.out.2]; exact hr2, hb4⟩

theorem rftext_any (w : World) (A B : Option Addr) (n c m d : Nat) (l k : List Nat) (h1 : Rd w w.heap.size A n c l) (h2 : Rd w w.heap.size B m d k) (hn : n ≤ 50000) (hm : m ≤ 50000) :
    Calls Tryz.prog 10 #[.agg #[.slice A n c, .slice B m d]] w fun e w' => e = .returned (txt (fTxt (frN l k) (frD l k))) ∧ Below w.heap.size w w' := by
  have HL := Lib.hid (And.intro (frN_len (k := k) h1.dig) (And.intro (frD_len (l := l) h2.dig) (And.intro h1.len h2.len)))
  obtain ⟨w0, hw0⟩ : ∃ w0, w0 = w.alloc (.cells #[.slice A n c, .slice B m d] 24) := ⟨_, rfl⟩
  have hB0 : Blk w0 w.heap.size 24 #[.slice A n c, .slice B m d] := by rw [hw0]; exact Blk.new w _ _
  have hb0 : Below w.heap.size w w0 := by rw [hw0]; exact (Below.refl _ _).alloc (Nat.le_refl _) _
  have h1 := h1.on hb0
  have h2 := h2.on hb0
  have hc0 := hB0.cell 0
  have hc1 := hB0.cell 1
  go_enter Tryz.func10, Tryz.ntmps10
  go_wp2_with fail
  rw [← hw0]
  clear hw0
  go_wp2_with fail
  refine (rftaken_any _ _ _ _ _ _ _ _ _ h1 h2 (by omega) (by omega)).mono ?_
  rintro e w1 ⟨A2, n2, c2, B2, m2, d2, rfl, r1, r2, hb⟩
  have hb1 := bltB hb0 hb0.size hb
  have hn2 : n2 ≤ 60000 := by have h1 := r1.len; have h2 := HL.out; omega
  have hm2 : m2 ≤ 60000 := by have h1 := r2.len; have h2 := HL.out; omega
  obtain ⟨W3, hW3⟩ : ∃ W, W = w1.alloc (.cells #[.slice A2 n2 c2, .slice B2 m2 d2] 24) := ⟨_, rfl⟩
  have hb : Below w1.heap.size w1 W3 := by rw [hW3]; exact (Below.refl _ _).alloc (Nat.le_refl _) _
  have h4 : Blk W3 w1.heap.size 24 #[.slice A2 n2 c2, .slice B2 m2 d2] := by rw [hW3]; exact Blk.new w1 _ _
  have r1 := r1.on hb
  have r2 := r2.on hb
  have hb4 := bltB hb1 hb1.size hb
  obtain ⟨G, hG⟩ : ∃ G, w1.heap.size = G := ⟨_, rfl⟩
  rw [hG] at h4
  clear hb hB0 hb0 h1 h2 hb1 hc0 hc1
  have hc0 := h4.cell 0
  have hc1 := h4.cell 1
  go_wp2_with fail
  rw [← hW3]
  clear hW3 hG
  have hlA := dec_len_digs (X := frN l k) r1.len
  have hlB := dec_len_digs (X := frD l k) r2.len
  refine (rtext_any _ _ _ _ _ r1 hn2).mono ?_
  rintro e X0 ⟨rfl, hb⟩
  rw [tv_digs, txt]
  have h4 := h4.below hb h4.lt
  have r2 := r2.on hb
  have hb4 := bltB hb4 hb4.size hb
  clear hb hc0 hc1 r1
  have hc0 := h4.cell 0
  have hc1 := h4.cell 1
  go_wp2_with fail
  have h4 := h4.drew
  have r2 := r2.drew
  have hb4 := hb4.drew
  clear hc0 hc1
  have hS : X0.drew.cell? ⟨G, 1, none⟩ = some (.slice B2 m2 d2) := h4.cell 1
  refine wp_region_noPanic ?_
  refine ord_begin 4 (fun wx => wx.cell? ⟨G, 1, none⟩ = some (.slice B2 m2 d2)) (by kernel_rfl) ?_
  refine ord_take (i := 0) (v := ?_) (by kernel_rfl) rfl (by decide) (by kernel_rfl) (by kernel_rfl) (fun _ _ _ h => h) (Or.inl ⟨by rfl, ?_⟩) hS ?_
  rotate_left
  · intro wz hz; (try dsimp only at hz); (try go_split_ands); go_simp; (try with_reducible rfl)
  try simp only [Act.put, List.getElem_toArray, List.getElem_cons_zero, List.getElem_cons_succ, List.setIfInBounds_toArray, List.set_cons_zero, List.set_cons_succ]
  refine ord_take (i := 1) (v := ?_) (by kernel_rfl) rfl (by decide) (by kernel_rfl) (by kernel_rfl) (fun _ _ _ h => h) (Or.inl ⟨by rfl, ?_⟩) hS ?_
  rotate_left
  · intro wz hz; (try dsimp only at hz); (try go_split_ands); go_simp; (try with_reducible rfl)
  try simp only [Act.put, List.getElem_toArray, List.getElem_cons_zero, List.getElem_cons_succ, List.setIfInBounds_toArray, List.set_cons_zero, List.set_cons_succ]
  refine ord_step (i := 2) rfl (by decide) (by kernel_rfl) (by rfl) (fun K hK => ?_)
  go_simp
  refine (rone_any _).mono ?_
  rintro e X1 ⟨A3, n3, c3, rfl, x1, hb⟩
  have h4 := h4.below hb h4.lt
  have r2 := r2.on hb
  have hb4 := bltB hb4 hb4.size hb
  have hn3 : n3 ≤ 60000 := by have := rd_le x1 (show 1 < 4294967296 ^ 1 by decide); omega
  have hS1 : X1.cell? ⟨G, 1, none⟩ = some (.slice B2 m2 d2) := h4.cell 1
  clear hb
  refine hK _ _ hS1 ?_
  clear hK K
  try simp only [Act.put, List.getElem_toArray, List.getElem_cons_zero, List.getElem_cons_succ, List.setIfInBounds_toArray, List.set_cons_zero, List.set_cons_succ]
  refine ord_step (i := 3) rfl (by decide) (by kernel_rfl) (by rfl) (fun K hK => ?_)
  go_simp
  refine (rcmp_any _ _ _ _ _ _ _ _ _ r2 x1 (by omega) (by omega)).mono ?_
  rintro e X2 ⟨rfl, hX2⟩
  rw [tv_digs, tv_digs]
  have HC : Hid ((cmpI ((frD l k : Nat) : Int) ((1 : Nat) : Int) == 0) = decide (frD l k = 1)) := Lib.hid (by
    rw [cmpI_nat]
    by_cases h : frD l k = 1
    · rw [decide_eq_true h, if_neg (by omega), if_neg (by omega)]; rfl
    · rw [decide_eq_false h]; split <;> (try split) <;> first | rfl | omega)
  generalize cmpI ((frD l k : Nat) : Int) ((1 : Nat) : Int) = cz at HC ⊢
  have hS2 : X2.cell? ⟨G, 1, none⟩ = some (.slice B2 m2 d2) := hX2 ▸ hS1
  refine hK _ _ hS2 ?_
  subst hX2
  clear x1 hS hS1
  clear hK K
  try simp only [Act.put, List.getElem_toArray, List.getElem_cons_zero, List.getElem_cons_succ, List.setIfInBounds_toArray, List.set_cons_zero, List.set_cons_succ]
  refine ord_rest (by kernel_rfl) ?_
  refine wpAny_take (i := 4) (v := ?_) rfl (by kernel_rfl) (by kernel_rfl) (by kernel_rfl) (fun _ _ _ h => h) (Or.inl ⟨by rfl, ?_⟩) ?_
  rotate_left
  · intro wz; go_simp; (try with_reducible rfl)
  try simp only [Act.put, List.getElem_toArray, List.getElem_cons_zero, List.getElem_cons_succ, List.setIfInBounds_toArray, List.set_cons_zero, List.set_cons_succ]
  refine wpAny_done (by kernel_rfl) ?_ _
  refine NoPanic.normal ?_
  have hc0 := h4.cell 0
  have hc1 := h4.cell 1
  clear hS2
  rcases hq : (cz == 0) with _ | _
  · have HD : Hid (fTxt (frN l k) (frD l k) = Lib.decDigits (frN l k) ++ (47 :: Lib.decDigits (frD l k))) := Lib.hid (by
      have := HC.out
      rw [hq] at this
      unfold fTxt
      rw [if_neg (of_decide_eq_false this.symm)])
    have hq' : (cz != 0) = true := by rw [bne, hq]; rfl
    go_wp2_with fail
    refine (rtext_any _ _ _ _ _ r2 hm2).mono ?_
    rintro e X4 ⟨rfl, hb⟩
    rw [tv_digs, txt]
    have HB := Lib.hid (bltB hb4 hb4.size hb)
    clear hb hb4 h4 hc0 hc1 r2 hq
    go_wp2_with fail
    go_ret
    exact ⟨by rw [HD.out, txt, ← fr_bytes]; rfl, HB.out⟩
  · have HD : Hid (fTxt (frN l k) (frD l k) = Lib.decDigits (frN l k)) := Lib.hid (by
      have := HC.out
      rw [hq] at this
      unfold fTxt
      rw [if_pos (of_decide_eq_true this.symm)])
    have hq' : (cz != 0) = false := by rw [bne, hq]; rfl
    have HB := Lib.hid hb4
    clear hb4 r2 h4 hc0 hc1
    go_wp2_with fail
    go_ret
    exact ⟨by rw [HD.out]; rfl, HB.out⟩

end Go.Proofs.YthkgeafidbihmaaGreatDoor

/-
  The document's fractions: Parse.
-/
namespace Go.Proofs.YthkgeafidbihmaaGreatDoor
open Go.RowKit Go.Shelf
set_option linter.unusedVariables false
set_option linter.unusedSimpArgs false

theorem cut_here {l : List UInt8} {a : Nat} (h2 : l[a]? = some 47) (h3 : ∀ j, j < a → l[j]? ≠ some 47) : Lib.cut l [47] = (l.take a, l.drop (a + 1), true) := by
  have hi : Lib.index l [47] = (a : Int) := by
    rw [Lib.index_one]
    have hge := Lib.indexByte_ge l 47
    by_cases hn : Lib.indexByte l 47 = -1
    · exact absurd h2 (Lib.indexByte_none hn a)
    · obtain ⟨o, ho⟩ : ∃ o : Nat, Lib.indexByte l 47 = o := ⟨(Lib.indexByte l 47).toNat, by omega⟩
      obtain ⟨g1, g2⟩ := Lib.indexByte_some ho
      rw [ho]
      rcases Nat.lt_trichotomy o a with h | h | h
      · exact absurd g1 (h3 o h)
      · rw [h]
      · exact absurd h2 (g2 a h)
  unfold Lib.cut
  rw [hi, if_pos (by omega)]
  rfl
theorem cut_nowhere {l : List UInt8} (h3 : ∀ j, j < l.length → l[j]? ≠ some 47) : Lib.cut l [47] = (l, [], false) := by
  have hi : Lib.index l [47] = -1 := by
    rw [Lib.index_one]
    have hge := Lib.indexByte_ge l 47
    by_cases hn : Lib.indexByte l 47 = -1
    · exact hn
    · obtain ⟨o, ho⟩ : ∃ o : Nat, Lib.indexByte l 47 = o := ⟨(Lib.indexByte l 47).toNat, by omega⟩
      obtain ⟨g1, g2⟩ := Lib.indexByte_some ho
      have hl : o < l.length := by
        rcases Nat.lt_or_ge o l.length with h | h
        · exact h
        · rw [List.getElem?_eq_none h] at g1; cases g1
      exact absurd g1 (h3 o hl)
  unfold Lib.cut
  rw [hi]
  rfl
theorem ext_take (l : List UInt8) (a : Nat) : (⟨l.toArray⟩ : ByteArray).extract 0 a = ⟨(l.take a).toArray⟩ := by
  apply ByteArray.ext
  simp
theorem ext_drop (l : List UInt8) (a : Nat) : (⟨l.toArray⟩ : ByteArray).extract a l.length = ⟨(l.drop a).toArray⟩ := by
  apply ByteArray.ext
  simp [List.take_of_length_le]
theorem fpl_one : fpl [49] = digs 1 ∧ pok [49] = true := by
  have h : pok [49] = true := by decide
  refine ⟨?_, h⟩
  unfold fpl
  rw [if_pos h]
  rfl

set_option maxRecDepth 100000 in
set_option maxHeartbeats 2000000 in
theorem rfparse_any (w : World) (s : ByteArray) (hs : s.size ≤ 4000) :
    Calls Tryz.prog 7 #[.string s] w (RetQO w (fpok s.data.toList) (fpq s.data.toList) (s.size + 1)) := by
  obtain ⟨l, hl⟩ : ∃ l : List UInt8, s = ⟨l.toArray⟩ := ⟨s.data.toList, by cases s; simp⟩
  subst hl
  have hsz : (⟨l.toArray⟩ : ByteArray).size = l.length := rfl
  rw [hsz] at hs
  have e : (⟨l.toArray⟩ : ByteArray).data.toList = l := by simp
  rw [e, hsz]
  clear e hsz
  obtain ⟨w0, hw0⟩ : ∃ w0, w0 = w.alloc (.cells #[.slice none 0 0, .slice none 0 0] 24) := ⟨_, rfl⟩
  have hB0 : Blk w0 w.heap.size 24 #[.slice none 0 0, .slice none 0 0] := by rw [hw0]; exact Blk.new w _ _
  have hb0 : Below w.heap.size w w0 := by rw [hw0]; exact (Below.refl _ _).alloc (Nat.le_refl _) _
  go_enter Tryz.func7, Tryz.ntmps7
  go_wp2_with fail
  rw [← hw0]
  clear hw0
  go_loop [4, 5] (fun av iv => ∃ a k : Nat, k ≤ a ∧ a ≤ l.length ∧ av = .int .i64 a ∧ iv = .int .i64 ((k : Int) - 1) ∧ Hid (a < l.length → l[a]? = some 47) ∧ Hid (∀ j, k ≤ j → j < a → l[j]? ≠ some 47)) (fun _ iv => (intOf iv + 1).toNat)
  case atStart => exact ⟨l.length, l.length, Nat.le_refl _, Nat.le_refl _, rfl, rfl, Lib.hid (fun h => absurd h (Nat.lt_irrefl _)), Lib.hid (fun j h1 h2 => by omega)⟩
  case round =>
    obtain ⟨a, k, hka, hal, rfl, rfl, H1, H2⟩ := hrel
    rcases Nat.eq_zero_or_pos k with h0 | h0
    · subst h0
      have H3 : Hid (∀ j, j < a → l[j]? ≠ some 47) := Lib.hid (fun j h => H2.out j (Nat.zero_le _) h)
      clear H2
      rcases Nat.lt_or_ge a l.length with hlt | hge
      · have HC := Lib.hid (cut_here (H1.out hlt) H3.out)
        clear H1 H3
        have hli : (a : Int) < (l.length : Int) := by omega
        obtain ⟨N, hN⟩ : ∃ N, l.take a = N := ⟨_, rfl⟩
        obtain ⟨M, hM⟩ : ∃ M, l.drop (a + 1) = M := ⟨_, rfl⟩
        rw [hN, hM] at HC
        have HS := Lib.hid (And.intro hN hM)
        have hNl : N.length ≤ l.length := by rw [← hN]; simp; omega
        have hMl : M.length ≤ l.length + 1 := by rw [← hM]; simp; omega
        clear hN hM
        have HO : Hid (fpok l = (pok N && (pok M && (frR (fpl N) (fpl M) && decide (fTxt (frN (fpl N) (fpl M)) (frD (fpl N) (fpl M)) = l)))) ∧ fpq l = if fpok l then frQ (fpl N) (fpl M) else 0) := Lib.hid (by
          have e1 : fcN l = N := by unfold fcN; rw [HC.out]
          have e2 : fcD l = M := by unfold fcD; rw [HC.out]; rfl
          rw [← e1, ← e2]
          exact ⟨rfl, rfl⟩)
        clear HC
        go_wp2_with fail
        rw [ext_take, HS.out.1]
        refine (rparse_any w0 ⟨N.toArray⟩ (by show N.length ≤ 4096; omega)).mono ?_
        intro e w2 h
        rw [show (⟨N.toArray⟩ : ByteArray).data.toList = N by simp] at h
        obtain ⟨A1, n1, c1, rfl, r1, hb⟩ := h.fpl
        have hB2 := hB0.below hb hB0.lt
        have hb2 := bltB hb0 hb0.size hb
        clear hb hB0 hb0 h
        go_wp2_with fail
        refine (rone_any w2).mono ?_
        rintro e w2b ⟨A2, n2, c2, rfl, r2, hb⟩
        have hB2 := hB2.below hb hB2.lt
        have hb2 := bltB hb2 hb2.size hb
        have r1 := r1.on hb
        clear hb
        go_wp2_with fail
        rw [ext_drop, HS.out.2]
        refine (rparse_any w2b ⟨M.toArray⟩ (by show M.length ≤ 4096; omega)).mono ?_
        intro e w3 h
        rw [show (⟨M.toArray⟩ : ByteArray).data.toList = M by simp] at h
        clear r2
        obtain ⟨A2, n2, c2, rfl, r2, hb⟩ := h.fpl
        have hB3 := hB2.below hb hB2.lt
        have hb3 := bltB hb2 hb2.size hb
        have r1 := r1.on hb
        clear hb hB2 hb2 h
        have hx1 := fpl_len hNl
        have hx2 : (fpl M).length ≤ l.length + 1 := fpl_len hMl
        obtain ⟨X, hX⟩ : ∃ X, fpl N = X := ⟨_, rfl⟩
        obtain ⟨Y, hY⟩ : ∃ Y, fpl M = Y := ⟨_, rfl⟩
        rw [hX] at r1 HO hx1
        rw [hY] at r2 HO hx2
        clear hX hY
        have hn1 : n1 ≤ 4001 := by have := r1.len; omega
        have hn2 : n2 ≤ 4001 := by have := r2.len; omega
        have HX := Lib.hid hx1
        have HY := Lib.hid hx2
        clear hx1 hx2
        obtain ⟨p1, hp1⟩ : ∃ b, pok N = b := ⟨_, rfl⟩
        obtain ⟨p2, hp2⟩ : ∃ b, pok M = b := ⟨_, rfl⟩
        rw [hp1, hp2] at HO
        simp only [hp1, hp2]
        clear hp1 hp2
        obtain ⟨w3a, hw3⟩ : ∃ W, W = w3.alloc (.cells #[.slice A1 n1 c1, .slice A2 n2 c2] 24) := ⟨_, rfl⟩
        have hb : Below w3.heap.size w3 w3a := by rw [hw3]; exact (Below.refl _ _).alloc (Nat.le_refl _) _
        have hJ : Blk w3a w3.heap.size 24 #[.slice A1 n1 c1, .slice A2 n2 c2] := by rw [hw3]; exact Blk.new w3 _ _
        have hB3 := hB3.below hb hB3.lt
        have hb3 := bltB hb3 hb3.size hb
        have r1 := r1.on hb
        have r2 := r2.on hb
        clear hb
        have hj0 := hJ.cell 0
        have hj1 := hJ.cell 1
        go_wp2_with fail
        rw [← hw3]
        refine (rfright_any w3a _ _ _ _ _ _ _ _ r1 r2 (by omega) (by omega)).mono ?_
        rintro e w4 ⟨rfl, hb⟩
        have hB4 := hB3.below hb hB3.lt
        have hb4 := bltB hb3 hb3.size hb
        have r1 := r1.on hb
        have r2 := r2.on hb
        have hJ := hJ.below hb hJ.lt
        clear hj0 hj1
        have hj0 := hJ.cell 0
        have hj1 := hJ.cell 1
        clear hb hB3 hb3
        obtain ⟨p3, hp3⟩ : ∃ b, frR X Y = b := ⟨_, rfl⟩
        have HR := Lib.hid hp3
        rw [hp3] at HO ⊢
        clear hp3
        rcases p1 with _ | _
        · have HF : Hid (fpok l = false ∧ fpq l = 0) := Lib.hid (by have h := HO.out; rw [Bool.false_and] at h; exact ⟨h.1, by rw [h.2, h.1]; rfl⟩)
          clear HO
          go_wp2_with fail
          refine (rzero_any _).mono ?_
          rintro e w9 ⟨A5, n5, c5, B5, m5, d5, rfl, q1, q2, hb⟩
          have R3 := hB4.below hb hB4.lt
          have hb9 := bltB hb4 hb4.size hb
          clear hb hb4 hB4 r1 r2
          have hc0 := R3.cell 0
          have hc1 := R3.cell 1
          have hf0 := R3.frozen 0
          have hf1 := R3.frozen 1
          obtain ⟨j4, t1, t2, hb4⟩ := fr_store R3 q1 q2 hb9 (by omega)
          go_wp2_with fail
          refine bodyPost_ret (v := .tuple #[.agg #[.slice A5 n5 c5, .slice B5 m5 d5], .bool false]) ?_ rfl ?_
          · have e0 := j4.cell 0
            have e1 := j4.cell 1
            simp [results, Tryz.f7, go_sem, e0, e1]
          · exact ⟨A5, n5, c5, B5, m5, d5, by rw [HF.out.1], by rw [HF.out.2]; exact t1, by rw [HF.out.2]; exact t2, by rw [HF.out.2]; exact ⟨frQ_q Rat.le_refl, by rw [rn_zero, digs_zero]; simp, Nat.le_trans (digs_len_le (k := 1) (by decide)) (by omega)⟩, hb4⟩
        · rcases p2 with _ | _
          · have HF : Hid (fpok l = false ∧ fpq l = 0) := Lib.hid (by have h := HO.out; rw [Bool.false_and, Bool.and_false] at h; exact ⟨h.1, by rw [h.2, h.1]; rfl⟩)
            clear HO
            go_wp2_with fail
            refine (rzero_any _).mono ?_
            rintro e w9 ⟨A5, n5, c5, B5, m5, d5, rfl, q1, q2, hb⟩
            have R3 := hB4.below hb hB4.lt
            have hb9 := bltB hb4 hb4.size hb
            clear hb hb4 hB4 r1 r2
            have hc0 := R3.cell 0
            have hc1 := R3.cell 1
            have hf0 := R3.frozen 0
            have hf1 := R3.frozen 1
            obtain ⟨j4, t1, t2, hb4⟩ := fr_store R3 q1 q2 hb9 (by omega)
            go_wp2_with fail
            refine bodyPost_ret (v := .tuple #[.agg #[.slice A5 n5 c5, .slice B5 m5 d5], .bool false]) ?_ rfl ?_
            · have e0 := j4.cell 0
              have e1 := j4.cell 1
              simp [results, Tryz.f7, go_sem, e0, e1]
            · exact ⟨A5, n5, c5, B5, m5, d5, by rw [HF.out.1], by rw [HF.out.2]; exact t1, by rw [HF.out.2]; exact t2, by rw [HF.out.2]; exact ⟨frQ_q Rat.le_refl, by rw [rn_zero, digs_zero]; simp, Nat.le_trans (digs_len_le (k := 1) (by decide)) (by omega)⟩, hb4⟩
          · rcases p3 with _ | _
            · have HF : Hid (fpok l = false ∧ fpq l = 0) := Lib.hid (by have h := HO.out; rw [Bool.false_and, Bool.and_false, Bool.and_false] at h; exact ⟨h.1, by rw [h.2, h.1]; rfl⟩)
              clear HO
              go_wp2_with fail
              refine (rzero_any _).mono ?_
              rintro e w9 ⟨A5, n5, c5, B5, m5, d5, rfl, q1, q2, hb⟩
              have R3 := hB4.below hb hB4.lt
              have hb9 := bltB hb4 hb4.size hb
              clear hb hb4 hB4 r1 r2
              have hc0 := R3.cell 0
              have hc1 := R3.cell 1
              have hf0 := R3.frozen 0
              have hf1 := R3.frozen 1
              obtain ⟨j4, t1, t2, hb4⟩ := fr_store R3 q1 q2 hb9 (by omega)
              go_wp2_with fail
              refine bodyPost_ret (v := .tuple #[.agg #[.slice A5 n5 c5, .slice B5 m5 d5], .bool false]) ?_ rfl ?_
              · have e0 := j4.cell 0
                have e1 := j4.cell 1
                simp [results, Tryz.f7, go_sem, e0, e1]
              · exact ⟨A5, n5, c5, B5, m5, d5, by rw [HF.out.1], by rw [HF.out.2]; exact t1, by rw [HF.out.2]; exact t2, by rw [HF.out.2]; exact ⟨frQ_q Rat.le_refl, by rw [rn_zero, digs_zero]; simp, Nat.le_trans (digs_len_le (k := 1) (by decide)) (by omega)⟩, hb4⟩
            · go_wp2_with fail
              refine (rftext_any w4 _ _ _ _ _ _ _ _ r1 r2 (by omega) (by omega)).mono ?_
              rintro e w5 ⟨rfl, hb⟩
              have hB5 := hB4.below hb hB4.lt
              have hb5 := bltB hb4 hb4.size hb
              have r1 := r1.on hb
              have r2 := r2.on hb
              have hJ := hJ.below hb hJ.lt
              clear hj0 hj1
              have hj0 := hJ.cell 0
              have hj1 := hJ.cell 1
              clear hb hB4 hb4
              obtain ⟨V, hV⟩ : ∃ V, fTxt (frN X Y) (frD X Y) = V := ⟨_, rfl⟩
              rw [hV] at HO ⊢
              clear hV
              rw [txt]
              obtain ⟨p4, hp4⟩ : ∃ b, decide (V = l) = b := ⟨_, rfl⟩
              have HE := Lib.hid hp4
              rw [hp4] at HO
              clear hp4
              rcases p4 with _ | _
              · have HV : (V == l) = false := beq_eq_false_iff_ne.2 (of_decide_eq_false HE.out)
                have HF : Hid (fpok l = false ∧ fpq l = 0) := Lib.hid (by have h := HO.out; rw [Bool.and_false, Bool.and_false, Bool.and_false] at h; exact ⟨h.1, by rw [h.2, h.1]; rfl⟩)
                clear HO
                go_wp2_with fail
                refine (rzero_any _).mono ?_
                rintro e w9 ⟨A5, n5, c5, B5, m5, d5, rfl, q1, q2, hb⟩
                have R3 := hB5.below hb hB5.lt
                have hb9 := bltB hb5 hb5.size hb
                clear hb hb5 hB5 r1 r2
                have hc0 := R3.cell 0
                have hc1 := R3.cell 1
                have hf0 := R3.frozen 0
                have hf1 := R3.frozen 1
                obtain ⟨j4, t1, t2, hb4⟩ := fr_store R3 q1 q2 hb9 (by omega)
                go_wp2_with fail
                refine bodyPost_ret (v := .tuple #[.agg #[.slice A5 n5 c5, .slice B5 m5 d5], .bool false]) ?_ rfl ?_
                · have e0 := j4.cell 0
                  have e1 := j4.cell 1
                  simp [results, Tryz.f7, go_sem, e0, e1]
                · exact ⟨A5, n5, c5, B5, m5, d5, by rw [HF.out.1], by rw [HF.out.2]; exact t1, by rw [HF.out.2]; exact t2, by rw [HF.out.2]; exact ⟨frQ_q Rat.le_refl, by rw [rn_zero, digs_zero]; simp, Nat.le_trans (digs_len_le (k := 1) (by decide)) (by omega)⟩, hb4⟩
              · have HV : V = l := of_decide_eq_true HE.out
                subst HV
                have HF : Hid (fpok V = true ∧ fpq V = frQ X Y) := Lib.hid (by have h := HO.out; rw [Bool.and_true, Bool.and_true, Bool.and_true] at h; exact ⟨h.1, by rw [h.2, h.1]; rfl⟩)
                clear HO HE
                have hc0 := hB5.cell 0
                have hc1 := hB5.cell 1
                have hf0 := hB5.frozen 0
                have hf1 := hB5.frozen 1
                obtain ⟨j4, t1, t2, hb6⟩ := fr_store hB5 r1 r2 hb5 (by omega)
                go_wp2_with fail
                have hrr := HR.out
                have hdX := r1.dig
                have hdY := r2.dig
                unfold frR at hrr
                simp only [Bool.and_eq_true] at hrr
                have hX : digs (rn (frQ X Y)) = X ∧ digs (rd (frQ X Y)) = Y := frQ_lists HR.out hdX hdY
                refine bodyPost_ret (v := .tuple #[.agg #[.slice A1 n1 c1, .slice A2 n2 c2], .bool true]) ?_ rfl ?_
                · have e0 := j4.cell 0
                  have e1 := j4.cell 1
                  simp [results, Tryz.f7, go_sem, e0, e1]
                · refine ⟨A1, n1, c1, A2, n2, c2, by rw [HF.out.1], ?_, ?_, ?_, hb6⟩
                  · rw [HF.out.2, hX.1]; exact t1
                  · rw [HF.out.2, hX.2]; exact t2
                  · rw [HF.out.2, hX.1, hX.2]; exact ⟨rfl, Nat.le_trans HX.out (Nat.le_succ _), HY.out⟩
      · obtain rfl : a = l.length := Nat.le_antisymm hal hge
        have HC := Lib.hid (cut_nowhere H3.out)
        clear H1 H3
        obtain ⟨N, hN⟩ : ∃ N, l = N := ⟨_, rfl⟩
        obtain ⟨M, hM⟩ : ∃ M : List UInt8, [49] = M := ⟨_, rfl⟩
        have hNl : N.length ≤ l.length := by rw [← hN]; exact Nat.le_refl _
        have hMl : M.length ≤ l.length + 1 := by rw [← hM]; simp
        have HN := Lib.hid hN
        have HM := Lib.hid hM
        have HC : Hid (Lib.cut l [47] = (N, [], false)) := Lib.hid (by rw [HC.out, ← hN])
        clear hN hM
        have HO : Hid (fpok l = (pok N && (pok M && (frR (fpl N) (fpl M) && decide (fTxt (frN (fpl N) (fpl M)) (frD (fpl N) (fpl M)) = l)))) ∧ fpq l = if fpok l then frQ (fpl N) (fpl M) else 0) := Lib.hid (by
          have e1 : fcN l = N := by unfold fcN; rw [HC.out]
          have e2 : fcD l = M := by unfold fcD; rw [HC.out, ← HM.out]; rfl
          rw [← e1, ← e2]
          exact ⟨rfl, rfl⟩)
        clear HC
        go_wp2_with fail
        rw [show (⟨l.toArray⟩ : ByteArray).extract 0 l.length = ⟨N.toArray⟩ by rw [ext_take, List.take_length, ← HN.out]]
        refine (rparse_any w0 ⟨N.toArray⟩ (by show N.length ≤ 4096; omega)).mono ?_
        intro e w2 h
        rw [show (⟨N.toArray⟩ : ByteArray).data.toList = N by simp] at h
        obtain ⟨A1, n1, c1, rfl, r1, hb⟩ := h.fpl
        have hB2 := hB0.below hb hB0.lt
        have hb2 := bltB hb0 hb0.size hb
        clear hb hB0 hb0 h
        go_wp2_with fail
        refine (rone_any w2).mono ?_
        rintro e w2b ⟨A2, n2, c2, rfl, r2, hb⟩
        have hB2 := hB2.below hb hB2.lt
        have hb2 := bltB hb2 hb2.size hb
        have r1 := r1.on hb
        clear hb
        go_wp2_with fail
        obtain ⟨w3, hw3⟩ : ∃ w3, w3 = w2b := ⟨_, rfl⟩
        rw [← hw3] at r1 r2 hB2 hb2 ⊢
        have hB3 := hB2
        have hb3 := hb2
        have r2 : Rd w3 w3.heap.size A2 n2 c2 (fpl M) := by rw [← HM.out, fpl_one.1]; exact r2
        clear hB2 hb2 hw3
        have hx1 := fpl_len hNl
        have hx2 : (fpl M).length ≤ l.length + 1 := fpl_len hMl
        obtain ⟨X, hX⟩ : ∃ X, fpl N = X := ⟨_, rfl⟩
        obtain ⟨Y, hY⟩ : ∃ Y, fpl M = Y := ⟨_, rfl⟩
        rw [hX] at r1 HO hx1
        rw [hY] at r2 HO hx2
        clear hX hY
        have hn1 : n1 ≤ 4001 := by have := r1.len; omega
        have hn2 : n2 ≤ 4001 := by have := r2.len; omega
        have HX := Lib.hid hx1
        have HY := Lib.hid hx2
        clear hx1 hx2
        obtain ⟨p1, hp1⟩ : ∃ b, pok N = b := ⟨_, rfl⟩
        obtain ⟨p2, hp2⟩ : ∃ b, pok M = b := ⟨_, rfl⟩
        rw [hp1, hp2] at HO
        have hp2t : p2 = true := by rw [← hp2, ← HM.out]; exact fpl_one.2
        subst hp2t
        simp only [hp1]
        clear hp1 hp2
        obtain ⟨w3a, hw3⟩ : ∃ W, W = w3.alloc (.cells #[.slice A1 n1 c1, .slice A2 n2 c2] 24) := ⟨_, rfl⟩
        have hb : Below w3.heap.size w3 w3a := by rw [hw3]; exact (Below.refl _ _).alloc (Nat.le_refl _) _
        have hJ : Blk w3a w3.heap.size 24 #[.slice A1 n1 c1, .slice A2 n2 c2] := by rw [hw3]; exact Blk.new w3 _ _
        have hB3 := hB3.below hb hB3.lt
        have hb3 := bltB hb3 hb3.size hb
        have r1 := r1.on hb
        have r2 := r2.on hb
        clear hb
        have hj0 := hJ.cell 0
        have hj1 := hJ.cell 1
        go_wp2_with fail
        rw [← hw3]
        refine (rfright_any w3a _ _ _ _ _ _ _ _ r1 r2 (by omega) (by omega)).mono ?_
        rintro e w4 ⟨rfl, hb⟩
        have hB4 := hB3.below hb hB3.lt
        have hb4 := bltB hb3 hb3.size hb
        have r1 := r1.on hb
        have r2 := r2.on hb
        have hJ := hJ.below hb hJ.lt
        clear hj0 hj1
        have hj0 := hJ.cell 0
        have hj1 := hJ.cell 1
        clear hb hB3 hb3
        obtain ⟨p3, hp3⟩ : ∃ b, frR X Y = b := ⟨_, rfl⟩
        have HR := Lib.hid hp3
        rw [hp3] at HO ⊢
        clear hp3
        rcases p1 with _ | _
        · have HF : Hid (fpok l = false ∧ fpq l = 0) := Lib.hid (by have h := HO.out; rw [Bool.false_and] at h; exact ⟨h.1, by rw [h.2, h.1]; rfl⟩)
          clear HO
          go_wp2_with fail
          refine (rzero_any _).mono ?_
          rintro e w9 ⟨A5, n5, c5, B5, m5, d5, rfl, q1, q2, hb⟩
          have R3 := hB4.below hb hB4.lt
          have hb9 := bltB hb4 hb4.size hb
          clear hb hb4 hB4 r1 r2
          have hc0 := R3.cell 0
          have hc1 := R3.cell 1
          have hf0 := R3.frozen 0
          have hf1 := R3.frozen 1
          obtain ⟨j4, t1, t2, hb4⟩ := fr_store R3 q1 q2 hb9 (by omega)
          go_wp2_with fail
          refine bodyPost_ret (v := .tuple #[.agg #[.slice A5 n5 c5, .slice B5 m5 d5], .bool false]) ?_ rfl ?_
          · have e0 := j4.cell 0
            have e1 := j4.cell 1
            simp [results, Tryz.f7, go_sem, e0, e1]
          · exact ⟨A5, n5, c5, B5, m5, d5, by rw [HF.out.1], by rw [HF.out.2]; exact t1, by rw [HF.out.2]; exact t2, by rw [HF.out.2]; exact ⟨frQ_q Rat.le_refl, by rw [rn_zero, digs_zero]; simp, Nat.le_trans (digs_len_le (k := 1) (by decide)) (by omega)⟩, hb4⟩
        · skip
          · rcases p3 with _ | _
            · have HF : Hid (fpok l = false ∧ fpq l = 0) := Lib.hid (by have h := HO.out; rw [Bool.false_and, Bool.and_false, Bool.and_false] at h; exact ⟨h.1, by rw [h.2, h.1]; rfl⟩)
              clear HO
              go_wp2_with fail
              refine (rzero_any _).mono ?_
              rintro e w9 ⟨A5, n5, c5, B5, m5, d5, rfl, q1, q2, hb⟩
              have R3 := hB4.below hb hB4.lt
              have hb9 := bltB hb4 hb4.size hb
              clear hb hb4 hB4 r1 r2
              have hc0 := R3.cell 0
              have hc1 := R3.cell 1
              have hf0 := R3.frozen 0
              have hf1 := R3.frozen 1
              obtain ⟨j4, t1, t2, hb4⟩ := fr_store R3 q1 q2 hb9 (by omega)
              go_wp2_with fail
              refine bodyPost_ret (v := .tuple #[.agg #[.slice A5 n5 c5, .slice B5 m5 d5], .bool false]) ?_ rfl ?_
              · have e0 := j4.cell 0
                have e1 := j4.cell 1
                simp [results, Tryz.f7, go_sem, e0, e1]
              · exact ⟨A5, n5, c5, B5, m5, d5, by rw [HF.out.1], by rw [HF.out.2]; exact t1, by rw [HF.out.2]; exact t2, by rw [HF.out.2]; exact ⟨frQ_q Rat.le_refl, by rw [rn_zero, digs_zero]; simp, Nat.le_trans (digs_len_le (k := 1) (by decide)) (by omega)⟩, hb4⟩
            · go_wp2_with fail
              refine (rftext_any w4 _ _ _ _ _ _ _ _ r1 r2 (by omega) (by omega)).mono ?_
              rintro e w5 ⟨rfl, hb⟩
              have hB5 := hB4.below hb hB4.lt
              have hb5 := bltB hb4 hb4.size hb
              have r1 := r1.on hb
              have r2 := r2.on hb
              have hJ := hJ.below hb hJ.lt
              clear hj0 hj1
              have hj0 := hJ.cell 0
              have hj1 := hJ.cell 1
              clear hb hB4 hb4
              obtain ⟨V, hV⟩ : ∃ V, fTxt (frN X Y) (frD X Y) = V := ⟨_, rfl⟩
              rw [hV] at HO ⊢
              clear hV
              rw [txt]
              obtain ⟨p4, hp4⟩ : ∃ b, decide (V = l) = b := ⟨_, rfl⟩
              have HE := Lib.hid hp4
              rw [hp4] at HO
              clear hp4
              rcases p4 with _ | _
              · have HV : (V == l) = false := beq_eq_false_iff_ne.2 (of_decide_eq_false HE.out)
                have HF : Hid (fpok l = false ∧ fpq l = 0) := Lib.hid (by have h := HO.out; rw [Bool.and_false, Bool.and_false, Bool.and_false] at h; exact ⟨h.1, by rw [h.2, h.1]; rfl⟩)
                clear HO
                go_wp2_with fail
                refine (rzero_any _).mono ?_
                rintro e w9 ⟨A5, n5, c5, B5, m5, d5, rfl, q1, q2, hb⟩
                have R3 := hB5.below hb hB5.lt
                have hb9 := bltB hb5 hb5.size hb
                clear hb hb5 hB5 r1 r2
                have hc0 := R3.cell 0
                have hc1 := R3.cell 1
                have hf0 := R3.frozen 0
                have hf1 := R3.frozen 1
                obtain ⟨j4, t1, t2, hb4⟩ := fr_store R3 q1 q2 hb9 (by omega)
                go_wp2_with fail
                refine bodyPost_ret (v := .tuple #[.agg #[.slice A5 n5 c5, .slice B5 m5 d5], .bool false]) ?_ rfl ?_
                · have e0 := j4.cell 0
                  have e1 := j4.cell 1
                  simp [results, Tryz.f7, go_sem, e0, e1]
                · exact ⟨A5, n5, c5, B5, m5, d5, by rw [HF.out.1], by rw [HF.out.2]; exact t1, by rw [HF.out.2]; exact t2, by rw [HF.out.2]; exact ⟨frQ_q Rat.le_refl, by rw [rn_zero, digs_zero]; simp, Nat.le_trans (digs_len_le (k := 1) (by decide)) (by omega)⟩, hb4⟩
              · have HV : V = l := of_decide_eq_true HE.out
                subst HV
                have HF : Hid (fpok V = true ∧ fpq V = frQ X Y) := Lib.hid (by have h := HO.out; rw [Bool.and_true, Bool.and_true, Bool.and_true] at h; exact ⟨h.1, by rw [h.2, h.1]; rfl⟩)
                clear HO HE
                have hc0 := hB5.cell 0
                have hc1 := hB5.cell 1
                have hf0 := hB5.frozen 0
                have hf1 := hB5.frozen 1
                obtain ⟨j4, t1, t2, hb6⟩ := fr_store hB5 r1 r2 hb5 (by omega)
                go_wp2_with fail
                have hrr := HR.out
                have hdX := r1.dig
                have hdY := r2.dig
                unfold frR at hrr
                simp only [Bool.and_eq_true] at hrr
                have hX : digs (rn (frQ X Y)) = X ∧ digs (rd (frQ X Y)) = Y := frQ_lists HR.out hdX hdY
                refine bodyPost_ret (v := .tuple #[.agg #[.slice A1 n1 c1, .slice A2 n2 c2], .bool true]) ?_ rfl ?_
                · have e0 := j4.cell 0
                  have e1 := j4.cell 1
                  simp [results, Tryz.f7, go_sem, e0, e1]
                · refine ⟨A1, n1, c1, A2, n2, c2, by rw [HF.out.1], ?_, ?_, ?_, hb6⟩
                  · rw [HF.out.2, hX.1]; exact t1
                  · rw [HF.out.2, hX.2]; exact t2
                  · rw [HF.out.2, hX.1, hX.2]; exact ⟨rfl, Nat.le_trans HX.out (Nat.le_succ _), HY.out⟩
    · obtain ⟨m, rfl⟩ : ∃ m, k = m + 1 := ⟨k - 1, by omega⟩
      rw [show (((m + 1 : Nat) : Int) - 1) = (m : Int) by omega]
      have hml : m < l.length := by omega
      obtain ⟨d, hd⟩ : ∃ d, l[m] = d := ⟨_, rfl⟩
      have hgi : ∀ h, (⟨l.toArray⟩ : ByteArray)[m]'h = d := fun h => hd
      have hgi' : ∀ h, l[m]'h = d := fun h => hd
      have HG : Hid (l[m]? = some d) := Lib.hid (by rw [List.getElem?_eq_getElem hml, hd])
      have hdl : d.toNat < 256 := d.toNat_lt
      by_cases hdd : d.toNat = 47
      · have hc : ((d.toNat : Int) == 47) = true := by rw [hdd]; rfl
        have HD := Lib.hid hdd
        clear hd hdd
        go_wp2_with fail
        go_round
        case rel => exact ⟨m, m, Nat.le_refl _, by omega, rfl, rfl, Lib.hid (fun _ => by rw [HG.out]; exact congrArg some (UInt8.toNat_inj.1 HD.out)), Lib.hid (fun j h1 h2 => by omega)⟩
        case measure => first | (simp [intOf]; done) | (simp [intOf]; omega)
      · have hc : ((d.toNat : Int) == 47) = false := by simp; omega
        have HD := Lib.hid hdd
        clear hd hdd
        go_wp2_with fail
        go_round
        case rel => exact ⟨a, m, by omega, hal, rfl, rfl, H1, Lib.hid (fun j h1 h2 => by
          rcases Nat.eq_or_lt_of_le h1 with h | h
          · subst h; rw [HG.out]; intro e; exact HD.out (by rw [Option.some.inj e]; rfl)
          · exact H2.out j h h2)⟩
        case measure => first | (simp [intOf]; done) | (simp [intOf]; omega)
end Go.Proofs.YthkgeafidbihmaaGreatDoor
