/-
  Fractions: Parse.
-/
import Derived.Test.YthkgeafidbihmaaGreatDoorFracT
import Derived.Test.YthkgeafidbihmaaGreatDoorFracV
import Derived.Test.YthkgeafidbihmaaGreatDoorCut
import Derived.Test.YthkgeafidbihmaaGreatDoorParse
namespace Go.Proofs.YthkgeafidbihmaaGreatDoor
open Go.RowKit Go.Shelf
set_option linter.unusedVariables false
set_option linter.unusedSimpArgs false
attribute [local go_sem] Oper.semAt_some

/-- The two parts of a fraction's text. -/
def fcN (l : List UInt8) : List UInt8 := (Lib.cut l [47]).1
def fcD (l : List UInt8) : List UInt8 := if (Lib.cut l [47]).2.2 then (Lib.cut l [47]).2.1 else [49]
def fpl (l : List UInt8) : List Nat := if pok l then digs (pval l) else []
/-- Is a text a fraction's, and which one. -/
def fpok (l : List UInt8) : Bool := pok (fcN l) && (pok (fcD l) && (frR (fpl (fcN l)) (fpl (fcD l)) && decide (fTxt (frN (fpl (fcN l)) (fpl (fcD l))) (frD (fpl (fcN l)) (fpl (fcD l))) = l)))
def fpq (l : List UInt8) : Rat := if fpok l then frQ (fpl (fcN l)) (fpl (fcD l)) else 0

theorem RetP.fpl {w w' : World} {l : List UInt8} {e : Ending} (h : RetP w l e w') : ∃ A n c, e = .returned (.tuple #[.slice A n c, .bool (pok l)]) ∧ Rd w' w'.heap.size A n c (fpl l) ∧ Below w.heap.size w w' := h

theorem pval_bd' {l : List UInt8} (hp : pok l = true) {k : Nat} (hk : l.length ≤ k) : pval l < 4294967296 ^ k := by
  have h : l.all digB = true := by
    unfold pok at hp
    simp only [Bool.and_eq_true] at hp
    exact hp.2
  have h2 := pval_lt (l := l) l.length (Nat.le_refl _) (fun j hj _ => List.all_eq_true.1 h _ (List.getElem_mem hj))
  rw [List.take_length] at h2
  exact Nat.lt_of_lt_of_le h2 (pow_mono hk)
theorem fpl_len {l : List UInt8} {k : Nat} (hk : l.length ≤ k) : (Go.Proofs.YthkgeafidbihmaaGreatDoor.fpl l).length ≤ k := by
  unfold Go.Proofs.YthkgeafidbihmaaGreatDoor.fpl
  split
  · rename_i h
    exact digs_len_le (pval_bd' h hk)
  · simp
theorem cut_len (l : List UInt8) (s : List UInt8) : (Lib.cut l s).1.length ≤ l.length ∧ (Lib.cut l s).2.1.length ≤ l.length := by
  unfold Lib.cut
  split
  · simp only [List.length_take, List.length_drop]
    omega
  · simp
theorem fcD_len (l : List UInt8) : (fcD l).length ≤ l.length + 1 := by
  unfold fcD
  have := (cut_len l [47]).2
  split
  · omega
  · simp

set_option maxRecDepth 100000 in
set_option maxHeartbeats 2000000 in
theorem fparse_any (w : World) (hT : Tab w) (s : ByteArray) (hs : s.size ≤ 4000) :
    Calls Tryz.prog 6 #[.string s] w (RetQO w (fpok s.data.toList) (fpq s.data.toList) (s.size + 1)) := by
  obtain ⟨l, hl⟩ : ∃ l : List UInt8, s = ⟨l.toArray⟩ := ⟨s.data.toList, by cases s; simp⟩
  subst hl
  have hsz : (⟨l.toArray⟩ : ByteArray).size = l.length := rfl
  rw [hsz] at hs
  have e : (⟨l.toArray⟩ : ByteArray).data.toList = l := by simp
  rw [e, hsz]
  have HT := Lib.hid hT
  clear hT
  obtain ⟨w0, hw0⟩ : ∃ w0, w0 = w.alloc (.cells #[.slice none 0 0, .slice none 0 0] 24) := ⟨_, rfl⟩
  have hB0 : Blk w0 w.heap.size 24 #[.slice none 0 0, .slice none 0 0] := by rw [hw0]; exact Blk.new w _ _
  have hb0 : Below w.heap.size w w0 := by rw [hw0]; exact (Below.refl _ _).alloc (Nat.le_refl _) _
  go_enter Tryz.func6, Tryz.ntmps6
  go_wp2_with fail
  rw [← hw0]
  clear hw0
  refine (scut_any w0 ⟨l.toArray⟩ 47 (by rw [hsz]; omega)).mono ?_
  rintro e w1 ⟨rfl, hb⟩
  rw [show (⟨l.toArray⟩ : ByteArray).data.toList = l by simp]
  have hB1 := hB0.below hb hB0.lt
  have hb1 := bltB hb0 hb0.size hb
  clear hb hB0 hb0 e
  have HL := Lib.hid (cut_len l [47])
  have HO : Hid (fpok l = (pok (fcN l) && (pok (fcD l) && (frR (fpl (fcN l)) (fpl (fcD l)) && decide (fTxt (frN (fpl (fcN l)) (fpl (fcD l))) (frD (fpl (fcN l)) (fpl (fcD l))) = l)))) ∧ fpq l = if fpok l then frQ (fpl (fcN l)) (fpl (fcD l)) else 0) := Lib.hid ⟨rfl, rfl⟩
  have HN : Hid (fcN l = (Lib.cut l [47]).1) := Lib.hid rfl
  have HD : Hid (fcD l = if (Lib.cut l [47]).2.2 then (Lib.cut l [47]).2.1 else [49]) := Lib.hid rfl
  obtain ⟨t, ht⟩ : ∃ t, Lib.cut l [47] = t := ⟨_, rfl⟩
  rw [ht] at HL HN HD ⊢
  clear ht
  obtain ⟨N, M, mo⟩ := t
  have HL : N.length ≤ 4001 ∧ M.length ≤ 4001 ∧ N.length ≤ l.length ∧ M.length ≤ l.length := by
    have h1 : N.length ≤ l.length := HL.out.1
    have h2 : M.length ≤ l.length := HL.out.2
    omega
  obtain ⟨hN4, hM4, hNl, hMl⟩ := HL
  dsimp only at HN HD ⊢
  rw [HN.out] at HO
  clear HN
  rcases mo with _ | _
  · rw [show fcD l = [49] from HD.out] at HO
    clear HD
    go_wp2_with fail
    refine (parse_any w1 ⟨N.toArray⟩ (by show N.length ≤ 4096; omega)).mono ?_
    intro e w2 h
    rw [show (⟨N.toArray⟩ : ByteArray).data.toList = N by simp] at h
    obtain ⟨A1, n1, c1, rfl, r1, hb⟩ := h.fpl
    have hB2 := hB1.below hb hB1.lt
    have hb2 := bltB hb1 hb1.size hb
    clear hb hB1 hb1 h
    go_wp2_with fail
    refine (parse_any w2 ⟨([49] : List UInt8).toArray⟩ (by show ([49] : List UInt8).length ≤ 4096; first | omega | decide)).mono ?_
    intro e w3 h
    rw [show (⟨([49] : List UInt8).toArray⟩ : ByteArray).data.toList = [49] by simp] at h
    obtain ⟨A2, n2, c2, rfl, r2, hb⟩ := h.fpl
    have hB3 := hB2.below hb hB2.lt
    have hb3 := bltB hb2 hb2.size hb
    have r1 := r1.on hb
    clear hb hB2 hb2 h
    have hx1 := fpl_len hNl
    have hx2 : (fpl [49]).length ≤ l.length + 1 := fpl_len (by simp)
    obtain ⟨X, hX⟩ : ∃ X, fpl N = X := ⟨_, rfl⟩
    obtain ⟨Y, hY⟩ : ∃ Y, fpl [49] = Y := ⟨_, rfl⟩
    rw [hX] at r1 HO hx1
    rw [hY] at r2 HO hx2
    clear hX hY
    have hn1 : n1 ≤ 4001 := by have := r1.len; omega
    have hn2 : n2 ≤ 4001 := by have := r2.len; omega
    have HX := Lib.hid hx1
    have HY := Lib.hid hx2
    clear hx1 hx2
    obtain ⟨p1, hp1⟩ : ∃ b, pok N = b := ⟨_, rfl⟩
    obtain ⟨p2, hp2⟩ : ∃ b, pok [49] = b := ⟨_, rfl⟩
    rw [hp1, hp2] at HO
    simp only [hp1, hp2]
    clear hp1 hp2
    obtain ⟨w3a, hw3⟩ : ∃ W, W = w3.alloc (.cells #[.slice A1 n1 c1, .slice A2 n2 c2] 24) := ⟨_, rfl⟩
    have hb : Below w3.heap.size w3 w3a := by rw [hw3]; exact (Below.refl _ _).alloc (Nat.le_refl _) _
    have hJ : Blk w3a w3.heap.size 24 #[.slice A1 n1 c1, .slice A2 n2 c2] := by rw [hw3]; exact Blk.new w3 _ _
    have hB3 := hB3.below hb hB3.lt
    have hb3 := bltB hb3 hb3.size hb
    have r1 := r1.on hb
    have r2 := r2.on hb
    clear hb
    have hj0 := hJ.cell 0
    have hj1 := hJ.cell 1
    rcases p1 with _ | _
    · have HF : Hid (fpok l = false ∧ fpq l = 0) := Lib.hid (by have h := HO.out; rw [Bool.false_and] at h; exact ⟨h.1, by rw [h.2, h.1]; rfl⟩)
      clear HO
      go_wp2_with fail
      rw [← hw3]
      refine (nought_any _).mono ?_
      rintro e w4 ⟨A5, n5, c5, B5, m5, d5, rfl, q1, q2, hb⟩
      have R3 := hB3.below hb hB3.lt
      have hb9 := bltB hb3 hb3.size hb
      clear hb hb3 hB3 r1 r2
      have hc0 := R3.cell 0
      have hc1 := R3.cell 1
      have hf0 := R3.frozen 0
      have hf1 := R3.frozen 1
      obtain ⟨j4, t1, t2, hb4⟩ := fr_store R3 q1 q2 hb9 (by omega)
      go_wp2_with fail
      refine bodyPost_ret (v := .tuple #[.agg #[.slice A5 n5 c5, .slice B5 m5 d5], .bool false]) ?_ rfl ?_
      · have e0 := j4.cell 0
        have e1 := j4.cell 1
        simp [results, Tryz.f6, go_sem, e0, e1]
      · exact ⟨A5, n5, c5, B5, m5, d5, by rw [HF.out.1], by rw [HF.out.2]; exact t1, by rw [HF.out.2]; exact t2, by rw [HF.out.2]; exact ⟨frQ_q Rat.le_refl, by rw [rn_zero, digs_zero]; simp, Nat.le_trans (digs_len_le (k := 1) (by decide)) (by omega)⟩, hb4⟩
    · rcases p2 with _ | _
      · have HF : Hid (fpok l = false ∧ fpq l = 0) := Lib.hid (by have h := HO.out; rw [Bool.false_and, Bool.and_false] at h; exact ⟨h.1, by rw [h.2, h.1]; rfl⟩)
        clear HO
        go_wp2_with fail
        rw [← hw3]
        refine (nought_any _).mono ?_
        rintro e w4 ⟨A5, n5, c5, B5, m5, d5, rfl, q1, q2, hb⟩
        have R3 := hB3.below hb hB3.lt
        have hb9 := bltB hb3 hb3.size hb
        clear hb hb3 hB3 r1 r2
        have hc0 := R3.cell 0
        have hc1 := R3.cell 1
        have hf0 := R3.frozen 0
        have hf1 := R3.frozen 1
        obtain ⟨j4, t1, t2, hb4⟩ := fr_store R3 q1 q2 hb9 (by omega)
        go_wp2_with fail
        refine bodyPost_ret (v := .tuple #[.agg #[.slice A5 n5 c5, .slice B5 m5 d5], .bool false]) ?_ rfl ?_
        · have e0 := j4.cell 0
          have e1 := j4.cell 1
          simp [results, Tryz.f6, go_sem, e0, e1]
        · exact ⟨A5, n5, c5, B5, m5, d5, by rw [HF.out.1], by rw [HF.out.2]; exact t1, by rw [HF.out.2]; exact t2, by rw [HF.out.2]; exact ⟨frQ_q Rat.le_refl, by rw [rn_zero, digs_zero]; simp, Nat.le_trans (digs_len_le (k := 1) (by decide)) (by omega)⟩, hb4⟩
      · go_wp2_with fail
        rw [← hw3]
        refine (fright_any w3a _ _ _ _ _ _ _ _ r1 r2 (by omega) (by omega)).mono ?_
        rintro e w4 ⟨rfl, hb⟩
        have hB4 := hB3.below hb hB3.lt
        have hb4 := bltB hb3 hb3.size hb
        have r1 := r1.on hb
        have r2 := r2.on hb
        have hJ := hJ.below hb hJ.lt
        clear hj0 hj1
        have hj0 := hJ.cell 0
        have hj1 := hJ.cell 1
        clear hb hB3 hb3
        obtain ⟨p3, hp3⟩ : ∃ b, frR X Y = b := ⟨_, rfl⟩
        have HR := Lib.hid hp3
        rw [hp3] at HO ⊢
        clear hp3
        rcases p3 with _ | _
        · have HF : Hid (fpok l = false ∧ fpq l = 0) := Lib.hid (by have h := HO.out; rw [Bool.false_and, Bool.and_false, Bool.and_false] at h; exact ⟨h.1, by rw [h.2, h.1]; rfl⟩)
          clear HO
          go_wp2_with fail
          refine (nought_any _).mono ?_
          rintro e w5 ⟨A5, n5, c5, B5, m5, d5, rfl, q1, q2, hb⟩
          have R3 := hB4.below hb hB4.lt
          have hb9 := bltB hb4 hb4.size hb
          clear hb hb4 hB4 r1 r2
          have hc0 := R3.cell 0
          have hc1 := R3.cell 1
          have hf0 := R3.frozen 0
          have hf1 := R3.frozen 1
          obtain ⟨j4, t1, t2, hb4⟩ := fr_store R3 q1 q2 hb9 (by omega)
          go_wp2_with fail
          refine bodyPost_ret (v := .tuple #[.agg #[.slice A5 n5 c5, .slice B5 m5 d5], .bool false]) ?_ rfl ?_
          · have e0 := j4.cell 0
            have e1 := j4.cell 1
            simp [results, Tryz.f6, go_sem, e0, e1]
          · exact ⟨A5, n5, c5, B5, m5, d5, by rw [HF.out.1], by rw [HF.out.2]; exact t1, by rw [HF.out.2]; exact t2, by rw [HF.out.2]; exact ⟨frQ_q Rat.le_refl, by rw [rn_zero, digs_zero]; simp, Nat.le_trans (digs_len_le (k := 1) (by decide)) (by omega)⟩, hb4⟩
        · go_wp2_with fail
          refine (ftext_any w4 (HT.out.on hb4) _ _ _ _ _ _ _ _ r1 r2 (by omega) (by omega)).mono ?_
          rintro e w5 ⟨rfl, hb⟩
          have hB5 := hB4.below hb hB4.lt
          have hb5 := bltB hb4 hb4.size hb
          have r1 := r1.on hb
          have r2 := r2.on hb
          have hJ := hJ.below hb hJ.lt
          clear hj0 hj1
          have hj0 := hJ.cell 0
          have hj1 := hJ.cell 1
          clear hb hB4 hb4
          obtain ⟨V, hV⟩ : ∃ V, fTxt (frN X Y) (frD X Y) = V := ⟨_, rfl⟩
          rw [hV] at HO ⊢
          clear hV
          rw [txt]
          obtain ⟨p4, hp4⟩ : ∃ b, decide (V = l) = b := ⟨_, rfl⟩
          have HE := Lib.hid hp4
          rw [hp4] at HO
          clear hp4
          rcases p4 with _ | _
          · have HV : (V == l) = false := beq_eq_false_iff_ne.2 (of_decide_eq_false HE.out)
            have HF : Hid (fpok l = false ∧ fpq l = 0) := Lib.hid (by have h := HO.out; rw [Bool.and_false, Bool.and_false, Bool.and_false] at h; exact ⟨h.1, by rw [h.2, h.1]; rfl⟩)
            clear HO
            go_wp2_with fail
            refine (nought_any _).mono ?_
            rintro e w6 ⟨A5, n5, c5, B5, m5, d5, rfl, q1, q2, hb⟩
            have R3 := hB5.below hb hB5.lt
            have hb9 := bltB hb5 hb5.size hb
            clear hb hb5 hB5 r1 r2
            have hc0 := R3.cell 0
            have hc1 := R3.cell 1
            have hf0 := R3.frozen 0
            have hf1 := R3.frozen 1
            obtain ⟨j4, t1, t2, hb4⟩ := fr_store R3 q1 q2 hb9 (by omega)
            go_wp2_with fail
            refine bodyPost_ret (v := .tuple #[.agg #[.slice A5 n5 c5, .slice B5 m5 d5], .bool false]) ?_ rfl ?_
            · have e0 := j4.cell 0
              have e1 := j4.cell 1
              simp [results, Tryz.f6, go_sem, e0, e1]
            · exact ⟨A5, n5, c5, B5, m5, d5, by rw [HF.out.1], by rw [HF.out.2]; exact t1, by rw [HF.out.2]; exact t2, by rw [HF.out.2]; exact ⟨frQ_q Rat.le_refl, by rw [rn_zero, digs_zero]; simp, Nat.le_trans (digs_len_le (k := 1) (by decide)) (by omega)⟩, hb4⟩
          · have HV : V = l := of_decide_eq_true HE.out
            subst HV
            have HF : Hid (fpok V = true ∧ fpq V = frQ X Y) := Lib.hid (by have h := HO.out; rw [Bool.and_true, Bool.and_true, Bool.and_true] at h; exact ⟨h.1, by rw [h.2, h.1]; rfl⟩)
            clear HO HE
            have hc0 := hB5.cell 0
            have hc1 := hB5.cell 1
            have hf0 := hB5.frozen 0
            have hf1 := hB5.frozen 1
            obtain ⟨j4, t1, t2, hb6⟩ := fr_store hB5 r1 r2 hb5 (by omega)
            go_wp2_with fail
            have hrr := HR.out
            have hdX := r1.dig
            have hdY := r2.dig
            unfold frR at hrr
            simp only [Bool.and_eq_true] at hrr
            have hX : digs (rn (frQ X Y)) = X ∧ digs (rd (frQ X Y)) = Y := frQ_lists HR.out hdX hdY
            refine bodyPost_ret (v := .tuple #[.agg #[.slice A1 n1 c1, .slice A2 n2 c2], .bool true]) ?_ rfl ?_
            · have e0 := j4.cell 0
              have e1 := j4.cell 1
              simp [results, Tryz.f6, go_sem, e0, e1]
            · refine ⟨A1, n1, c1, A2, n2, c2, by rw [HF.out.1], ?_, ?_, ?_, hb6⟩
              · rw [HF.out.2, hX.1]; exact t1
              · rw [HF.out.2, hX.2]; exact t2
              · rw [HF.out.2, hX.1, hX.2]; exact ⟨rfl, Nat.le_trans HX.out (Nat.le_succ _), HY.out⟩
  · rw [show fcD l = M from HD.out] at HO
    clear HD
    go_wp2_with fail
    refine (parse_any w1 ⟨N.toArray⟩ (by show N.length ≤ 4096; omega)).mono ?_
    intro e w2 h
    rw [show (⟨N.toArray⟩ : ByteArray).data.toList = N by simp] at h
    obtain ⟨A1, n1, c1, rfl, r1, hb⟩ := h.fpl
    have hB2 := hB1.below hb hB1.lt
    have hb2 := bltB hb1 hb1.size hb
    clear hb hB1 hb1 h
    go_wp2_with fail
    refine (parse_any w2 ⟨(M : List UInt8).toArray⟩ (by show (M : List UInt8).length ≤ 4096; first | omega | decide)).mono ?_
    intro e w3 h
    rw [show (⟨(M : List UInt8).toArray⟩ : ByteArray).data.toList = M by simp] at h
    obtain ⟨A2, n2, c2, rfl, r2, hb⟩ := h.fpl
    have hB3 := hB2.below hb hB2.lt
    have hb3 := bltB hb2 hb2.size hb
    have r1 := r1.on hb
    clear hb hB2 hb2 h
    have hx1 := fpl_len hNl
    have hx2 : (fpl M).length ≤ l.length + 1 := fpl_len (by omega)
    obtain ⟨X, hX⟩ : ∃ X, fpl N = X := ⟨_, rfl⟩
    obtain ⟨Y, hY⟩ : ∃ Y, fpl M = Y := ⟨_, rfl⟩
    rw [hX] at r1 HO hx1
    rw [hY] at r2 HO hx2
    clear hX hY
    have hn1 : n1 ≤ 4001 := by have := r1.len; omega
    have hn2 : n2 ≤ 4001 := by have := r2.len; omega
    have HX := Lib.hid hx1
    have HY := Lib.hid hx2
    clear hx1 hx2
    obtain ⟨p1, hp1⟩ : ∃ b, pok N = b := ⟨_, rfl⟩
    obtain ⟨p2, hp2⟩ : ∃ b, pok M = b := ⟨_, rfl⟩
    rw [hp1, hp2] at HO
    simp only [hp1, hp2]
    clear hp1 hp2
    obtain ⟨w3a, hw3⟩ : ∃ W, W = w3.alloc (.cells #[.slice A1 n1 c1, .slice A2 n2 c2] 24) := ⟨_, rfl⟩
    have hb : Below w3.heap.size w3 w3a := by rw [hw3]; exact (Below.refl _ _).alloc (Nat.le_refl _) _
    have hJ : Blk w3a w3.heap.size 24 #[.slice A1 n1 c1, .slice A2 n2 c2] := by rw [hw3]; exact Blk.new w3 _ _
    have hB3 := hB3.below hb hB3.lt
    have hb3 := bltB hb3 hb3.size hb
    have r1 := r1.on hb
    have r2 := r2.on hb
    clear hb
    have hj0 := hJ.cell 0
    have hj1 := hJ.cell 1
    rcases p1 with _ | _
    · have HF : Hid (fpok l = false ∧ fpq l = 0) := Lib.hid (by have h := HO.out; rw [Bool.false_and] at h; exact ⟨h.1, by rw [h.2, h.1]; rfl⟩)
      clear HO
      go_wp2_with fail
      rw [← hw3]
      refine (nought_any _).mono ?_
      rintro e w4 ⟨A5, n5, c5, B5, m5, d5, rfl, q1, q2, hb⟩
      have R3 := hB3.below hb hB3.lt
      have hb9 := bltB hb3 hb3.size hb
      clear hb hb3 hB3 r1 r2
      have hc0 := R3.cell 0
      have hc1 := R3.cell 1
      have hf0 := R3.frozen 0
      have hf1 := R3.frozen 1
      obtain ⟨j4, t1, t2, hb4⟩ := fr_store R3 q1 q2 hb9 (by omega)
      go_wp2_with fail
      refine bodyPost_ret (v := .tuple #[.agg #[.slice A5 n5 c5, .slice B5 m5 d5], .bool false]) ?_ rfl ?_
      · have e0 := j4.cell 0
        have e1 := j4.cell 1
        simp [results, Tryz.f6, go_sem, e0, e1]
      · exact ⟨A5, n5, c5, B5, m5, d5, by rw [HF.out.1], by rw [HF.out.2]; exact t1, by rw [HF.out.2]; exact t2, by rw [HF.out.2]; exact ⟨frQ_q Rat.le_refl, by rw [rn_zero, digs_zero]; simp, Nat.le_trans (digs_len_le (k := 1) (by decide)) (by omega)⟩, hb4⟩
    · rcases p2 with _ | _
      · have HF : Hid (fpok l = false ∧ fpq l = 0) := Lib.hid (by have h := HO.out; rw [Bool.false_and, Bool.and_false] at h; exact ⟨h.1, by rw [h.2, h.1]; rfl⟩)
        clear HO
        go_wp2_with fail
        rw [← hw3]
        refine (nought_any _).mono ?_
        rintro e w4 ⟨A5, n5, c5, B5, m5, d5, rfl, q1, q2, hb⟩
        have R3 := hB3.below hb hB3.lt
        have hb9 := bltB hb3 hb3.size hb
        clear hb hb3 hB3 r1 r2
        have hc0 := R3.cell 0
        have hc1 := R3.cell 1
        have hf0 := R3.frozen 0
        have hf1 := R3.frozen 1
        obtain ⟨j4, t1, t2, hb4⟩ := fr_store R3 q1 q2 hb9 (by omega)
        go_wp2_with fail
        refine bodyPost_ret (v := .tuple #[.agg #[.slice A5 n5 c5, .slice B5 m5 d5], .bool false]) ?_ rfl ?_
        · have e0 := j4.cell 0
          have e1 := j4.cell 1
          simp [results, Tryz.f6, go_sem, e0, e1]
        · exact ⟨A5, n5, c5, B5, m5, d5, by rw [HF.out.1], by rw [HF.out.2]; exact t1, by rw [HF.out.2]; exact t2, by rw [HF.out.2]; exact ⟨frQ_q Rat.le_refl, by rw [rn_zero, digs_zero]; simp, Nat.le_trans (digs_len_le (k := 1) (by decide)) (by omega)⟩, hb4⟩
      · go_wp2_with fail
        rw [← hw3]
        refine (fright_any w3a _ _ _ _ _ _ _ _ r1 r2 (by omega) (by omega)).mono ?_
        rintro e w4 ⟨rfl, hb⟩
        have hB4 := hB3.below hb hB3.lt
        have hb4 := bltB hb3 hb3.size hb
        have r1 := r1.on hb
        have r2 := r2.on hb
        have hJ := hJ.below hb hJ.lt
        clear hj0 hj1
        have hj0 := hJ.cell 0
        have hj1 := hJ.cell 1
        clear hb hB3 hb3
        obtain ⟨p3, hp3⟩ : ∃ b, frR X Y = b := ⟨_, rfl⟩
        have HR := Lib.hid hp3
        rw [hp3] at HO ⊢
        clear hp3
        rcases p3 with _ | _
        · have HF : Hid (fpok l = false ∧ fpq l = 0) := Lib.hid (by have h := HO.out; rw [Bool.false_and, Bool.and_false, Bool.and_false] at h; exact ⟨h.1, by rw [h.2, h.1]; rfl⟩)
          clear HO
          go_wp2_with fail
          refine (nought_any _).mono ?_
          rintro e w5 ⟨A5, n5, c5, B5, m5, d5, rfl, q1, q2, hb⟩
          have R3 := hB4.below hb hB4.lt
          have hb9 := bltB hb4 hb4.size hb
          clear hb hb4 hB4 r1 r2
          have hc0 := R3.cell 0
          have hc1 := R3.cell 1
          have hf0 := R3.frozen 0
          have hf1 := R3.frozen 1
          obtain ⟨j4, t1, t2, hb4⟩ := fr_store R3 q1 q2 hb9 (by omega)
          go_wp2_with fail
          refine bodyPost_ret (v := .tuple #[.agg #[.slice A5 n5 c5, .slice B5 m5 d5], .bool false]) ?_ rfl ?_
          · have e0 := j4.cell 0
            have e1 := j4.cell 1
            simp [results, Tryz.f6, go_sem, e0, e1]
          · exact ⟨A5, n5, c5, B5, m5, d5, by rw [HF.out.1], by rw [HF.out.2]; exact t1, by rw [HF.out.2]; exact t2, by rw [HF.out.2]; exact ⟨frQ_q Rat.le_refl, by rw [rn_zero, digs_zero]; simp, Nat.le_trans (digs_len_le (k := 1) (by decide)) (by omega)⟩, hb4⟩
        · go_wp2_with fail
          refine (ftext_any w4 (HT.out.on hb4) _ _ _ _ _ _ _ _ r1 r2 (by omega) (by omega)).mono ?_
          rintro e w5 ⟨rfl, hb⟩
          have hB5 := hB4.below hb hB4.lt
          have hb5 := bltB hb4 hb4.size hb
          have r1 := r1.on hb
          have r2 := r2.on hb
          have hJ := hJ.below hb hJ.lt
          clear hj0 hj1
          have hj0 := hJ.cell 0
          have hj1 := hJ.cell 1
          clear hb hB4 hb4
          obtain ⟨V, hV⟩ : ∃ V, fTxt (frN X Y) (frD X Y) = V := ⟨_, rfl⟩
          rw [hV] at HO ⊢
          clear hV
          rw [txt]
          obtain ⟨p4, hp4⟩ : ∃ b, decide (V = l) = b := ⟨_, rfl⟩
          have HE := Lib.hid hp4
          rw [hp4] at HO
          clear hp4
          rcases p4 with _ | _
          · have HV : (V == l) = false := beq_eq_false_iff_ne.2 (of_decide_eq_false HE.out)
            have HF : Hid (fpok l = false ∧ fpq l = 0) := Lib.hid (by have h := HO.out; rw [Bool.and_false, Bool.and_false, Bool.and_false] at h; exact ⟨h.1, by rw [h.2, h.1]; rfl⟩)
            clear HO
            go_wp2_with fail
            refine (nought_any _).mono ?_
            rintro e w6 ⟨A5, n5, c5, B5, m5, d5, rfl, q1, q2, hb⟩
            have R3 := hB5.below hb hB5.lt
            have hb9 := bltB hb5 hb5.size hb
            clear hb hb5 hB5 r1 r2
            have hc0 := R3.cell 0
            have hc1 := R3.cell 1
            have hf0 := R3.frozen 0
            have hf1 := R3.frozen 1
            obtain ⟨j4, t1, t2, hb4⟩ := fr_store R3 q1 q2 hb9 (by omega)
            go_wp2_with fail
            refine bodyPost_ret (v := .tuple #[.agg #[.slice A5 n5 c5, .slice B5 m5 d5], .bool false]) ?_ rfl ?_
            · have e0 := j4.cell 0
              have e1 := j4.cell 1
              simp [results, Tryz.f6, go_sem, e0, e1]
            · exact ⟨A5, n5, c5, B5, m5, d5, by rw [HF.out.1], by rw [HF.out.2]; exact t1, by rw [HF.out.2]; exact t2, by rw [HF.out.2]; exact ⟨frQ_q Rat.le_refl, by rw [rn_zero, digs_zero]; simp, Nat.le_trans (digs_len_le (k := 1) (by decide)) (by omega)⟩, hb4⟩
          · have HV : V = l := of_decide_eq_true HE.out
            subst HV
            have HF : Hid (fpok V = true ∧ fpq V = frQ X Y) := Lib.hid (by have h := HO.out; rw [Bool.and_true, Bool.and_true, Bool.and_true] at h; exact ⟨h.1, by rw [h.2, h.1]; rfl⟩)
            clear HO HE
            have hc0 := hB5.cell 0
            have hc1 := hB5.cell 1
            have hf0 := hB5.frozen 0
            have hf1 := hB5.frozen 1
            obtain ⟨j4, t1, t2, hb6⟩ := fr_store hB5 r1 r2 hb5 (by omega)
            go_wp2_with fail
            have hrr := HR.out
            have hdX := r1.dig
            have hdY := r2.dig
            unfold frR at hrr
            simp only [Bool.and_eq_true] at hrr
            have hX : digs (rn (frQ X Y)) = X ∧ digs (rd (frQ X Y)) = Y := frQ_lists HR.out hdX hdY
            refine bodyPost_ret (v := .tuple #[.agg #[.slice A1 n1 c1, .slice A2 n2 c2], .bool true]) ?_ rfl ?_
            · have e0 := j4.cell 0
              have e1 := j4.cell 1
              simp [results, Tryz.f6, go_sem, e0, e1]
            · refine ⟨A1, n1, c1, A2, n2, c2, by rw [HF.out.1], ?_, ?_, ?_, hb6⟩
              · rw [HF.out.2, hX.1]; exact t1
              · rw [HF.out.2, hX.2]; exact t2
              · rw [HF.out.2, hX.1, hX.2]; exact ⟨rfl, Nat.le_trans HX.out (Nat.le_succ _), HY.out⟩

end Go.Proofs.YthkgeafidbihmaaGreatDoor
