/-
  The document's naturals and fractions: the same ones, one, nought, low, Of, Same.
-/
import Derived.Test.YtdobpicamibgpaaCmp
import Derived.BigQuiet
import Derived.Test.YtdobpicamibgpaaFracX
import Derived.Test.YtdobpicamibgpaaRefK

/-
  The document's Nats: whether digits are the same.
-/
namespace Go.Proofs.Ytdobpicamibgpaa
open Go.RowKit
set_option linter.unusedVariables false
set_option linter.unusedSimpArgs false

theorem nats_ext {l1 l2 : List Nat} {n : Nat} (h1 : l1.length = n) (h2 : l2.length = n) (h : ∀ i, i < n → l1.getD i 0 = l2.getD i 0) : l1 = l2 := by
  apply List.ext_getElem (by omega)
  intro i hi1 hi2
  have := h i (by omega)
  simpa [List.getD_eq_getElem?_getD, List.getElem?_eq_getElem hi1, List.getElem?_eq_getElem hi2] using this

theorem belN2 {B : Nat} {a w : World} (h : Below B a w) (n : Nat) : Below B a (w.drewN n) := ⟨h.1, h.2, h.3, h.4, h.5⟩

set_option maxRecDepth 100000 in
theorem nats_any (w : World) (A1 A2 : Option Addr) (n1 c1 n2 c2 : Nat) (l1 l2 : List Nat) (h1 : Rd w w.heap.size A1 n1 c1 l1) (h2 : Rd w w.heap.size A2 n2 c2 l2) (hn1 : n1 ≤ 9223372036854775807) :
    Calls Try.prog 47 #[.slice A1 n1 c1, .slice A2 n2 c2] w fun e w' => e = .returned (.bool (decide (l1 = l2))) ∧ Below w.heap.size w w' := by
  by_cases hne : n1 = n2
  · subst hne
    have hl1 := h1.len
    have hl2 := h2.len
    have hb : ((n1 : Int) != (n1 : Int)) = false := by simp
    rcases Nat.eq_zero_or_pos n1 with h0 | h0
    · subst h0
      have e1 := h1.nil_of
      have e2 := h2.nil_of
      subst e1 e2
      clear h1 h2
      go_enter Try.func47, Try.ntmps47
      go_wp2_with fail
      go_loop [5] (fun iv => iv = .int .i64 0) (fun _ => 0)
      case atStart => rfl
      case round =>
        subst hrel
        go_wp2_with fail
        go_ret
        exact ⟨by simp, Below.refl _ _⟩
    · obtain ⟨b1, o1, rfl, hb1, hc1⟩ := h1.at_ h0
      obtain ⟨b2, o2, rfl, hb2, hc2⟩ := h2.at_ h0
      have H1 := Lib.hid hc1
      have H2 := Lib.hid hc2
      have HL := Lib.hid (And.intro hl1 hl2)
      clear hc1 hc2 h1 h2 hl1 hl2
      go_enter Try.func47, Try.ntmps47
      go_wp2_with fail
      go_loopw [5] (fun iv wr => ∃ i : Nat, i ≤ n1 ∧ iv = .int .i64 i ∧ Hid (∀ j, j < i → l1.getD j 0 = l2.getD j 0) ∧ Hid (Below w.heap.size w wr)) (fun iv _ => n1 - (intOf iv).toNat)
      case atStart => exact ⟨0, Nat.zero_le _, rfl, Lib.hid (fun j hj => by omega), Lib.hid (Below.refl _ _)⟩
      case round =>
        obtain ⟨i, hi, rfl, HE, HB⟩ := hrel
        by_cases hlt : i < n1
        · have c1 := (HB.out.cell (p := ⟨b1, o1 + i, none⟩) hb1).trans (H1.out i hlt)
          have c2 := (HB.out.cell (p := ⟨b2, o2 + i, none⟩) hb2).trans (H2.out i hlt)
          obtain ⟨x, hx⟩ : ∃ x, l1.getD i 0 = x := ⟨_, rfl⟩
          obtain ⟨y, hy⟩ : ∃ y, l2.getD i 0 = y := ⟨_, rfl⟩
          rw [hx] at c1
          rw [hy] at c2
          by_cases hxy : x = y
          · subst hxy
            have ht : ((x : Int) != (x : Int)) = false := by simp
            have HE2 : Hid (∀ j, j < i + 1 → l1.getD j 0 = l2.getD j 0) := Lib.hid (fun j hj => by
              rcases Nat.lt_or_eq_of_le (Nat.le_of_lt_succ hj) with h | h
              · exact HE.out j h
              · rw [h, hx, hy])
            clear hx hy
            go_wp2_with fail
            go_quiet (fail)
            go_wp2_with fail
            go_roundw
            case rel => exact ⟨i + 1, by omega, by go_num, HE2, Lib.hid (belN2 HB.out _)⟩
            case measure => simp [intOf]; omega
          · have ht : ((x : Int) != (y : Int)) = true := by simp; omega
            have HF : Hid (decide (l1 = l2) = false) := Lib.hid (by
              rw [decide_eq_false_iff_not]
              intro e
              rw [e, hy] at hx
              exact hxy hx.symm)
            clear hx hy
            go_wp2_with fail
            go_quiet (fail)
            go_wp2_with fail
            go_ret
            exact ⟨by rw [HF.out]; rfl, belN2 HB.out _⟩
        · obtain rfl : i = n1 := by omega
          have HF : Hid (decide (l1 = l2) = true) := Lib.hid (by
            rw [decide_eq_true_iff]
            exact nats_ext HL.out.1 HL.out.2 HE.out)
          go_wp2_with fail
          go_ret
          exact ⟨by rw [HF.out]; rfl, HB.out⟩
  · have ht : ((n1 : Int) != (n2 : Int)) = true := by simp; omega
    have HF : Hid (decide (l1 = l2) = false) := Lib.hid (by
      rw [decide_eq_false_iff_not]
      intro e
      have := h1.len
      rw [e, h2.len] at this
      exact hne this.symm)
    clear h1 h2
    go_enter Try.func47, Try.ntmps47
    go_wp2_with fail
    go_ret
    exact ⟨by rw [HF.out]; rfl, Below.refl _ _⟩

end Go.Proofs.Ytdobpicamibgpaa

/-
  The document's fractions: One, Zero, low, Of, Same.
-/
namespace Go.Proofs.Ytdobpicamibgpaa
open Go.RowKit Go.Shelf
set_option linter.unusedVariables false
set_option linter.unusedSimpArgs false

theorem rone_any (w : World) : Calls Try.prog 73 #[] w (RetN w 1) := by
  go_enter Try.func73, Try.ntmps73
  go_wp2_with fail
  refine (rof_any w 1 (by decide)).mono ?_
  rintro e w1 ⟨A, n, c, rfl, r, hb⟩
  have HF : Hid (RetN w 1 (.returned (.slice A n c)) w1) := Lib.hid ⟨A, n, c, rfl, r, hb⟩
  clear r hb
  go_wp2_with fail
  go_ret
  exact HF.out

theorem rzero_any (w : World) : Calls Try.prog 62 #[] w (RetFr w 0 1) := by
  go_enter Try.func62, Try.ntmps62
  go_wp2_with fail
  have hB0 : Blk (w.alloc (.cells #[.slice none 0 0, .slice none 0 0] 42)) w.heap.size 42 #[.slice none 0 0, .slice none 0 0] := Blk.new w _ _
  have hb0 : Below w.heap.size w (w.alloc (.cells #[.slice none 0 0, .slice none 0 0] 42)) := (Below.refl _ _).alloc (Nat.le_refl _) _
  generalize w.alloc (.cells #[.slice none 0 0, .slice none 0 0] 42) = w0 at *
  refine (rof_any w0 0 (by decide)).mono ?_
  rintro e w1 ⟨A, n, c, rfl, r, hb⟩
  have hB1 := hB0.below hb hB0.lt
  have hb1 := bltB hb0 hb0.size hb
  clear hb hB0 hb0
  go_wp2_with fail
  refine (rone_any w1).mono ?_
  rintro e w2 ⟨B, m, d, rfl, r2, hb⟩
  have hB2 := hB1.below hb hB1.lt
  have hb2 := bltB hb1 hb1.size hb
  have r1 := r.on hb
  have hc0 := hB2.cell 0
  have hc1 := hB2.cell 1
  have hf0 := hB2.frozen 0
  have hf1 := hB2.frozen 1
  clear hb hB1 hb1 r
  go_wp2_with fail
  obtain ⟨h3, hr1, hr2, hb3⟩ := fr_store hB2 r1 r2 hb2 (Nat.le_refl _)
  refine bodyPost_ret (v := .agg #[.slice A n c, .slice B m d]) ?_ rfl ?_
  · have e0 := h3.cell 0
    have e1 := h3.cell 1
    simp [results, Try.f62, go_sem, e0, e1]
  · exact ⟨A, n, c, B, m, d, rfl, hr1, hr2, hb3⟩

set_option maxRecDepth 100000 in
theorem rflow_any (w : World) (A B : Option Addr) (n c m d X Y : Nat) (h1 : Rd w w.heap.size A n c (digs X)) (h2 : Rd w w.heap.size B m d (digs Y)) (hn : n ≤ 60000) (hm : m ≤ 60000) (hY : 0 < Y) :
    Calls Try.prog 63 #[.slice A n c, .slice B m d] w (RetFr w (X / Nat.gcd X Y) (Y / Nat.gcd X Y)) := by
  go_enter Try.func63, Try.ntmps63
  go_wp2_with fail
  have hB0 : Blk (w.alloc (.cells #[.slice none 0 0, .slice none 0 0] 42)) w.heap.size 42 #[.slice none 0 0, .slice none 0 0] := Blk.new w _ _
  have hb0 : Below w.heap.size w (w.alloc (.cells #[.slice none 0 0, .slice none 0 0] 42)) := (Below.refl _ _).alloc (Nat.le_refl _) _
  generalize w.alloc (.cells #[.slice none 0 0, .slice none 0 0] 42) = w0 at *
  have k1 := h1.on hb0
  have k2 := h2.on hb0
  clear h1 h2
  refine (rgcd_any w0 A B n c m d _ _ k1 k2 (by omega) (by omega)).mono ?_
  rintro e w1 ⟨C, p, q, rfl, r, hb⟩
  rw [tv_digs, tv_digs] at r
  have hg0 : Nat.gcd X Y ≤ Y := Nat.gcd_le_right _ hY
  have hp : p ≤ 60000 := by
    have h1 := digs_len_mono hg0
    have h2 := r.len
    have h3 := k2.len
    omega
  have hB1 := hB0.below hb hB0.lt
  have hb1 := bltB hb0 hb0.size hb
  have k1 := k1.on hb
  have k2 := k2.on hb
  clear hb hB0 hb0
  go_wp2_with fail
  refine (rdivmod_any _ _ _ _ _ _ _ _ _ k1 r hn hp).mono ?_
  rintro e w2 ⟨A2, n2, c2, A9, n9, c9, rfl, q1, _, hb⟩
  rw [tv_digs, tv_digs] at q1
  have hB2 := hB1.below hb hB1.lt
  have hb2 := bltB hb1 hb1.size hb
  have k2 := k2.on hb
  have r := r.on hb
  clear hb hB1 hb1
  go_wp2_with fail
  refine (rdivmod_any _ _ _ _ _ _ _ _ _ k2 r hm hp).mono ?_
  rintro e w3 ⟨B2, m2, d2, B9, m9, d9, rfl, q2, _, hb⟩
  rw [tv_digs, tv_digs] at q2
  have hB3 := hB2.below hb hB2.lt
  have hb3 := bltB hb2 hb2.size hb
  have q1 := q1.on hb
  have hc0 := hB3.cell 0
  have hc1 := hB3.cell 1
  have hf0 := hB3.frozen 0
  have hf1 := hB3.frozen 1
  clear hb hB2 hb2 r k2
  go_wp2_with fail
  obtain ⟨h4, hr1, hr2, hb4⟩ := fr_store hB3 q1 q2 hb3 (Nat.le_refl _)
  refine bodyPost_ret (v := .agg #[.slice A2 n2 c2, .slice B2 m2 d2]) ?_ rfl ?_
  · have e0 := h4.cell 0
    have e1 := h4.cell 1
    simp [results, Try.f63, go_sem, e0, e1]
  · exact ⟨A2, n2, c2, B2, m2, d2, rfl, hr1, hr2, hb4⟩

theorem rfof_any (w : World) (N D : Nat) (hN : N < 18446744073709551616) (hD : D < 18446744073709551616) :
    Calls Try.prog 46 #[.int .u64 N, .int .u64 D] w (RetO w N D) := by
  have hB0 : Blk (w.alloc (.cells #[.slice none 0 0, .slice none 0 0] 42)) w.heap.size 42 #[.slice none 0 0, .slice none 0 0] := Blk.new w _ _
  have hb0 : Below w.heap.size w (w.alloc (.cells #[.slice none 0 0, .slice none 0 0] 42)) := (Below.refl _ _).alloc (Nat.le_refl _) _
  rcases Nat.eq_zero_or_pos D with h0 | h0
  · subst h0
    go_enter Try.func46, Try.ntmps46
    go_wp2_with fail
    generalize w.alloc (.cells #[.slice none 0 0, .slice none 0 0] 42) = w0 at *
    refine (rzero_any w0).mono ?_
    rintro e w1 ⟨A, n, c, B, m, d, rfl, r1, r2, hb⟩
    have hB1 := hB0.below hb hB0.lt
    have hb1 := bltB hb0 hb0.size hb
    have hc0 := hB1.cell 0
    have hc1 := hB1.cell 1
    have hf0 := hB1.frozen 0
    have hf1 := hB1.frozen 1
    clear hb hB0 hb0
    go_wp2_with fail
    obtain ⟨h4, hr1, hr2, hb4⟩ := fr_store hB1 r1 r2 hb1 (Nat.le_refl _)
    refine bodyPost_ret (v := .tuple #[.agg #[.slice A n c, .slice B m d], .bool false]) ?_ rfl ?_
    · have e0 := h4.cell 0
      have e1 := h4.cell 1
      simp [results, Try.f46, go_sem, e0, e1]
    · exact ⟨A, n, c, B, m, d, rfl, by rw [if_pos rfl]; exact hr1, by rw [if_pos rfl]; exact hr2, hb4⟩
  · have hz : ((D : Int) == 0) = false := by simp; omega
    go_enter Try.func46, Try.ntmps46
    go_wp2_with fail
    generalize w.alloc (.cells #[.slice none 0 0, .slice none 0 0] 42) = w0 at *
    refine (rof_any w0 N hN).mono ?_
    rintro e w1 ⟨A, n, c, rfl, r1, hb⟩
    have hB1 := hB0.below hb hB0.lt
    have hb1 := bltB hb0 hb0.size hb
    clear hb hB0 hb0
    go_wp2_with fail
    refine (rof_any w1 D hD).mono ?_
    rintro e w2 ⟨B, m, d, rfl, r2, hb⟩
    have hB2 := hB1.below hb hB1.lt
    have hb2 := bltB hb1 hb1.size hb
    have r1 := r1.on hb
    have hn : n ≤ 2 := rd_le r1 (by omega)
    have hm : m ≤ 2 := rd_le r2 (by omega)
    clear hb hB1 hb1
    go_wp2_with fail
    refine (rflow_any w2 A B n c m d N D r1 r2 (by omega) (by omega) h0).mono ?_
    rintro e w3 ⟨A2, n2, c2, B2, m2, d2, rfl, q1, q2, hb⟩
    have hB3 := hB2.below hb hB2.lt
    have hb3 := bltB hb2 hb2.size hb
    have hc0 := hB3.cell 0
    have hc1 := hB3.cell 1
    have hf0 := hB3.frozen 0
    have hf1 := hB3.frozen 1
    clear hb hB2 hb2 r1 r2
    go_wp2_with fail
    obtain ⟨h4, hr1, hr2, hb4⟩ := fr_store hB3 q1 q2 hb3 (Nat.le_refl _)
    refine bodyPost_ret (v := .tuple #[.agg #[.slice A2 n2 c2, .slice B2 m2 d2], .bool true]) ?_ rfl ?_
    · have e0 := h4.cell 0
      have e1 := h4.cell 1
      simp [results, Try.f46, go_sem, e0, e1]
    · exact ⟨A2, n2, c2, B2, m2, d2, by rw [decide_eq_true h0], by rw [if_neg (by omega)]; exact hr1, by rw [if_neg (by omega)]; exact hr2, hb4⟩

theorem fsame_any (w : World) (A1 B1 A2 B2' : Option Addr) (n1 c1 m1 d1 n2 c2 m2 d2 : Nat) (l1 k1 l2 k2 : List Nat) (h1 : Rd w w.heap.size A1 n1 c1 l1) (g1 : Rd w w.heap.size B1 m1 d1 k1) (h2 : Rd w w.heap.size A2 n2 c2 l2) (g2 : Rd w w.heap.size B2' m2 d2 k2)
    (hn1 : n1 ≤ 9223372036854775807) (hm1 : m1 ≤ 9223372036854775807) :
    Calls Try.prog 25 #[.agg #[.slice A1 n1 c1, .slice B1 m1 d1], .agg #[.slice A2 n2 c2, .slice B2' m2 d2]] w fun e w' => e = .returned (.bool (decide (l1 = l2) && decide (k1 = k2))) ∧ Below w.heap.size w w' := by
  obtain ⟨w0, hw0⟩ : ∃ w0, w0 = (w.alloc (.cells #[.slice A1 n1 c1, .slice B1 m1 d1] 42)).alloc (.cells #[.slice A2 n2 c2, .slice B2' m2 d2] 42) := ⟨_, rfl⟩
  have hb0 : Below w.heap.size w w0 := by rw [hw0]; exact ((Below.refl _ _).alloc (Nat.le_refl _) _).alloc (by simp) _
  have J0 : B2 w0 w.heap.size A1 n1 c1 B1 m1 d1 A2 n2 c2 B2' m2 d2 := by
    rw [hw0]
    refine ⟨(Blk.new w _ _).alloc _, ?_⟩
    have := Blk.new (w.alloc (.cells #[.slice A1 n1 c1, .slice B1 m1 d1] 42)) 42 #[.slice A2 n2 c2, .slice B2' m2 d2]
    rw [World.size_alloc] at this
    exact this
  have h1 := h1.on hb0
  have g1 := g1.on hb0
  have h2 := h2.on hb0
  have g2 := g2.on hb0
  have hc0 := J0.a.cell 0
  have hc1 := J0.a.cell 1
  have hc2 := J0.b.cell 0
  have hc3 := J0.b.cell 1
  go_enter Try.func25, Try.ntmps25
  go_wp2_with fail
  rw [← hw0]
  clear hw0
  go_wp2_with fail
  refine (nats_any _ _ _ _ _ _ _ _ _ h1 h2 hn1).mono ?_
  rintro e w1 ⟨rfl, hb⟩
  have hb1 := bltB hb0 hb0.size hb
  have J1 := J0.on hb
  have g1 := g1.on hb
  have g2 := g2.on hb
  have hc0 := J1.a.cell 0
  have hc1 := J1.a.cell 1
  have hc2 := J1.b.cell 0
  have hc3 := J1.b.cell 1
  clear hb J0 hb0 h1 h2
  rcases hd : decide (l1 = l2) with _ | _
  · have HD := Lib.hid hd
    clear hd
    go_wp2_with fail
    go_ret
    exact ⟨by rw [HD.out]; rfl, hb1⟩
  · have HD := Lib.hid hd
    clear hd
    go_wp2_with fail
    refine (nats_any _ _ _ _ _ _ _ _ _ g1 g2 hm1).mono ?_
    rintro e w2 ⟨rfl, hb⟩
    have hb2 := bltB hb1 hb1.size hb
    clear hb J1 hb1 g1 g2 hc0 hc1 hc2 hc3
    obtain ⟨b, hbb⟩ : ∃ b, decide (k1 = k2) = b := ⟨_, rfl⟩
    rw [hbb]
    have HB := Lib.hid hbb
    clear hbb
    go_wp2_with fail
    go_ret
    exact ⟨by rw [HD.out, HB.out]; simp, hb2⟩

end Go.Proofs.Ytdobpicamibgpaa
