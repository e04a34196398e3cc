/-
  Fractions: one, nought, low, Of.
-/
import Derived.Test.YthkgeafidbihmaaGreatDoorGcd
import Derived.Test.YthkgeafidbihmaaGreatDoorBd
import Derived.Test.YthkgeafidbihmaaGreatDoorSub0
namespace Go.Proofs.YthkgeafidbihmaaGreatDoor
open Go.RowKit Go.Shelf
set_option linter.unusedVariables false
set_option linter.unusedSimpArgs false

/-- A fraction's two rows of digits, as a value. -/
def frv (A : Option Addr) (n c : Nat) (B : Option Addr) (m d : Nat) : Value := .agg #[.slice A n c, .slice B m d]

/-- A fraction is handed back. -/
def RetFr (w : World) (N D : Nat) (e : Ending) (w' : World) : Prop :=
  ∃ A n c B m d, e = .returned (.agg #[.slice A n c, .slice B m d]) ∧ Rd w' w'.heap.size A n c (digs N) ∧ Rd w' w'.heap.size B m d (digs D) ∧ Below w.heap.size w w'

theorem Rd.sets {w : World} {A : Option Addr} {n c n0 c0 : Nat} {l : List Nat} {p : Addr} {A0 : Option Addr} (h : Rd w w.heap.size A n c l) (hp : w.cell? p = some (.slice A0 n0 c0)) (v : Value) :
    Rd (w.setCell p v) (w.setCell p v).heap.size A n c l := by
  have hz : (w.setCell p v).heap.size = w.heap.size := by simp [World.setCell]
  rw [hz]
  refine ⟨h.len, h.cap, h.dig, fun h0 => ?_⟩
  obtain ⟨b, off, e, hb, hc⟩ := h.at_ h0
  refine ⟨b, off, e, hb, fun k hk => ?_⟩
  rw [World.cell?_setCell_other _ _ _ _ (fun e2 => by
    have h1 := hc k hk
    rw [← e2, hp] at h1
    cases h1)]
  exact hc k hk

theorem one_any (w : World) : Calls Tryz.prog 29 #[] w (RetN w 1) := by
  go_enter Tryz.func29, Tryz.ntmps29
  go_wp2_with fail
  refine (of_any w 1 (by decide)).mono ?_
  rintro e w1 ⟨A, n, c, rfl, r, hb⟩
  have HF : Hid (RetN w 1 (.returned (.slice A n c)) w1) := Lib.hid ⟨A, n, c, rfl, r, hb⟩
  clear r hb
  go_wp2_with fail
  go_ret
  exact HF.out

/-- What lies behind the store of a fraction into its own block. -/
theorem fr_store {w w2 : World} {G : Nat} {t : TypeId} {A0 B0 A B : Option Addr} {n0 c0 m0 d0 n c m d : Nat} {l k : List Nat} (hB : Blk w2 G t #[.slice A0 n0 c0, .slice B0 m0 d0]) (r1 : Rd w2 w2.heap.size A n c l) (r2 : Rd w2 w2.heap.size B m d k)
    (hb : Below w.heap.size w w2) (hG : w.heap.size ≤ G) :
    let W := (w2.setCell ⟨G, 0, none⟩ (.slice A n c)).setCell ⟨G, 1, none⟩ (.slice B m d)
    Blk W G t #[.slice A n c, .slice B m d] ∧ Rd W W.heap.size A n c l ∧ Rd W W.heap.size B m d k ∧ Below w.heap.size w W := by
  have hs0 : (w2.setCell ⟨G, 0, none⟩ (.slice A n c)).cell? ⟨G, 1, none⟩ = some (.slice B0 m0 d0) := (hB.set_ 0 (.slice A n c)).cell 1
  have hc0 : w2.cell? ⟨G, 0, none⟩ = some (.slice A0 n0 c0) := hB.cell 0
  exact ⟨(hB.set_ 0 (.slice A n c)).set_ 1 (.slice B m d), (r1.sets hc0 (.slice A n c)).sets hs0 (.slice B m d), (r2.sets hc0 (.slice A n c)).sets hs0 (.slice B m d),
    (hb.setCell (p := ⟨G, 0, none⟩) hG _).setCell (p := ⟨G, 1, none⟩) hG _⟩

theorem nought_any (w : World) : Calls Tryz.prog 22 #[] w (RetFr w 0 1) := by
  go_enter Tryz.func22, Tryz.ntmps22
  go_wp2_with fail
  have hB0 : Blk (w.alloc (.cells #[.slice none 0 0, .slice none 0 0] 24)) w.heap.size 24 #[.slice none 0 0, .slice none 0 0] := Blk.new w _ _
  have hb0 : Below w.heap.size w (w.alloc (.cells #[.slice none 0 0, .slice none 0 0] 24)) := (Below.refl _ _).alloc (Nat.le_refl _) _
  generalize w.alloc (.cells #[.slice none 0 0, .slice none 0 0] 24) = w0 at *
  refine (of_any w0 0 (by decide)).mono ?_
  rintro e w1 ⟨A, n, c, rfl, r, hb⟩
  have hB1 := hB0.below hb hB0.lt
  have hb1 := bltB hb0 hb0.size hb
  clear hb hB0 hb0
  go_wp2_with fail
  refine (one_any w1).mono ?_
  rintro e w2 ⟨B, m, d, rfl, r2, hb⟩
  have hB2 := hB1.below hb hB1.lt
  have hb2 := bltB hb1 hb1.size hb
  have r1 := r.on hb
  have hc0 := hB2.cell 0
  have hc1 := hB2.cell 1
  have hf0 := hB2.frozen 0
  have hf1 := hB2.frozen 1
  clear hb hB1 hb1 r
  go_wp2_with fail
  obtain ⟨h3, hr1, hr2, hb3⟩ := fr_store hB2 r1 r2 hb2 (Nat.le_refl _)
  refine bodyPost_ret (v := .agg #[.slice A n c, .slice B m d]) ?_ rfl ?_
  · have e0 := h3.cell 0
    have e1 := h3.cell 1
    simp [results, Tryz.f22, go_sem, e0, e1]
  · exact ⟨A, n, c, B, m, d, rfl, hr1, hr2, hb3⟩

/-- One side of a fraction, by the greatest common divisor. -/
theorem over_any (w : World) (A : Option Addr) (n c X : Nat) (h : Rd w w.heap.size A n c (digs X)) (hn : n ≤ 60000) (g : Nat) (B : Option Addr) (m d Y : Nat) (hg : w.cell? ⟨g, 0, none⟩ = some (.slice B m d)) (h2 : Rd w w.heap.size B m d (digs Y)) (hm : m ≤ 60000) :
    Calls Tryz.prog 59 #[.slice A n c, .pointer (some ⟨g, 0, none⟩)] w (RetN w (X / Y)) := by
  have H1 := Lib.hid h
  have H2 := Lib.hid h2
  clear h h2
  go_enter Tryz.func59, Tryz.ntmps59
  go_wp2_with fail
  refine (divmod_any _ _ _ _ _ _ _ _ _ H1.out H2.out hn hm).mono ?_
  rintro e w1 ⟨A1, n1, c1, A2, n2, c2, rfl, r1, r2, hb⟩
  rw [tv_digs, tv_digs] at r1
  have HF : Hid (RetN w (X / Y) (.returned (.slice A1 n1 c1)) w1) := Lib.hid ⟨A1, n1, c1, rfl, r1, hb⟩
  clear r1 r2 hb
  go_wp2_with fail
  go_ret
  exact HF.out

set_option maxRecDepth 100000 in
theorem flow_any (w : World) (A B : Option Addr) (n c m d X Y : Nat) (h1 : Rd w w.heap.size A n c (digs X)) (h2 : Rd w w.heap.size B m d (digs Y)) (hn : n ≤ 60000) (hm : m ≤ 60000) (hY : 0 < Y) :
    Calls Tryz.prog 34 #[.slice A n c, .slice B m d] w (RetFr w (X / Nat.gcd X Y) (Y / Nat.gcd X Y)) := by
  go_enter Tryz.func34, Tryz.ntmps34
  go_wp2_with fail
  have hB0 : Blk (w.alloc (.cells #[.slice none 0 0, .slice none 0 0] 24)) w.heap.size 24 #[.slice none 0 0, .slice none 0 0] := Blk.new w _ _
  have hb0 : Below w.heap.size w (w.alloc (.cells #[.slice none 0 0, .slice none 0 0] 24)) := (Below.refl _ _).alloc (Nat.le_refl _) _
  generalize w.alloc (.cells #[.slice none 0 0, .slice none 0 0] 24) = w0 at *
  have k1 := h1.on hb0
  have k2 := h2.on hb0
  clear h1 h2
  refine (gcd_any w0 A B n c m d _ _ k1 k2 (by omega) (by omega)).mono ?_
  rintro e w1 ⟨C, p, q, rfl, r, hb⟩
  rw [tv_digs, tv_digs] at r
  have hg0 : Nat.gcd X Y ≤ Y := Nat.gcd_le_right _ hY
  have hp : p ≤ 60000 := by
    have h1 := digs_len_mono hg0
    have h2 := r.len
    have h3 := k2.len
    omega
  have hB1 := hB0.below hb hB0.lt
  have hb1 := bltB hb0 hb0.size hb
  have k1 := k1.on hb
  have k2 := k2.on hb
  clear hb hB0 hb0
  go_wp2_with fail
  have bG : Boxed (w1.alloc (.cells #[.slice C p q] 22)) w1.heap.size 22 (.slice C p q) := Boxed.new w1 _ _
  have ba : Below w1.heap.size w1 (w1.alloc (.cells #[.slice C p q] 22)) := (Below.refl _ _).alloc (Nat.le_refl _) _
  have hB1 := hB1.below ba hB1.lt
  have hb1 := bltB hb1 hb1.size ba
  have k1 := k1.on ba
  have k2 := k2.on ba
  have r := r.on ba
  have hgl : w1.heap.size < (w1.alloc (.cells #[.slice C p q] 22)).heap.size := by simp
  obtain ⟨G, hG⟩ : ∃ G, w1.heap.size = G := ⟨_, rfl⟩
  simp only [hG] at bG hgl ⊢
  generalize w1.alloc (.cells #[.slice C p q] 22) = w1 at *
  clear ba hG
  refine (over_any w1 A n c X k1 hn G C p q _ bG.cell r hp).mono ?_
  rintro e w2 ⟨A2, n2, c2, rfl, q1, hb⟩
  have hB2 := hB1.below hb hB1.lt
  have hb2 := bltB hb1 hb1.size hb
  have k2 := k2.on hb
  have r := r.on hb
  have bG2 : Boxed w2 G 22 (.slice C p q) := Blk.below (cs := #[_]) bG hb hgl
  clear hb hB1 hb1 bG
  go_wp2_with fail
  refine (over_any w2 B m d Y k2 hm G C p q _ bG2.cell r hp).mono ?_
  rintro e w3 ⟨B2, m2, d2, rfl, q2, hb⟩
  have hB3 := hB2.below hb hB2.lt
  have hb3 := bltB hb2 hb2.size hb
  have q1 := q1.on hb
  have hc0 := hB3.cell 0
  have hc1 := hB3.cell 1
  have hf0 := hB3.frozen 0
  have hf1 := hB3.frozen 1
  clear hb hB2 hb2 bG2 r k2
  go_wp2_with fail
  obtain ⟨h4, hr1, hr2, hb4⟩ := fr_store hB3 q1 q2 hb3 (Nat.le_refl _)
  refine bodyPost_ret (v := .agg #[.slice A2 n2 c2, .slice B2 m2 d2]) ?_ rfl ?_
  · have e0 := h4.cell 0
    have e1 := h4.cell 1
    simp [results, Tryz.f34, go_sem, e0, e1]
  · exact ⟨A2, n2, c2, B2, m2, d2, rfl, hr1, hr2, hb4⟩

/-- n over d. -/
def RetO (w : World) (N D : Nat) (e : Ending) (w' : World) : Prop :=
  ∃ A n c B m d, e = .returned (.tuple #[.agg #[.slice A n c, .slice B m d], .bool (decide (0 < D))]) ∧ Rd w' w'.heap.size A n c (digs (if D = 0 then 0 else N / Nat.gcd N D)) ∧ Rd w' w'.heap.size B m d (digs (if D = 0 then 1 else D / Nat.gcd N D)) ∧ Below w.heap.size w w'

theorem fof_any (w : World) (N D : Nat) (hN : N < 18446744073709551616) (hD : D < 18446744073709551616) :
    Calls Tryz.prog 11 #[.int .u64 N, .int .u64 D] w (RetO w N D) := by
  have hB0 : Blk (w.alloc (.cells #[.slice none 0 0, .slice none 0 0] 24)) w.heap.size 24 #[.slice none 0 0, .slice none 0 0] := Blk.new w _ _
  have hb0 : Below w.heap.size w (w.alloc (.cells #[.slice none 0 0, .slice none 0 0] 24)) := (Below.refl _ _).alloc (Nat.le_refl _) _
  rcases Nat.eq_zero_or_pos D with h0 | h0
  · subst h0
    go_enter Tryz.func11, Tryz.ntmps11
    go_wp2_with fail
    generalize w.alloc (.cells #[.slice none 0 0, .slice none 0 0] 24) = w0 at *
    refine (nought_any w0).mono ?_
    rintro e w1 ⟨A, n, c, B, m, d, rfl, r1, r2, hb⟩
    have hB1 := hB0.below hb hB0.lt
    have hb1 := bltB hb0 hb0.size hb
    have hc0 := hB1.cell 0
    have hc1 := hB1.cell 1
    have hf0 := hB1.frozen 0
    have hf1 := hB1.frozen 1
    clear hb hB0 hb0
    go_wp2_with fail
    obtain ⟨h4, hr1, hr2, hb4⟩ := fr_store hB1 r1 r2 hb1 (Nat.le_refl _)
    refine bodyPost_ret (v := .tuple #[.agg #[.slice A n c, .slice B m d], .bool false]) ?_ rfl ?_
    · have e0 := h4.cell 0
      have e1 := h4.cell 1
      simp [results, Tryz.f11, go_sem, e0, e1]
    · exact ⟨A, n, c, B, m, d, rfl, by rw [if_pos rfl]; exact hr1, by rw [if_pos rfl]; exact hr2, hb4⟩
  · have hz : ((D : Int) == 0) = false := by simp; omega
    go_enter Tryz.func11, Tryz.ntmps11
    go_wp2_with fail
    generalize w.alloc (.cells #[.slice none 0 0, .slice none 0 0] 24) = w0 at *
    refine (of_any w0 N hN).mono ?_
    rintro e w1 ⟨A, n, c, rfl, r1, hb⟩
    have hB1 := hB0.below hb hB0.lt
    have hb1 := bltB hb0 hb0.size hb
    clear hb hB0 hb0
    go_wp2_with fail
    refine (of_any w1 D hD).mono ?_
    rintro e w2 ⟨B, m, d, rfl, r2, hb⟩
    have hB2 := hB1.below hb hB1.lt
    have hb2 := bltB hb1 hb1.size hb
    have r1 := r1.on hb
    have hn : n ≤ 2 := rd_le r1 (by omega)
    have hm : m ≤ 2 := rd_le r2 (by omega)
    clear hb hB1 hb1
    go_wp2_with fail
    refine (flow_any w2 A B n c m d N D r1 r2 (by omega) (by omega) h0).mono ?_
    rintro e w3 ⟨A2, n2, c2, B2, m2, d2, rfl, q1, q2, hb⟩
    have hB3 := hB2.below hb hB2.lt
    have hb3 := bltB hb2 hb2.size hb
    have hc0 := hB3.cell 0
    have hc1 := hB3.cell 1
    have hf0 := hB3.frozen 0
    have hf1 := hB3.frozen 1
    clear hb hB2 hb2 r1 r2
    go_wp2_with fail
    obtain ⟨h4, hr1, hr2, hb4⟩ := fr_store hB3 q1 q2 hb3 (Nat.le_refl _)
    refine bodyPost_ret (v := .tuple #[.agg #[.slice A2 n2 c2, .slice B2 m2 d2], .bool true]) ?_ rfl ?_
    · have e0 := h4.cell 0
      have e1 := h4.cell 1
      simp [results, Tryz.f11, go_sem, e0, e1]
    · exact ⟨A2, n2, c2, B2, m2, d2, by rw [decide_eq_true h0], by rw [if_neg (by omega)]; exact hr1, by rw [if_neg (by omega)]; exact hr2, hb4⟩

end Go.Proofs.YthkgeafidbihmaaGreatDoor
