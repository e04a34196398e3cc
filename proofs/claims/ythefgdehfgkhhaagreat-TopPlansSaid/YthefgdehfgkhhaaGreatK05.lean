/-
  Fractions: one, nought, low, Of.
-/
import Derived.Test.YthefgdehfgkhhaaGreatK01
import Derived.Test.YthefgdehfgkhhaaGreatK04
import Derived.Test.YthefgdehfgkhhaaGreatK03
namespace Go.Proofs.YthefgdehfgkhhaaGreat
open Go.RowKit Go.Shelf
set_option linter.unusedVariables false
set_option linter.unusedSimpArgs false
/-- A fraction's two rows of digits, as a value. -/
def frv (A : Option Addr) (n c : Nat) (B : Option Addr) (m d : Nat) : Value := .agg #[.slice A n c, .slice B m d]
/-- A fraction is handed back. -/
def RetFr (w : World) (N D : Nat) (e : Ending) (w' : World) : Prop :=
 ∃ A n c B m d, e = .returned (.agg #[.slice A n c, .slice B m d]) ∧ Rd w' w'.heap.size A n c (digs N) ∧ Rd w' w'.heap.size B m d (digs D) ∧ Below w.heap.size w w'
theorem Rd.sets {w : World} {A : Option Addr} {n c n0 c0 : Nat} {l : List Nat} {p : Addr} {A0 : Option Addr} (h : Rd w w.heap.size A n c l) (hp : w.cell? p = some (.slice A0 n0 c0)) (v : Value) :
 Rd (w.setCell p v) (w.setCell p v).heap.size A n c l := by
 have hz : (w.setCell p v).heap.size = w.heap.size := by simp [World.setCell]
 rw [hz]
 refine ⟨h.len, h.cap, h.dig, fun h0 => ?_⟩
 obtain ⟨b, off, e, hb, hc⟩ := h.at_ h0
 refine ⟨b, off, e, hb, fun k hk => ?_⟩
 rw [World.cell?_setCell_other _ _ _ _ (fun e2 => by
  have h1 := hc k hk
  rw [← e2, hp] at h1
  cases h1)]
 exact hc k hk
theorem one_any (w : World) : Calls Tryz.prog 58 #[] w (RetN w 1) := by
 go_enter Tryz.func58, Tryz.ntmps58
 go_wp2_with fail
 refine (of_any w 1 (by decide)).mono ?_
 rintro e w1 ⟨A, n, c, rfl, r, hb⟩
 have HF : Hid (RetN w 1 (.returned (.slice A n c)) w1) := Lib.hid ⟨A, n, c, rfl, r, hb⟩
 clear r hb
 go_wp2_with fail
 go_ret
 exact HF.out
/-- What lies behind the store of a fraction into its own block. -/
theorem fr_store {w w2 : World} {G : Nat} {t : TypeId} {A0 B0 A B : Option Addr} {n0 c0 m0 d0 n c m d : Nat} {l k : List Nat} (hB : Blk w2 G t #[.slice A0 n0 c0, .slice B0 m0 d0]) (r1 : Rd w2 w2.heap.size A n c l) (r2 : Rd w2 w2.heap.size B m d k)
 (hb : Below w.heap.size w w2) (hG : w.heap.size ≤ G) :
 let W := (w2.setCell ⟨G, 0, none⟩ (.slice A n c)).setCell ⟨G, 1, none⟩ (.slice B m d)
 Blk W G t #[.slice A n c, .slice B m d] ∧ Rd W W.heap.size A n c l ∧ Rd W W.heap.size B m d k ∧ Below w.heap.size w W := by
 have hs0 : (w2.setCell ⟨G, 0, none⟩ (.slice A n c)).cell? ⟨G, 1, none⟩ = some (.slice B0 m0 d0) := (hB.set_ 0 (.slice A n c)).cell 1
 have hc0 : w2.cell? ⟨G, 0, none⟩ = some (.slice A0 n0 c0) := hB.cell 0
 exact ⟨(hB.set_ 0 (.slice A n c)).set_ 1 (.slice B m d), (r1.sets hc0 (.slice A n c)).sets hs0 (.slice B m d), (r2.sets hc0 (.slice A n c)).sets hs0 (.slice B m d),
  (hb.setCell (p := ⟨G, 0, none⟩) hG _).setCell (p := ⟨G, 1, none⟩) hG _⟩
theorem nought_any (w : World) : Calls Tryz.prog 32 #[] w (RetFr w 0 1) := by
 go_enter Tryz.func32, Tryz.ntmps32
 go_wp2_with fail
 have hB0 : Blk (w.alloc (.cells #[.slice none 0 0, .slice none 0 0] 34)) w.heap.size 34 #[.slice none 0 0, .slice none 0 0] := Blk.new w _ _
 have hb0 : Below w.heap.size w (w.alloc (.cells #[.slice none 0 0, .slice none 0 0] 34)) := (Below.refl _ _).alloc (Nat.le_refl _) _
 generalize w.alloc (.cells #[.slice none 0 0, .slice none 0 0] 34) = w0 at *
 refine (of_any w0 0 (by decide)).mono ?_
 rintro e w1 ⟨A, n, c, rfl, r, hb⟩
 have hB1 := hB0.below hb hB0.lt
 have hb1 := bltB hb0 hb0.size hb
 clear hb hB0 hb0
 go_wp2_with fail
 refine (one_any w1).mono ?_
 rintro e w2 ⟨B, m, d, rfl, r2, hb⟩
 have hB2 := hB1.below hb hB1.lt
 have hb2 := bltB hb1 hb1.size hb
 have r1 := r.on hb
 have hc0 := hB2.cell 0
 have hc1 := hB2.cell 1
 have hf0 := hB2.frozen 0
 have hf1 := hB2.frozen 1
 clear hb hB1 hb1 r
 go_wp2_with fail
 obtain ⟨h3, hr1, hr2, hb3⟩ := fr_store hB2 r1 r2 hb2 (Nat.le_refl _)
 refine bodyPost_ret (v := .agg #[.slice A n c, .slice B m d]) ?_ rfl ?_
 ·have e0 := h3.cell 0
  have e1 := h3.cell 1
  simp [results, Tryz.f32, go_sem, e0, e1]
 ·exact ⟨A, n, c, B, m, d, rfl, hr1, hr2, hb3⟩
/-- One side of a fraction, by the greatest common divisor. -/
theorem over_any (w : World) (A : Option Addr) (n c X : Nat) (h : Rd w w.heap.size A n c (digs X)) (hn : n ≤ 60000) (g : Nat) (B : Option Addr) (m d Y : Nat) (hg : w.cell? ⟨g, 0, none⟩ = some (.slice B m d)) (h2 : Rd w w.heap.size B m d (digs Y)) (hm : m ≤ 60000) :
 Calls Tryz.prog 60 #[.slice A n c, .pointer (some ⟨g, 0, none⟩)] w (RetN w (X / Y)) := by
 have H1 := Lib.hid h
 have H2 := Lib.hid h2
 clear h h2
 go_enter Tryz.func60, Tryz.ntmps60
 go_wp2_with fail
 refine (divmod_any _ _ _ _ _ _ _ _ _ H1.out H2.out hn hm).mono ?_
 rintro e w1 ⟨A1, n1, c1, A2, n2, c2, rfl, r1, r2, hb⟩
 rw [tv_digs, tv_digs] at r1
 have HF : Hid (RetN w (X / Y) (.returned (.slice A1 n1 c1)) w1) := Lib.hid ⟨A1, n1, c1, rfl, r1, hb⟩
 clear r1 r2 hb
 go_wp2_with fail
 go_ret
 exact HF.out
set_option maxRecDepth 100000 in
theorem flow_any (w : World) (A B : Option Addr) (n c m d X Y : Nat) (h1 : Rd w w.heap.size A n c (digs X)) (h2 : Rd w w.heap.size B m d (digs Y)) (hn : n ≤ 60000) (hm : m ≤ 60000) (hY : 0 < Y) :
 Calls Tryz.prog 33 #[.slice A n c, .slice B m d] w (RetFr w (X / Nat.gcd X Y) (Y / Nat.gcd X Y)) := by
 go_enter Tryz.func33, Tryz.ntmps33
 go_wp2_with fail
 have hB0 : Blk (w.alloc (.cells #[.slice none 0 0, .slice none 0 0] 34)) w.heap.size 34 #[.slice none 0 0, .slice none 0 0] := Blk.new w _ _
 have hb0 : Below w.heap.size w (w.alloc (.cells #[.slice none 0 0, .slice none 0 0] 34)) := (Below.refl _ _).alloc (Nat.le_refl _) _
 generalize w.alloc (.cells #[.slice none 0 0, .slice none 0 0] 34) = w0 at *
 have k1 := h1.on hb0
 have k2 := h2.on hb0
 clear h1 h2
 refine (gcd_any w0 A B n c m d _ _ k1 k2 (by omega) (by omega)).mono ?_
 rintro e w1 ⟨C, p, q, rfl, r, hb⟩
 rw [tv_digs, tv_digs] at r
 have hg0 : Nat.gcd X Y ≤ Y := Nat.gcd_le_right _ hY
 have hp : p ≤ 60000 := by
  have h1 := digs_len_mono hg0
  have h2 := r.len
  have h3 := k2.len
  omega
 have hB1 := hB0.below hb hB0.lt
 have hb1 := bltB hb0 hb0.size hb
 have k1 := k1.on hb
 have k2 := k2.on hb
 clear hb hB0 hb0
 go_wp2_with fail
 have bG : Boxed (w1.alloc (.cells #[.slice C p q] 32)) w1.heap.size 32 (.slice C p q) := Boxed.new w1 _ _
 have ba : Below w1.heap.size w1 (w1.alloc (.cells #[.slice C p q] 32)) := (Below.refl _ _).alloc (Nat.le_refl _) _
 have hB1 := hB1.below ba hB1.lt
 have hb1 := bltB hb1 hb1.size ba
 have k1 := k1.on ba
 have k2 := k2.on ba
 have r := r.on ba
 have hgl : w1.heap.size < (w1.alloc (.cells #[.slice C p q] 32)).heap.size := by simp
 obtain ⟨G, hG⟩ : ∃ G, w1.heap.size = G := ⟨_, rfl⟩
 simp only [hG] at bG hgl ⊢
 generalize w1.alloc (.cells #[.slice C p q] 32) = w1 at *
 clear ba hG
 refine (over_any w1 A n c X k1 hn G C p q _ bG.cell r hp).mono ?_
 rintro e w2 ⟨A2, n2, c2, rfl, q1, hb⟩
 have hB2 := hB1.below hb hB1.lt
 have hb2 := bltB hb1 hb1.size hb
 have k2 := k2.on hb
 have r := r.on hb
 have bG2 : Boxed w2 G 32 (.slice C p q) := Blk.below (cs := #[_]) bG hb hgl
 clear hb hB1 hb1 bG
 go_wp2_with fail
 refine (over_any w2 B m d Y k2 hm G C p q _ bG2.cell r hp).mono ?_
 rintro e w3 ⟨B2, m2, d2, rfl, q2, hb⟩
 have hB3 := hB2.below hb hB2.lt
 have hb3 := bltB hb2 hb2.size hb
 have q1 := q1.on hb
 have hc0 := hB3.cell 0
 have hc1 := hB3.cell 1
 have hf0 := hB3.frozen 0
 have hf1 := hB3.frozen 1
 clear hb hB2 hb2 bG2 r k2
 go_wp2_with fail
 obtain ⟨h4, hr1, hr2, hb4⟩ := fr_store hB3 q1 q2 hb3 (Nat.le_refl _)
 refine bodyPost_ret (v := .agg #[.slice A2 n2 c2, .slice B2 m2 d2]) ?_ rfl ?_
 ·have e0 := h4.cell 0
  have e1 := h4.cell 1
  simp [results, Tryz.f33, go_sem, e0, e1]
 ·exact ⟨A2, n2, c2, B2, m2, d2, rfl, hr1, hr2, hb4⟩
/-- n over d. -/
def RetO (w : World) (N D : Nat) (e : Ending) (w' : World) : Prop :=
 ∃ A n c B m d, e = .returned (.tuple #[.agg #[.slice A n c, .slice B m d], .bool (decide (0 < D))]) ∧ Rd w' w'.heap.size A n c (digs (if D = 0 then 0 else N / Nat.gcd N D)) ∧ Rd w' w'.heap.size B m d (digs (if D = 0 then 1 else D / Nat.gcd N D)) ∧ Below w.heap.size w w'
theorem fof_any (w : World) (N D : Nat) (hN : N < 18446744073709551616) (hD : D < 18446744073709551616) :
 Calls Tryz.prog 10 #[.int .u64 N, .int .u64 D] w (RetO w N D) := by
 have hB0 : Blk (w.alloc (.cells #[.slice none 0 0, .slice none 0 0] 34)) w.heap.size 34 #[.slice none 0 0, .slice none 0 0] := Blk.new w _ _
 have hb0 : Below w.heap.size w (w.alloc (.cells #[.slice none 0 0, .slice none 0 0] 34)) := (Below.refl _ _).alloc (Nat.le_refl _) _
 rcases Nat.eq_zero_or_pos D with h0 | h0
 ·subst h0
  go_enter Tryz.func10, Tryz.ntmps10
  go_wp2_with fail
  generalize w.alloc (.cells #[.slice none 0 0, .slice none 0 0] 34) = w0 at *
  refine (nought_any w0).mono ?_
  rintro e w1 ⟨A, n, c, B, m, d, rfl, r1, r2, hb⟩
  have hB1 := hB0.below hb hB0.lt
  have hb1 := bltB hb0 hb0.size hb
  have hc0 := hB1.cell 0
  have hc1 := hB1.cell 1
  have hf0 := hB1.frozen 0
  have hf1 := hB1.frozen 1
  clear hb hB0 hb0
  go_wp2_with fail
  obtain ⟨h4, hr1, hr2, hb4⟩ := fr_store hB1 r1 r2 hb1 (Nat.le_refl _)
  refine bodyPost_ret (v := .tuple #[.agg #[.slice A n c, .slice B m d], .bool false]) ?_ rfl ?_
  ·have e0 := h4.cell 0
   have e1 := h4.cell 1
   simp [results, Tryz.f10, go_sem, e0, e1]
  ·exact ⟨A, n, c, B, m, d, rfl, by rw [if_pos rfl]; exact hr1, by rw [if_pos rfl]; exact hr2, hb4⟩
 ·have hz : ((D : Int) == 0) = false := by simp; omega
  go_enter Tryz.func10, Tryz.ntmps10
  go_wp2_with fail
  generalize w.alloc (.cells #[.slice none 0 0, .slice none 0 0] 34) = w0 at *
  refine (of_any w0 N hN).mono ?_
  rintro e w1 ⟨A, n, c, rfl, r1, hb⟩
  have hB1 := hB0.below hb hB0.lt
  have hb1 := bltB hb0 hb0.size hb
  clear hb hB0 hb0
  go_wp2_with fail
  refine (of_any w1 D hD).mono ?_
  rintro e w2 ⟨B, m, d, rfl, r2, hb⟩
  have hB2 := hB1.below hb hB1.lt
  have hb2 := bltB hb1 hb1.size hb
  have r1 := r1.on hb
  have hn : n ≤ 2 := rd_le r1 (by omega)
  have hm : m ≤ 2 := rd_le r2 (by omega)
  clear hb hB1 hb1
  go_wp2_with fail
  refine (flow_any w2 A B n c m d N D r1 r2 (by omega) (by omega) h0).mono ?_
  rintro e w3 ⟨A2, n2, c2, B2, m2, d2, rfl, q1, q2, hb⟩
  have hB3 := hB2.below hb hB2.lt
  have hb3 := bltB hb2 hb2.size hb
  have hc0 := hB3.cell 0
  have hc1 := hB3.cell 1
  have hf0 := hB3.frozen 0
  have hf1 := hB3.frozen 1
  clear hb hB2 hb2 r1 r2
  go_wp2_with fail
  obtain ⟨h4, hr1, hr2, hb4⟩ := fr_store hB3 q1 q2 hb3 (Nat.le_refl _)
  refine bodyPost_ret (v := .tuple #[.agg #[.slice A2 n2 c2, .slice B2 m2 d2], .bool true]) ?_ rfl ?_
  ·have e0 := h4.cell 0
   have e1 := h4.cell 1
   simp [results, Tryz.f10, go_sem, e0, e1]
  ·exact ⟨A2, n2, c2, B2, m2, d2, by rw [decide_eq_true h0], by rw [if_neg (by omega)]; exact hr1, by rw [if_neg (by omega)]; exact hr2, hb4⟩
end Go.Proofs.YthefgdehfgkhhaaGreat
namespace Go.Proofs.YthefgdehfgkhhaaGreat
open Go.RowKit Go.Shelf
set_option linter.unusedVariables false
set_option linter.unusedSimpArgs false
/-- Whether two rows of digits are a fraction in lowest terms. -/
def frR (l k : List Nat) : Bool := rightB l && (rightB k && (decide (0 < k.length) && decide (Nat.gcd (tv l) (tv k) = 1)))
def frN (l k : List Nat) : Nat := if frR l k then tv l else 0
def frD (l k : List Nat) : Nat := if frR l k then tv k else 1
set_option maxRecDepth 100000 in
theorem fright_any (w : World) (A B : Option Addr) (n c m d : Nat) (l k : List Nat) (h1 : Rd w w.heap.size A n c l) (h2 : Rd w w.heap.size B m d k) (hn : n ≤ 60000) (hm : m ≤ 60000) :
 Calls Tryz.prog 104 #[.agg #[.slice A n c, .slice B m d]] w fun e w' => e = .returned (.bool (frR l k)) ∧ Below w.heap.size w w' := by
 have hB0 : Blk (w.alloc (.cells #[.slice A n c, .slice B m d] 34)) w.heap.size 34 #[.slice A n c, .slice B m d] := Blk.new w _ _
 have hb0 : Below w.heap.size w (w.alloc (.cells #[.slice A n c, .slice B m d] 34)) := (Below.refl _ _).alloc (Nat.le_refl _) _
 have k1 := h1.on hb0
 have k2 := h2.on hb0
 have hkl := h2.len
 clear h1 h2
 obtain ⟨w0, hw0⟩ : ∃ w0, w0 = w.alloc (.cells #[.slice A n c, .slice B m d] 34) := ⟨_, rfl⟩
 rw [← hw0] at hB0 hb0 k1 k2
 have hc0 := hB0.cell 0
 have hc1 := hB0.cell 1
 rcases hr : rightB l with _ | _
 ·have HF : Hid (frR l k = false) := Lib.hid (by unfold frR; rw [hr]; rfl)
  have HR := Lib.hid hr
  clear hr
  go_enter Tryz.func104, Tryz.ntmps104
  go_wp2_with fail
  rw [← hw0]
  clear hw0
  go_wp2_with fail
  refine (right_any _ _ _ _ _ _ k1 (by omega)).mono ?_
  rintro e w' ⟨rfl, rfl⟩
  rw [HR.out]
  go_wp2_with fail
  go_ret
  exact ⟨by rw [HF.out]; rfl, hb0⟩
 ·have HR := Lib.hid hr
  rcases hk : rightB k with _ | _
  ·have HF : Hid (frR l k = false) := Lib.hid (by unfold frR; rw [hr, hk]; rfl)
   have HK := Lib.hid hk
   clear hr hk
   go_enter Tryz.func104, Tryz.ntmps104
   go_wp2_with fail
   rw [← hw0]
   clear hw0
   go_wp2_with fail
   refine (right_any _ _ _ _ _ _ k1 (by omega)).mono ?_
   rintro e w' ⟨rfl, rfl⟩
   rw [HR.out]
   go_wp2_with fail
   refine (right_any _ _ _ _ _ _ k2 (by omega)).mono ?_
   rintro e w' ⟨rfl, rfl⟩
   rw [HK.out]
   go_wp2_with fail
   go_ret
   exact ⟨by rw [HF.out]; rfl, hb0⟩
  ·have HK := Lib.hid hk
   rcases Nat.eq_zero_or_pos m with hm0 | hm0
   ·have HF : Hid (frR l k = false) := Lib.hid (by unfold frR; rw [hr, hk, hkl, hm0]; rfl)
    subst hm0
    clear hr hk
    go_enter Tryz.func104, Tryz.ntmps104
    go_wp2_with fail
    rw [← hw0]
    clear hw0
    go_wp2_with fail
    refine (right_any _ _ _ _ _ _ k1 (by omega)).mono ?_
    rintro e w' ⟨rfl, rfl⟩
    rw [HR.out]
    go_wp2_with fail
    refine (right_any _ _ _ _ _ _ k2 (by omega)).mono ?_
    rintro e w' ⟨rfl, rfl⟩
    rw [HK.out]
    go_wp2_with fail
    go_ret
    exact ⟨by rw [HF.out]; rfl, hb0⟩
   ·have hpos : (0 : Int) < (m : Int) := by omega
    obtain ⟨X, rfl⟩ := as_digs k1.dig hr
    obtain ⟨Y, rfl⟩ := as_digs k2.dig hk
    have HF : Hid (frR (digs X) (digs Y) = decide (Nat.gcd X Y = 1)) := Lib.hid (by
     unfold frR
     rw [rightB_digs, rightB_digs, hkl, tv_digs, tv_digs, decide_eq_true hm0]
     rfl)
    clear hr hk
    go_enter Tryz.func104, Tryz.ntmps104
    go_wp2_with fail
    rw [← hw0]
    clear hw0
    go_wp2_with fail
    refine (right_any _ _ _ _ _ _ k1 (by omega)).mono ?_
    rintro e w' ⟨rfl, rfl⟩
    rw [HR.out]
    go_wp2_with fail
    refine (right_any _ _ _ _ _ _ k2 (by omega)).mono ?_
    rintro e w' ⟨rfl, rfl⟩
    rw [HK.out]
    go_wp2_with fail
    refine (gcd_any _ _ _ _ _ _ _ _ _ k1 k2 (by omega) (by omega)).mono ?_
    rintro e w1 ⟨C, p, q, rfl, r, hb⟩
    rw [tv_digs, tv_digs] at r
    have hp : p ≤ 60000 := by
     have h1 := rd_lt k1 (Nat.le_refl _)
     have h2 := rd_lt k2 (Nat.le_refl _)
     have h3 := rd_le r (bd_gcd (m := 60000) h1 h2 (by omega) (by omega) (by decide))
     exact h3
    have hb1 := bltB hb0 hb0.size hb
    clear hb k1 k2 hc0 hc1 hB0 hb0
    go_wp2_with fail
    refine (one_any w1).mono ?_
    rintro e w2 ⟨D, p2, q2, rfl, r2, hb⟩
    have hp2 : p2 ≤ 60000 := by have := rd_le r2 (show 1 < 4294967296 ^ 1 by decide); omega
    have r := r.on hb
    have hb2 := bltB hb1 hb1.size hb
    clear hb hb1
    go_wp2_with fail
    refine (cmp_any _ _ _ _ _ _ _ _ _ r r2 (by omega) (by omega)).mono ?_
    rintro e w3 ⟨rfl, hb⟩
    rw [tv_digs, tv_digs]
    have hb3 := bltB hb2 hb2.size hb
    have HC : Hid ((cmpI ((Nat.gcd X Y : Nat) : Int) ((1 : Nat) : Int) == 0) = decide (Nat.gcd X Y = 1)) := Lib.hid (by
     rw [cmpI_nat]
     by_cases h : Nat.gcd X Y = 1
     ·rw [decide_eq_true h, if_neg (by omega), if_neg (by omega)]; rfl
     ·rw [decide_eq_false h]; split <;> (try split) <;> first | rfl | omega)
    clear hb hb2 r r2
    generalize cmpI ((Nat.gcd X Y : Nat) : Int) ((1 : Nat) : Int) = cz at *
    go_wp2_with fail
    go_ret
    exact ⟨by rw [HF.out, ← HC.out]; rfl, hb3⟩
/-- What counts of a fraction. -/
theorem ftaken_any (w : World) (A B : Option Addr) (n c m d : Nat) (l k : List Nat) (h1 : Rd w w.heap.size A n c l) (h2 : Rd w w.heap.size B m d k) (hn : n ≤ 60000) (hm : m ≤ 60000) :
 Calls Tryz.prog 73 #[.agg #[.slice A n c, .slice B m d]] w (RetFr w (frN l k) (frD l k)) := by
 have hb0 : Below w.heap.size w ((w.alloc (.cells #[.slice A n c, .slice B m d] 34)).alloc (.cells #[.slice none 0 0, .slice none 0 0] 34)) := ((Below.refl _ _).alloc (Nat.le_refl _) _).alloc (by simp) _
 have hB0 : Blk ((w.alloc (.cells #[.slice A n c, .slice B m d] 34)).alloc (.cells #[.slice none 0 0, .slice none 0 0] 34)) w.heap.size 34 #[.slice A n c, .slice B m d] := (Blk.new w _ _).alloc _
 have hR0 : Blk ((w.alloc (.cells #[.slice A n c, .slice B m d] 34)).alloc (.cells #[.slice none 0 0, .slice none 0 0] 34)) (w.heap.size + 1) 34 #[.slice none 0 0, .slice none 0 0] := by
  have := Blk.new (w.alloc (.cells #[.slice A n c, .slice B m d] 34)) 34 #[.slice none 0 0, .slice none 0 0]
  rw [World.size_alloc] at this
  exact this
 have k1 := h1.on hb0
 have k2 := h2.on hb0
 clear h1 h2
 obtain ⟨w0, hw0⟩ : ∃ w0, w0 = (w.alloc (.cells #[.slice A n c, .slice B m d] 34)).alloc (.cells #[.slice none 0 0, .slice none 0 0] 34) := ⟨_, rfl⟩
 rw [← hw0] at hB0 hR0 hb0 k1 k2
 have hc0 := hB0.cell 0
 have hc1 := hB0.cell 1
 go_enter Tryz.func73, Tryz.ntmps73
 go_wp2_with fail
 rw [← hw0]
 clear hw0
 go_wp2_with fail
 refine (fright_any _ _ _ _ _ _ _ _ _ k1 k2 hn hm).mono ?_
 rintro e w1 ⟨rfl, hb⟩
 have hB1 := hB0.below hb hB0.lt
 have hR1 := hR0.below hb hR0.lt
 have hb1 := bltB hb0 hb0.size hb
 have k1 := k1.on hb
 have k2 := k2.on hb
 have hc0 := hB1.cell 0
 have hc1 := hB1.cell 1
 have hd0 := hR1.cell 0
 have hd1 := hR1.cell 1
 have hf0 := hR1.frozen 0
 have hf1 := hR1.frozen 1
 clear hb hB0 hR0 hb0
 rcases hr : frR l k with _ | _
 ·have HN : Hid (frN l k = 0 ∧ frD l k = 1) := Lib.hid (by unfold frN frD; rw [hr]; exact ⟨rfl, rfl⟩)
  clear hr
  go_wp2_with fail
  refine (nought_any w1).mono ?_
  rintro e w2 ⟨A2, n2, c2, B2, m2, d2, rfl, r1, r2, hb⟩
  have hR2 := hR1.below hb hR1.lt
  have hb2 := bltB hb1 hb1.size hb
  have hd0 := hR2.cell 0
  have hd1 := hR2.cell 1
  have hf0 := hR2.frozen 0
  have hf1 := hR2.frozen 1
  clear hb hB1 hR1 hb1 hc0 hc1
  go_wp2_with fail
  obtain ⟨h4, hr1, hr2, hb4⟩ := fr_store hR2 r1 r2 hb2 (by omega)
  refine bodyPost_ret (v := .agg #[.slice A2 n2 c2, .slice B2 m2 d2]) ?_ rfl ?_
  ·have e0 := h4.cell 0
   have e1 := h4.cell 1
   simp [results, Tryz.f73, go_sem, e0, e1]
  ·exact ⟨A2, n2, c2, B2, m2, d2, rfl, by rw [HN.out.1]; exact hr1, by rw [HN.out.2]; exact hr2, hb4⟩
 ·have hrr := hr
  unfold frR at hrr
  simp only [Bool.and_eq_true] at hrr
  have HN : Hid (digs (frN l k) = l ∧ digs (frD l k) = k) := Lib.hid (by
   unfold frN frD
   rw [hr, if_pos rfl, if_pos rfl, tv_right hrr.1, tv_right hrr.2.1]
   exact ⟨digs_val k1.dig hrr.1, digs_val k2.dig hrr.2.1⟩)
  clear hr hrr
  go_wp2_with fail
  obtain ⟨h4, hr1, hr2, hb4⟩ := fr_store hR1 k1 k2 hb1 (by omega)
  refine bodyPost_ret (v := .agg #[.slice A n c, .slice B m d]) ?_ rfl ?_
  ·have e0 := h4.cell 0
   have e1 := h4.cell 1
   simp [results, Tryz.f73, go_sem, e0, e1]
  ·exact ⟨A, n, c, B, m, d, rfl, by rw [HN.out.1]; exact hr1, by rw [HN.out.2]; exact hr2, hb4⟩
end Go.Proofs.YthefgdehfgkhhaaGreat
namespace Go.Proofs.YthefgdehfgkhhaaGreat
open Go.RowKit Go.Shelf
set_option linter.unusedVariables false
set_option linter.unusedSimpArgs false
attribute [local go_sem] Oper.semAt_some
theorem frN_len {l k : List Nat} (hd : Dig l) : (digs (frN l k)).length ≤ l.length := by
 unfold frN
 split
 ·rename_i hr
  unfold frR at hr
  simp only [Bool.and_eq_true] at hr
  rw [tv_right hr.1, digs_val hd hr.1]
  exact Nat.le_refl _
 ·rw [digs_zero]; simp
theorem frD_len {l k : List Nat} (hd : Dig k) : (digs (frD l k)).length ≤ k.length + 1 := by
 unfold frD
 split
 ·rename_i hr
  unfold frR at hr
  simp only [Bool.and_eq_true] at hr
  rw [tv_right hr.2.1, digs_val hd hr.2.1]
  omega
 ·have := digs_len_le (n := 1) (k := 1) (by decide)
  omega
/-- Two fractions' boxes. -/
structure B2 (w : World) (G : Nat) (A1 : Option Addr) (n1 c1 : Nat) (B1 : Option Addr) (m1 d1 : Nat) (A2 : Option Addr) (n2 c2 : Nat) (E2 : Option Addr) (m2 d2 : Nat) : Prop where
 a : Blk w G 34 #[.slice A1 n1 c1, .slice B1 m1 d1]
 b : Blk w (G + 1) 34 #[.slice A2 n2 c2, .slice E2 m2 d2]
def S4 (G : Nat) (A1 : Option Addr) (n1 c1 : Nat) (B1 : Option Addr) (m1 d1 : Nat) (A2 : Option Addr) (n2 c2 : Nat) (E2 : Option Addr) (m2 d2 : Nat) (wx : World) : Prop :=
 wx.cell? ⟨G, 0, none⟩ = some (.slice A1 n1 c1) ∧ wx.cell? ⟨G, 1, none⟩ = some (.slice B1 m1 d1) ∧ wx.cell? ⟨G + 1, 0, none⟩ = some (.slice A2 n2 c2) ∧ wx.cell? ⟨G + 1, 1, none⟩ = some (.slice E2 m2 d2)
section
variable {w w' : World} {G n1 c1 m1 d1 n2 c2 m2 d2 : Nat} {A1 B1 A2 B2' : Option Addr}
theorem B2.on (h : B2 w G A1 n1 c1 B1 m1 d1 A2 n2 c2 B2' m2 d2) (hb : Below w.heap.size w w') : B2 w' G A1 n1 c1 B1 m1 d1 A2 n2 c2 B2' m2 d2 := ⟨h.a.below hb h.a.lt, h.b.below hb h.b.lt⟩
theorem B2.s (h : B2 w G A1 n1 c1 B1 m1 d1 A2 n2 c2 B2' m2 d2) : S4 G A1 n1 c1 B1 m1 d1 A2 n2 c2 B2' m2 d2 w := ⟨h.a.cell 0, h.a.cell 1, h.b.cell 0, h.b.cell 1⟩
end
/-- A fraction is stored in one of two boxes: what lies behind it. -/
theorem fr_store2 {w w2 : World} {G H : Nat} {t t' : TypeId} {A0 B0 A B A9 B9 C D : Option Addr} {n0 c0 m0 d0 n c m d n9 c9 m9 d9 p p' q q' : Nat} {l k l' k' : List Nat} (hB : Blk w2 G t #[.slice A0 n0 c0, .slice B0 m0 d0]) (hH : Blk w2 H t' #[.slice A9 n9 c9, .slice B9 m9 d9]) (hne : H ≠ G)
 (r1 : Rd w2 w2.heap.size A n c l) (r2 : Rd w2 w2.heap.size B m d k) (r3 : Rd w2 w2.heap.size C p p' l') (r4 : Rd w2 w2.heap.size D q q' k') (hb : Below w.heap.size w w2) (hG : w.heap.size ≤ G) :
 let W := (w2.setCell ⟨G, 0, none⟩ (.slice A n c)).setCell ⟨G, 1, none⟩ (.slice B m d)
 Blk W G t #[.slice A n c, .slice B m d] ∧ Blk W H t' #[.slice A9 n9 c9, .slice B9 m9 d9] ∧ Rd W W.heap.size A n c l ∧ Rd W W.heap.size B m d k ∧ Rd W W.heap.size C p p' l' ∧ Rd W W.heap.size D q q' k' ∧ Below w.heap.size w W := by
 obtain ⟨h1, h2, h3, h4⟩ := fr_store hB r1 r2 hb hG
 obtain ⟨_, h5, h6, _⟩ := fr_store (A := A) (n := n) (c := c) (B := B) (m := m) (d := d) hB r1 r2 hb hG
 have hs0 : (w2.setCell ⟨G, 0, none⟩ (.slice A n c)).cell? ⟨G, 1, none⟩ = some (.slice B0 m0 d0) := (hB.set_ 0 (.slice A n c)).cell 1
 have hc0 : w2.cell? ⟨G, 0, none⟩ = some (.slice A0 n0 c0) := hB.cell 0
 exact ⟨h1, (hH.far (p := ⟨G, 0, none⟩) hne _).far (p := ⟨G, 1, none⟩) hne _, h2, h3, (r3.sets hc0 (.slice A n c)).sets hs0 (.slice B m d), (r4.sets hc0 (.slice A n c)).sets hs0 (.slice B m d), h4⟩
/-- Three naturals are handed back. -/
def RetX (w : World) (x y z : Nat) (e : Ending) (w' : World) : Prop :=
 ∃ A n c B m d C p q, e = .returned (.tuple #[.slice A n c, .slice B m d, .slice C p q]) ∧ Rd w' w'.heap.size A n c (digs x) ∧ Rd w' w'.heap.size B m d (digs y) ∧ Rd w' w'.heap.size C p q (digs z) ∧ Below w.heap.size w w'
set_option maxRecDepth 100000 in
set_option maxHeartbeats 2000000 in
theorem cross_any (w : World) (A1 B1 A2 B2' : Option Addr) (n1 c1 m1 d1 n2 c2 m2 d2 : Nat) (l1 k1 l2 k2 : List Nat) (h1 : Rd w w.heap.size A1 n1 c1 l1) (g1 : Rd w w.heap.size B1 m1 d1 k1) (h2 : Rd w w.heap.size A2 n2 c2 l2) (g2 : Rd w w.heap.size B2' m2 d2 k2)
 (hn1 : n1 ≤ 50000) (hm1 : m1 ≤ 50000) (hn2 : n2 ≤ 50000) (hm2 : m2 ≤ 50000) :
 Calls Tryz.prog 39 #[.agg #[.slice A1 n1 c1, .slice B1 m1 d1], .agg #[.slice A2 n2 c2, .slice B2' m2 d2]] w (RetX w (frN l1 k1 * frD l2 k2) (frN l2 k2 * frD l1 k1) (frD l1 k1 * frD l2 k2)) := by
 obtain ⟨w0, hw0⟩ : ∃ w0, w0 = (w.alloc (.cells #[.slice A1 n1 c1, .slice B1 m1 d1] 34)).alloc (.cells #[.slice A2 n2 c2, .slice B2' m2 d2] 34) := ⟨_, rfl⟩
 have hb0 : Below w.heap.size w w0 := by rw [hw0]; exact ((Below.refl _ _).alloc (Nat.le_refl _) _).alloc (by simp) _
 have J0 : B2 w0 w.heap.size A1 n1 c1 B1 m1 d1 A2 n2 c2 B2' m2 d2 := by
  rw [hw0]
  refine ⟨(Blk.new w _ _).alloc _, ?_⟩
  have := Blk.new (w.alloc (.cells #[.slice A1 n1 c1, .slice B1 m1 d1] 34)) 34 #[.slice A2 n2 c2, .slice B2' m2 d2]
  rw [World.size_alloc] at this
  exact this
 have h1 := (h1.on hb0).drew
 have g1 := (g1.on hb0).drew
 have h2 := (h2.on hb0).drew
 have g2 := (g2.on hb0).drew
 have J0 : B2 w0.drew w.heap.size A1 n1 c1 B1 m1 d1 A2 n2 c2 B2' m2 d2 := ⟨J0.a.drew, J0.b.drew⟩
 have hb0 := hb0.drew
 have HL := Lib.hid (And.intro (frN_len (k := k1) h1.dig) (And.intro (frD_len (l := l1) g1.dig) (And.intro (frN_len (k := k2) h2.dig) (And.intro (frD_len (l := l2) g2.dig) (And.intro h1.len (And.intro g1.len (And.intro h2.len g2.len)))))))
 go_enter Tryz.func39, Tryz.ntmps39
 go_wp2_with fail
 rw [← hw0]
 clear hw0
 have hS := J0.s
 unfold S4 at hS
 refine wp_region_noPanic ?_
 refine ord_begin 4 (fun wx => wx.cell? ⟨w.heap.size, 0, none⟩ = some (.slice A1 n1 c1) ∧ wx.cell? ⟨w.heap.size, 1, none⟩ = some (.slice B1 m1 d1) ∧ wx.cell? ⟨w.heap.size + 1, 0, none⟩ = some (.slice A2 n2 c2) ∧ wx.cell? ⟨w.heap.size + 1, 1, none⟩ = some (.slice B2' m2 d2)) (by kernel_rfl) ?_
 refine ord_take (i := 0) (v := ?_) (by kernel_rfl) rfl (by decide) (by kernel_rfl) (by kernel_rfl) (fun _ _ _ h => h) (Or.inl ⟨by rfl, ?_⟩) hS ?_
 rotate_left
 ·intro wz hz; (try dsimp only at hz); (try go_split_ands); go_simp; (try with_reducible rfl)
 try simp only [Act.put, pu]
 refine ord_take (i := 2) (v := ?_) (by kernel_rfl) rfl (by decide) (by kernel_rfl) (by kernel_rfl) (fun _ _ _ h => h) (Or.inl ⟨by rfl, ?_⟩) hS ?_
 rotate_left
 ·intro wz hz; (try dsimp only at hz); (try go_split_ands); go_simp; (try with_reducible rfl)
 try simp only [Act.put, pu]
 refine ord_step (i := 1) rfl (by decide) (by kernel_rfl) (by rfl) (fun K hK => ?_)
 go_simp
 refine (ftaken_any _ _ _ _ _ _ _ _ _ h1 g1 (by omega) (by omega)).mono ?_
 rintro e W1 ⟨A3, n3, c3, B3, m3, d3, rfl, q1, q2, hb⟩
 have J1 := J0.on hb
 have h2 := h2.on hb
 have g2 := g2.on hb
 have hb1 := bltB hb0 hb0.size hb
 have hS1 := J1.s
 unfold S4 at hS1
 clear hb hb0 J0 h1 g1
 refine hK _ _ hS1 ?_
 clear hK K
 try simp only [Act.put, pu]
 refine ord_step (i := 3) rfl (by decide) (by kernel_rfl) (by rfl) (fun K hK => ?_)
 go_simp
 refine (ftaken_any _ _ _ _ _ _ _ _ _ h2 g2 (by omega) (by omega)).mono ?_
 rintro e W2 ⟨A4, n4, c4, B4, m4, d4, rfl, q3, q4, hb⟩
 have J2 := J1.on hb
 have q1 := q1.on hb
 have q2 := q2.on hb
 have hb2 := bltB hb1 hb1.size hb
 have hS2 := J2.s
 unfold S4 at hS2
 clear hb hb1 J1 h2 g2 hS1 hS
 refine hK _ _ hS2 ?_
 clear hK K
 try simp only [Act.put, pu]
 refine ord_rest (by kernel_rfl) ?_
 obtain ⟨j1, j2, p1, p2, p3, p4, hb3⟩ := fr_store2 J2.a J2.b (by omega) q1 q2 q3 q4 hb2 (Nat.le_refl _)
 have hc0 := J2.a.cell 0
 have hc1 := J2.a.cell 1
 have hf0 := J2.a.frozen 0
 have hf1 := J2.a.frozen 1
 clear hS2 J2 q1 q2 q3 q4 hb2
 refine any_step (i := 4) rfl (by kernel_rfl) (by rfl) (fun K hK => ?_)
 go_simp
 refine hK _ _ ?_
 clear hK K
 try simp only [Act.put, pu]
 generalize (W2.setCell ⟨w.heap.size, 0, none⟩ (.slice A3 n3 c3)).setCell ⟨w.heap.size, 1, none⟩ (.slice B3 m3 d3) = W3 at *
 clear hc0 hc1 hf0 hf1
 obtain ⟨i1, i2, p3, p4, p1, p2, hb4⟩ := fr_store2 j2 j1 (by omega) p3 p4 p1 p2 hb3 (by omega)
 have hc0 := j2.cell 0
 have hc1 := j2.cell 1
 have hf0 := j2.frozen 0
 have hf1 := j2.frozen 1
 clear hb3 j1 j2
 refine any_step (i := 5) rfl (by kernel_rfl) (by rfl) (fun K hK => ?_)
 go_simp
 refine hK _ _ ?_
 clear hK K
 try simp only [Act.put, pu]
 generalize (W3.setCell ⟨w.heap.size + 1, 0, none⟩ (.slice A4 n4 c4)).setCell ⟨w.heap.size + 1, 1, none⟩ (.slice B4 m4 d4) = W4 at *
 clear hc0 hc1 hf0 hf1
 refine wpAny_done (by kernel_rfl) ?_ _
 refine NoPanic.normal ?_
 have J : B2 W4 w.heap.size A3 n3 c3 B3 m3 d3 A4 n4 c4 B4 m4 d4 := ⟨i2, i1⟩
 have hn3 : n3 ≤ 50000 := by have h1 := p1.len; have h2 := HL.out; omega
 have hm3 : m3 ≤ 50001 := by have h1 := p2.len; have h2 := HL.out; omega
 have hn4 : n4 ≤ 50000 := by have h1 := p3.len; have h2 := HL.out; omega
 have hm4 : m4 ≤ 50001 := by have h1 := p4.len; have h2 := HL.out; omega
 clear i1 i2
 go_wp2_with fail
 have J := (⟨J.a.drew, J.b.drew⟩ : B2 W4.drew w.heap.size A3 n3 c3 B3 m3 d3 A4 n4 c4 B4 m4 d4)
 have p1 := p1.drew
 have p2 := p2.drew
 have p3 := p3.drew
 have p4 := p4.drew
 have hb4 := hb4.drew
 have hS := J.s
 unfold S4 at hS
 refine wp_region_noPanic ?_
 refine ord_begin 15 (fun wx => wx.cell? ⟨w.heap.size, 0, none⟩ = some (.slice A3 n3 c3) ∧ wx.cell? ⟨w.heap.size, 1, none⟩ = some (.slice B3 m3 d3) ∧ wx.cell? ⟨w.heap.size + 1, 0, none⟩ = some (.slice A4 n4 c4) ∧ wx.cell? ⟨w.heap.size + 1, 1, none⟩ = some (.slice B4 m4 d4)) (by kernel_rfl) ?_
 refine ord_take (i := 0) (v := ?_) (by kernel_rfl) rfl (by decide) (by kernel_rfl) (by kernel_rfl) (fun _ _ _ h => h) (Or.inl ⟨by rfl, ?_⟩) hS ?_
 rotate_left
 ·intro wz hz; (try dsimp only at hz); (try go_split_ands); go_simp; (try with_reducible rfl)
 try simp only [Act.put, pu]
 refine ord_take (i := 1) (v := ?_) (by kernel_rfl) rfl (by decide) (by kernel_rfl) (by kernel_rfl) (fun _ _ _ h => h) (Or.inl ⟨by rfl, ?_⟩) hS ?_
 rotate_left
 ·intro wz hz; (try dsimp only at hz); (try go_split_ands); go_simp; (try with_reducible rfl)
 try simp only [Act.put, pu]
 refine ord_take (i := 2) (v := ?_) (by kernel_rfl) rfl (by decide) (by kernel_rfl) (by kernel_rfl) (fun _ _ _ h => h) (Or.inl ⟨by rfl, ?_⟩) hS ?_
 rotate_left
 ·intro wz hz; (try dsimp only at hz); (try go_split_ands); go_simp; (try with_reducible rfl)
 try simp only [Act.put, pu]
 refine ord_take (i := 3) (v := ?_) (by kernel_rfl) rfl (by decide) (by kernel_rfl) (by kernel_rfl) (fun _ _ _ h => h) (Or.inl ⟨by rfl, ?_⟩) hS ?_
 rotate_left
 ·intro wz hz; (try dsimp only at hz); (try go_split_ands); go_simp; (try with_reducible rfl)
 try simp only [Act.put, pu]
 refine ord_take (i := 5) (v := ?_) (by kernel_rfl) rfl (by decide) (by kernel_rfl) (by kernel_rfl) (fun _ _ _ h => h) (Or.inl ⟨by rfl, ?_⟩) hS ?_
 rotate_left
 ·intro wz hz; (try dsimp only at hz); (try go_split_ands); go_simp; (try with_reducible rfl)
 try simp only [Act.put, pu]
 refine ord_take (i := 6) (v := ?_) (by kernel_rfl) rfl (by decide) (by kernel_rfl) (by kernel_rfl) (fun _ _ _ h => h) (Or.inl ⟨by rfl, ?_⟩) hS ?_
 rotate_left
 ·intro wz hz; (try dsimp only at hz); (try go_split_ands); go_simp; (try with_reducible rfl)
 try simp only [Act.put, pu]
 refine ord_take (i := 7) (v := ?_) (by kernel_rfl) rfl (by decide) (by kernel_rfl) (by kernel_rfl) (fun _ _ _ h => h) (Or.inl ⟨by rfl, ?_⟩) hS ?_
 rotate_left
 ·intro wz hz; (try dsimp only at hz); (try go_split_ands); go_simp; (try with_reducible rfl)
 try simp only [Act.put, pu]
 refine ord_take (i := 8) (v := ?_) (by kernel_rfl) rfl (by decide) (by kernel_rfl) (by kernel_rfl) (fun _ _ _ h => h) (Or.inl ⟨by rfl, ?_⟩) hS ?_
 rotate_left
 ·intro wz hz; (try dsimp only at hz); (try go_split_ands); go_simp; (try with_reducible rfl)
 try simp only [Act.put, pu]
 refine ord_take (i := 10) (v := ?_) (by kernel_rfl) rfl (by decide) (by kernel_rfl) (by kernel_rfl) (fun _ _ _ h => h) (Or.inl ⟨by rfl, ?_⟩) hS ?_
 rotate_left
 ·intro wz hz; (try dsimp only at hz); (try go_split_ands); go_simp; (try with_reducible rfl)
 try simp only [Act.put, pu]
 refine ord_take (i := 11) (v := ?_) (by kernel_rfl) rfl (by decide) (by kernel_rfl) (by kernel_rfl) (fun _ _ _ h => h) (Or.inl ⟨by rfl, ?_⟩) hS ?_
 rotate_left
 ·intro wz hz; (try dsimp only at hz); (try go_split_ands); go_simp; (try with_reducible rfl)
 try simp only [Act.put, pu]
 refine ord_take (i := 12) (v := ?_) (by kernel_rfl) rfl (by decide) (by kernel_rfl) (by kernel_rfl) (fun _ _ _ h => h) (Or.inl ⟨by rfl, ?_⟩) hS ?_
 rotate_left
 ·intro wz hz; (try dsimp only at hz); (try go_split_ands); go_simp; (try with_reducible rfl)
 try simp only [Act.put, pu]
 refine ord_take (i := 13) (v := ?_) (by kernel_rfl) rfl (by decide) (by kernel_rfl) (by kernel_rfl) (fun _ _ _ h => h) (Or.inl ⟨by rfl, ?_⟩) hS ?_
 rotate_left
 ·intro wz hz; (try dsimp only at hz); (try go_split_ands); go_simp; (try with_reducible rfl)
 try simp only [Act.put, pu]
 refine ord_step (i := 4) rfl (by decide) (by kernel_rfl) (by rfl) (fun K hK => ?_)
 go_simp
 refine (mul_any _ _ _ _ _ _ _ _ _ p1 p4 (by omega) (by omega)).mono ?_
 rintro e X1 ⟨A_x, n_x, c_x, rfl, r_x, hb⟩
 rw [tv_digs, tv_digs] at r_x
 have p1 := p1.on hb
 have p2 := p2.on hb
 have p3 := p3.on hb
 have p4 := p4.on hb
 have J := J.on hb
 have hb4 := bltB hb4 hb4.size hb
 have hS_x := J.s
 unfold S4 at hS_x
 clear hb
 refine hK _ _ hS_x ?_
 clear hK K
 try simp only [Act.put, pu]
 refine ord_step (i := 9) rfl (by decide) (by kernel_rfl) (by rfl) (fun K hK => ?_)
 go_simp
 refine (mul_any _ _ _ _ _ _ _ _ _ p3 p2 (by omega) (by omega)).mono ?_
 rintro e X2 ⟨A_y, n_y, c_y, rfl, r_y, hb⟩
 rw [tv_digs, tv_digs] at r_y
 have p1 := p1.on hb
 have p2 := p2.on hb
 have p3 := p3.on hb
 have p4 := p4.on hb
 have r_x := r_x.on hb
 have J := J.on hb
 have hb4 := bltB hb4 hb4.size hb
 have hS_y := J.s
 unfold S4 at hS_y
 clear hb
 refine hK _ _ hS_y ?_
 clear hK K
 try simp only [Act.put, pu]
 refine ord_step (i := 14) rfl (by decide) (by kernel_rfl) (by rfl) (fun K hK => ?_)
 go_simp
 refine (mul_any _ _ _ _ _ _ _ _ _ p2 p4 (by omega) (by omega)).mono ?_
 rintro e X3 ⟨A_z, n_z, c_z, rfl, r_z, hb⟩
 rw [tv_digs, tv_digs] at r_z
 have p1 := p1.on hb
 have p2 := p2.on hb
 have p3 := p3.on hb
 have p4 := p4.on hb
 have r_x := r_x.on hb
 have r_y := r_y.on hb
 have J := J.on hb
 have hb4 := bltB hb4 hb4.size hb
 have hS_z := J.s
 unfold S4 at hS_z
 clear hb
 refine hK _ _ hS_z ?_
 clear hK K
 try simp only [Act.put, pu]
 refine ord_rest (by kernel_rfl) ?_
 refine wpAny_take (i := 15) (v := ?_) rfl (by kernel_rfl) (by kernel_rfl) (by kernel_rfl) (fun _ _ _ h => h) (Or.inl ⟨by rfl, ?_⟩) ?_
 rotate_left
 ·intro wz; go_simp; (try with_reducible rfl)
 try simp only [Act.put, pu]
 refine wpAny_take (i := 16) (v := ?_) rfl (by kernel_rfl) (by kernel_rfl) (by kernel_rfl) (fun _ _ _ h => h) (Or.inl ⟨by rfl, ?_⟩) ?_
 rotate_left
 ·intro wz; go_simp; (try with_reducible rfl)
 try simp only [Act.put, pu]
 refine wpAny_take (i := 17) (v := ?_) rfl (by kernel_rfl) (by kernel_rfl) (by kernel_rfl) (fun _ _ _ h => h) (Or.inl ⟨by rfl, ?_⟩) ?_
 rotate_left
 ·intro wz; go_simp; (try with_reducible rfl)
 try simp only [Act.put, pu]
 refine wpAny_done (by kernel_rfl) ?_ _
 refine NoPanic.normal ?_
 have HF : Hid (RetX w (frN l1 k1 * frD l2 k2) (frN l2 k2 * frD l1 k1) (frD l1 k1 * frD l2 k2) (.returned (.tuple #[.slice A_x n_x c_x, .slice A_y n_y c_y, .slice A_z n_z c_z])) X3) := Lib.hid ⟨_, _, _, _, _, _, _, _, _, rfl, r_x, r_y, r_z, hb4⟩
 clear r_x r_y r_z p1 p2 p3 p4
 go_wp2_with fail
 go_ret3
 exact HF.out
end Go.Proofs.YthefgdehfgkhhaaGreat
namespace Go.Proofs.YthefgdehfgkhhaaGreat
open Go.RowKit Go.Shelf
set_option linter.unusedVariables false
set_option linter.unusedSimpArgs false
attribute [local go_sem] Oper.semAt_some
theorem frD_pos (l k : List Nat) : 0 < frD l k := by
 unfold frD
 split
 ·rename_i hr
  unfold frR at hr
  simp only [Bool.and_eq_true, decide_eq_true_eq] at hr
  rw [tv_right hr.2.1]
  rcases Nat.eq_zero_or_pos (val k) with h | h
  ·have := val_eq_zero h hr.2.1
   have h2 := hr.2.2.1
   rw [this] at h2
   simp at h2
  ·exact h
 ·decide
theorem len_mul (x y : Nat) : (digs (x * y)).length ≤ (digs x).length + (digs y).length :=
 digs_len_le (bd_mul (lt_of_digs_len x) (lt_of_digs_len y))
theorem fcmp_any (w : World) (A1 B1 A2 B2' : Option Addr) (n1 c1 m1 d1 n2 c2 m2 d2 : Nat) (l1 k1 l2 k2 : List Nat) (h1 : Rd w w.heap.size A1 n1 c1 l1) (g1 : Rd w w.heap.size B1 m1 d1 k1) (h2 : Rd w w.heap.size A2 n2 c2 l2) (g2 : Rd w w.heap.size B2' m2 d2 k2)
 (hn1 : n1 ≤ 50000) (hm1 : m1 ≤ 50000) (hn2 : n2 ≤ 50000) (hm2 : m2 ≤ 50000) :
 Calls Tryz.prog 13 #[.agg #[.slice A1 n1 c1, .slice B1 m1 d1], .agg #[.slice A2 n2 c2, .slice B2' m2 d2]] w fun e w' => e = .returned (.int .i64 (cmpI ((frN l1 k1 * frD l2 k2 : Nat) : Int) ((frN l2 k2 * frD l1 k1 : Nat) : Int))) ∧ Below w.heap.size w w' := by
 obtain ⟨w0, hw0⟩ : ∃ w0, w0 = (w.alloc (.cells #[.slice A1 n1 c1, .slice B1 m1 d1] 34)).alloc (.cells #[.slice A2 n2 c2, .slice B2' m2 d2] 34) := ⟨_, rfl⟩
 have hb0 : Below w.heap.size w w0 := by rw [hw0]; exact ((Below.refl _ _).alloc (Nat.le_refl _) _).alloc (by simp) _
 have J0 : B2 w0 w.heap.size A1 n1 c1 B1 m1 d1 A2 n2 c2 B2' m2 d2 := by
  rw [hw0]
  refine ⟨(Blk.new w _ _).alloc _, ?_⟩
  have := Blk.new (w.alloc (.cells #[.slice A1 n1 c1, .slice B1 m1 d1] 34)) 34 #[.slice A2 n2 c2, .slice B2' m2 d2]
  rw [World.size_alloc] at this
  exact this
 have HL := Lib.hid (And.intro (frN_len (k := k1) h1.dig) (And.intro (frD_len (l := l1) g1.dig) (And.intro (frN_len (k := k2) h2.dig) (And.intro (frD_len (l := l2) g2.dig) (And.intro h1.len (And.intro g1.len (And.intro h2.len g2.len)))))))
 have h1 := h1.on hb0
 have g1 := g1.on hb0
 have h2 := h2.on hb0
 have g2 := g2.on hb0
 have hc0 := J0.a.cell 0
 have hc1 := J0.a.cell 1
 have hc2 := J0.b.cell 0
 have hc3 := J0.b.cell 1
 go_enter Tryz.func13, Tryz.ntmps13
 go_wp2_with fail
 rw [← hw0]
 clear hw0
 go_wp2_with fail
 refine (cross_any _ _ _ _ _ _ _ _ _ _ _ _ _ _ _ _ _ h1 g1 h2 g2 hn1 hm1 hn2 hm2).mono ?_
 rintro e w1 ⟨A, n, c, B, m, d, C, p, q, rfl, r1, r2, r3, hb⟩
 have hb1 := bltB hb0 hb0.size hb
 have hn : n ≤ 131072 := by
  have h1 := len_mul (frN l1 k1) (frD l2 k2)
  have h2 := r1.len
  have h3 := HL.out
  omega
 have hm : m ≤ 131072 := by
  have h1 := len_mul (frN l2 k2) (frD l1 k1)
  have h2 := r2.len
  have h3 := HL.out
  omega
 clear hb h1 g1 h2 g2 hc0 hc1 hc2 hc3 J0 hb0 r3
 go_wp2_with fail
 refine (cmp_any _ _ _ _ _ _ _ _ _ r1 r2 (by omega) (by omega)).mono ?_
 rintro e w2 ⟨rfl, hb⟩
 rw [tv_digs, tv_digs]
 have hb2 := bltB hb1 hb1.size hb
 clear hb hb1 r1 r2
 obtain ⟨cz, hcz⟩ : ∃ z, cmpI ((frN l1 k1 * frD l2 k2 : Nat) : Int) ((frN l2 k2 * frD l1 k1 : Nat) : Int) = z := ⟨_, rfl⟩
 rw [hcz]
 have HZ := Lib.hid hcz
 clear hcz
 go_wp2_with fail
 go_ret
 exact ⟨by rw [HZ.out]; rfl, hb2⟩
end Go.Proofs.YthefgdehfgkhhaaGreat
namespace Go.Proofs.YthefgdehfgkhhaaGreat
open Go.RowKit Go.Shelf
set_option linter.unusedVariables false
set_option linter.unusedSimpArgs false
attribute [local go_sem] Oper.semAt_some
set_option maxRecDepth 100000 in
set_option maxHeartbeats 2000000 in
theorem fmul_any (w : World) (A1 B1 A2 B2' : Option Addr) (n1 c1 m1 d1 n2 c2 m2 d2 : Nat) (l1 k1 l2 k2 : List Nat) (h1 : Rd w w.heap.size A1 n1 c1 l1) (g1 : Rd w w.heap.size B1 m1 d1 k1) (h2 : Rd w w.heap.size A2 n2 c2 l2) (g2 : Rd w w.heap.size B2' m2 d2 k2)
 (hn1 : n1 ≤ 25000) (hm1 : m1 ≤ 25000) (hn2 : n2 ≤ 25000) (hm2 : m2 ≤ 25000) :
 Calls Tryz.prog 69 #[.agg #[.slice A1 n1 c1, .slice B1 m1 d1], .agg #[.slice A2 n2 c2, .slice B2' m2 d2]] w (RetFr w (frN l1 k1 * frN l2 k2 / Nat.gcd (frN l1 k1 * frN l2 k2) (frD l1 k1 * frD l2 k2)) (frD l1 k1 * frD l2 k2 / Nat.gcd (frN l1 k1 * frN l2 k2) (frD l1 k1 * frD l2 k2))) := by
 obtain ⟨w0, hw0⟩ : ∃ w0, w0 = ((w.alloc (.cells #[.slice A1 n1 c1, .slice B1 m1 d1] 34)).alloc (.cells #[.slice A2 n2 c2, .slice B2' m2 d2] 34)).alloc (.cells #[.slice none 0 0, .slice none 0 0] 34) := ⟨_, rfl⟩
 have hb0 : Below w.heap.size w w0 := by rw [hw0]; exact (((Below.refl _ _).alloc (Nat.le_refl _) _).alloc (by simp) _).alloc (by simp; omega) _
 have J0 : B2 w0 w.heap.size A1 n1 c1 B1 m1 d1 A2 n2 c2 B2' m2 d2 := by
  rw [hw0]
  refine ⟨((Blk.new w _ _).alloc _).alloc _, Blk.alloc ?_ _⟩
  have := Blk.new (w.alloc (.cells #[.slice A1 n1 c1, .slice B1 m1 d1] 34)) 34 #[.slice A2 n2 c2, .slice B2' m2 d2]
  rw [World.size_alloc] at this
  exact this
 have R0 : Blk w0 (w.heap.size + 2) 34 #[.slice none 0 0, .slice none 0 0] := by
  rw [hw0]
  have := Blk.new ((w.alloc (.cells #[.slice A1 n1 c1, .slice B1 m1 d1] 34)).alloc (.cells #[.slice A2 n2 c2, .slice B2' m2 d2] 34)) 34 #[.slice none 0 0, .slice none 0 0]
  rw [World.size_alloc, World.size_alloc] at this
  exact this
 have h1 := (h1.on hb0).drew
 have g1 := (g1.on hb0).drew
 have h2 := (h2.on hb0).drew
 have g2 := (g2.on hb0).drew
 have J0 : B2 w0.drew w.heap.size A1 n1 c1 B1 m1 d1 A2 n2 c2 B2' m2 d2 := ⟨J0.a.drew, J0.b.drew⟩
 have R0 := R0.drew
 have hb0 := hb0.drew
 have HL := Lib.hid (And.intro (frN_len (k := k1) h1.dig) (And.intro (frD_len (l := l1) g1.dig) (And.intro (frN_len (k := k2) h2.dig) (And.intro (frD_len (l := l2) g2.dig) (And.intro h1.len (And.intro g1.len (And.intro h2.len g2.len)))))))
 go_enter Tryz.func69, Tryz.ntmps69
 go_wp2_with fail
 rw [← hw0]
 clear hw0
 have hS := J0.s
 unfold S4 at hS
 refine wp_region_noPanic ?_
 refine ord_begin 4 (fun wx => wx.cell? ⟨w.heap.size, 0, none⟩ = some (.slice A1 n1 c1) ∧ wx.cell? ⟨w.heap.size, 1, none⟩ = some (.slice B1 m1 d1) ∧ wx.cell? ⟨w.heap.size + 1, 0, none⟩ = some (.slice A2 n2 c2) ∧ wx.cell? ⟨w.heap.size + 1, 1, none⟩ = some (.slice B2' m2 d2)) (by kernel_rfl) ?_
 refine ord_take (i := 0) (v := ?_) (by kernel_rfl) rfl (by decide) (by kernel_rfl) (by kernel_rfl) (fun _ _ _ h => h) (Or.inl ⟨by rfl, ?_⟩) hS ?_
 rotate_left
 ·intro wz hz; (try dsimp only at hz); (try go_split_ands); go_simp; (try with_reducible rfl)
 try simp only [Act.put, pu]
 refine ord_take (i := 2) (v := ?_) (by kernel_rfl) rfl (by decide) (by kernel_rfl) (by kernel_rfl) (fun _ _ _ h => h) (Or.inl ⟨by rfl, ?_⟩) hS ?_
 rotate_left
 ·intro wz hz; (try dsimp only at hz); (try go_split_ands); go_simp; (try with_reducible rfl)
 try simp only [Act.put, pu]
 refine ord_step (i := 1) rfl (by decide) (by kernel_rfl) (by rfl) (fun K hK => ?_)
 go_simp
 refine (ftaken_any _ _ _ _ _ _ _ _ _ h1 g1 (by omega) (by omega)).mono ?_
 rintro e W1 ⟨A3, n3, c3, B3, m3, d3, rfl, q1, q2, hb⟩
 have J1 := J0.on hb
 have R1 := R0.below hb R0.lt
 have h2 := h2.on hb
 have g2 := g2.on hb
 have hb1 := bltB hb0 hb0.size hb
 have hS1 := J1.s
 unfold S4 at hS1
 clear hb hb0 J0 R0 h1 g1
 refine hK _ _ hS1 ?_
 clear hK K
 try simp only [Act.put, pu]
 refine ord_step (i := 3) rfl (by decide) (by kernel_rfl) (by rfl) (fun K hK => ?_)
 go_simp
 refine (ftaken_any _ _ _ _ _ _ _ _ _ h2 g2 (by omega) (by omega)).mono ?_
 rintro e W2 ⟨A4, n4, c4, B4, m4, d4, rfl, q3, q4, hb⟩
 have J2 := J1.on hb
 have R2 := R1.below hb R1.lt
 have q1 := q1.on hb
 have q2 := q2.on hb
 have hb2 := bltB hb1 hb1.size hb
 have hS2 := J2.s
 unfold S4 at hS2
 clear hb hb1 J1 R1 h2 g2 hS1 hS
 refine hK _ _ hS2 ?_
 clear hK K
 try simp only [Act.put, pu]
 refine ord_rest (by kernel_rfl) ?_
 obtain ⟨j1, j2, p1, p2, p3, p4, hb3⟩ := fr_store2 J2.a J2.b (by omega) q1 q2 q3 q4 hb2 (Nat.le_refl _)
 have R3 := (R2.far (p := ⟨w.heap.size, 0, none⟩) (by simp) (.slice A3 n3 c3)).far (p := ⟨w.heap.size, 1, none⟩) (by simp) (.slice B3 m3 d3)
 have hc0 := J2.a.cell 0
 have hc1 := J2.a.cell 1
 have hf0 := J2.a.frozen 0
 have hf1 := J2.a.frozen 1
 clear hS2 J2 q1 q2 q3 q4 hb2 R2
 refine any_step (i := 4) rfl (by kernel_rfl) (by rfl) (fun K hK => ?_)
 go_simp
 refine hK _ _ ?_
 clear hK K
 try simp only [Act.put, pu]
 generalize (W2.setCell ⟨w.heap.size, 0, none⟩ (.slice A3 n3 c3)).setCell ⟨w.heap.size, 1, none⟩ (.slice B3 m3 d3) = W3 at *
 clear hc0 hc1 hf0 hf1
 obtain ⟨i1, i2, p3, p4, p1, p2, hb4⟩ := fr_store2 j2 j1 (by omega) p3 p4 p1 p2 hb3 (by omega)
 have R4 := (R3.far (p := ⟨w.heap.size + 1, 0, none⟩) (by simp) (.slice A4 n4 c4)).far (p := ⟨w.heap.size + 1, 1, none⟩) (by simp) (.slice B4 m4 d4)
 have hc0 := j2.cell 0
 have hc1 := j2.cell 1
 have hf0 := j2.frozen 0
 have hf1 := j2.frozen 1
 clear hb3 j1 j2 R3
 refine any_step (i := 5) rfl (by kernel_rfl) (by rfl) (fun K hK => ?_)
 go_simp
 refine hK _ _ ?_
 clear hK K
 try simp only [Act.put, pu]
 generalize (W3.setCell ⟨w.heap.size + 1, 0, none⟩ (.slice A4 n4 c4)).setCell ⟨w.heap.size + 1, 1, none⟩ (.slice B4 m4 d4) = W4 at *
 clear hc0 hc1 hf0 hf1
 refine wpAny_done (by kernel_rfl) ?_ _
 refine NoPanic.normal ?_
 have J : B2 W4 w.heap.size A3 n3 c3 B3 m3 d3 A4 n4 c4 B4 m4 d4 := ⟨i2, i1⟩
 have hn3 : n3 ≤ 25000 := by have h1 := p1.len; have h2 := HL.out; omega
 have hm3 : m3 ≤ 25001 := by have h1 := p2.len; have h2 := HL.out; omega
 have hn4 : n4 ≤ 25000 := by have h1 := p3.len; have h2 := HL.out; omega
 have hm4 : m4 ≤ 25001 := by have h1 := p4.len; have h2 := HL.out; omega
 clear i1 i2
 go_wp2_with fail
 have J := (⟨J.a.drew, J.b.drew⟩ : B2 W4.drew w.heap.size A3 n3 c3 B3 m3 d3 A4 n4 c4 B4 m4 d4)
 have R4 := R4.drew
 have p1 := p1.drew
 have p2 := p2.drew
 have p3 := p3.drew
 have p4 := p4.drew
 have hb4 := hb4.drew
 have hS := J.s
 unfold S4 at hS
 refine wp_region_noPanic ?_
 refine ord_begin 10 (fun wx => wx.cell? ⟨w.heap.size, 0, none⟩ = some (.slice A3 n3 c3) ∧ wx.cell? ⟨w.heap.size, 1, none⟩ = some (.slice B3 m3 d3) ∧ wx.cell? ⟨w.heap.size + 1, 0, none⟩ = some (.slice A4 n4 c4) ∧ wx.cell? ⟨w.heap.size + 1, 1, none⟩ = some (.slice B4 m4 d4)) (by kernel_rfl) ?_
 refine ord_take (i := 0) (v := ?_) (by kernel_rfl) rfl (by decide) (by kernel_rfl) (by kernel_rfl) (fun _ _ _ h => h) (Or.inl ⟨by rfl, ?_⟩) hS ?_
 rotate_left
 ·intro wz hz; (try dsimp only at hz); (try go_split_ands); go_simp; (try with_reducible rfl)
 try simp only [Act.put, pu]
 refine ord_take (i := 1) (v := ?_) (by kernel_rfl) rfl (by decide) (by kernel_rfl) (by kernel_rfl) (fun _ _ _ h => h) (Or.inl ⟨by rfl, ?_⟩) hS ?_
 rotate_left
 ·intro wz hz; (try dsimp only at hz); (try go_split_ands); go_simp; (try with_reducible rfl)
 try simp only [Act.put, pu]
 refine ord_take (i := 2) (v := ?_) (by kernel_rfl) rfl (by decide) (by kernel_rfl) (by kernel_rfl) (fun _ _ _ h => h) (Or.inl ⟨by rfl, ?_⟩) hS ?_
 rotate_left
 ·intro wz hz; (try dsimp only at hz); (try go_split_ands); go_simp; (try with_reducible rfl)
 try simp only [Act.put, pu]
 refine ord_take (i := 3) (v := ?_) (by kernel_rfl) rfl (by decide) (by kernel_rfl) (by kernel_rfl) (fun _ _ _ h => h) (Or.inl ⟨by rfl, ?_⟩) hS ?_
 rotate_left
 ·intro wz hz; (try dsimp only at hz); (try go_split_ands); go_simp; (try with_reducible rfl)
 try simp only [Act.put, pu]
 refine ord_take (i := 5) (v := ?_) (by kernel_rfl) rfl (by decide) (by kernel_rfl) (by kernel_rfl) (fun _ _ _ h => h) (Or.inl ⟨by rfl, ?_⟩) hS ?_
 rotate_left
 ·intro wz hz; (try dsimp only at hz); (try go_split_ands); go_simp; (try with_reducible rfl)
 try simp only [Act.put, pu]
 refine ord_take (i := 6) (v := ?_) (by kernel_rfl) rfl (by decide) (by kernel_rfl) (by kernel_rfl) (fun _ _ _ h => h) (Or.inl ⟨by rfl, ?_⟩) hS ?_
 rotate_left
 ·intro wz hz; (try dsimp only at hz); (try go_split_ands); go_simp; (try with_reducible rfl)
 try simp only [Act.put, pu]
 refine ord_take (i := 7) (v := ?_) (by kernel_rfl) rfl (by decide) (by kernel_rfl) (by kernel_rfl) (fun _ _ _ h => h) (Or.inl ⟨by rfl, ?_⟩) hS ?_
 rotate_left
 ·intro wz hz; (try dsimp only at hz); (try go_split_ands); go_simp; (try with_reducible rfl)
 try simp only [Act.put, pu]
 refine ord_take (i := 8) (v := ?_) (by kernel_rfl) rfl (by decide) (by kernel_rfl) (by kernel_rfl) (fun _ _ _ h => h) (Or.inl ⟨by rfl, ?_⟩) hS ?_
 rotate_left
 ·intro wz hz; (try dsimp only at hz); (try go_split_ands); go_simp; (try with_reducible rfl)
 try simp only [Act.put, pu]
 refine ord_step (i := 4) rfl (by decide) (by kernel_rfl) (by rfl) (fun K hK => ?_)
 go_simp
 refine (mul_any _ _ _ _ _ _ _ _ _ p1 p3 (by omega) (by omega)).mono ?_
 rintro e X1 ⟨A_x, n_x, c_x, rfl, r_x, hb⟩
 rw [tv_digs, tv_digs] at r_x
 have p1 := p1.on hb
 have p2 := p2.on hb
 have p3 := p3.on hb
 have p4 := p4.on hb
 have J := J.on hb
 have R4 := R4.below hb R4.lt
 have hb4 := bltB hb4 hb4.size hb
 have hS_x := J.s
 unfold S4 at hS_x
 clear hb
 refine hK _ _ hS_x ?_
 clear hK K
 try simp only [Act.put, pu]
 refine ord_step (i := 9) rfl (by decide) (by kernel_rfl) (by rfl) (fun K hK => ?_)
 go_simp
 refine (mul_any _ _ _ _ _ _ _ _ _ p2 p4 (by omega) (by omega)).mono ?_
 rintro e X2 ⟨A_y, n_y, c_y, rfl, r_y, hb⟩
 rw [tv_digs, tv_digs] at r_y
 have p1 := p1.on hb
 have p2 := p2.on hb
 have p3 := p3.on hb
 have p4 := p4.on hb
 have r_x := r_x.on hb
 have J := J.on hb
 have R4 := R4.below hb R4.lt
 have hb4 := bltB hb4 hb4.size hb
 have hS_y := J.s
 unfold S4 at hS_y
 clear hb
 refine hK _ _ hS_y ?_
 clear hK K
 try simp only [Act.put, pu]
 refine ord_rest (by kernel_rfl) ?_
 refine any_step (i := 10) rfl (by kernel_rfl) (by rfl) (fun K hK => ?_)
 go_simp
 have hnx : n_x ≤ 60000 := by have h1 := len_mul (frN l1 k1) (frN l2 k2); have h2 := r_x.len; have h3 := HL.out; omega
 have hny : n_y ≤ 60000 := by have h1 := len_mul (frD l1 k1) (frD l2 k2); have h2 := r_y.len; have h3 := HL.out; omega
 refine (flow_any _ _ _ _ _ _ _ _ _ r_x r_y (by omega) (by omega) (Nat.mul_pos (frD_pos _ _) (frD_pos _ _))).mono ?_
 rintro e X3 ⟨A5, n5, c5, B5, m5, d5, rfl, s1, s2, hb⟩
 have R5 := R4.below hb R4.lt
 have hb5 := bltB hb4 hb4.size hb
 clear hb r_x r_y p1 p2 p3 p4 hb4 R4 J hS hS_x hS_y
 refine hK _ _ ?_
 clear hK K
 try simp only [Act.put, pu]
 obtain ⟨j5, t1, t2, hb6⟩ := fr_store R5 s1 s2 hb5 (by omega)
 have hc0 := R5.cell 0
 have hc1 := R5.cell 1
 have hf0 := R5.frozen 0
 have hf1 := R5.frozen 1
 clear R5 s1 s2 hb5
 refine any_step (i := 11) rfl (by kernel_rfl) (by rfl) (fun K hK => ?_)
 go_simp
 refine hK _ _ ?_
 clear hK K
 try simp only [Act.put, pu]
 generalize (X3.setCell ⟨w.heap.size + 2, 0, none⟩ (.slice A5 n5 c5)).setCell ⟨w.heap.size + 2, 1, none⟩ (.slice B5 m5 d5) = X4 at *
 clear hc0 hc1 hf0 hf1
 refine wpAny_done (by kernel_rfl) ?_ _
 refine NoPanic.normal ?_
 go_wp2_with fail
 refine bodyPost_ret (v := .agg #[.slice A5 n5 c5, .slice B5 m5 d5]) ?_ rfl ?_
 ·have e0 := j5.cell 0
  have e1 := j5.cell 1
  simp [results, Tryz.f69, go_sem, e0, e1]
 ·exact ⟨A5, n5, c5, B5, m5, d5, rfl, t1, t2, hb6⟩
end Go.Proofs.YthefgdehfgkhhaaGreat
