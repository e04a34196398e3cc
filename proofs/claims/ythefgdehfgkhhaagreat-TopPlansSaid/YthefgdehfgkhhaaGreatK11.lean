/-
  Graphs: Way.
-/
import Derived.Test.YthefgdehfgkhhaaGreatK01
import Derived.Test.YthefgdehfgkhhaaGreatK10
namespace Go.Proofs.YthefgdehfgkhhaaGreat
open Go.RowKit Go.Shelf
set_option linter.unusedVariables false
set_option linter.unusedSimpArgs false
/-- Which parties have been. -/
def beenB (l : List Ed) (j : Nat) : Bool := l.any (fun x => decide (x.f = (j : Int)) || decide (x.t = (j : Int)))
def beenA (l : List Ed) : Array Value := Array.ofFn (n := 12) fun j => Value.bool (beenB l j)
theorem been_zero : beenA [] = #[.bool false, .bool false, .bool false, .bool false, .bool false, .bool false, .bool false, .bool false, .bool false, .bool false, .bool false, .bool false] := rfl
theorem been_at (l : List Ed) {j : Nat} (h : j < 12) : (beenA l)[j]? = some (.bool (beenB l j)) := by
 unfold beenA
 simp [h]
theorem been_size (l : List Ed) : (beenA l).size = 12 := by simp [beenA]
theorem been_none (l : List Ed) {j : Nat} (h : 12 ≤ j) : (beenA l)[j]? = none := Array.getElem?_eq_none (by rw [been_size]; exact h)
theorem been_step (l : List Ed) (e : Ed) {fn tn : Nat} (hf : e.f = fn) (ht : e.t = tn) (h1 : fn < 12) (h2 : tn < 12) : ((beenA l).setIfInBounds fn (.bool true)).setIfInBounds tn (.bool true) = beenA (l ++ [e]) := by
 have hd : ∀ a b : Nat, decide ((a : Int) = (b : Int)) = decide (a = b) := fun a b => by rw [decide_eq_decide]; omega
 apply Array.ext_getElem?
 intro j
 rw [Array.getElem?_setIfInBounds, Array.getElem?_setIfInBounds, Array.size_setIfInBounds, been_size]
 rcases Nat.lt_or_ge j 12 with hj | hj
 ·have e1 : beenB (l ++ [e]) j = (beenB l j || (decide (fn = j) || decide (tn = j))) := by
   unfold beenB
   rw [List.any_append, List.any_cons, List.any_nil, Bool.or_false, hf, ht, hd, hd]
  rw [been_at _ hj, been_at _ hj, e1]
  by_cases ha : tn = j
  ·subst ha; rw [if_pos rfl, if_pos h2, decide_eq_true rfl]; simp
  ·rw [if_neg ha, decide_eq_false ha]
   by_cases hb : fn = j
   ·subst hb; rw [if_pos rfl, if_pos h1, decide_eq_true rfl]; simp
   ·rw [if_neg hb, decide_eq_false hb]; simp
 ·rw [been_none _ hj, been_none _ hj, if_neg (by omega), if_neg (by omega)]
theorem way_zero (l : List Ed) : wayAt l 0 = edgeB (eAt l 0) := by unfold wayAt; simp
theorem way_one (l : List Ed) (k : Nat) {tn : Nat} (ht : (eAt l (k + 1)).t = tn) : wayAt l (k + 1) = (edgeB (eAt l (k + 1)) && (decide ((eAt l k).t = (eAt l (k + 1)).f) && !beenB (l.take (k + 1)) tn)) := by
 unfold wayAt beenB
 rw [ht]
 simp
theorem wayB_yes {l : List Ed} (h0 : 1 ≤ l.length) (h8 : l.length ≤ 8) (h : ∀ j, j < l.length → wayAt l j = true) : wayB l = true := by
 unfold wayB
 rw [decide_eq_true h0, decide_eq_true h8, Bool.true_and, Bool.true_and, List.all_eq_true]
 intro j hj
 exact h j (List.mem_range.1 hj)
theorem wayB_no {l : List Ed} {j : Nat} (hj : j < l.length) (h : wayAt l j = false) : wayB l = false := by
 unfold wayB
 rw [List.all_eq_false.2 ⟨j, List.mem_range.2 hj, by rw [h]; decide⟩, Bool.and_false]
theorem wayB_len {l : List Ed} (h : ¬ (1 ≤ l.length ∧ l.length ≤ 8)) : wayB l = false := by
 unfold wayB
 by_cases h1 : 1 ≤ l.length
 ·rw [decide_eq_false (fun h2 => h ⟨h1, h2⟩)]; simp
 ·rw [decide_eq_false h1]; simp
theorem edge_spec {e : Ed} (h : edgeB e = true) : (0 ≤ e.f ∧ e.f ≤ 11) ∧ (0 ≤ e.t ∧ e.t ≤ 11) ∧ e.f ≠ e.t ∧ (0 ≤ e.c ∧ e.c ≤ 39) ∧ (1 ≤ e.r ∧ e.r ≤ 1125899906842624) ∧ polB e = true := by
 unfold edgeB inB at h
 simp only [Bool.and_eq_true, decide_eq_true_eq] at h
 obtain ⟨a, b, c, d, k, p⟩ := h
 exact ⟨a, b, c, d, k, p⟩
theorem takes_one (l : List Ed) {i : Nat} {e : Ed} (h : l[i]? = some e) : l.take (i + 1) = l.take i ++ [e] := by rw [List.take_add_one, h]; rfl
set_option maxRecDepth 100000 in
set_option maxHeartbeats 4000000 in
theorem way_any (w : World) (A : Option Addr) (n c : Nat) (l : List Ed) (h : RE w A n c l) (hn : n ≤ 1048576) : Calls Tryz.prog 103 #[.slice A n c] w fun e w' => e = .returned (.bool (wayB l)) ∧ Below w.heap.size w w' := by
 have HL := Lib.hid h
 have hlen := h.elen
 have Hlen := Lib.hid hlen
 clear h
 obtain ⟨hb, hhb⟩ : ∃ b, inB (n : Int) 1 8 = b := ⟨_, rfl⟩
 rcases hb with _ | _
 ·have HF : Hid (wayB l = false) := Lib.hid (wayB_len (by rw [hlen]; unfold inB at hhb; simp at hhb; omega))
  clear hlen
  go_enter Tryz.func103, Tryz.ntmps103
  go_wp2_with fail
  refine (gin_any _ _ _ _).mono ?_
  rintro e w' ⟨rfl, rfl⟩
  rw [hhb]
  clear hhb
  go_wp2_with fail
  go_ret
  exact ⟨by rw [HF.out]; rfl, Below.refl _ _⟩
 have h18 : 1 ≤ n ∧ n ≤ 8 := by unfold inB at hhb; simp at hhb; omega
 have HN := Lib.hid h18
 clear hlen
 obtain ⟨W0, hW0⟩ : ∃ W, W = w.alloc (.cells #[.bool false, .bool false, .bool false, .bool false, .bool false, .bool false, .bool false, .bool false, .bool false, .bool false, .bool false, .bool false] 189) := ⟨_, rfl⟩
 have hB0 : Below w.heap.size w W0 := by rw [hW0]; exact (Below.refl _ _).alloc (Nat.le_refl _) _
 have k3 : Blk W0 w.heap.size 189 (beenA []) := by rw [hW0, been_zero]; exact Blk.new w _ _
 go_enter Tryz.func103, Tryz.ntmps103
 go_wp2_with fail
 refine (gin_any _ _ _ _).mono ?_
 rintro e w' ⟨rfl, rfl⟩
 rw [hhb]
 clear hhb
 go_wp2_with fail
 rw [← hW0]
 clear hW0
 go_loopw [12] (fun iv wr => ∃ i : Nat, i ≤ n ∧ iv = .int .i64 i ∧ Hid (∀ j, j < i → wayAt l j = true) ∧ Blk wr w.heap.size 189 (beenA (l.take i)) ∧ Below w.heap.size w wr) (fun iv _ => n - (intOf iv).toNat)
 case atStart => exact ⟨0, Nat.zero_le _, rfl, Lib.hid (fun j hj => by omega), k3, hB0⟩
 case round =>
  clear k3 hB0
  obtain ⟨i, hi, rfl, HA, k3, hB⟩ := hrel
  by_cases hlt : i < n
  ·obtain ⟨b, off, e, hA, hb, hx, hat, a0, a1, a2, a3, a4, a5, a6, a7, a8⟩ := (HL.out.on hB).edge hlt
   have HE := Lib.hid hat
   have HJ := Lib.hid (show i < l.length by rw [Hlen.out]; exact hlt)
   have HT := Lib.hid (takes_one l hx)
   subst hA
   clear hx hat
   have hlt' : (i : Int) < (n : Int) := by omega
   have hb0 : b < w.heap.size := by
    obtain ⟨b', off', _, hA', hb', _⟩ := HL.out.edge hlt
    injection hA' with hA'
    injection hA' with h1 h2
    rw [h1]; exact hb'
   obtain ⟨f, t, ch, r, p0, p1, p2, p3, p4⟩ := e
   dsimp only at a0 a1 a2 a3 a4 a5 a6 a7 a8
   go_wp2_with fail
   obtain ⟨W1, hW1⟩ : ∃ W, W = wr.alloc (.cells #[.int .i64 f, .int .i64 t, .int .i64 ch, .int .i64 r, .int .i64 p0, .int .i64 p1, .int .i64 p2, .int .i64 p3, .int .i64 p4] 56) := ⟨_, rfl⟩
   have hb1 : Below wr.heap.size wr W1 := by rw [hW1]; exact (Below.refl _ _).alloc (Nat.le_refl _) _
   have k4 : Blk W1 wr.heap.size 56 #[.int .i64 f, .int .i64 t, .int .i64 ch, .int .i64 r, .int .i64 p0, .int .i64 p1, .int .i64 p2, .int .i64 p3, .int .i64 p4] := by rw [hW1]; exact Blk.new wr _ _
   have hG3 : w.heap.size < wr.heap.size := k3.lt
   obtain ⟨G, hG⟩ : ∃ G, wr.heap.size = G := ⟨_, rfl⟩
   obtain ⟨G3, hGG⟩ : ∃ G, w.heap.size = G := ⟨_, rfl⟩
   rw [← hW1, hG]
   rw [hGG] at k3 hb0 hG3 ⊢
   rw [hG] at k4 hG3
   replace k3 := k3.below hb1 k3.lt
   have hbW : b < W1.heap.size := Nat.lt_of_lt_of_le hb hb1.size
   have hB1 := Lib.hid (bltB hB hB.size hb1)
   have HGG := Lib.hid hGG
   clear hW1 hG hb1 a0 a1 a2 a3 a4 a5 a6 a7 a8 hB hGG
   rcases hed : edgeB ⟨f, t, ch, r, p0, p1, p2, p3, p4⟩ with _ | _
   ·have HF : Hid (wayB l = false) := Lib.hid (wayB_no HJ.out (by
     rcases i with _ | k
     ·rw [way_zero, HE.out, hed]
     ·unfold wayAt; rw [HE.out, hed]; rfl))
    refine wp_region_noPanic ?_
    refine ord_begin 23 (fun wx => Below W1.heap.size W1 wx) (by kernel_rfl) ?_
    have hx0 : Below W1.heap.size W1 W1.drew := (Below.refl _ _).drew
    refine ord_take (i := 0) (v := ?_) (by kernel_rfl) rfl (by decide) (by kernel_rfl) (by kernel_rfl) (fun _ _ _ h => h) (Or.inl ⟨by rfl, ?_⟩) hx0 ?_
    rotate_left
    ·intro wz hz; have j4 := k4.below hz k4.lt; have q0 := j4.cell 0; have q1 := j4.cell 1; have q2 := j4.cell 2; have q3 := j4.cell 3; have q4 := j4.cell 4; have q5 := j4.cell 5; have q6 := j4.cell 6; have q7 := j4.cell 7; have q8 := j4.cell 8; go_simp; (try with_reducible rfl)
    try simp only [Act.put, pu]
    refine ord_step (i := 1) rfl (by decide) (by kernel_rfl) (by rfl) (fun K hK => ?_)
    go_simp
    refine (edge_any ⟨f, t, ch, r, p0, p1, p2, p3, p4⟩ _).mono ?_
    rintro y Xa_1 ⟨rfl, hb⟩
    rw [hed]
    have hx1 := bltB hx0 hx0.size hb
    clear hb hx0
    refine hK _ _ hx1 ?_
    clear hK K
    try simp only [Act.put, pu]
    refine ord_take (i := 2) (v := ?_) (by kernel_rfl) rfl (by decide) (by kernel_rfl) (by kernel_rfl) (fun _ _ _ h => h) (Or.inl ⟨by rfl, ?_⟩) hx1 ?_
    rotate_left
    ·intro wz hz; go_simp; (try with_reducible rfl)
    try simp only [Act.put, pu]
    refine ord_take (i := 3) (v := ?_) (by kernel_rfl) rfl (by decide) (by kernel_rfl) (by kernel_rfl) (fun _ _ _ h => h) (Or.inl ⟨by rfl, ?_⟩) hx1 ?_
    rotate_left
    ·intro wz hz; go_simp; (try with_reducible rfl)
    try simp only [Act.put, pu]
    refine ord_take (i := 4) (v := undef) (by kernel_rfl) rfl (by decide) (by kernel_rfl) (by kernel_rfl) (fun _ _ _ h => h) (Or.inr ⟨by rfl, rfl⟩) hx1 ?_
    try simp only [Act.put, pu]
    refine ord_take (i := 5) (v := undef) (by kernel_rfl) rfl (by decide) (by kernel_rfl) (by kernel_rfl) (fun _ _ _ h => h) (Or.inr ⟨by rfl, rfl⟩) hx1 ?_
    try simp only [Act.put, pu]
    refine ord_take (i := 6) (v := undef) (by kernel_rfl) rfl (by decide) (by kernel_rfl) (by kernel_rfl) (fun _ _ _ h => h) (Or.inr ⟨by rfl, rfl⟩) hx1 ?_
    try simp only [Act.put, pu]
    refine ord_take (i := 7) (v := undef) (by kernel_rfl) rfl (by decide) (by kernel_rfl) (by kernel_rfl) (fun _ _ _ h => h) (Or.inr ⟨by rfl, rfl⟩) hx1 ?_
    try simp only [Act.put, pu]
    refine ord_take (i := 8) (v := undef) (by kernel_rfl) rfl (by decide) (by kernel_rfl) (by kernel_rfl) (fun _ _ _ h => h) (Or.inr ⟨by rfl, rfl⟩) hx1 ?_
    try simp only [Act.put, pu]
    refine ord_take (i := 9) (v := undef) (by kernel_rfl) rfl (by decide) (by kernel_rfl) (by kernel_rfl) (fun _ _ _ h => h) (Or.inr ⟨by rfl, rfl⟩) hx1 ?_
    try simp only [Act.put, pu]
    refine ord_take (i := 10) (v := undef) (by kernel_rfl) rfl (by decide) (by kernel_rfl) (by kernel_rfl) (fun _ _ _ h => h) (Or.inr ⟨by rfl, rfl⟩) hx1 ?_
    try simp only [Act.put, pu]
    refine ord_take (i := 11) (v := undef) (by kernel_rfl) rfl (by decide) (by kernel_rfl) (by kernel_rfl) (fun _ _ _ h => h) (Or.inr ⟨by rfl, rfl⟩) hx1 ?_
    try simp only [Act.put, pu]
    refine ord_take (i := 12) (v := undef) (by kernel_rfl) rfl (by decide) (by kernel_rfl) (by kernel_rfl) (fun _ _ _ h => h) (Or.inr ⟨by rfl, rfl⟩) hx1 ?_
    try simp only [Act.put, pu]
    refine ord_take (i := 13) (v := undef) (by kernel_rfl) rfl (by decide) (by kernel_rfl) (by kernel_rfl) (fun _ _ _ h => h) (Or.inr ⟨by rfl, rfl⟩) hx1 ?_
    try simp only [Act.put, pu]
    refine ord_take (i := 14) (v := undef) (by kernel_rfl) rfl (by decide) (by kernel_rfl) (by kernel_rfl) (fun _ _ _ h => h) (Or.inr ⟨by rfl, rfl⟩) hx1 ?_
    try simp only [Act.put, pu]
    refine ord_take (i := 15) (v := undef) (by kernel_rfl) rfl (by decide) (by kernel_rfl) (by kernel_rfl) (fun _ _ _ h => h) (Or.inr ⟨by rfl, rfl⟩) hx1 ?_
    try simp only [Act.put, pu]
    refine ord_take (i := 16) (v := undef) (by kernel_rfl) rfl (by decide) (by kernel_rfl) (by kernel_rfl) (fun _ _ _ h => h) (Or.inr ⟨by rfl, rfl⟩) hx1 ?_
    try simp only [Act.put, pu]
    refine ord_take (i := 17) (v := ?_) (by kernel_rfl) rfl (by decide) (by kernel_rfl) (by kernel_rfl) (fun _ _ _ h => h) (Or.inl ⟨by rfl, ?_⟩) hx1 ?_
    rotate_left
    ·intro wz hz; go_simp; (try with_reducible rfl)
    try simp only [Act.put, pu]
    refine ord_take (i := 18) (v := ?_) (by kernel_rfl) rfl (by decide) (by kernel_rfl) (by kernel_rfl) (fun _ _ _ h => h) (Or.inl ⟨by rfl, ?_⟩) hx1 ?_
    rotate_left
    ·intro wz hz; go_simp; (try with_reducible rfl)
    try simp only [Act.put, pu]
    refine ord_take (i := 19) (v := undef) (by kernel_rfl) rfl (by decide) (by kernel_rfl) (by kernel_rfl) (fun _ _ _ h => h) (Or.inr ⟨by rfl, rfl⟩) hx1 ?_
    try simp only [Act.put, pu]
    refine ord_take (i := 20) (v := undef) (by kernel_rfl) rfl (by decide) (by kernel_rfl) (by kernel_rfl) (fun _ _ _ h => h) (Or.inr ⟨by rfl, rfl⟩) hx1 ?_
    try simp only [Act.put, pu]
    refine ord_take (i := 21) (v := undef) (by kernel_rfl) rfl (by decide) (by kernel_rfl) (by kernel_rfl) (fun _ _ _ h => h) (Or.inr ⟨by rfl, rfl⟩) hx1 ?_
    try simp only [Act.put, pu]
    refine ord_take (i := 22) (v := undef) (by kernel_rfl) rfl (by decide) (by kernel_rfl) (by kernel_rfl) (fun _ _ _ h => h) (Or.inr ⟨by rfl, rfl⟩) hx1 ?_
    try simp only [Act.put, pu]
    refine ord_rest (by kernel_rfl) ?_
    refine wpAny_take (i := 23) (v := ?_) rfl (by kernel_rfl) (by kernel_rfl) (by kernel_rfl) (fun _ _ _ h => h) (Or.inl ⟨by rfl, ?_⟩) ?_
    rotate_left
    ·intro wz; go_simp; (try with_reducible rfl)
    try simp only [Act.put, pu]
    refine wpAny_done (by kernel_rfl) ?_ _
    refine NoPanic.normal ?_
    have HB := Lib.hid (bltB hB1.out hB1.out.size hx1)
    clear hx1
    go_wp2_with fail
    go_ret
    exact ⟨by rw [HF.out]; rfl, by rw [← HGG.out] at *; exact HB.out⟩
   ·have hs := edge_spec hed
    obtain ⟨fn, rfl⟩ := Int.eq_ofNat_of_zero_le hs.1.1
    obtain ⟨tn, rfl⟩ := Int.eq_ofNat_of_zero_le hs.2.1.1
    have hfn : fn < 12 := by have := hs.1.2; dsimp only at this; omega
    have htn : tn < 12 := by have := hs.2.1.2; dsimp only at this; omega
    clear hs
    have hti : (tn : Int) < 12 := by omega
    have hfi : (fn : Int) < 12 := by omega
    have HST := Lib.hid (been_step (l.take i) ⟨fn, tn, ch, r, p0, p1, p2, p3, p4⟩ rfl rfl hfn htn)
    rw [← HT.out] at HST
    rcases i with _ | k
    ·have HZ : Hid (∀ j, j < 0 + 1 → wayAt l j = true) := Lib.hid (fun j hj => by
      obtain rfl : j = 0 := by omega
      rw [way_zero, HE.out, hed])
     have HBZ : Hid (beenB (l.take 0) tn = false) := Lib.hid rfl
     refine wp_region_noPanic ?_
     refine ord_begin 23 (fun wx => Below W1.heap.size W1 wx) (by kernel_rfl) ?_
     have hx0 : Below W1.heap.size W1 W1.drew := (Below.refl _ _).drew
     refine ord_take (i := 0) (v := ?_) (by kernel_rfl) rfl (by decide) (by kernel_rfl) (by kernel_rfl) (fun _ _ _ h => h) (Or.inl ⟨by rfl, ?_⟩) hx0 ?_
     rotate_left
     ·intro wz hz; have j4 := k4.below hz k4.lt; have q0 := j4.cell 0; have q1 := j4.cell 1; have q2 := j4.cell 2; have q3 := j4.cell 3; have q4 := j4.cell 4; have q5 := j4.cell 5; have q6 := j4.cell 6; have q7 := j4.cell 7; have q8 := j4.cell 8; go_simp; (try with_reducible rfl)
     try simp only [Act.put, pu]
     refine ord_step (i := 1) rfl (by decide) (by kernel_rfl) (by rfl) (fun K hK => ?_)
     go_simp
     refine (edge_any ⟨fn, tn, ch, r, p0, p1, p2, p3, p4⟩ _).mono ?_
     rintro y Xb_1 ⟨rfl, hb⟩
     rw [hed]
     have hx1 := bltB hx0 hx0.size hb
     clear hb hx0
     refine hK _ _ hx1 ?_
     clear hK K
     try simp only [Act.put, pu]
     refine ord_take (i := 2) (v := ?_) (by kernel_rfl) rfl (by decide) (by kernel_rfl) (by kernel_rfl) (fun _ _ _ h => h) (Or.inl ⟨by rfl, ?_⟩) hx1 ?_
     rotate_left
     ·intro wz hz; go_simp; (try with_reducible rfl)
     try simp only [Act.put, pu]
     refine ord_take (i := 3) (v := ?_) (by kernel_rfl) rfl (by decide) (by kernel_rfl) (by kernel_rfl) (fun _ _ _ h => h) (Or.inl ⟨by rfl, ?_⟩) hx1 ?_
     rotate_left
     ·intro wz hz; go_simp; (try with_reducible rfl)
     try simp only [Act.put, pu]
     refine ord_take (i := 4) (v := ?_) (by kernel_rfl) rfl (by decide) (by kernel_rfl) (by kernel_rfl) (fun _ _ _ h => h) (Or.inl ⟨by rfl, ?_⟩) hx1 ?_
     rotate_left
     ·intro wz hz; go_simp; (try with_reducible rfl)
     try simp only [Act.put, pu]
     refine ord_take (i := 5) (v := ?_) (by kernel_rfl) rfl (by decide) (by kernel_rfl) (by kernel_rfl) (fun _ _ _ h => h) (Or.inl ⟨by rfl, ?_⟩) hx1 ?_
     rotate_left
     ·intro wz hz; go_simp; (try with_reducible rfl)
     try simp only [Act.put, pu]
     refine ord_take (i := 6) (v := ?_) (by kernel_rfl) rfl (by decide) (by kernel_rfl) (by kernel_rfl) (fun _ _ _ h => h) (Or.inl ⟨by rfl, ?_⟩) hx1 ?_
     rotate_left
     ·intro wz hz; go_simp; (try with_reducible rfl)
     try simp only [Act.put, pu]
     refine ord_take (i := 7) (v := undef) (by kernel_rfl) rfl (by decide) (by kernel_rfl) (by kernel_rfl) (fun _ _ _ h => h) (Or.inr ⟨by rfl, rfl⟩) hx1 ?_
     try simp only [Act.put, pu]
     refine ord_take (i := 8) (v := undef) (by kernel_rfl) rfl (by decide) (by kernel_rfl) (by kernel_rfl) (fun _ _ _ h => h) (Or.inr ⟨by rfl, rfl⟩) hx1 ?_
     try simp only [Act.put, pu]
     refine ord_take (i := 9) (v := undef) (by kernel_rfl) rfl (by decide) (by kernel_rfl) (by kernel_rfl) (fun _ _ _ h => h) (Or.inr ⟨by rfl, rfl⟩) hx1 ?_
     try simp only [Act.put, pu]
     refine ord_take (i := 10) (v := undef) (by kernel_rfl) rfl (by decide) (by kernel_rfl) (by kernel_rfl) (fun _ _ _ h => h) (Or.inr ⟨by rfl, rfl⟩) hx1 ?_
     try simp only [Act.put, pu]
     refine ord_take (i := 11) (v := undef) (by kernel_rfl) rfl (by decide) (by kernel_rfl) (by kernel_rfl) (fun _ _ _ h => h) (Or.inr ⟨by rfl, rfl⟩) hx1 ?_
     try simp only [Act.put, pu]
     refine ord_take (i := 12) (v := undef) (by kernel_rfl) rfl (by decide) (by kernel_rfl) (by kernel_rfl) (fun _ _ _ h => h) (Or.inr ⟨by rfl, rfl⟩) hx1 ?_
     try simp only [Act.put, pu]
     refine ord_take (i := 13) (v := undef) (by kernel_rfl) rfl (by decide) (by kernel_rfl) (by kernel_rfl) (fun _ _ _ h => h) (Or.inr ⟨by rfl, rfl⟩) hx1 ?_
     try simp only [Act.put, pu]
     refine ord_take (i := 14) (v := undef) (by kernel_rfl) rfl (by decide) (by kernel_rfl) (by kernel_rfl) (fun _ _ _ h => h) (Or.inr ⟨by rfl, rfl⟩) hx1 ?_
     try simp only [Act.put, pu]
     refine ord_take (i := 15) (v := undef) (by kernel_rfl) rfl (by decide) (by kernel_rfl) (by kernel_rfl) (fun _ _ _ h => h) (Or.inr ⟨by rfl, rfl⟩) hx1 ?_
     try simp only [Act.put, pu]
     refine ord_take (i := 16) (v := ?_) (by kernel_rfl) rfl (by decide) (by kernel_rfl) (by kernel_rfl) (fun _ _ _ h => h) (Or.inl ⟨by rfl, ?_⟩) hx1 ?_
     rotate_left
     ·intro wz hz; go_simp; (try with_reducible rfl)
     try simp only [Act.put, pu]
     refine ord_take (i := 17) (v := ?_) (by kernel_rfl) rfl (by decide) (by kernel_rfl) (by kernel_rfl) (fun _ _ _ h => h) (Or.inl ⟨by rfl, ?_⟩) hx1 ?_
     rotate_left
     ·intro wz hz; go_simp; (try with_reducible rfl)
     try simp only [Act.put, pu]
     refine ord_take (i := 18) (v := ?_) (by kernel_rfl) rfl (by decide) (by kernel_rfl) (by kernel_rfl) (fun _ _ _ h => h) (Or.inl ⟨by rfl, ?_⟩) hx1 ?_
     rotate_left
     ·intro wz hz; go_simp; (try with_reducible rfl)
     try simp only [Act.put, pu]
     refine ord_take (i := 19) (v := ?_) (by kernel_rfl) rfl (by decide) (by kernel_rfl) (by kernel_rfl) (fun _ _ _ h => h) (Or.inl ⟨by rfl, ?_⟩) hx1 ?_
     rotate_left
     ·intro wz hz; go_simp; (try with_reducible rfl)
     try simp only [Act.put, pu]
     refine ord_take (i := 20) (v := ?_) (by kernel_rfl) rfl (by decide) (by kernel_rfl) (by kernel_rfl) (fun _ _ _ h => h) (Or.inl ⟨by rfl, ?_⟩) hx1 ?_
     rotate_left
     ·intro wz hz; have j4 := k4.below hz k4.lt; have q0 := j4.cell 0; have q1 := j4.cell 1; have q2 := j4.cell 2; have q3 := j4.cell 3; have q4 := j4.cell 4; have q5 := j4.cell 5; have q6 := j4.cell 6; have q7 := j4.cell 7; have q8 := j4.cell 8; go_simp; (try with_reducible rfl)
     try simp only [Act.put, pu]
     refine ord_take (i := 21) (v := ?_) (by kernel_rfl) rfl (by decide) (by kernel_rfl) (by kernel_rfl) (fun _ _ _ h => h) (Or.inl ⟨by rfl, ?_⟩) hx1 ?_
     rotate_left
     ·intro wz hz; go_simp; (try with_reducible rfl)
     try simp only [Act.put, pu]
     refine ord_take (i := 22) (v := ?_) (by kernel_rfl) rfl (by decide) (by kernel_rfl) (by kernel_rfl) (fun _ _ _ h => h) (Or.inl ⟨by rfl, ?_⟩) hx1 ?_
     rotate_left
     ·intro wz hz; have j3 := k3.below hz k3.lt; have qb := (j3.cell tn).trans ((been_at _ htn).trans (congrArg (fun b => some (Value.bool b)) HBZ.out)); go_simp; (try with_reducible rfl)
     try simp only [Act.put, pu]
     refine ord_rest (by kernel_rfl) ?_
     refine wpAny_take (i := 23) (v := ?_) rfl (by kernel_rfl) (by kernel_rfl) (by kernel_rfl) (fun _ _ _ h => h) (Or.inl ⟨by rfl, ?_⟩) ?_
     rotate_left
     ·intro wz; go_simp; (try with_reducible rfl)
     try simp only [Act.put, pu]
     refine wpAny_done (by kernel_rfl) ?_ _
     refine NoPanic.normal ?_
     have HB := Lib.hid (bltB hB1.out hB1.out.size hx1).drew
     replace k4 := (k4.below hx1 k4.lt).drew
     replace k3 := (k3.below hx1 k3.lt).drew
     clear hx1
     go_wp2_with fail
     skip
     refine wp_region_noPanic ?_
     refine ord_begin 7 (fun wx : World => wx.cell? ⟨G, 0, none⟩ = some (.int .i64 (fn : Int)) ∧ wx.cell? ⟨G, 1, none⟩ = some (.int .i64 (tn : Int))) (by kernel_rfl) ?_
     obtain ⟨Y, hY⟩ : ∃ Y, Xb_1.drew = Y := ⟨_, rfl⟩
     rw [hY] at HB k3 k4 ⊢
     clear hY
     have hS0 : Y.cell? ⟨G, 0, none⟩ = some (.int .i64 (fn : Int)) ∧ Y.cell? ⟨G, 1, none⟩ = some (.int .i64 (tn : Int)) := ⟨k4.cell 0, k4.cell 1⟩
     have c5 := (k3.cell fn).trans (been_at _ hfn)
     have f5 := k3.frozen fn
     refine ord_take (i := 0) (v := ?_) (by kernel_rfl) rfl (by decide) (by kernel_rfl) (by kernel_rfl) (fun _ _ _ h => h) (Or.inl ⟨by rfl, ?_⟩) hS0 ?_
     rotate_left
     ·intro wz hz; (try dsimp only at hz); (try go_split_ands); go_simp; (try with_reducible rfl)
     try simp only [Act.put, pu]
     refine ord_take (i := 1) (v := ?_) (by kernel_rfl) rfl (by decide) (by kernel_rfl) (by kernel_rfl) (fun _ _ _ h => h) (Or.inl ⟨by rfl, ?_⟩) hS0 ?_
     rotate_left
     ·intro wz hz; (try dsimp only at hz); (try go_split_ands); go_simp; (try with_reducible rfl)
     try simp only [Act.put, pu]
     refine ord_take (i := 2) (v := ?_) (by kernel_rfl) rfl (by decide) (by kernel_rfl) (by kernel_rfl) (fun _ _ _ h => h) (Or.inl ⟨by rfl, ?_⟩) hS0 ?_
     rotate_left
     ·intro wz hz; (try dsimp only at hz); (try go_split_ands); go_simp; (try with_reducible rfl)
     try simp only [Act.put, pu]
     refine ord_take (i := 3) (v := ?_) (by kernel_rfl) rfl (by decide) (by kernel_rfl) (by kernel_rfl) (fun _ _ _ h => h) (Or.inl ⟨by rfl, ?_⟩) hS0 ?_
     rotate_left
     ·intro wz hz; (try dsimp only at hz); (try go_split_ands); go_simp; (try with_reducible rfl)
     try simp only [Act.put, pu]
     refine ord_take (i := 4) (v := ?_) (by kernel_rfl) rfl (by decide) (by kernel_rfl) (by kernel_rfl) (fun _ _ _ h => h) (Or.inl ⟨by rfl, ?_⟩) hS0 ?_
     rotate_left
     ·intro wz hz; (try dsimp only at hz); (try go_split_ands); go_simp; (try with_reducible rfl)
     try simp only [Act.put, pu]
     refine ord_step (i := 5) rfl (by decide) (by kernel_rfl) (by rfl) (fun K hK => ?_)
     go_simp
     replace k3 := k3.set_ fn (.bool true)
     replace k4 := k4.far (p := ⟨G3, fn, none⟩) (by show G ≠ G3; omega) (.bool true)
     replace HB := Lib.hid (HB.out.setCell (p := ⟨G3, fn, none⟩) (by show w.heap.size ≤ G3; rw [HGG.out]; exact Nat.le_refl _) (.bool true))
     generalize Y.setCell ⟨G3, fn, none⟩ (.bool true) = Y2 at HB k3 k4 ⊢
     clear hS0 c5 f5
     have hS1 : Y2.cell? ⟨G, 0, none⟩ = some (.int .i64 (fn : Int)) ∧ Y2.cell? ⟨G, 1, none⟩ = some (.int .i64 (tn : Int)) := ⟨k4.cell 0, k4.cell 1⟩
     refine hK _ _ hS1 ?_
     clear hK K
     try simp only [Act.put, pu]
     refine ord_take (i := 6) (v := ?_) (by kernel_rfl) rfl (by decide) (by kernel_rfl) (by kernel_rfl) (fun _ _ _ h => h) (Or.inl ⟨by rfl, ?_⟩) hS1 ?_
     rotate_left
     ·intro wz hz; (try dsimp only at hz); (try go_split_ands); go_simp; (try with_reducible rfl)
     try simp only [Act.put, pu]
     refine ord_rest (by kernel_rfl) ?_
     have hsz : tn < ((beenA (l.take 0)).setIfInBounds fn (.bool true)).size := by rw [Array.size_setIfInBounds, been_size]; exact htn
     have c7 := (k3.cell tn).trans (Array.getElem?_eq_getElem hsz)
     have f7 := k3.frozen tn
     refine any_step (i := 7) rfl (by kernel_rfl) (by rfl) (fun K hK => ?_)
     go_simp
     replace k3 := k3.set_ tn (.bool true)
     rw [HST.out] at k3
     replace HB := Lib.hid (HB.out.setCell (p := ⟨G3, tn, none⟩) (by show w.heap.size ≤ G3; rw [HGG.out]; exact Nat.le_refl _) (.bool true))
     generalize Y2.setCell ⟨G3, tn, none⟩ (.bool true) = Y3 at HB k3 ⊢
     clear c7 f7 hsz k4 hS1
     refine hK _ _ ?_
     clear hK K
     try simp only [Act.put, pu]
     refine wpAny_done (by kernel_rfl) ?_ _
     refine NoPanic.normal ?_
     go_wp2_with fail
     rw [← HGG.out] at k3 ⊢
     go_roundw
     case rel => exact ⟨0 + 1, by omega, by go_num, HZ, k3, HB.out⟩
     case measure => first | (simp [intOf]; done) | (simp [intOf]; omega)
    ·obtain ⟨d, hbd, hxd, hatd, d0, d1, d2, d3, d4, d5, d6, d7, d8⟩ := (HL.out.on hB1.out).edge_at (show k < n by omega)
     have HD := Lib.hid hatd
     have HRT := Lib.hid (way_one l k (tn := tn) (by rw [HE.out]))
     rw [HE.out, HD.out, hed, Bool.true_and] at HRT
     obtain ⟨t', ht'⟩ : ∃ z, d.t = z := ⟨_, rfl⟩
     rw [ht'] at d1 HRT
     clear hxd hatd hbd d0 d2 d3 d4 d5 d6 d7 d8 ht' HD
     dsimp only at HRT
     have hw1 : IntKind.i64.wrap (k : Int) = (k : Int) := IntWalk.i64_in _ (by omega)
     have hkn : k < n := by omega
     have hg0 : (0 : Int) < ((k + 1 : Nat) : Int) := by omega
     obtain ⟨bz, hbz⟩ : ∃ z, beenB (l.take (k + 1)) tn = z := ⟨_, rfl⟩
     have HBZ := Lib.hid hbz
     rw [hbz] at HRT
     clear hbz
     by_cases hft : t' = (fn : Int)
     ·rw [decide_eq_true hft, Bool.true_and] at HRT
      have g1 : (t' != (fn : Int)) = false := by simpa using hft
      have g2 : (t' == (fn : Int)) = true := by simpa using hft
      clear hft
      rcases bz with _ | _
      ·have HZ : Hid (∀ j, j < k + 1 + 1 → wayAt l j = true) := Lib.hid (fun j hj => by
        rcases Nat.lt_or_ge j (k + 1) with h | h
        ·exact HA.out j h
        ·obtain rfl : j = k + 1 := by omega
         rw [HRT.out]; rfl)
       clear HRT
       refine wp_region_noPanic ?_
       refine ord_begin 23 (fun wx => Below W1.heap.size W1 wx) (by kernel_rfl) ?_
       have hx0 : Below W1.heap.size W1 W1.drew := (Below.refl _ _).drew
       refine ord_take (i := 0) (v := ?_) (by kernel_rfl) rfl (by decide) (by kernel_rfl) (by kernel_rfl) (fun _ _ _ h => h) (Or.inl ⟨by rfl, ?_⟩) hx0 ?_
       rotate_left
       ·intro wz hz; have j4 := k4.below hz k4.lt; have q0 := j4.cell 0; have q1 := j4.cell 1; have q2 := j4.cell 2; have q3 := j4.cell 3; have q4 := j4.cell 4; have q5 := j4.cell 5; have q6 := j4.cell 6; have q7 := j4.cell 7; have q8 := j4.cell 8; go_simp; (try with_reducible rfl)
       try simp only [Act.put, pu]
       refine ord_step (i := 1) rfl (by decide) (by kernel_rfl) (by rfl) (fun K hK => ?_)
       go_simp
       refine (edge_any ⟨fn, tn, ch, r, p0, p1, p2, p3, p4⟩ _).mono ?_
       rintro y Xe_1 ⟨rfl, hb⟩
       rw [hed]
       have hx1 := bltB hx0 hx0.size hb
       clear hb hx0
       refine hK _ _ hx1 ?_
       clear hK K
       try simp only [Act.put, pu]
       refine ord_take (i := 2) (v := ?_) (by kernel_rfl) rfl (by decide) (by kernel_rfl) (by kernel_rfl) (fun _ _ _ h => h) (Or.inl ⟨by rfl, ?_⟩) hx1 ?_
       rotate_left
       ·intro wz hz; go_simp; (try with_reducible rfl)
       try simp only [Act.put, pu]
       refine ord_take (i := 3) (v := ?_) (by kernel_rfl) rfl (by decide) (by kernel_rfl) (by kernel_rfl) (fun _ _ _ h => h) (Or.inl ⟨by rfl, ?_⟩) hx1 ?_
       rotate_left
       ·intro wz hz; go_simp; (try with_reducible rfl)
       try simp only [Act.put, pu]
       refine ord_take (i := 4) (v := ?_) (by kernel_rfl) rfl (by decide) (by kernel_rfl) (by kernel_rfl) (fun _ _ _ h => h) (Or.inl ⟨by rfl, ?_⟩) hx1 ?_
       rotate_left
       ·intro wz hz; go_simp; (try with_reducible rfl)
       try simp only [Act.put, pu]
       refine ord_take (i := 5) (v := ?_) (by kernel_rfl) rfl (by decide) (by kernel_rfl) (by kernel_rfl) (fun _ _ _ h => h) (Or.inl ⟨by rfl, ?_⟩) hx1 ?_
       rotate_left
       ·intro wz hz; go_simp; (try with_reducible rfl)
       try simp only [Act.put, pu]
       refine ord_take (i := 6) (v := ?_) (by kernel_rfl) rfl (by decide) (by kernel_rfl) (by kernel_rfl) (fun _ _ _ h => h) (Or.inl ⟨by rfl, ?_⟩) hx1 ?_
       rotate_left
       ·intro wz hz; go_simp; (try with_reducible rfl)
       try simp only [Act.put, pu]
       refine ord_take (i := 7) (v := ?_) (by kernel_rfl) rfl (by decide) (by kernel_rfl) (by kernel_rfl) (fun _ _ _ h => h) (Or.inl ⟨by rfl, ?_⟩) hx1 ?_
       rotate_left
       ·intro wz hz; go_simp; (try with_reducible rfl)
       try simp only [Act.put, pu]
       refine ord_take (i := 8) (v := ?_) (by kernel_rfl) rfl (by decide) (by kernel_rfl) (by kernel_rfl) (fun _ _ _ h => h) (Or.inl ⟨by rfl, ?_⟩) hx1 ?_
       rotate_left
       ·intro wz hz; go_simp; (try with_reducible rfl)
       try simp only [Act.put, pu]
       refine ord_take (i := 9) (v := ?_) (by kernel_rfl) rfl (by decide) (by kernel_rfl) (by kernel_rfl) (fun _ _ _ h => h) (Or.inl ⟨by rfl, ?_⟩) hx1 ?_
       rotate_left
       ·intro wz hz; go_simp; (try with_reducible rfl)
       try simp only [Act.put, pu]
       refine ord_take (i := 10) (v := ?_) (by kernel_rfl) rfl (by decide) (by kernel_rfl) (by kernel_rfl) (fun _ _ _ h => h) (Or.inl ⟨by rfl, ?_⟩) hx1 ?_
       rotate_left
       ·intro wz hz; go_simp; (try with_reducible rfl)
       try simp only [Act.put, pu]
       refine ord_take (i := 11) (v := ?_) (by kernel_rfl) rfl (by decide) (by kernel_rfl) (by kernel_rfl) (fun _ _ _ h => h) (Or.inl ⟨by rfl, ?_⟩) hx1 ?_
       rotate_left
       ·intro wz hz; go_simp; (try with_reducible rfl)
       try simp only [Act.put, pu]
       refine ord_take (i := 12) (v := ?_) (by kernel_rfl) rfl (by decide) (by kernel_rfl) (by kernel_rfl) (fun _ _ _ h => h) (Or.inl ⟨by rfl, ?_⟩) hx1 ?_
       rotate_left
       ·intro wz hz; have dq1 := (hz.cell (p := ⟨b, _, none⟩) hbW).trans d1; go_simp; (try with_reducible rfl)
       try simp only [Act.put, pu]
       refine ord_take (i := 13) (v := ?_) (by kernel_rfl) rfl (by decide) (by kernel_rfl) (by kernel_rfl) (fun _ _ _ h => h) (Or.inl ⟨by rfl, ?_⟩) hx1 ?_
       rotate_left
       ·intro wz hz; go_simp; (try with_reducible rfl)
       try simp only [Act.put, pu]
       refine ord_take (i := 14) (v := ?_) (by kernel_rfl) rfl (by decide) (by kernel_rfl) (by kernel_rfl) (fun _ _ _ h => h) (Or.inl ⟨by rfl, ?_⟩) hx1 ?_
       rotate_left
       ·intro wz hz; have j4 := k4.below hz k4.lt; have q0 := j4.cell 0; have q1 := j4.cell 1; have q2 := j4.cell 2; have q3 := j4.cell 3; have q4 := j4.cell 4; have q5 := j4.cell 5; have q6 := j4.cell 6; have q7 := j4.cell 7; have q8 := j4.cell 8; go_simp; (try with_reducible rfl)
       try simp only [Act.put, pu]
       refine ord_take (i := 15) (v := ?_) (by kernel_rfl) rfl (by decide) (by kernel_rfl) (by kernel_rfl) (fun _ _ _ h => h) (Or.inl ⟨by rfl, ?_⟩) hx1 ?_
       rotate_left
       ·intro wz hz; go_simp; (try with_reducible rfl)
       try simp only [Act.put, pu]
       refine ord_take (i := 16) (v := ?_) (by kernel_rfl) rfl (by decide) (by kernel_rfl) (by kernel_rfl) (fun _ _ _ h => h) (Or.inl ⟨by rfl, ?_⟩) hx1 ?_
       rotate_left
       ·intro wz hz; go_simp; (try with_reducible rfl)
       try simp only [Act.put, pu]
       refine ord_take (i := 17) (v := ?_) (by kernel_rfl) rfl (by decide) (by kernel_rfl) (by kernel_rfl) (fun _ _ _ h => h) (Or.inl ⟨by rfl, ?_⟩) hx1 ?_
       rotate_left
       ·intro wz hz; go_simp; (try with_reducible rfl)
       try simp only [Act.put, pu]
       refine ord_take (i := 18) (v := ?_) (by kernel_rfl) rfl (by decide) (by kernel_rfl) (by kernel_rfl) (fun _ _ _ h => h) (Or.inl ⟨by rfl, ?_⟩) hx1 ?_
       rotate_left
       ·intro wz hz; go_simp; (try with_reducible rfl)
       try simp only [Act.put, pu]
       refine ord_take (i := 19) (v := ?_) (by kernel_rfl) rfl (by decide) (by kernel_rfl) (by kernel_rfl) (fun _ _ _ h => h) (Or.inl ⟨by rfl, ?_⟩) hx1 ?_
       rotate_left
       ·intro wz hz; go_simp; (try with_reducible rfl)
       try simp only [Act.put, pu]
       refine ord_take (i := 20) (v := ?_) (by kernel_rfl) rfl (by decide) (by kernel_rfl) (by kernel_rfl) (fun _ _ _ h => h) (Or.inl ⟨by rfl, ?_⟩) hx1 ?_
       rotate_left
       ·intro wz hz; have j4 := k4.below hz k4.lt; have q0 := j4.cell 0; have q1 := j4.cell 1; have q2 := j4.cell 2; have q3 := j4.cell 3; have q4 := j4.cell 4; have q5 := j4.cell 5; have q6 := j4.cell 6; have q7 := j4.cell 7; have q8 := j4.cell 8; go_simp; (try with_reducible rfl)
       try simp only [Act.put, pu]
       refine ord_take (i := 21) (v := ?_) (by kernel_rfl) rfl (by decide) (by kernel_rfl) (by kernel_rfl) (fun _ _ _ h => h) (Or.inl ⟨by rfl, ?_⟩) hx1 ?_
       rotate_left
       ·intro wz hz; go_simp; (try with_reducible rfl)
       try simp only [Act.put, pu]
       refine ord_take (i := 22) (v := ?_) (by kernel_rfl) rfl (by decide) (by kernel_rfl) (by kernel_rfl) (fun _ _ _ h => h) (Or.inl ⟨by rfl, ?_⟩) hx1 ?_
       rotate_left
       ·intro wz hz; have j3 := k3.below hz k3.lt; have qb := (j3.cell tn).trans ((been_at _ htn).trans (congrArg (fun b => some (Value.bool b)) HBZ.out)); go_simp; (try with_reducible rfl)
       try simp only [Act.put, pu]
       refine ord_rest (by kernel_rfl) ?_
       refine wpAny_take (i := 23) (v := ?_) rfl (by kernel_rfl) (by kernel_rfl) (by kernel_rfl) (fun _ _ _ h => h) (Or.inl ⟨by rfl, ?_⟩) ?_
       rotate_left
       ·intro wz; go_simp; (try with_reducible rfl)
       try simp only [Act.put, pu]
       refine wpAny_done (by kernel_rfl) ?_ _
       refine NoPanic.normal ?_
       have HB := Lib.hid (bltB hB1.out hB1.out.size hx1).drew
       replace k4 := (k4.below hx1 k4.lt).drew
       replace k3 := (k3.below hx1 k3.lt).drew
       clear hx1
       go_wp2_with fail
       skip
       refine wp_region_noPanic ?_
       refine ord_begin 7 (fun wx : World => wx.cell? ⟨G, 0, none⟩ = some (.int .i64 (fn : Int)) ∧ wx.cell? ⟨G, 1, none⟩ = some (.int .i64 (tn : Int))) (by kernel_rfl) ?_
       obtain ⟨Y, hY⟩ : ∃ Y, Xe_1.drew = Y := ⟨_, rfl⟩
       rw [hY] at HB k3 k4 ⊢
       clear hY
       have hS0 : Y.cell? ⟨G, 0, none⟩ = some (.int .i64 (fn : Int)) ∧ Y.cell? ⟨G, 1, none⟩ = some (.int .i64 (tn : Int)) := ⟨k4.cell 0, k4.cell 1⟩
       have c5 := (k3.cell fn).trans (been_at _ hfn)
       have f5 := k3.frozen fn
       refine ord_take (i := 0) (v := ?_) (by kernel_rfl) rfl (by decide) (by kernel_rfl) (by kernel_rfl) (fun _ _ _ h => h) (Or.inl ⟨by rfl, ?_⟩) hS0 ?_
       rotate_left
       ·intro wz hz; (try dsimp only at hz); (try go_split_ands); go_simp; (try with_reducible rfl)
       try simp only [Act.put, pu]
       refine ord_take (i := 1) (v := ?_) (by kernel_rfl) rfl (by decide) (by kernel_rfl) (by kernel_rfl) (fun _ _ _ h => h) (Or.inl ⟨by rfl, ?_⟩) hS0 ?_
       rotate_left
       ·intro wz hz; (try dsimp only at hz); (try go_split_ands); go_simp; (try with_reducible rfl)
       try simp only [Act.put, pu]
       refine ord_take (i := 2) (v := ?_) (by kernel_rfl) rfl (by decide) (by kernel_rfl) (by kernel_rfl) (fun _ _ _ h => h) (Or.inl ⟨by rfl, ?_⟩) hS0 ?_
       rotate_left
       ·intro wz hz; (try dsimp only at hz); (try go_split_ands); go_simp; (try with_reducible rfl)
       try simp only [Act.put, pu]
       refine ord_take (i := 3) (v := ?_) (by kernel_rfl) rfl (by decide) (by kernel_rfl) (by kernel_rfl) (fun _ _ _ h => h) (Or.inl ⟨by rfl, ?_⟩) hS0 ?_
       rotate_left
       ·intro wz hz; (try dsimp only at hz); (try go_split_ands); go_simp; (try with_reducible rfl)
       try simp only [Act.put, pu]
       refine ord_take (i := 4) (v := ?_) (by kernel_rfl) rfl (by decide) (by kernel_rfl) (by kernel_rfl) (fun _ _ _ h => h) (Or.inl ⟨by rfl, ?_⟩) hS0 ?_
       rotate_left
       ·intro wz hz; (try dsimp only at hz); (try go_split_ands); go_simp; (try with_reducible rfl)
       try simp only [Act.put, pu]
       refine ord_step (i := 5) rfl (by decide) (by kernel_rfl) (by rfl) (fun K hK => ?_)
       go_simp
       replace k3 := k3.set_ fn (.bool true)
       replace k4 := k4.far (p := ⟨G3, fn, none⟩) (by show G ≠ G3; omega) (.bool true)
       replace HB := Lib.hid (HB.out.setCell (p := ⟨G3, fn, none⟩) (by show w.heap.size ≤ G3; rw [HGG.out]; exact Nat.le_refl _) (.bool true))
       generalize Y.setCell ⟨G3, fn, none⟩ (.bool true) = Y2 at HB k3 k4 ⊢
       clear hS0 c5 f5
       have hS1 : Y2.cell? ⟨G, 0, none⟩ = some (.int .i64 (fn : Int)) ∧ Y2.cell? ⟨G, 1, none⟩ = some (.int .i64 (tn : Int)) := ⟨k4.cell 0, k4.cell 1⟩
       refine hK _ _ hS1 ?_
       clear hK K
       try simp only [Act.put, pu]
       refine ord_take (i := 6) (v := ?_) (by kernel_rfl) rfl (by decide) (by kernel_rfl) (by kernel_rfl) (fun _ _ _ h => h) (Or.inl ⟨by rfl, ?_⟩) hS1 ?_
       rotate_left
       ·intro wz hz; (try dsimp only at hz); (try go_split_ands); go_simp; (try with_reducible rfl)
       try simp only [Act.put, pu]
       refine ord_rest (by kernel_rfl) ?_
       have hsz : tn < ((beenA (l.take (k + 1))).setIfInBounds fn (.bool true)).size := by rw [Array.size_setIfInBounds, been_size]; exact htn
       have c7 := (k3.cell tn).trans (Array.getElem?_eq_getElem hsz)
       have f7 := k3.frozen tn
       refine any_step (i := 7) rfl (by kernel_rfl) (by rfl) (fun K hK => ?_)
       go_simp
       replace k3 := k3.set_ tn (.bool true)
       rw [HST.out] at k3
       replace HB := Lib.hid (HB.out.setCell (p := ⟨G3, tn, none⟩) (by show w.heap.size ≤ G3; rw [HGG.out]; exact Nat.le_refl _) (.bool true))
       generalize Y2.setCell ⟨G3, tn, none⟩ (.bool true) = Y3 at HB k3 ⊢
       clear c7 f7 hsz k4 hS1
       refine hK _ _ ?_
       clear hK K
       try simp only [Act.put, pu]
       refine wpAny_done (by kernel_rfl) ?_ _
       refine NoPanic.normal ?_
       go_wp2_with fail
       rw [← HGG.out] at k3 ⊢
       go_roundw
       case rel => exact ⟨(k + 1) + 1, by omega, by go_num, HZ, k3, HB.out⟩
       case measure => first | (simp [intOf]; done) | (simp [intOf]; omega)
      ·have HF : Hid (wayB l = false) := Lib.hid (wayB_no HJ.out (by rw [HRT.out]; simp))
       clear HRT
       refine wp_region_noPanic ?_
       refine ord_begin 23 (fun wx => Below W1.heap.size W1 wx) (by kernel_rfl) ?_
       have hx0 : Below W1.heap.size W1 W1.drew := (Below.refl _ _).drew
       refine ord_take (i := 0) (v := ?_) (by kernel_rfl) rfl (by decide) (by kernel_rfl) (by kernel_rfl) (fun _ _ _ h => h) (Or.inl ⟨by rfl, ?_⟩) hx0 ?_
       rotate_left
       ·intro wz hz; have j4 := k4.below hz k4.lt; have q0 := j4.cell 0; have q1 := j4.cell 1; have q2 := j4.cell 2; have q3 := j4.cell 3; have q4 := j4.cell 4; have q5 := j4.cell 5; have q6 := j4.cell 6; have q7 := j4.cell 7; have q8 := j4.cell 8; go_simp; (try with_reducible rfl)
       try simp only [Act.put, pu]
       refine ord_step (i := 1) rfl (by decide) (by kernel_rfl) (by rfl) (fun K hK => ?_)
       go_simp
       refine (edge_any ⟨fn, tn, ch, r, p0, p1, p2, p3, p4⟩ _).mono ?_
       rintro y Xd_1 ⟨rfl, hb⟩
       rw [hed]
       have hx1 := bltB hx0 hx0.size hb
       clear hb hx0
       refine hK _ _ hx1 ?_
       clear hK K
       try simp only [Act.put, pu]
       refine ord_take (i := 2) (v := ?_) (by kernel_rfl) rfl (by decide) (by kernel_rfl) (by kernel_rfl) (fun _ _ _ h => h) (Or.inl ⟨by rfl, ?_⟩) hx1 ?_
       rotate_left
       ·intro wz hz; go_simp; (try with_reducible rfl)
       try simp only [Act.put, pu]
       refine ord_take (i := 3) (v := ?_) (by kernel_rfl) rfl (by decide) (by kernel_rfl) (by kernel_rfl) (fun _ _ _ h => h) (Or.inl ⟨by rfl, ?_⟩) hx1 ?_
       rotate_left
       ·intro wz hz; go_simp; (try with_reducible rfl)
       try simp only [Act.put, pu]
       refine ord_take (i := 4) (v := ?_) (by kernel_rfl) rfl (by decide) (by kernel_rfl) (by kernel_rfl) (fun _ _ _ h => h) (Or.inl ⟨by rfl, ?_⟩) hx1 ?_
       rotate_left
       ·intro wz hz; go_simp; (try with_reducible rfl)
       try simp only [Act.put, pu]
       refine ord_take (i := 5) (v := ?_) (by kernel_rfl) rfl (by decide) (by kernel_rfl) (by kernel_rfl) (fun _ _ _ h => h) (Or.inl ⟨by rfl, ?_⟩) hx1 ?_
       rotate_left
       ·intro wz hz; go_simp; (try with_reducible rfl)
       try simp only [Act.put, pu]
       refine ord_take (i := 6) (v := ?_) (by kernel_rfl) rfl (by decide) (by kernel_rfl) (by kernel_rfl) (fun _ _ _ h => h) (Or.inl ⟨by rfl, ?_⟩) hx1 ?_
       rotate_left
       ·intro wz hz; go_simp; (try with_reducible rfl)
       try simp only [Act.put, pu]
       refine ord_take (i := 7) (v := ?_) (by kernel_rfl) rfl (by decide) (by kernel_rfl) (by kernel_rfl) (fun _ _ _ h => h) (Or.inl ⟨by rfl, ?_⟩) hx1 ?_
       rotate_left
       ·intro wz hz; go_simp; (try with_reducible rfl)
       try simp only [Act.put, pu]
       refine ord_take (i := 8) (v := ?_) (by kernel_rfl) rfl (by decide) (by kernel_rfl) (by kernel_rfl) (fun _ _ _ h => h) (Or.inl ⟨by rfl, ?_⟩) hx1 ?_
       rotate_left
       ·intro wz hz; go_simp; (try with_reducible rfl)
       try simp only [Act.put, pu]
       refine ord_take (i := 9) (v := ?_) (by kernel_rfl) rfl (by decide) (by kernel_rfl) (by kernel_rfl) (fun _ _ _ h => h) (Or.inl ⟨by rfl, ?_⟩) hx1 ?_
       rotate_left
       ·intro wz hz; go_simp; (try with_reducible rfl)
       try simp only [Act.put, pu]
       refine ord_take (i := 10) (v := ?_) (by kernel_rfl) rfl (by decide) (by kernel_rfl) (by kernel_rfl) (fun _ _ _ h => h) (Or.inl ⟨by rfl, ?_⟩) hx1 ?_
       rotate_left
       ·intro wz hz; go_simp; (try with_reducible rfl)
       try simp only [Act.put, pu]
       refine ord_take (i := 11) (v := ?_) (by kernel_rfl) rfl (by decide) (by kernel_rfl) (by kernel_rfl) (fun _ _ _ h => h) (Or.inl ⟨by rfl, ?_⟩) hx1 ?_
       rotate_left
       ·intro wz hz; go_simp; (try with_reducible rfl)
       try simp only [Act.put, pu]
       refine ord_take (i := 12) (v := ?_) (by kernel_rfl) rfl (by decide) (by kernel_rfl) (by kernel_rfl) (fun _ _ _ h => h) (Or.inl ⟨by rfl, ?_⟩) hx1 ?_
       rotate_left
       ·intro wz hz; have dq1 := (hz.cell (p := ⟨b, _, none⟩) hbW).trans d1; go_simp; (try with_reducible rfl)
       try simp only [Act.put, pu]
       refine ord_take (i := 13) (v := ?_) (by kernel_rfl) rfl (by decide) (by kernel_rfl) (by kernel_rfl) (fun _ _ _ h => h) (Or.inl ⟨by rfl, ?_⟩) hx1 ?_
       rotate_left
       ·intro wz hz; go_simp; (try with_reducible rfl)
       try simp only [Act.put, pu]
       refine ord_take (i := 14) (v := ?_) (by kernel_rfl) rfl (by decide) (by kernel_rfl) (by kernel_rfl) (fun _ _ _ h => h) (Or.inl ⟨by rfl, ?_⟩) hx1 ?_
       rotate_left
       ·intro wz hz; have j4 := k4.below hz k4.lt; have q0 := j4.cell 0; have q1 := j4.cell 1; have q2 := j4.cell 2; have q3 := j4.cell 3; have q4 := j4.cell 4; have q5 := j4.cell 5; have q6 := j4.cell 6; have q7 := j4.cell 7; have q8 := j4.cell 8; go_simp; (try with_reducible rfl)
       try simp only [Act.put, pu]
       refine ord_take (i := 15) (v := ?_) (by kernel_rfl) rfl (by decide) (by kernel_rfl) (by kernel_rfl) (fun _ _ _ h => h) (Or.inl ⟨by rfl, ?_⟩) hx1 ?_
       rotate_left
       ·intro wz hz; go_simp; (try with_reducible rfl)
       try simp only [Act.put, pu]
       refine ord_take (i := 16) (v := ?_) (by kernel_rfl) rfl (by decide) (by kernel_rfl) (by kernel_rfl) (fun _ _ _ h => h) (Or.inl ⟨by rfl, ?_⟩) hx1 ?_
       rotate_left
       ·intro wz hz; go_simp; (try with_reducible rfl)
       try simp only [Act.put, pu]
       refine ord_take (i := 17) (v := ?_) (by kernel_rfl) rfl (by decide) (by kernel_rfl) (by kernel_rfl) (fun _ _ _ h => h) (Or.inl ⟨by rfl, ?_⟩) hx1 ?_
       rotate_left
       ·intro wz hz; go_simp; (try with_reducible rfl)
       try simp only [Act.put, pu]
       refine ord_take (i := 18) (v := ?_) (by kernel_rfl) rfl (by decide) (by kernel_rfl) (by kernel_rfl) (fun _ _ _ h => h) (Or.inl ⟨by rfl, ?_⟩) hx1 ?_
       rotate_left
       ·intro wz hz; go_simp; (try with_reducible rfl)
       try simp only [Act.put, pu]
       refine ord_take (i := 19) (v := ?_) (by kernel_rfl) rfl (by decide) (by kernel_rfl) (by kernel_rfl) (fun _ _ _ h => h) (Or.inl ⟨by rfl, ?_⟩) hx1 ?_
       rotate_left
       ·intro wz hz; go_simp; (try with_reducible rfl)
       try simp only [Act.put, pu]
       refine ord_take (i := 20) (v := ?_) (by kernel_rfl) rfl (by decide) (by kernel_rfl) (by kernel_rfl) (fun _ _ _ h => h) (Or.inl ⟨by rfl, ?_⟩) hx1 ?_
       rotate_left
       ·intro wz hz; have j4 := k4.below hz k4.lt; have q0 := j4.cell 0; have q1 := j4.cell 1; have q2 := j4.cell 2; have q3 := j4.cell 3; have q4 := j4.cell 4; have q5 := j4.cell 5; have q6 := j4.cell 6; have q7 := j4.cell 7; have q8 := j4.cell 8; go_simp; (try with_reducible rfl)
       try simp only [Act.put, pu]
       refine ord_take (i := 21) (v := ?_) (by kernel_rfl) rfl (by decide) (by kernel_rfl) (by kernel_rfl) (fun _ _ _ h => h) (Or.inl ⟨by rfl, ?_⟩) hx1 ?_
       rotate_left
       ·intro wz hz; go_simp; (try with_reducible rfl)
       try simp only [Act.put, pu]
       refine ord_take (i := 22) (v := ?_) (by kernel_rfl) rfl (by decide) (by kernel_rfl) (by kernel_rfl) (fun _ _ _ h => h) (Or.inl ⟨by rfl, ?_⟩) hx1 ?_
       rotate_left
       ·intro wz hz; have j3 := k3.below hz k3.lt; have qb := (j3.cell tn).trans ((been_at _ htn).trans (congrArg (fun b => some (Value.bool b)) HBZ.out)); go_simp; (try with_reducible rfl)
       try simp only [Act.put, pu]
       refine ord_rest (by kernel_rfl) ?_
       refine wpAny_take (i := 23) (v := ?_) rfl (by kernel_rfl) (by kernel_rfl) (by kernel_rfl) (fun _ _ _ h => h) (Or.inl ⟨by rfl, ?_⟩) ?_
       rotate_left
       ·intro wz; go_simp; (try with_reducible rfl)
       try simp only [Act.put, pu]
       refine wpAny_done (by kernel_rfl) ?_ _
       refine NoPanic.normal ?_
       have HB := Lib.hid (bltB hB1.out hB1.out.size hx1)
       clear hx1
       go_wp2_with fail
       go_ret
       exact ⟨by rw [HF.out]; rfl, by rw [← HGG.out] at *; exact HB.out⟩
     ·have HF : Hid (wayB l = false) := Lib.hid (wayB_no HJ.out (by rw [HRT.out, decide_eq_false hft]; rfl))
      have g1 : (t' != (fn : Int)) = true := by simpa using hft
      have g2 : (t' == (fn : Int)) = false := by simpa using hft
      clear hft HRT
      refine wp_region_noPanic ?_
      refine ord_begin 23 (fun wx => Below W1.heap.size W1 wx) (by kernel_rfl) ?_
      have hx0 : Below W1.heap.size W1 W1.drew := (Below.refl _ _).drew
      refine ord_take (i := 0) (v := ?_) (by kernel_rfl) rfl (by decide) (by kernel_rfl) (by kernel_rfl) (fun _ _ _ h => h) (Or.inl ⟨by rfl, ?_⟩) hx0 ?_
      rotate_left
      ·intro wz hz; have j4 := k4.below hz k4.lt; have q0 := j4.cell 0; have q1 := j4.cell 1; have q2 := j4.cell 2; have q3 := j4.cell 3; have q4 := j4.cell 4; have q5 := j4.cell 5; have q6 := j4.cell 6; have q7 := j4.cell 7; have q8 := j4.cell 8; go_simp; (try with_reducible rfl)
      try simp only [Act.put, pu]
      refine ord_step (i := 1) rfl (by decide) (by kernel_rfl) (by rfl) (fun K hK => ?_)
      go_simp
      refine (edge_any ⟨fn, tn, ch, r, p0, p1, p2, p3, p4⟩ _).mono ?_
      rintro y Xc_1 ⟨rfl, hb⟩
      rw [hed]
      have hx1 := bltB hx0 hx0.size hb
      clear hb hx0
      refine hK _ _ hx1 ?_
      clear hK K
      try simp only [Act.put, pu]
      refine ord_take (i := 2) (v := ?_) (by kernel_rfl) rfl (by decide) (by kernel_rfl) (by kernel_rfl) (fun _ _ _ h => h) (Or.inl ⟨by rfl, ?_⟩) hx1 ?_
      rotate_left
      ·intro wz hz; go_simp; (try with_reducible rfl)
      try simp only [Act.put, pu]
      refine ord_take (i := 3) (v := ?_) (by kernel_rfl) rfl (by decide) (by kernel_rfl) (by kernel_rfl) (fun _ _ _ h => h) (Or.inl ⟨by rfl, ?_⟩) hx1 ?_
      rotate_left
      ·intro wz hz; go_simp; (try with_reducible rfl)
      try simp only [Act.put, pu]
      refine ord_take (i := 4) (v := ?_) (by kernel_rfl) rfl (by decide) (by kernel_rfl) (by kernel_rfl) (fun _ _ _ h => h) (Or.inl ⟨by rfl, ?_⟩) hx1 ?_
      rotate_left
      ·intro wz hz; go_simp; (try with_reducible rfl)
      try simp only [Act.put, pu]
      refine ord_take (i := 5) (v := ?_) (by kernel_rfl) rfl (by decide) (by kernel_rfl) (by kernel_rfl) (fun _ _ _ h => h) (Or.inl ⟨by rfl, ?_⟩) hx1 ?_
      rotate_left
      ·intro wz hz; go_simp; (try with_reducible rfl)
      try simp only [Act.put, pu]
      refine ord_take (i := 6) (v := ?_) (by kernel_rfl) rfl (by decide) (by kernel_rfl) (by kernel_rfl) (fun _ _ _ h => h) (Or.inl ⟨by rfl, ?_⟩) hx1 ?_
      rotate_left
      ·intro wz hz; go_simp; (try with_reducible rfl)
      try simp only [Act.put, pu]
      refine ord_take (i := 7) (v := ?_) (by kernel_rfl) rfl (by decide) (by kernel_rfl) (by kernel_rfl) (fun _ _ _ h => h) (Or.inl ⟨by rfl, ?_⟩) hx1 ?_
      rotate_left
      ·intro wz hz; go_simp; (try with_reducible rfl)
      try simp only [Act.put, pu]
      refine ord_take (i := 8) (v := ?_) (by kernel_rfl) rfl (by decide) (by kernel_rfl) (by kernel_rfl) (fun _ _ _ h => h) (Or.inl ⟨by rfl, ?_⟩) hx1 ?_
      rotate_left
      ·intro wz hz; go_simp; (try with_reducible rfl)
      try simp only [Act.put, pu]
      refine ord_take (i := 9) (v := ?_) (by kernel_rfl) rfl (by decide) (by kernel_rfl) (by kernel_rfl) (fun _ _ _ h => h) (Or.inl ⟨by rfl, ?_⟩) hx1 ?_
      rotate_left
      ·intro wz hz; go_simp; (try with_reducible rfl)
      try simp only [Act.put, pu]
      refine ord_take (i := 10) (v := ?_) (by kernel_rfl) rfl (by decide) (by kernel_rfl) (by kernel_rfl) (fun _ _ _ h => h) (Or.inl ⟨by rfl, ?_⟩) hx1 ?_
      rotate_left
      ·intro wz hz; go_simp; (try with_reducible rfl)
      try simp only [Act.put, pu]
      refine ord_take (i := 11) (v := ?_) (by kernel_rfl) rfl (by decide) (by kernel_rfl) (by kernel_rfl) (fun _ _ _ h => h) (Or.inl ⟨by rfl, ?_⟩) hx1 ?_
      rotate_left
      ·intro wz hz; go_simp; (try with_reducible rfl)
      try simp only [Act.put, pu]
      refine ord_take (i := 12) (v := ?_) (by kernel_rfl) rfl (by decide) (by kernel_rfl) (by kernel_rfl) (fun _ _ _ h => h) (Or.inl ⟨by rfl, ?_⟩) hx1 ?_
      rotate_left
      ·intro wz hz; have dq1 := (hz.cell (p := ⟨b, _, none⟩) hbW).trans d1; go_simp; (try with_reducible rfl)
      try simp only [Act.put, pu]
      refine ord_take (i := 13) (v := ?_) (by kernel_rfl) rfl (by decide) (by kernel_rfl) (by kernel_rfl) (fun _ _ _ h => h) (Or.inl ⟨by rfl, ?_⟩) hx1 ?_
      rotate_left
      ·intro wz hz; go_simp; (try with_reducible rfl)
      try simp only [Act.put, pu]
      refine ord_take (i := 14) (v := ?_) (by kernel_rfl) rfl (by decide) (by kernel_rfl) (by kernel_rfl) (fun _ _ _ h => h) (Or.inl ⟨by rfl, ?_⟩) hx1 ?_
      rotate_left
      ·intro wz hz; have j4 := k4.below hz k4.lt; have q0 := j4.cell 0; have q1 := j4.cell 1; have q2 := j4.cell 2; have q3 := j4.cell 3; have q4 := j4.cell 4; have q5 := j4.cell 5; have q6 := j4.cell 6; have q7 := j4.cell 7; have q8 := j4.cell 8; go_simp; (try with_reducible rfl)
      try simp only [Act.put, pu]
      refine ord_take (i := 15) (v := ?_) (by kernel_rfl) rfl (by decide) (by kernel_rfl) (by kernel_rfl) (fun _ _ _ h => h) (Or.inl ⟨by rfl, ?_⟩) hx1 ?_
      rotate_left
      ·intro wz hz; go_simp; (try with_reducible rfl)
      try simp only [Act.put, pu]
      refine ord_take (i := 16) (v := ?_) (by kernel_rfl) rfl (by decide) (by kernel_rfl) (by kernel_rfl) (fun _ _ _ h => h) (Or.inl ⟨by rfl, ?_⟩) hx1 ?_
      rotate_left
      ·intro wz hz; go_simp; (try with_reducible rfl)
      try simp only [Act.put, pu]
      refine ord_take (i := 17) (v := ?_) (by kernel_rfl) rfl (by decide) (by kernel_rfl) (by kernel_rfl) (fun _ _ _ h => h) (Or.inl ⟨by rfl, ?_⟩) hx1 ?_
      rotate_left
      ·intro wz hz; go_simp; (try with_reducible rfl)
      try simp only [Act.put, pu]
      refine ord_take (i := 18) (v := ?_) (by kernel_rfl) rfl (by decide) (by kernel_rfl) (by kernel_rfl) (fun _ _ _ h => h) (Or.inl ⟨by rfl, ?_⟩) hx1 ?_
      rotate_left
      ·intro wz hz; go_simp; (try with_reducible rfl)
      try simp only [Act.put, pu]
      refine ord_take (i := 19) (v := undef) (by kernel_rfl) rfl (by decide) (by kernel_rfl) (by kernel_rfl) (fun _ _ _ h => h) (Or.inr ⟨by rfl, rfl⟩) hx1 ?_
      try simp only [Act.put, pu]
      refine ord_take (i := 20) (v := undef) (by kernel_rfl) rfl (by decide) (by kernel_rfl) (by kernel_rfl) (fun _ _ _ h => h) (Or.inr ⟨by rfl, rfl⟩) hx1 ?_
      try simp only [Act.put, pu]
      refine ord_take (i := 21) (v := undef) (by kernel_rfl) rfl (by decide) (by kernel_rfl) (by kernel_rfl) (fun _ _ _ h => h) (Or.inr ⟨by rfl, rfl⟩) hx1 ?_
      try simp only [Act.put, pu]
      refine ord_take (i := 22) (v := undef) (by kernel_rfl) rfl (by decide) (by kernel_rfl) (by kernel_rfl) (fun _ _ _ h => h) (Or.inr ⟨by rfl, rfl⟩) hx1 ?_
      try simp only [Act.put, pu]
      refine ord_rest (by kernel_rfl) ?_
      refine wpAny_take (i := 23) (v := ?_) rfl (by kernel_rfl) (by kernel_rfl) (by kernel_rfl) (fun _ _ _ h => h) (Or.inl ⟨by rfl, ?_⟩) ?_
      rotate_left
      ·intro wz; go_simp; (try with_reducible rfl)
      try simp only [Act.put, pu]
      refine wpAny_done (by kernel_rfl) ?_ _
      refine NoPanic.normal ?_
      have HB := Lib.hid (bltB hB1.out hB1.out.size hx1)
      clear hx1
      go_wp2_with fail
      go_ret
      exact ⟨by rw [HF.out]; rfl, by rw [← HGG.out] at *; exact HB.out⟩
  ·have HF : Hid (wayB l = true) := Lib.hid (wayB_yes (by rw [Hlen.out]; exact HN.out.1) (by rw [Hlen.out]; exact HN.out.2) fun j hj => HA.out j (by rw [Hlen.out] at hj; omega))
   go_wp2_with fail
   go_ret
   exact ⟨by rw [HF.out]; rfl, hB⟩
end Go.Proofs.YthefgdehfgkhhaaGreat
