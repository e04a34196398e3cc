/-
  The laws' small case.
-/
import Derived.Test.YtjjpbpgoenpkkaaDoorSml
namespace Go.Proofs.YtjjpbpgoenpkkaaDoor
open Go.RowKit Go.Shelf
set_option linter.unusedVariables false

theorem rd_at {W : World} {g d : Nat} (hg : W.heap.size = g) (hd : d < 4294967296) : Rd (W.alloc (.cells #[.int .u32 (d : Int)] 41)) (W.alloc (.cells #[.int .u32 (d : Int)] 41)).heap.size (some ⟨g, 0, none⟩) 1 1 [d] := by
  subst hg; exact rd_one hd
theorem bel_alloc (W : World) (o : Obj) : Below W.heap.size W (W.alloc o) := (Below.refl _ _).alloc (Nat.le_refl _) o

set_option maxRecDepth 100000 in
set_option maxHeartbeats 1000000 in
theorem small_any (w : World) (hT : Tab w) : Calls Tryd.prog 9 #[] w fun e w' => e = .returned (.bool true) ∧ Below w.heap.size w w' := by
  have HT := Lib.hid hT
  clear hT
  go_enter Tryd.func9, Tryd.ntmps9
  go_wp2_with fail
  -- two; DivMod(two, {10})
  have rT : Rd (w.alloc (.cells #[.int .u32 0, .int .u32 0, .int .u32 1] 41)) (w.alloc (.cells #[.int .u32 0, .int .u32 0, .int .u32 1] 41)).heap.size (some ⟨w.heap.size, 0, none⟩) 3 3 [0, 0, 1] :=
    Rd.of_blk (t := 41) (l := [0, 0, 1]) (Blk.new w _ _) (Dig.cons (by decide) (Dig.cons (by decide) (Dig.cons (by decide) Dig.nil)))
  have hb1 : Below w.heap.size w (w.alloc (.cells #[.int .u32 0, .int .u32 0, .int .u32 1] 41)) := (Below.refl _ _).alloc (Nat.le_refl _) _
  obtain ⟨w1, hw1⟩ : ∃ w1, w1 = w.alloc (.cells #[.int .u32 0, .int .u32 0, .int .u32 1] 41) := ⟨_, rfl⟩
  have hz1 : Hid (w1.heap.size = w.heap.size + 1) := Lib.hid (by rw [hw1]; simp)
  rw [← hw1] at rT hb1
  simp only [← hw1]
  clear hw1
  generalize (⟨w.heap.size, 0, none⟩ : Addr) = pT at *
  generalize hg : w.heap.size + 1 = g at *
  have r10 := rd_at (W := w1) (d := 10) hz1.out (by decide)
  have ba := bel_alloc w1 (.cells #[.int .u32 (10 : Nat)] 41)
  refine (divmod_any _ _ _ _ _ _ _ _ _ (rT.on ba) r10 (by omega) (by omega)).mono ?_
  rintro e w2 ⟨Aq, nq, cq, Ar, nr, cr, rfl, rq, rr, hb⟩
  rw [tv_2_64, tv_single] at rq rr
  rw [show 18446744073709551616 / 10 = 1844674407370955161 by decide] at rq
  rw [if_neg (by decide), show 18446744073709551616 % 10 = 6 by decide] at rr
  have hb := bltB ba ba.size hb
  have rT := rT.on hb
  have hb2 := bltB hb1 hb1.size hb
  have hdt : decide (0 < tv [10]) = true := by decide
  rw [hdt]
  clear hb ba r10 hz1 hg hdt
  go_wp2_with fail
  refine (divmod_any _ _ _ _ _ _ _ _ _ rT (Rd.nil w2 _) (by omega) (by omega)).mono ?_
  rintro e w3 ⟨A3, n3, c3, A4, n4, c4, rfl, _, _, hb⟩
  have rT := rT.on hb
  have rq := rq.on hb
  have rr := rr.on hb
  have hb3 := bltB hb2 hb2.size hb
  have hdt : decide (0 < tv []) = false := by decide
  rw [hdt]
  clear hb hdt
  go_wp2_with fail
  refine (parse_any _ _ (by decide)).mono ?_
  rintro e w4 ⟨A5, n5, c5, rfl, _, hb⟩
  have rT := rT.on hb
  have rq := rq.on hb
  have rr := rr.on hb
  have hb4 := bltB hb3 hb3.size hb
  rw [pok_007]
  clear hb
  go_wp2_with fail
  refine (parse_any _ _ (by decide)).mono ?_
  rintro e w5 ⟨An, nn, cn, rfl, rn, hb⟩
  rw [pok_2_64, if_pos rfl, pval_2_64] at rn
  rw [pok_2_64]
  have rT := rT.on hb
  have rq := rq.on hb
  have rr := rr.on hb
  have hb5 := bltB hb4 hb4.size hb
  clear hb
  have hnn : nn ≤ 12 := by have := rn.len; rw [digs_2_64] at this; simp at this; omega
  go_wp2_with fail
  refine (int_any _ _ _ _ _ rn (by omega)).mono ?_
  rintro e w6 ⟨rfl, hb⟩
  rw [tv_digs, show intB 18446744073709551616 = false by decide]
  have rT := rT.on hb
  have rq := rq.on hb
  have rr := rr.on hb
  have rn := rn.on hb
  have hb6 := bltB hb5 hb5.size hb
  clear hb
  go_wp2_with fail
  have r1 := rd_at (W := w6) (g := w6.heap.size) (d := 1) (rfl) (by decide)
  have ba := bel_alloc w6 (.cells #[.int .u32 (1 : Nat)] 41)
  have r2 := rd_at (W := w6.alloc (.cells #[.int .u32 (1 : Nat)] 41)) (g := w6.heap.size + 1) (d := 2) (by simp) (by decide)
  have ba2 := bel_alloc (w6.alloc (.cells #[.int .u32 (1 : Nat)] 41)) (.cells #[.int .u32 (2 : Nat)] 41)
  refine (sub_any _ _ _ _ _ _ _ _ _ (r1.on ba2) r2 (by omega) (by omega)).mono ?_
  rintro e w7 ⟨A6, n6, c6, rfl, _, hb⟩
  have hb := bltB ba ba.size (bltB ba2 ba2.size hb)
  rw [tv_single, tv_single, show decide (2 ≤ 1) = false by decide]
  have rT := rT.on hb
  have rq := rq.on hb
  have rr := rr.on hb
  have rn := rn.on hb
  have hb7 := bltB hb6 hb6.size hb
  clear hb
  clear ba ba2 r1 r2
  have hnq : nq ≤ 12 := by have := rq.len; have h2 := digs_len_le (n := 1844674407370955161) (k := 2) (by decide); omega
  have hnr : nr ≤ 12 := by have := rr.len; have h2 := digs_len_le (n := 6) (k := 2) (by decide); omega
  go_wp2_with fail
  refine (text_any _ (HT.out.on hb7) _ _ _ _ rq (by omega)).mono ?_
  rintro e w8 ⟨rfl, hb⟩
  rw [tv_digs, dec_2_64, txt]
  have rT := rT.on hb
  have rr := rr.on hb
  have rn := rn.on hb
  have hb8 := bltB hb7 hb7.size hb
  clear hb
  go_wp2_with fail
  have r6 := rd_at (W := w8) (g := w8.heap.size) (d := 6) (rfl) (by decide)
  have ba := bel_alloc w8 (.cells #[.int .u32 (6 : Nat)] 41)
  refine (same_any _ _ _ _ _ _ _ _ _ (rr.on ba) r6 (by omega)).mono ?_
  rintro e w9 ⟨rfl, hb⟩
  have hb := bltB ba ba.size hb
  rw [digs_lt (n := 6) (by decide) (by decide), show decide ([6] = [6]) = true by decide]
  have rT := rT.on hb
  have rn := rn.on hb
  have hb9 := bltB hb8 hb8.size hb
  clear hb
  clear ba r6
  go_wp2_with fail
  refine (same_any _ _ _ _ _ _ _ _ _ rn rT (by omega)).mono ?_
  rintro e w10 ⟨rfl, hb⟩
  rw [digs_2_64, show decide ([0, 0, 1] = [0, 0, 1]) = true by decide]
  have hb10 := bltB hb9 hb9.size hb
  clear hb
  go_wp2_with fail
  refine (right_any _ _ _ _ _ _ (Rd.nil w10 w10.heap.size) (by decide)).mono ?_
  rintro e w11 ⟨rfl, rfl⟩
  rw [show rightB [] = true by decide]
  go_wp2_with fail
  have rX : Rd (w10.alloc (.cells #[.int .u32 1, .int .u32 0] 41)) (w10.alloc (.cells #[.int .u32 1, .int .u32 0] 41)).heap.size (some ⟨w10.heap.size, 0, none⟩) 2 2 [1, 0] :=
    Rd.of_blk (t := 41) (l := [1, 0]) (Blk.new w10 _ _) (Dig.cons (by decide) (Dig.cons (by decide) Dig.nil))
  have hb11 := bltB hb10 hb10.size (bel_alloc w10 (.cells #[.int .u32 1, .int .u32 0] 41))
  refine (right_any _ _ _ _ _ _ rX (by decide)).mono ?_
  rintro e w11 ⟨rfl, rfl⟩
  rw [show rightB [1, 0] = false by decide]
  generalize w10.alloc (.cells #[.int .u32 1, .int .u32 0] 41) = w11 at *
  clear rX
  go_wp2_with fail
  have r1 := rd_at (W := w11) (g := w11.heap.size) (d := 12) rfl (by decide)
  have ba := bel_alloc w11 (.cells #[.int .u32 (12 : Nat)] 41)
  have r2 := rd_at (W := w11.alloc (.cells #[.int .u32 (12 : Nat)] 41)) (g := w11.heap.size + 1) (d := 18) (by simp) (by decide)
  have ba2 := bel_alloc (w11.alloc (.cells #[.int .u32 (12 : Nat)] 41)) (.cells #[.int .u32 (18 : Nat)] 41)
  refine (gcd_any _ _ _ _ _ _ _ _ _ (r1.on ba2) r2 (by omega) (by omega)).mono ?_
  rintro e w12 ⟨A7, n7, c7, rfl, r7, hb⟩
  have hb := bltB ba ba.size (bltB ba2 ba2.size hb)
  rw [tv_single, tv_single, show Nat.gcd 12 18 = 6 by decide, digs_lt (n := 6) (by decide) (by decide)] at r7
  have hb12 := bltB hb11 hb11.size hb
  clear hb ba ba2 r1 r2
  have hn7 : n7 ≤ 12 := by have := r7.len; simp at this; omega
  go_wp2_with fail
  have r6 := rd_at (W := w12) (g := w12.heap.size) (d := 6) rfl (by decide)
  have ba := bel_alloc w12 (.cells #[.int .u32 (6 : Nat)] 41)
  refine (same_any _ _ _ _ _ _ _ _ _ (r7.on ba) r6 (by omega)).mono ?_
  rintro e w13 ⟨rfl, hb⟩
  have hb := bltB ba ba.size hb
  rw [show decide ([6] = [6]) = true by decide]
  have hb13 := bltB hb12 hb12.size hb
  clear hb ba r6 r7
  go_wp2_with fail
  refine (text_any _ (HT.out.on hb13) _ _ _ _ (Rd.nil w13 w13.heap.size) (by decide)).mono ?_
  rintro e w14 ⟨rfl, hb⟩
  rw [show tv [] = 0 by decide, Lib.decDigits_one (by decide), txt]
  have hb14 := bltB hb13 hb13.size hb
  clear hb
  go_wp2_with fail
  go_ret
  exact ⟨rfl, hb14⟩

end Go.Proofs.YtjjpbpgoenpkkaaDoor
