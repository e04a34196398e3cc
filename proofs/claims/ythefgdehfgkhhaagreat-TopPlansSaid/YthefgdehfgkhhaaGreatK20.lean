/-
  A ledger: New (of five parties that own 2^30 each); Total.
-/
import Derived.Test.YthefgdehfgkhhaaGreatK01
import Derived.Test.YthefgdehfgkhhaaGreatK19
import Derived.BigRegion
import Derived.Test.YthefgdehfgkhhaaGreatK17
namespace Go.Proofs.YthefgdehfgkhhaaGreat
open Go.RowKit Go.Maps
set_option linter.unusedVariables false
set_option linter.unusedSimpArgs false
attribute [local go_sem] Oper.semAt_some
def own5 : List Int := [1073741824, 1073741824, 1073741824, 1073741824, 1073741824]
def ivs (l : List Int) : List Value := l.map fun d : Int => Value.int .i64 d
theorem ivs_one (l : List Int) : ∀ u ∈ ivs l, u.oneCell' = true := by
 intro v hv
 obtain ⟨d, _, rfl⟩ := List.mem_map.1 hv
 rfl
theorem blk_ireads {w : World} {g : Nat} {l : List Int} (h : Blk w g 3 (icells l)) : Reads w w.heap.size 1 (some ⟨g, 0, none⟩) l.length (ivs l) := by
 refine ⟨by simp [ivs], fun _ => ⟨_, rfl, h.lt, fun j u hu => ?_⟩⟩
 rw [addr_add, Nat.zero_add, h.cell j]
 unfold ivs at hu
 unfold icells
 simpa using hu
theorem rowI_of_own {w : World} {base n : Nat} {v : Value} {l : List Int} (h : w.ownsRow base 3 1 v n (ivs l)) (hl : l.length = n) (h0 : 0 < n) : ∃ g c, v = .slice (some ⟨g, 0, none⟩) n c ∧ base ≤ g ∧ n ≤ c ∧ RowI w g l := by
 rcases h.2 with ⟨rfl, hx⟩ | ⟨g, cap, cur, rfl, hg, hh, hnc, hcm, hcs, hx⟩
 ·omega
 ·refine ⟨g, cap, rfl, hg, hnc, cur, hh, fun i x hi => ?_⟩
  have h3 : (ivs l)[i]? = some (.int .i64 x) := by unfold ivs; rw [List.getElem?_map, hi]; rfl
  rw [← hx, List.getElem?_take] at h3
  split at h3
  ·simpa using h3
  ·cases h3
set_option maxRecDepth 100000 in
theorem iclone_any (w : World) (g : Nat) (l : List Int) (n : Nat) (hl : l.length = n) (h0 : 0 < n) (hn : n ≤ 1048576) (h : Blk w g 3 (icells l)) :
 Calls Tryz.prog 51 #[.slice (some ⟨g, 0, none⟩) n n] w fun e w' => ∃ g' c, e = .returned (.slice (some ⟨g', 0, none⟩) n c) ∧ w.heap.size ≤ g' ∧ n ≤ c ∧ RowI w' g' l ∧ Below w.heap.size w w' := by
 obtain ⟨i0, hi, hz0, hz1, hz2⟩ := info_parts infoI
 have heq := fun (w : World) => Go.Lib.run_eql_slice_nil (P := Tryz.prog) w 49 3 (some ⟨g, 0, none⟩) n n 0 0 Tryz.underlying49
 have hrd := blk_ireads h
 rw [hl] at hrd
 have HR := Lib.hid hrd
 have HL := Lib.hid (And.intro hl h0)
 have HI := Lib.hid (And.intro hi (And.intro hz0 (And.intro hz1 hz2)))
 clear h hrd hi hz0 hz1 hz2 hl h0
 go_enter Tryz.func51, Tryz.ntmps51
 go_wp2_with (at_builtin
              refine wpList_append_any _ rfl (.tmp 5) (.tmp 6) 49 rfl w.heap.size 3 i0 (.int .i64 0) 1 8 Tryz.underlying49 HI.out.1 HI.out.2.1 HI.out.2.2.1 HI.out.2.2.2 rfl (by decide) (.slice (some ⟨w.heap.size, 0, none⟩) 0 0) 0 [] rfl
               (World.ownsRow_made w #[] 0 (Nat.le_refl _) (by decide) rfl) w.heap.size (some ⟨g, 0, none⟩) n n (ivs l) rfl (HR.out.alloc (Nat.le_refl _) _) (ivs_one l) (by simp only [maxLen]; omega) (by omega) (by simp) ?_
              intro v1 w1 own1 gr1 at1)
 have hb : Below w.heap.size w w1 := ((Below.refl _ _).alloc (Nat.le_refl _) _).grown gr1 (by simp) (fun k hk => by simp [Value.ownBlock] at hk; omega)
 rw [Nat.zero_add, List.nil_append] at own1
 obtain ⟨g1, c1, rfl, hg1, hc1, r1⟩ := rowI_of_own own1 HL.out.1 HL.out.2
 have HF := Lib.hid (And.intro hg1 (And.intro hc1 (And.intro r1 hb)))
 clear r1 own1 gr1 at1 hb hg1 hc1
 go_wp2_with fail
 go_ret
 exact ⟨g1, c1, rfl, HF.out.1, HF.out.2.1, HF.out.2.2.1, HF.out.2.2.2⟩
theorem addB_five {i : Nat} (hi : i < 5) : addB (1073741824 * (i : Int)) 1073741824 = true := by
 unfold addB
 rw [coinB_true.2 (by omega), coinB_true.2 (by omega)]
 simp
 omega
set_option maxRecDepth 100000 in
theorem new_any (w : World) (g : Nat) (h : Blk w g 3 (icells own5)) :
 Calls Tryz.prog 26 #[.slice (some ⟨g, 0, none⟩) 5 5] w fun e w' => ∃ p go co bs bh, e = .returned (.pointer (some ⟨p, 0, none⟩)) ∧ LedAt w' p go co bs bh 0 own5 [] 0 ∧ (w.heap.size ≤ p ∧ w.heap.size ≤ go ∧ w.heap.size ≤ bs ∧ w.heap.size ≤ bh) ∧ Below w.heap.size w w' := by
 have HK := Lib.hid h
 have hc : ∀ i, i < 5 → w.cell? ⟨g, i, none⟩ = some (.int .i64 1073741824) := fun i hi => by
  rw [h.cell i, icells_at _ (by simpa [own5] using hi)]
  have : i = 0 ∨ i = 1 ∨ i = 2 ∨ i = 3 ∨ i = 4 := by omega
  rcases this with rfl | rfl | rfl | rfl | rfl <;> rfl
 have HC := Lib.hid hc
 have hmm := @run_makeMap Tryz.prog
 clear h hc
 go_enter Tryz.func26, Tryz.ntmps26
 go_wp2_with fail
 go_loopw [3, 18] (fun sv iv wr => ∃ i : Nat, i ≤ 5 ∧ iv = .int .i64 i ∧ sv = .int .i64 (1073741824 * (i : Int)) ∧ wr = w) (fun _ iv _ => 5 - (intOf iv).toNat)
 case atStart => exact ⟨0, by omega, rfl, rfl, rfl⟩
 case round =>
  obtain ⟨i, hi, rfl, rfl, rfl⟩ := hrel
  by_cases hlt : i < 5
  ·have hlt' : (i : Int) < 5 := by omega
   have c0 := HC.out i hlt
   go_wp2_with fail
   refine (nadd_any _ _ _).mono ?_
   rintro y _ ⟨rfl, rfl⟩
   rw [addB_five hlt, if_pos rfl]
   go_wp2_with fail
   go_roundw
   case rel => exact ⟨i + 1, by omega, by go_num, by (refine congrArg (Value.int .i64) ?_; omega), by (first | trivial | rfl)⟩
   case measure => simp [intOf]; omega
  ·have hin : i = 5 := by omega
   subst hin
   clear hi
   go_wp2_with fail
   refine (iclone_any _ g own5 5 rfl (by omega) (by omega) HK.out).mono ?_
   rintro y W1 ⟨go, co, rfl, hgo, hco, hrow, hb⟩
   have HG := Lib.hid (And.intro hgo hco)
   have HB := Lib.hid hb
   have HR := Lib.hid hrow
   clear hgo hco hb hrow
   go_wp2_with fail
   go_ret
   have hb1 : Below W1.heap.size W1 (W1.alloc (.map #[] 0)) := (Below.refl _ _).alloc (Nat.le_refl _) _
   refine ⟨W1.heap.size + 1 + 1, go, co, W1.heap.size, W1.heap.size + 1, rfl, ⟨?_, ?_, rfl, HG.out.2, ?_, ?_, by omega⟩, ⟨by have := HB.out.size; omega, HG.out.1, HB.out.size, by have := HB.out.size; omega⟩, ((HB.out.alloc HB.out.size _).alloc (by have := HB.out.size; simp; omega) _).alloc (by have := HB.out.size; simp; omega) _⟩
   ·have := Blk.new ((W1.alloc (.map #[] 0)).alloc (.map #[] 0)) 103 #[.slice (some ⟨go, 0, none⟩) 5 co, .map (some W1.heap.size), .map (some (W1.heap.size + 1)), .int .i64 0]
    rw [World.size_alloc, World.size_alloc] at this
    exact this
   ·have hl := HR.out.lt
    have hx : Below W1.heap.size W1 (((W1.alloc (.map #[] 0)).alloc (.map #[] 0)).alloc (.cells #[.slice (some ⟨go, 0, none⟩) 5 co, .map (some W1.heap.size), .map (some (W1.heap.size + 1)), .int .i64 0] 103)) := (((Below.refl _ _).alloc (Nat.le_refl _) _).alloc (by simp) _).alloc (by simp; omega) _
    exact HR.out.stay (hx.block _ hl)
   ·exact ⟨_, ((World.ownsMap_made W1 _ _ _).alloc _).alloc _, SaysS.empty⟩
   ·have := (World.ownsMap_made (W1.alloc (.map #[] 0)) Tryz.prog 150 noE).alloc (.cells #[.slice (some ⟨go, 0, none⟩) 5 co, .map (some W1.heap.size), .map (some (W1.heap.size + 1)), .int .i64 0] 103)
    rw [World.size_alloc] at this
    exact this
/-- What all are worth. -/
def totF (own : List Int) (S : List Cn) (n : Nat) : Int := ((List.range n).map fun i => worthF own S i).sum
theorem totF_succ (own : List Int) (S : List Cn) (n : Nat) : totF own S (n + 1) = totF own S n + worthF own S n := by
 unfold totF
 rw [List.range_succ, List.map_append, List.sum_append]
 simp
set_option maxRecDepth 100000 in
theorem total_any (w : World) (p go co bs bh ns : Nat) (own : List Int) (S : List Cn) (lost : Int) (h : LedAt w p go co bs bh ns own S lost) (hpos : ∀ s ∈ S, 0 ≤ s.h0 ∧ 0 ≤ s.h1) (h0 : ∀ i, i < 5 → 0 ≤ own.getD i 0) (hsum : ∀ i, i < 5 → worthF own S i ≤ 1099511627776) :
 Calls Tryz.prog 24 #[.pointer (some ⟨p, 0, none⟩)] w fun e w' => e = .returned (.int .i64 (totF own S 5)) ∧ Below w.heap.size w w' := by
 have c0 := h.box.cell 0
 simp at c0
 have HL := Lib.hid h
 have HP := Lib.hid (And.intro hpos (And.intro h0 hsum))
 have HT : Hid (∀ i, i ≤ 5 → 0 ≤ totF own S i ∧ totF own S i ≤ 1099511627776 * i) := Lib.hid (by
  intro i
  induction i with
  | zero => intro _; simp [totF]
  | succ i ih =>
   intro hi
   have h1 := ih (by omega)
   have h2 := hsum i (by omega)
   have h3 : 0 ≤ worthF own S i := by
    unfold worthF
    have h4 := h0 i (by omega)
    have h5 := sumD_bound (S := S) (i := (i : Int)) (left := fun _ => true) hpos
    omega
   rw [totF_succ]
   omega)
 clear h hpos h0 hsum
 go_enter Tryz.func24, Tryz.ntmps24
 go_wp2_with fail
 clear c0
 go_loopw [3, 10] (fun sv iv wr => ∃ (i : Nat) (t : Int), i ≤ 5 ∧ iv = .int .i64 i ∧ sv = .int .i64 t ∧ Hid (t = totF own S i) ∧ Hid (Below w.heap.size w wr)) (fun _ iv _ => 5 - (intOf iv).toNat)
 case atStart => exact ⟨0, 0, by omega, rfl, rfl, Lib.hid rfl, Lib.hid (Below.refl _ _)⟩
 case round =>
  obtain ⟨i, t, hi, rfl, rfl, HTT, HB⟩ := hrel
  by_cases hlt : i < 5
  ·have hlt' : (i : Int) < 5 := by omega
   obtain ⟨x, hx⟩ : ∃ x, worthF own S i = x := ⟨_, rfl⟩
   have hs1 := totF_succ own S i
   have hb1 := HT.out i hi
   have hb2 := HT.out (i + 1) (by omega)
   rw [hs1, ← HTT.out, hx] at hb2
   rw [← HTT.out] at hb1
   have HT1 : Hid (t + x = totF own S (i + 1)) := Lib.hid (by rw [hs1, ← HTT.out, hx])
   have hw : (0 : Int) ≤ t ∧ t ≤ 5497558138880 ∧ 0 ≤ t + x ∧ t + x ≤ 5497558138880 := by omega
   obtain ⟨hw1, hw2, hw3, hw4⟩ := hw
   have HX := Lib.hid hx
   clear hs1 hb1 hb2 hx
   go_wp2_with fail
   refine (worth_any wr p go co bs bh ns own S lost (HL.out.on HB.out) i hlt HP.out.1 (HP.out.2.1 i hlt) (HP.out.2.2 i hlt)).mono ?_
   rintro y W1 ⟨rfl, hb⟩
   rw [HX.out]
   have HB1 := Lib.hid (bltB HB.out HB.out.size hb)
   clear hb
   go_wp2_with fail
   go_roundw
   case rel => exact ⟨i + 1, t + x, by omega, by go_num, by (first | rfl | (refine congrArg (Value.int .i64) ?_; exact IntWalk.i64_in _ (by omega)) | (refine congrArg (Value.int .i64) ?_; exact wrap64_of_isI ⟨by omega, by omega⟩)), HT1, HB1⟩
   case measure => simp [intOf]; omega
  ·have hin : i = 5 := by omega
   subst hin
   have HF : Hid (totF own S 5 = t) := Lib.hid HTT.out.symm
   clear hi
   go_wp2_with fail
   go_ret
   exact ⟨by rw [HF.out]; rfl, HB.out⟩
end Go.Proofs.YthefgdehfgkhhaaGreat
namespace Go.Proofs.YthefgdehfgkhhaaGreat
open Go.RowKit Go.Maps
set_option linter.unusedVariables false
set_option linter.unusedSimpArgs false
attribute [local go_sem] Oper.semAt_some
/-- A channel that may be. -/
def Cn.may (s : Cn) : Prop := (0 ≤ s.c ∧ s.c < 40) ∧ ((0 ≤ s.p0 ∧ s.p0 < 5) ∧ (0 ≤ s.p1 ∧ s.p1 < 5) ∧ s.p0 ≠ s.p1) ∧ (0 ≤ s.h0 ∧ s.h0 ≤ 1000000) ∧ (0 ≤ s.h1 ∧ s.h1 ≤ 1000000)
set_option maxRecDepth 100000 in
set_option maxHeartbeats 2000000 in
theorem lmay_any (w : World) (p go co bs bh ns : Nat) (own : List Int) (S : List Cn) (lost : Int) (h : LedAt w p go co bs bh ns own S lost) (s : Cn) (hs : s.may) :
 Calls Tryz.prog 52 #[.pointer (some ⟨p, 0, none⟩), s.v] w fun e w' => e = .returned (.bool true) ∧ Below w.heap.size w w' := by
 obtain ⟨c0, p0, p1, h0, h1⟩ := s
 obtain ⟨⟨m1, m2⟩, ⟨⟨m3, m4⟩, ⟨m5, m6⟩, m7⟩, ⟨m8, m9⟩, m10, m11⟩ := hs
 dsimp only at m1 m2 m3 m4 m5 m6 m7 m8 m9 m10 m11
 obtain ⟨W0, hW0⟩ : ∃ W, W = w.alloc (.cells #[.int .i64 c0, .int .i64 p0, .int .i64 p1, .int .i64 h0, .int .i64 h1] 70) := ⟨_, rfl⟩
 have hB0 : Below w.heap.size w W0 := by rw [hW0]; exact (Below.refl _ _).alloc (Nat.le_refl _) _
 have k3 : Blk W0 w.heap.size 70 #[.int .i64 c0, .int .i64 p0, .int .i64 p1, .int .i64 h0, .int .i64 h1] := by rw [hW0]; exact Blk.new w _ _
 have q0 := (h.on hB0).box.cell 0
 simp at q0
 simp only [Cn.v, Cn.cs]
 have HC : Hid (inB h0 0 1125899906842624 = true ∧ inB h1 0 1125899906842624 = true) := Lib.hid (by
  unfold inB
  rw [decide_eq_true m8, decide_eq_true m10, decide_eq_true (show h0 ≤ 1125899906842624 by omega), decide_eq_true (show h1 ≤ 1125899906842624 by omega)]
  exact ⟨rfl, rfl⟩)
 have e0 := k3.cell 0
 have e1 := k3.cell 1
 have e2 := k3.cell 2
 have e3 := k3.cell 3
 have e4 := k3.cell 4
 simp at e0 e1 e2 e3 e4
 have HB0 := Lib.hid hB0
 have hx0 : ∀ wx : World, (Instr.index 68 (.agg #[.int .i64 p0, .int .i64 p1]) (.int .i64 0)).run Tryz.prog wx = .ok (.int .i64 p0) wx := fun wx => by kernel_rfl
 have hx1 : ∀ wx : World, (Instr.index 68 (.agg #[.int .i64 p0, .int .i64 p1]) (.int .i64 1)).run Tryz.prog wx = .ok (.int .i64 p1) wx := fun wx => by kernel_rfl
 have n1 : ¬ p0 < 0 := by omega
 have n2 : ¬ 5 ≤ p0 := by omega
 have n3 : ¬ p1 < 0 := by omega
 have n4 : ¬ 5 ≤ p1 := by omega
 have n5 : (p0 != p1) = true := by simpa using m7
 clear hB0 h
 go_enter Tryz.func52, Tryz.ntmps52
 go_upto_region 1 with (fail)
 rw [← hW0]
 obtain ⟨G3, hG3⟩ : ∃ z, w.heap.size = z := ⟨_, rfl⟩
 rw [hG3] at e0 e1 e2 e3 e4 ⊢
 clear hW0 k3
 have HG3 := Lib.hid hG3
 clear hG3
 go_wp2_with fail
 go_loopw [9] (fun iv wr => ∃ j : Nat, j ≤ 2 ∧ iv = .int .i64 j ∧ wr = W0) (fun iv _ => 2 - (intOf iv).toNat)
 case atStart => exact ⟨0, by omega, rfl, rfl⟩
 case round =>
  obtain ⟨j, hj, rfl, rfl⟩ := hrel
  have hj3 : j = 0 ∨ j = 1 ∨ j = 2 := by omega
  rcases hj3 with rfl | rfl | rfl
  ·go_wp2_with fail
   refine (coin_any h0 wr).mono ?_
   rintro y _ ⟨rfl, rfl⟩
   rw [HC.out.1]
   go_wp2_with fail
   go_roundw
   case rel => exact ⟨1, by omega, rfl, by (first | trivial | rfl)⟩
   case measure => simp [intOf]
  ·go_wp2_with fail
   refine (coin_any h1 wr).mono ?_
   rintro y _ ⟨rfl, rfl⟩
   rw [HC.out.2]
   go_wp2_with fail
   go_roundw
   case rel => exact ⟨2, by omega, rfl, by (first | trivial | rfl)⟩
   case measure => simp [intOf]
  ·go_wp2_with fail
   go_ret
   exact ⟨rfl, HB0.out⟩
set_option maxRecDepth 100000 in
set_option maxHeartbeats 2000000 in
theorem give_any (w : World) (p go co bs bh ns : Nat) (own : List Int) (S : List Cn) (lost : Int) (h : LedAt w p go co bs bh ns own S lost) (s : Cn) (side : Nat) (hside : side = 0 ∨ side = 1) (q : Nat) (hq : (if side = 0 then s.p0 else s.p1) = (q : Int)) (hq5 : q < 5) (m : Int) (hm : 0 ≤ m ∧ m ≤ own.getD q 0) (ho : own.getD q 0 ≤ 1125899906842624) (hlo : isI lost) :
 Calls Tryz.prog 53 #[.pointer (some ⟨p, 0, none⟩), s.v, .int .i64 (side : Int), .int .i64 m, .int .i64 0] w fun e w' => e = .returned (.tuple #[]) ∧ LedAt w' p go co bs bh ns (own.set q (own.getD q 0 - m)) S lost ∧ Gr (fun k => k = go ∨ k = p) w w' := by
 obtain ⟨c0, p0, p1, h0, h1⟩ := s
 dsimp only at hq
 obtain ⟨W0, hW0⟩ : ∃ W, W = w.alloc (.cells #[.int .i64 c0, .int .i64 p0, .int .i64 p1, .int .i64 h0, .int .i64 h1] 70) := ⟨_, rfl⟩
 have hB0 : Below w.heap.size w W0 := by rw [hW0]; exact (Below.refl _ _).alloc (Nat.le_refl _) _
 have k3 : Blk W0 w.heap.size 70 #[.int .i64 c0, .int .i64 p0, .int .i64 p1, .int .i64 h0, .int .i64 h1] := by rw [hW0]; exact Blk.new w _ _
 have hL0 := h.on hB0
 have HL0 := Lib.hid hL0
 have HB0 := Lib.hid hB0
 simp only [Cn.v, Cn.cs]
 have a0 := hL0.box.cell 0
 have a3 := hL0.box.cell 3
 have r := hL0.row.cell (i := q) (by rw [h.len]; exact hq5)
 have rf := hL0.row.frozen q
 obtain ⟨x, hx⟩ : ∃ x, own.getD q 0 = x := ⟨_, rfl⟩
 rw [hx] at r hm ho ⊢
 simp at a0 a3
 have e0 := k3.cell 0
 have e1 := k3.cell 1
 have e2 := k3.cell 2
 simp at e0 e1 e2
 have hq' : (q : Int) < 5 := by omega
 have hw1 : wrap64 (x - m) = x - m := wrap64_of_isI ⟨by omega, by omega⟩
 have hw2 : wrap64 lost = lost := wrap64_of_isI hlo
 obtain ⟨hm0, hm1⟩ := hm
 have HNE : Hid (go ≠ p) := Lib.hid (fun e => by
  obtain ⟨cur, hh, _⟩ := HL0.out.row
  exact blk_ne HL0.out.box hh (by decide) e)
 clear hB0 hL0 h
 go_enter Tryz.func53, Tryz.ntmps53
 go_upto_region 1 with (fail)
 rw [← hW0]
 obtain ⟨G3, hG3⟩ : ∃ z, w.heap.size = z := ⟨_, rfl⟩
 rw [hG3] at e0 e1 e2 ⊢
 clear hW0 k3 hG3
 rcases hside with rfl | rfl
 all_goals (
  simp at hq
  subst hq
  go_big_region
  obtain ⟨W1, hW1⟩ : ∃ W, W = (W0.setCell ⟨go, q, none⟩ (.int .i64 (x - m))).drew := ⟨_, rfl⟩
  have hg1 : Gr (· = go) W0 W1 := by rw [hW1]; exact ((Gr.refl (· = go) W0).setCell (g := go) (fun _ => show go = go from rfl) _).drew
  have hr1 : RowI W1 go (own.set q (x - m)) := by rw [hW1]; exact HL0.out.row.set_ q (x - m)
  rw [← hW1]
  have k1 := HL0.out.box.gr hg1 (fun e => HNE.out e.symm)
  have HM1 := Lib.hid (HL0.out.map.stay (hg1.block _ HL0.out.map.lt (fun e => by
   have e : bs = go := e
   obtain ⟨es, cl, hm⟩ := HL0.out.map.isMap
   obtain ⟨cur, hh, _⟩ := HL0.out.row
   rw [e, hh] at hm
   simp at hm)))
  have hho : W1.ownsMap Tryz.prog 150 noE bh 0 (.map []) := by
   obtain ⟨es, cl, hm, r⟩ := HL0.out.hold
   refine ⟨es, cl, (hg1.block _ (blk_lt hm) (fun e => ?_)).trans hm, r⟩
   have e : bh = go := e
   obtain ⟨cur, hh, _⟩ := HL0.out.row
   rw [e, hh] at hm
   simp at hm
  have HHO := Lib.hid hho
  have HR1 := Lib.hid hr1
  have HG1 := Lib.hid ((Gr.of_below (M := fun k => k = go ∨ k = p) HB0.out).trans (hg1.mono fun k _ e => .inl e))
  have HK1 := Lib.hid k1
  clear hW1 hg1 hr1 hho a0 a3 r rf e0 e1 e2
  have a3 := k1.cell 3
  have f3 := k1.frozen 3
  simp at a3
  clear k1
  go_upto_region 2 with (fail)
  obtain ⟨W2, hW2⟩ : ∃ W, W = W1.setCell ⟨p, 3, none⟩ (.int .i64 lost) := ⟨_, rfl⟩
  have hg2 : Gr (· = p) W1 W2 := by rw [hW2]; exact (Gr.refl (· = p) W1).setCell (g := p) (fun _ => show p = p from rfl) _
  have k2 : Blk W2 p 103 #[.slice (some ⟨go, 0, none⟩) 5 co, .map (some bs), .map (some bh), .int .i64 lost] := by rw [hW2]; exact HK1.out.set_ 3 _
  have HF : Hid (LedAt W2 p go co bs bh ns (own.set q (x - m)) S lost ∧ Gr (fun k => k = go ∨ k = p) w W2) := Lib.hid (by
   refine ⟨⟨k2, HR1.out.stay (hg2.block _ HR1.out.lt (fun e => HNE.out e)), by rw [List.length_set]; exact HL0.out.len, HL0.out.cap, HM1.out.stay (hg2.block _ HM1.out.lt (fun e => ?_)), ?_, HL0.out.ne⟩, HG1.out.trans (hg2.mono fun k _ e => .inr e)⟩
   ·have e : bs = p := e
    obtain ⟨es, cl, hm⟩ := HM1.out.isMap
    have := HK1.out
    unfold Blk at this
    rw [e, this] at hm
    simp at hm
   ·obtain ⟨es, cl, hm, r⟩ := HHO.out
    refine ⟨es, cl, (hg2.block _ (blk_lt hm) (fun e => ?_)).trans hm, r⟩
    have e : bh = p := e
    have := HK1.out
    unfold Blk at this
    rw [e, this] at hm
    simp at hm)
  clear hg2 k2
  go_wp2_with fail
  (try rw [hw2])
  rw [← hW2]
  exact bodyPost_end (v := .tuple #[]) (by simp [results, Tryz.f53, go_sem]) rfl ⟨rfl, HF.out.1, HF.out.2⟩)
theorem give0_any (w : World) (p go co bs bh ns : Nat) (own : List Int) (S : List Cn) (lost : Int) (h : LedAt w p go co bs bh ns own S lost) (s : Cn) (q : Nat) (hq : s.p0 = (q : Int)) (hq5 : q < 5) (m : Int) (hm : 0 ≤ m ∧ m ≤ own.getD q 0) (ho : own.getD q 0 ≤ 1125899906842624) (hlo : isI lost) :
 Calls Tryz.prog 53 #[.pointer (some ⟨p, 0, none⟩), s.v, .int .i64 0, .int .i64 m, .int .i64 0] w fun e w' => e = .returned (.tuple #[]) ∧ LedAt w' p go co bs bh ns (own.set q (own.getD q 0 - m)) S lost ∧ Gr (fun k => k = go ∨ k = p) w w' :=
 give_any w p go co bs bh ns own S lost h s 0 (.inl rfl) q hq hq5 m hm ho hlo
theorem give1_any (w : World) (p go co bs bh ns : Nat) (own : List Int) (S : List Cn) (lost : Int) (h : LedAt w p go co bs bh ns own S lost) (s : Cn) (q : Nat) (hq : s.p1 = (q : Int)) (hq5 : q < 5) (m : Int) (hm : 0 ≤ m ∧ m ≤ own.getD q 0) (ho : own.getD q 0 ≤ 1125899906842624) (hlo : isI lost) :
 Calls Tryz.prog 53 #[.pointer (some ⟨p, 0, none⟩), s.v, .int .i64 1, .int .i64 m, .int .i64 0] w fun e w' => e = .returned (.tuple #[]) ∧ LedAt w' p go co bs bh ns (own.set q (own.getD q 0 - m)) S lost ∧ Gr (fun k => k = go ∨ k = p) w w' :=
 give_any w p go co bs bh ns own S lost h s 1 (.inr rfl) q hq hq5 m hm ho hlo
/-- What a channel's opening leaves. -/
def openO (own : List Int) (s : Cn) (q0 q1 : Nat) : List Int := (own.set q0 (own.getD q0 0 - s.h0)).set q1 (own.getD q1 0 - s.h1)
theorem Gr.wide {M N : Nat → Prop} {w w' : World} (h : Gr M w w') (hs : ∀ k, M k → N k) : Gr N w w' := h.mono fun k _ => hs k
set_option maxRecDepth 100000 in
set_option maxHeartbeats 4000000 in
theorem open_any (w : World) (p go co bs bh ns : Nat) (own : List Int) (S : List Cn) (lost : Int) (h : LedAt w p go co bs bh ns own S lost) (s : Cn) (hs : s.may) (hno : lookS S s.c = none) (q0 q1 : Nat) (e0 : s.p0 = (q0 : Int)) (e1 : s.p1 = (q1 : Int))
 (b0 : s.h0 ≤ own.getD q0 0 ∧ own.getD q0 0 ≤ 1125899906842624) (b1 : s.h1 ≤ own.getD q1 0 ∧ own.getD q1 0 ≤ 1125899906842624) (hlo : isI lost) (hns : ns < 900000) :
 Calls Tryz.prog 27 #[.pointer (some ⟨p, 0, none⟩), s.v, .int .i64 0] w fun e w' => e = .returned (.int .i64 0) ∧ LedAt w' p go co bs bh (ns + 1) (openO own s q0 q1) (putS S s) lost ∧ Gr (fun k => k = go ∨ k = p ∨ k = bs) w w' := by
 have hok : s.ok := by
  obtain ⟨⟨m1, m2⟩, ⟨⟨m3, m4⟩, ⟨m5, m6⟩, m7⟩, ⟨m8, m9⟩, m10, m11⟩ := hs
  exact ⟨⟨⟨by omega, by omega⟩, ⟨by omega, by omega⟩, ⟨by omega, by omega⟩⟩, ⟨by omega, by omega⟩, ⟨by omega, by omega⟩⟩
 have hqs : q0 < 5 ∧ q1 < 5 ∧ q0 ≠ q1 := by
  obtain ⟨⟨m1, m2⟩, ⟨⟨m3, m4⟩, ⟨m5, m6⟩, m7⟩, ⟨m8, m9⟩, m10, m11⟩ := hs
  omega
 have hh : (0 ≤ s.h0 ∧ s.h0 ≤ 1000000) ∧ (0 ≤ s.h1 ∧ s.h1 ≤ 1000000) := by
  obtain ⟨⟨m1, m2⟩, ⟨⟨m3, m4⟩, ⟨m5, m6⟩, m7⟩, ⟨m8, m9⟩, m10, m11⟩ := hs
  omega
 have HS := Lib.hid hs
 have HOK := Lib.hid hok
 have HH := Lib.hid (And.intro hh (And.intro b0 b1))
 have HQ := Lib.hid hqs
 have HNO := Lib.hid hno
 obtain ⟨W0, hW0⟩ : ∃ W, W = w.alloc (.cells s.cs 70) := ⟨_, rfl⟩
 have hB0 : Below w.heap.size w W0 := by rw [hW0]; exact (Below.refl _ _).alloc (Nat.le_refl _) _
 have k4 : Blk W0 w.heap.size 70 s.cs := by rw [hW0]; exact Blk.new w _ _
 have HL0 := Lib.hid (h.on hB0)
 have HB0 := Lib.hid hB0
 have HLN := Lib.hid h.len
 have HGO := Lib.hid h.row.lt
 have HPL := Lib.hid h.box.lt
 have HEQ := Lib.hid (And.intro e0 e1)
 have hc1 : inB 0 0 1125899906842624 = true := by decide
 obtain ⟨c, p0, p1, h0, h1⟩ := s
 dsimp only at e0 e1 hno
 subst e0 e1
 simp only [Cn.v, Cn.cs] at hW0 k4 ⊢
 have d0 := k4.cell 0
 have d1 := k4.cell 1
 have d2 := k4.cell 2
 have d3 := k4.cell 3
 have d4 := k4.cell 4
 simp at d0 d1 d2 d3 d4
 clear hB0 h hs hok hqs hh b0 b1 hno
 go_enter Tryz.func27, Tryz.ntmps27
 go_upto_region 1 with (fail)
 rw [← hW0]
 clear hW0
 obtain ⟨G4, hG4⟩ : ∃ z, w.heap.size = z := ⟨_, rfl⟩
 rw [hG4] at k4 d0 d1 d2 d3 d4 ⊢
 have HG4 := Lib.hid hG4
 clear hG4
 go_wp2_with fail
 refine (lmay_any W0 p go co bs bh ns own S lost HL0.out ⟨c, q0, q1, h0, h1⟩ HS.out).mono ?_
 rintro y W1 ⟨rfl, hb⟩
 replace k4 := k4.below hb k4.lt
 have HL1 := Lib.hid (HL0.out.on hb)
 have HB1 := Lib.hid (bltB HB0.out HB0.out.size hb)
 clear hb HL0 HB0 d0 d1 d2 d3 d4
 have d0 := k4.cell 0
 have d1 := k4.cell 1
 have d2 := k4.cell 2
 have d3 := k4.cell 3
 have d4 := k4.cell 4
 simp at d0 d1 d2 d3 d4
 go_wp2_with fail
 refine (coin_any 0 W1).mono ?_
 rintro y _ ⟨rfl, rfl⟩
 rw [hc1]
 obtain ⟨sx, hlook, _⟩ := HL1.out.map.look HOK.out.1.1
 dsimp only at hlook
 rw [HNO.out] at hlook
 have a1 := HL1.out.box.cell 1
 have a0 := HL1.out.box.cell 0
 simp at a0 a1
 obtain ⟨xc, xp0, xp1, xh0, xh1⟩ := sx
 simp only [Cn.v, Cn.cs, Option.isSome_none] at hlook
 have hl1 := hlook W1.drew rfl
 have hl2 := hlook (W1.alloc (.cells #[.int .i64 0, .int .i64 0, .int .i64 0, .int .i64 0, .int .i64 0] 70)).drew (Below.heap_alloc W1 _ bs HL1.out.map.lt)
 have hl3 := HL1.out.box.lt
 have hl4 := k4.lt
 go_upto_region 3 with (fail)
 go_big_region
 all_goals (
  obtain ⟨W2, hW2⟩ : ∃ W, W = (W1.alloc (.cells #[.int .i64 xc, .int .i64 xp0, .int .i64 xp1, .int .i64 xh0, .int .i64 xh1] 70)).drew := ⟨_, rfl⟩
  have hb2 : Below W1.heap.size W1 W2 := by rw [hW2]; exact ((Below.refl _ _).alloc (Nat.le_refl _) _).drew
  rw [← hW2]
  have k4 := k4.below hb2 k4.lt
  have HL2 := Lib.hid (HL1.out.on hb2)
  have HB2 := Lib.hid (bltB HB1.out HB1.out.size hb2)
  clear hW2 hb2 hl1 hl2 hl3 hl4 hlook a0 a1 d0 d1 d2 d3 d4
  have a0 := HL2.out.box.cell 0
  have r0 := HL2.out.row.cell (i := q0) (by rw [HLN.out]; exact HQ.out.1)
  have r1 := HL2.out.row.cell (i := q1) (by rw [HLN.out]; exact HQ.out.2.1)
  have d0 := k4.cell 0
  have d1 := k4.cell 1
  have d2 := k4.cell 2
  have d3 := k4.cell 3
  have d4 := k4.cell 4
  simp at a0 d0 d1 d2 d3 d4
  obtain ⟨⟨⟨t1, t2⟩, t3, t4⟩, ⟨t5, t6⟩, t7, t8⟩ := HH.out
  try dsimp only at t1 t2 t3 t4 t5 t6 t7 t8
  obtain ⟨x0, hx0⟩ : ∃ x, own.getD q0 0 = x := ⟨_, rfl⟩
  obtain ⟨x1, hx1⟩ : ∃ x, own.getD q1 0 = x := ⟨_, rfl⟩
  rw [hx0] at r0 t5 t6
  rw [hx1] at r1 t7 t8
  have n0 : ¬ x0 < h0 := by omega
  have n1 : ¬ x1 < h1 := by omega
  have q05 : (q0 : Int) < 5 := by have := HQ.out; omega
  have q15 : (q1 : Int) < 5 := by have := HQ.out; omega
  go_upto_region 6 with (fail)
  go_big_region
  have HL3 := Lib.hid (HL2.out.on ((Below.refl _ W2).drew))
  have HB3 := Lib.hid (HB2.out.drew)
  have k4 := k4.drew
  generalize W2.drew = W3 at HL3 HB3 k4 ⊢
  clear HL2 HB2 a0 r0 r1 d0 d1 d2 d3 d4
  have d0 := k4.cell 0
  have d1 := k4.cell 1
  have d2 := k4.cell 2
  have d3 := k4.cell 3
  have d4 := k4.cell 4
  simp at d0 d1 d2 d3 d4
  have HX0 := Lib.hid hx0
  have HX1 := Lib.hid hx1
  have HNW : Hid (w.heap.size ≤ G4 ∧ go < G4 ∧ p < G4) := Lib.hid (by have h1 := HG4.out; have h2 := HGO.out; have h3 := HPL.out; omega)
  clear hx0 hx1
  go_wp2_with fail
  refine (give0_any W3 p go co bs bh ns own S lost HL3.out ⟨c, q0, q1, h0, h1⟩ q0 rfl HQ.out.1 h0 ⟨t1, by rw [HX0.out]; exact t5⟩ (by rw [HX0.out]; exact t6) hlo).mono ?_
  rintro y W4 ⟨rfl, hL4, hg4⟩
  have k4 := k4.gr hg4 (fun e => by have := HNW.out; omega)
  have HL4 := Lib.hid hL4
  have HG4' := Lib.hid ((Gr.of_below (M := fun k => k = go ∨ k = p) HB3.out).trans hg4)
  clear hL4 hg4 d0 d1 d2 d3 d4 HL3 HB3
  have d0 := k4.cell 0
  have d1 := k4.cell 1
  have d2 := k4.cell 2
  have d3 := k4.cell 3
  have d4 := k4.cell 4
  simp at d0 d1 d2 d3 d4
  have HO1 : Hid ((own.set q0 (own.getD q0 0 - h0)).getD q1 0 = x1) := Lib.hid (by
   rw [List.getD_eq_getElem?_getD, List.getElem?_set_ne HQ.out.2.2, ← List.getD_eq_getElem?_getD]
   exact HX1.out)
  go_wp2_with fail
  refine (give1_any W4 p go co bs bh ns (own.set q0 (own.getD q0 0 - h0)) S lost HL4.out ⟨c, q0, q1, h0, h1⟩ q1 rfl HQ.out.2.1 h1 ⟨t3, by rw [HO1.out]; exact t7⟩ (by rw [HO1.out]; exact t8) hlo).mono ?_
  rintro y W5 ⟨rfl, hL5, hg5⟩
  rw [HO1.out] at hL5
  have k4 := k4.gr hg5 (fun e => by have := HNW.out; omega)
  have HL5 : Hid (LedAt W5 p go co bs bh ns (openO own ⟨c, q0, q1, h0, h1⟩ q0 q1) S lost) := Lib.hid (by unfold openO; rw [HX1.out]; exact hL5)
  have HG5 := Lib.hid (HG4'.out.trans (hg5.mono fun k _ e => e))
  clear hL5 hg5 d0 d1 d2 d3 d4 HL4 HG4'
  obtain ⟨W6, hrun, hM6, hg6⟩ := (show SMap W5.drew bs ns S from HL5.out.map).put (by omega) HOK.out
  simp only [Cn.v, Cn.cs] at hrun
  have a1 := HL5.out.box.cell 1
  have d0 := k4.cell 0
  have d1 := k4.cell 1
  have d2 := k4.cell 2
  have d3 := k4.cell 3
  have d4 := k4.cell 4
  simp at a1 d0 d1 d2 d3 d4
  go_upto_region 10 with (fail)
  have HNB : Hid (bs ≠ p ∧ bs ≠ go ∧ bs ≠ bh) := Lib.hid (by
   obtain ⟨es, cl, hm⟩ := HL5.out.map.isMap
   refine ⟨fun e => ?_, fun e => ?_, HL5.out.ne⟩
   ·have := HL5.out.box
    unfold Blk at this
    rw [e, this] at hm
    simp at hm
   ·obtain ⟨cur, hh, _⟩ := HL5.out.row
    rw [e, hh] at hm
    simp at hm)
  have HF : Hid (LedAt W6 p go co bs bh (ns + 1) (openO own ⟨c, q0, q1, h0, h1⟩ q0 q1) (putS S ⟨c, q0, q1, h0, h1⟩) lost ∧ Gr (fun k => k = go ∨ k = p ∨ k = bs) w W6) := Lib.hid (by
   have hg : Gr (· = bs) W5 W6 := (Gr.of_below (Below.refl _ _).drew).trans (Gr.of_grown hg6 rfl)
   refine ⟨⟨HL5.out.box.gr hg (fun e => HNB.out.1 e.symm), HL5.out.row.stay (hg.block _ HL5.out.row.lt (fun e => HNB.out.2.1 e.symm)), HL5.out.len, HL5.out.cap, hM6, ?_, HL5.out.ne⟩, (HG5.out.mono fun k _ e => by rcases e with e | e; exact .inl e; exact .inr (.inl e)).trans (hg.mono fun k _ e => .inr (.inr e))⟩
   obtain ⟨es, cl, hm, r⟩ := HL5.out.hold
   exact ⟨es, cl, (hg.block _ (blk_lt hm) (fun e => HNB.out.2.2 e.symm)).trans hm, r⟩)
  go_big_region
  clear hM6 hg6 hrun a1 d0 d1 d2 d3 d4
  go_wp2_with fail
  go_ret
  exact ⟨rfl, HF.out.1, HF.out.2⟩)
end Go.Proofs.YthefgdehfgkhhaaGreat
namespace Go.Proofs.YthefgdehfgkhhaaGreat
open Go.RowKit Go.Shelf
set_option linter.unusedVariables false
set_option linter.unusedSimpArgs false
/-- No cell of the value's own block is a digit. -/
def Clean (w : World) (v : Value) : Prop := ∀ g, v.ownBlock = some g → ∀ (o : Nat) (d : Int), w.cell? ⟨g, o, none⟩ ≠ some (.int .u32 d)
def noDig (u : Value) : Prop := ∀ d : Int, u ≠ .int .u32 d
theorem zero_mem {z : Array Value} {n j : Nat} {u : Value} (h : (Builtin.zeroCells z n)[j]? = some u) : ∃ j' : Nat, z[j']? = some u := by
 obtain ⟨h1, h2⟩ := Array.getElem?_eq_some_iff.1 h
 simp [Builtin.zeroCells] at h2
 have h1' := h1
 simp [Builtin.zeroCells] at h1'
 have hz : 0 < z.size := by
  rcases Nat.eq_zero_or_pos z.size with h0 | h0
  ·rw [h0] at h1'; omega
  ·exact h0
 refine ⟨j % z.size, ?_⟩
 have hl := Nat.mod_lt j hz
 rw [Array.getElem?_eq_getElem hl]
 rw [← h2, getElem!_pos z _ hl]
section
variable {P : Program} (w : World)
theorem new_clean {w : World} {xs news : List Value} {z : Array Value} {k : Nat} {e : TypeId} {n c : Nat} (hx : ∀ u ∈ xs, noDig u) (hn : ∀ u ∈ news, noDig u) (hz : ∀ (j : Nat) u, z[j]? = some u → noDig u) :
 Clean (w.drew.alloc (.cells (xs.toArray ++ news.toArray ++ Builtin.zeroCells z k) e)) (.slice (some ⟨w.heap.size, 0, none⟩) n c) := by
 intro g hg o d hc
 injection hg with hg
 have hg : w.heap.size = g := hg
 subst hg
 have hB := Blk.new w.drew e (xs.toArray ++ news.toArray ++ Builtin.zeroCells z k)
 rw [show w.heap.size = w.drew.heap.size from rfl, hB.cell o] at hc
 rcases Nat.lt_or_ge o (xs.toArray ++ news.toArray).size with h1 | h1
 ·rw [Array.getElem?_append_left h1] at hc
  rcases Nat.lt_or_ge o xs.toArray.size with h2 | h2
  ·rw [Array.getElem?_append_left h2] at hc
   exact hx _ (by simpa using Array.mem_of_getElem? hc) d rfl
  ·rw [Array.getElem?_append_right h2] at hc
   exact hn _ (by simpa using Array.mem_of_getElem? hc) d rfl
 ·rw [Array.getElem?_append_right h1] at hc
  obtain ⟨j', h3⟩ := zero_mem hc
  exact hz _ _ h3 d rfl
theorem run_append_clean (base : Nat) (t ty e : TypeId) (i : TypeInfo) (z : Value) (size bytes : Nat) (ht : P.underlying t = some (.slice e)) (hi : P.info? e = some i) (hz : i.zero = some z)
 (hsize : i.size = size) (hby : i.bytes = bytes) (hzs : z.cells.size = size) (hsz : 0 < size)
 (v : Value) (n : Nat) (xs : List Value) (hown : w.ownsRow base e size v n xs)
 (a : Addr) (m c : Nat) (news : List Value) (hl : news.length = m * size) (hnews : ∀ j u, news[j]? = some u → w.cell? (a.add j) = some u) (h1 : ∀ u ∈ news, u.oneCell' = true)
 (h63 : n + m ≤ maxLen) (hbytes : (n + m) * bytes ≤ 140737488355328) (hbase : base ≤ w.heap.size) (hm : 0 < m)
 (hcl : Clean w v) (hnd : ∀ u ∈ news, noDig u) (hzd : ∀ (j : Nat) u, z.cells[j]? = some u → noDig u) :
 ∃ v' w', (Builtin.append_ #[t, t] ty #[v, .slice (some a) m c]).run P w = .ok v' w' ∧ w'.ownsRow base e size v' (n + m) (xs ++ news) ∧ w.grownBy w' v.ownBlock ∧
  (v'.ownBlock = v.ownBlock ∨ v'.ownBlock = some w.heap.size) ∧ Clean w' v' := by
 obtain ⟨v', w', hrun, h2, h3, _, h5⟩ := run_append_own_at (P := P) w base t ty e i z size bytes ht hi hz hsize hby hzs hsz v n xs hown a m c news hl hnews h1 h63 hbytes hbase
 refine ⟨v', w', hrun, h2, h3, h5, ?_⟩
 subst hsize
 subst hby
 have hsmall : n + m ≤ 9223372036854775807 := by simp only [maxLen] at h63; omega
 rcases hown.2 with ⟨rfl, rfl⟩ | ⟨g, cap, cur, rfl, hbg, hg, hnc, hcm, hcs, htake⟩
 ·have hr := run_append_nil (P := P) w t ty e i z ht hi hz a m c news hl hnews (by omega) (by omega) (by have hb := hbytes; simp only [Nat.zero_add] at hb; omega)
  rw [hrun] at hr
  injection hr with e1 e2
  subst e1 e2
  have := new_clean (w := w) (xs := []) (news := news) (z := z.cells) (k := grownCap w m 0 e - m) (e := e) (n := m) (c := grownCap w m 0 e) (fun u hu => by simp at hu) hnd hzd
  simpa using this
 ·have hxs : ∀ u ∈ xs, noDig u := by
   intro u hu d hud
   rw [← htake] at hu
   have hu := List.mem_of_mem_take hu
   obtain ⟨j, hj, hj2⟩ := List.mem_iff_getElem.1 hu
   refine hcl g rfl j d ?_
   rw [cell_of_row w g j cur e (0, 0) hg]
   rw [Array.length_toList] at hj
   rw [Array.getElem?_eq_getElem hj, ← hud, ← hj2]
   simp
  by_cases hroom : n + m ≤ cap
  ·have hfit : n * i.size + news.length ≤ cur.size := by rw [hl, hcs, ← Nat.add_mul]; exact Nat.mul_le_mul_right _ hroom
   have hr := run_append_room (P := P) w t ty e i ht hi g n cap cur hg a m c news hl hnews h1 hroom hfit
   rw [hrun] at hr
   injection hr with e1 e2
   subst e1 e2
   intro g' hg' o d hc
   injection hg' with hg'
   have hg' : g = g' := hg'
   subst hg'
   rw [cell_of_row _ g o _ e (0, 0) (setRow_heap w g cur _ e _ hg)] at hc
   have hc := Array.mem_of_getElem? hc
   simp only [List.append_assoc, List.mem_toArray, List.mem_append] at hc
   have hcur : ∀ u ∈ cur.toList, noDig u := by
    intro u hu d hud
    obtain ⟨j, hj, hj2⟩ := List.mem_iff_getElem.1 hu
    refine hcl g rfl j d ?_
    rw [cell_of_row w g j cur e (0, 0) hg]
    rw [Array.length_toList] at hj
    rw [Array.getElem?_eq_getElem hj, ← hud, ← hj2]
    simp
   rcases hc with hc | hc | hc
   ·exact hcur _ (List.mem_of_mem_take hc) d rfl
   ·exact hnd _ hc d rfl
   ·exact hcur _ (List.mem_of_mem_drop hc) d rfl
  ·have holds : ∀ j u, xs[j]? = some u → w.cell? ((⟨g, 0, none⟩ : Addr).add j) = some u := hown.cells (g := g) rfl
   have hr := run_append_grow (P := P) w t ty e i z ht hi hz ⟨g, 0, none⟩ n cap xs hown.1 holds a m c news hl hnews (by omega) (by omega) (growslice_fits (by omega) hbytes)
   rw [hrun] at hr
   injection hr with e1 e2
   subst e1 e2
   exact new_clean hxs hnd hzd
theorem wpList_append_clean {ops : Array Oper} {rest : List Oper} {o : Oper} {a : Act} {Q : Exit → Act → World → Prop} (hgd : o.guard = none) (s x : Operand) (t : TypeId)
 (ho : o.op = .call { callee := .builtin .append, args := #[s, x], argTypes := #[t, t] })
 (base : Nat) (e : TypeId) (i : TypeInfo) (z : Value) (size bytes : Nat) (ht : P.underlying t = some (.slice e)) (hi : P.info? e = some i) (hz : i.zero = some z)
 (hsize : i.size = size) (hby : i.bytes = bytes) (hzs : z.cells.size = size) (hsz : 0 < size)
 (v : Value) (n : Nat) (xs : List Value) (hs : a.eval s = v) (hown : w.ownsRow base e size v n xs)
 (ad : Addr) (m c : Nat) (news : List Value) (hx : a.eval x = .slice (some ad) m c) (hl : news.length = m * size) (hnews : ∀ j u, news[j]? = some u → w.cell? (ad.add j) = some u) (h1 : ∀ u ∈ news, u.oneCell' = true)
 (h63 : n + m ≤ maxLen) (hbytes : (n + m) * bytes ≤ 140737488355328) (hbase : base ≤ w.heap.size) (hm : 0 < m)
 (hcl : Clean w v) (hnd : ∀ u ∈ news, noDig u) (hzd : ∀ (j : Nat) u, z.cells[j]? = some u → noDig u)
 (h : ∀ v' w', w'.ownsRow base e size v' (n + m) (xs ++ news) → w.grownBy w' v.ownBlock → (v'.ownBlock = v.ownBlock ∨ v'.ownBlock = some w.heap.size) → Clean w' v' → wpList P ops Q rest (a.put o.dst v') w') : wpList P ops Q (o :: rest) a w :=
 wpList_plain hgd fun K hK => by
  obtain ⟨v', w', hrun, h2, h3, h4, h5⟩ := run_append_clean (P := P) w base t o.type e i z size bytes ht hi hz hsize hby hzs hsz v n xs hown ad m c news hl hnews h1 h63 hbytes hbase hm hcl hnd hzd
  unfold Oper.wp execOp
  simp only [ho, resolve, invoke, builtin, Sem.run_bind, Sem.run_pure, Result.andThen_ok, List.map_toArray, List.map_cons, List.map_nil, hs, hx, hrun]
  exact hK _ _ (h v' w' h2 h3 h4 h5)
end
end Go.Proofs.YthefgdehfgkhhaaGreat
