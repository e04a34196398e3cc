/-
  Graphs: Cost.
-/
import Derived.Test.YthefgdehfgkhhaaGreatK01
import Derived.Test.YthefgdehfgkhhaaGreatK11
import Derived.Test.YthefgdehfgkhhaaGreatK07
import Derived.Test.YthefgdehfgkhhaaGreatK06
namespace Go.Proofs.YthefgdehfgkhhaaGreat
open Go.RowKit Go.Shelf
set_option linter.unusedVariables false
set_option linter.unusedSimpArgs false
/-! Rows of numbers that are made whole. -/
def icells (xs : List Int) : Array Value := (xs.map (Value.int .i64)).toArray
theorem icells_size (xs : List Int) : (icells xs).size = xs.length := by simp [icells]
theorem icells_at (xs : List Int) {k : Nat} (h : k < xs.length) : (icells xs)[k]? = some (.int .i64 (xs.getD k 0)) := by
 simp [icells, List.getD_eq_getElem?_getD, List.getElem?_eq_getElem h]
theorem icells_set (xs : List Int) (k : Nat) (z : Int) : (icells xs).setIfInBounds k (.int .i64 z) = icells (xs.set k z) := by
 simp only [icells, List.setIfInBounds_toArray, List.map_set]
theorem icells_zeros (n : Nat) : madeCells (Value.int .i64 0).cells n = icells (List.replicate n 0) := by
 apply Array.ext
 ·simp [icells, size_madeCells]
 ·intro i h1 h2
  simp only [madeCells, icells, Value.cells, Array.getElem_ofFn, List.getElem_toArray, List.getElem_map, List.getElem_replicate]
  simp [Nat.mod_one]
theorem infoI : (Tryz.prog.info? 3).map (fun i => (i.zero, i.size, i.bytes)) = some (some (.int .i64 0), 1, 8) := by kernel_rfl
theorem make_int (z : Int) (n : Nat) (hz : z = n) (hn : n ≤ 4194304) : ∀ u : World, (Instr.makeSlice 49 (.int .i64 z) (.int .i64 z)).run Tryz.prog u =
 .ok (.slice (some ⟨u.heap.size, 0, none⟩) n n) (u.alloc (.cells (icells (List.replicate n 0)) 3)) := fun u => by
 obtain ⟨i0, hi, hz0, hz1, hz2⟩ := info_parts infoI
 subst hz
 have h := run_make (P := Tryz.prog) u 49 3 i0 (.int .i64 0) Tryz.underlying49 hi hz0 .i64 .i64 (n : Int) (n : Int) (by omega) (Int.le_refl _) (by rw [hz2]; omega) (by omega)
 rw [Int.toNat_natCast, hz1, Nat.mul_one, icells_zeros] at h
 exact h
theorem RI.of_blk {w : World} {g : Nat} {xs : List Int} {n : Nat} (h : Blk w g 3 (icells xs)) (hn : xs.length = n) : RI w (some ⟨g, 0, none⟩) n n xs := by
 subst hn
 have := Rg.of_blk (k := 1) (l := ics xs) h (ics_wide _) (fun i a hi j v hv => by
  have hl : i < xs.length := by
   have := (List.getElem?_eq_some_iff.1 hi).1
   simpa [ics] using this
  rw [ics, List.getElem?_map, List.getElem?_eq_getElem hl] at hi
  have hi : #[Value.int .i64 xs[i]] = a := Option.some.inj hi
  subst hi
  match j, hv with
  | 0, hv =>
   rw [Nat.mul_one, Nat.add_zero, icells_at _ hl, List.getD_eq_getElem?_getD, List.getElem?_eq_getElem hl]
   exact hv
  | j + 1, hv => simp at hv) (m := xs.length) (by simp [ics])
 rw [show (ics xs).length = xs.length by simp [ics]] at this
 exact this
/-- Noughts, and what has been laid behind them. -/
def backL (k : Nat) (acc : List Int) : List Int := List.replicate k 0 ++ acc
theorem back_len (k : Nat) (acc : List Int) : (backL k acc).length = k + acc.length := by simp [backL]
theorem back_set (m : Nat) (acc : List Int) (z : Int) : (backL (m + 1) acc).set m z = backL m (z :: acc) := by
 unfold backL
 rw [List.replicate_succ', List.append_assoc, List.set_append_right _ _ (by simp)]
 simp
theorem costR_cons (e : Ed) (es : List Ed) (a x : Int) : costR (e :: es) a x = if inB a e.p3 (min e.p4 e.r) && decide (x ≤ 1048576) then
 if es.isEmpty || (feeB e a && addB a (feeV e a)) then
  (costR es (if addB a (feeV e a) then a + feeV e a else 0) (x + e.p2)).map fun r => (r.1 ++ [a], r.2 ++ [x])
 else none
 else none := rfl
theorem rev_take {l : List Ed} {m : Nat} {e : Ed} (h : l[m]? = some e) : (l.take (m + 1)).reverse = e :: (l.take m).reverse := by
 rw [takes_one l h, List.reverse_append]
 rfl
theorem addB_bound {a b : Int} (h : addB a b = true) : 0 ≤ a ∧ 0 ≤ b ∧ a + b ≤ 1125899906842624 := by
 unfold addB coinB at h
 simp at h
 omega
theorem addB_range (a b : Int) : 0 ≤ (if addB a b = true then a + b else 0) ∧ (if addB a b = true then a + b else 0) ≤ 1125899906842624 := by
 split
 ·rename_i h
  have := addB_bound h
  omega
 ·omega
/-- What is handed back: nothing, or what is sent and till when. -/
def RetC (w : World) (o : Option (List Int × List Int)) (e : Ending) (w' : World) : Prop :=
 Below w.heap.size w w' ∧ match o with
 | none => ∃ z : Int, z ≠ 0 ∧ e = .returned (.tuple #[.slice none 0 0, .slice none 0 0, .int .i64 z])
 | some r => ∃ A n c A' n' c', e = .returned (.tuple #[.slice A n c, .slice A' n' c', .int .i64 0]) ∧ RI w' A n c r.1 ∧ RI w' A' n' c' r.2
theorem RetC.no {w w' : World} {o : Option (List Int × List Int)} {z : Int} (h : o = none) (hz : z ≠ 0) (hb : Below w.heap.size w w') : RetC w o (.returned (.tuple #[.slice none 0 0, .slice none 0 0, .int .i64 z])) w' := by
 subst h
 exact ⟨hb, z, hz, rfl⟩
theorem RetC.yes {w w' : World} {o : Option (List Int × List Int)} {s t : List Int} {A A' : Option Addr} {n c n' c' : Nat} (h : o = some (s, t)) (r1 : RI w' A n c s) (r2 : RI w' A' n' c' t) (hb : Below w.heap.size w w') : RetC w o (.returned (.tuple #[.slice A n c, .slice A' n' c', .int .i64 0])) w' := by
 subst h
 exact ⟨hb, A, n, c, A', n', c', rfl, r1, r2⟩
theorem way_edges {l : List Ed} (h : wayB l = true) {i : Nat} {e : Ed} (hi : l[i]? = some e) : edgeB e = true := by
 unfold wayB at h
 rw [Bool.and_eq_true, List.all_eq_true] at h
 have hl : i < l.length := (List.getElem?_eq_some_iff.1 hi).1
 have := h.2 i (List.mem_range.2 hl)
 unfold wayAt at this
 rw [Bool.and_eq_true] at this
 have he : eAt l i = e := by rw [eAt, List.getD_eq_getElem?_getD, hi]; rfl
 rw [← he]
 exact this.1
theorem way_lens {l : List Ed} (h : wayB l = true) : 1 ≤ l.length ∧ l.length ≤ 8 := by
 unfold wayB at h
 simp only [Bool.and_eq_true, decide_eq_true_eq] at h
 exact h.1
set_option maxRecDepth 100000 in
set_option maxHeartbeats 4000000 in
theorem cost_any (w : World) (A : Option Addr) (n c : Nat) (l : List Ed) (h : RE w A n c l) (hn : n ≤ 1048576) (a0 x0 : Int) : Calls Tryz.prog 67 #[.slice A n c, .int .i64 a0, .int .i64 x0] w (RetC w (cost l a0 x0)) := by
 have HL := Lib.hid h
 have hlen := h.elen
 have Hlen := Lib.hid hlen
 have HW := Lib.hid (way_any w A n c l h hn)
 clear h hlen
 have HC : Hid (cost l a0 x0 = if wayB l && (inB a0 1 1125899906842624 && inB x0 1 1048576) then costR l.reverse a0 x0 else none) := Lib.hid rfl
 obtain ⟨bw, hbw⟩ : ∃ b, wayB l = b := ⟨_, rfl⟩
 have HWB := Lib.hid hbw
 rw [hbw] at HW HC
 clear hbw
 go_enter Tryz.func67, Tryz.ntmps67
 go_wp2_with fail
 refine HW.out.mono ?_
 rintro y w0 ⟨rfl, hB0⟩
 rcases bw with _ | _
 ·have HF : Hid (RetC w (cost l a0 x0) (.returned (.tuple #[.slice none 0 0, .slice none 0 0, .int .i64 19])) w0) := Lib.hid (RetC.no (by rw [HC.out]; rfl) (by decide) hB0)
  go_wp2_with fail
  go_ret3
  exact HF.out
 have HN := Lib.hid (way_lens HWB.out)
 rw [Hlen.out] at HN
 have hn8 : n ≤ 8 := HN.out.2
 go_wp2_with fail
 refine (gin_any _ _ _ _).mono ?_
 rintro e w' ⟨rfl, rfl⟩
 obtain ⟨b1, hb1⟩ : ∃ b, inB a0 1 1125899906842624 = b := ⟨_, rfl⟩
 have HA1 := Lib.hid hb1
 rw [hb1] at HC ⊢
 clear hb1
 rcases b1 with _ | _
 ·have HF : Hid (RetC w (cost l a0 x0) (.returned (.tuple #[.slice none 0 0, .slice none 0 0, .int .i64 1])) w0) := Lib.hid (RetC.no (by rw [HC.out]; rfl) (by decide) hB0)
  go_wp2_with fail
  go_ret3
  exact HF.out
 go_wp2_with fail
 refine (gin_any _ _ _ _).mono ?_
 rintro e w' ⟨rfl, rfl⟩
 obtain ⟨b1, hb1⟩ : ∃ b, inB x0 1 1048576 = b := ⟨_, rfl⟩
 have HA2 := Lib.hid hb1
 rw [hb1] at HC ⊢
 clear hb1
 rcases b1 with _ | _
 ·have HF : Hid (RetC w (cost l a0 x0) (.returned (.tuple #[.slice none 0 0, .slice none 0 0, .int .i64 1])) w0) := Lib.hid (RetC.no (by rw [HC.out]; rfl) (by decide) hB0)
  go_wp2_with fail
  go_ret3
  exact HF.out
 have HC : Hid (cost l a0 x0 = costR l.reverse a0 x0) := Lib.hid (by rw [HC.out]; rfl)
 have hr1 : 1 ≤ a0 ∧ a0 ≤ 1125899906842624 := by have := HA1.out; unfold inB at this; simp at this; omega
 have hr2 : 1 ≤ x0 ∧ x0 ≤ 1048576 := by have := HA2.out; unfold inB at this; simp at this; omega
 have hmk := make_int (n : Int) n rfl (by omega)
 go_wp2_with fail
 refine wp_region_noPanic ?_
 refine ord_begin 7 (fun _ => True) (by kernel_rfl) ?_
 refine ord_take (i := 0) (v := ?_) (by kernel_rfl) rfl (by decide) (by kernel_rfl) (by kernel_rfl) (fun _ _ _ h => h) (Or.inl ⟨by rfl, ?_⟩) trivial ?_
 rotate_left
 ·intro wz hz; go_simp; (try with_reducible rfl)
 try simp only [Act.put, pu]
 refine ord_take (i := 1) (v := ?_) (by kernel_rfl) rfl (by decide) (by kernel_rfl) (by kernel_rfl) (fun _ _ _ h => h) (Or.inl ⟨by rfl, ?_⟩) trivial ?_
 rotate_left
 ·intro wz hz; go_simp; (try with_reducible rfl)
 try simp only [Act.put, pu]
 refine ord_take (i := 3) (v := ?_) (by kernel_rfl) rfl (by decide) (by kernel_rfl) (by kernel_rfl) (fun _ _ _ h => h) (Or.inl ⟨by rfl, ?_⟩) trivial ?_
 rotate_left
 ·intro wz hz; go_simp; (try with_reducible rfl)
 try simp only [Act.put, pu]
 refine ord_take (i := 4) (v := ?_) (by kernel_rfl) rfl (by decide) (by kernel_rfl) (by kernel_rfl) (fun _ _ _ h => h) (Or.inl ⟨by rfl, ?_⟩) trivial ?_
 rotate_left
 ·intro wz hz; go_simp; (try with_reducible rfl)
 try simp only [Act.put, pu]
 refine ord_funnel2 (F := ?F67) (k := 1) #[true, true, true, true, true, true, true, false] (fun G1 G2 W => Blk W G1 3 (icells (List.replicate n 0)) ∧ Blk W G2 3 (icells (List.replicate n 0)) ∧ G1 ≠ G2 ∧ Below w0.heap.size w0 W ∧ w0.heap.size ≤ G1 ∧ w0.heap.size ≤ G2) ?_ ?_
 rotate_left
 ·intro HQ
  refine ord_step2 (i := 2) (k := 5) rfl rfl (by decide) (by decide) (by kernel_rfl) (by rfl) (by rfl) (fun K hK => ?_) (fun K hK => ?_)
  ·go_simp
   have hx1 : Below w0.heap.size w0 ((w0.alloc (.cells (icells (List.replicate n 0)) 3)).drew) := ((Below.refl _ _).alloc (Nat.le_refl _) _).drew
   refine hK _ _ trivial ?_
   clear hK K
   try simp only [Act.put, pu]
   refine ord_take (i := 6) (v := ?_) (by kernel_rfl) rfl (by decide) (by kernel_rfl) (by kernel_rfl) (fun _ _ _ h => h) (Or.inl ⟨by rfl, ?_⟩) trivial ?_
   rotate_left
   ·intro wz hz; go_simp; (try with_reducible rfl)
   try simp only [Act.put, pu]
   refine ord_step (i := 5) rfl (by decide) (by kernel_rfl) (by rfl) (fun K hK => ?_)
   go_simp
   have hx2 : Below w0.heap.size w0 (((w0.alloc (.cells (icells (List.replicate n 0)) 3)).alloc (.cells (icells (List.replicate n 0)) 3)).drew) := (((Below.refl _ _).alloc (Nat.le_refl _) _).alloc (by simp) _).drew
   have hA2 : Blk (((w0.alloc (.cells (icells (List.replicate n 0)) 3)).alloc (.cells (icells (List.replicate n 0)) 3)).drew) w0.heap.size 3 (icells (List.replicate n 0)) := ((Blk.new w0 _ _).alloc _).drew
   have hB2 : Blk (((w0.alloc (.cells (icells (List.replicate n 0)) 3)).alloc (.cells (icells (List.replicate n 0)) 3)).drew) (w0.heap.size + 1) 3 (icells (List.replicate n 0)) := by
    have := (Blk.new (w0.alloc (.cells (icells (List.replicate n 0)) 3)) 3 (icells (List.replicate n 0))).drew
    rw [World.size_alloc] at this
    exact this
   refine hK _ _ trivial ?_
   clear hK K
   try simp only [Act.put, pu]
   refine ord_relist #[true, true, true, true, true, true, true, false] (by kernel_rfl) ?_
   have hfin : ∀ g1 g2 W, w0.heap.size = g1 → w0.heap.size + 1 = g2 → ((w0.alloc (.cells (icells (List.replicate n 0)) 3)).alloc (.cells (icells (List.replicate n 0)) 3)).drew = W → Blk W g1 3 (icells (List.replicate n 0)) ∧ Blk W g2 3 (icells (List.replicate n 0)) ∧ Below w0.heap.size w0 W := fun g1 g2 W e1 e2 e3 => by subst e1 e2 e3; exact ⟨hA2, hB2, hx2⟩
   obtain ⟨W, hW⟩ : ∃ W, ((w0.alloc (.cells (icells (List.replicate n 0)) 3)).alloc (.cells (icells (List.replicate n 0)) 3)).drew = W := ⟨_, rfl⟩
   rw [hW]
   obtain ⟨g2, hg2⟩ : ∃ g, w0.heap.size + 1 = g := ⟨_, rfl⟩
   obtain ⟨g1, hg1⟩ : ∃ g, w0.heap.size = g := ⟨_, rfl⟩
   have hf := hfin g1 g2 W hg1 hg2 hW
   clear hfin hx1 hA2 hB2 hx2 hW
   rw [hg2, hg1]
   exact HQ g1 g2 W ⟨hf.1, hf.2.1, by omega, hf.2.2, by omega, by omega⟩
  ·go_simp
   have hx1 : Below w0.heap.size w0 ((w0.alloc (.cells (icells (List.replicate n 0)) 3)).drew) := ((Below.refl _ _).alloc (Nat.le_refl _) _).drew
   refine hK _ _ trivial ?_
   clear hK K
   try simp only [Act.put, pu]
   refine ord_step (i := 2) rfl (by decide) (by kernel_rfl) (by rfl) (fun K hK => ?_)
   go_simp
   have hx2 : Below w0.heap.size w0 (((w0.alloc (.cells (icells (List.replicate n 0)) 3)).alloc (.cells (icells (List.replicate n 0)) 3)).drew) := (((Below.refl _ _).alloc (Nat.le_refl _) _).alloc (by simp) _).drew
   have hA2 : Blk (((w0.alloc (.cells (icells (List.replicate n 0)) 3)).alloc (.cells (icells (List.replicate n 0)) 3)).drew) w0.heap.size 3 (icells (List.replicate n 0)) := ((Blk.new w0 _ _).alloc _).drew
   have hB2 : Blk (((w0.alloc (.cells (icells (List.replicate n 0)) 3)).alloc (.cells (icells (List.replicate n 0)) 3)).drew) (w0.heap.size + 1) 3 (icells (List.replicate n 0)) := by
    have := (Blk.new (w0.alloc (.cells (icells (List.replicate n 0)) 3)) 3 (icells (List.replicate n 0))).drew
    rw [World.size_alloc] at this
    exact this
   refine hK _ _ trivial ?_
   clear hK K
   try simp only [Act.put, pu]
   refine ord_take (i := 6) (v := ?_) (by kernel_rfl) rfl (by decide) (by kernel_rfl) (by kernel_rfl) (fun _ _ _ h => h) (Or.inl ⟨by rfl, ?_⟩) trivial ?_
   rotate_left
   ·intro wz hz; go_simp; (try with_reducible rfl)
   try simp only [Act.put, pu]
   refine ord_relist #[true, true, true, true, true, true, true, false] (by kernel_rfl) ?_
   have hfin : ∀ g1 g2 W, w0.heap.size = g1 → w0.heap.size + 1 = g2 → ((w0.alloc (.cells (icells (List.replicate n 0)) 3)).alloc (.cells (icells (List.replicate n 0)) 3)).drew = W → Blk W g1 3 (icells (List.replicate n 0)) ∧ Blk W g2 3 (icells (List.replicate n 0)) ∧ Below w0.heap.size w0 W := fun g1 g2 W e1 e2 e3 => by subst e1 e2 e3; exact ⟨hA2, hB2, hx2⟩
   obtain ⟨W, hW⟩ : ∃ W, ((w0.alloc (.cells (icells (List.replicate n 0)) 3)).alloc (.cells (icells (List.replicate n 0)) 3)).drew = W := ⟨_, rfl⟩
   rw [hW]
   obtain ⟨g2, hg2⟩ : ∃ g, w0.heap.size + 1 = g := ⟨_, rfl⟩
   obtain ⟨g1, hg1⟩ : ∃ g, w0.heap.size = g := ⟨_, rfl⟩
   have hf := hfin g1 g2 W hg1 hg2 hW
   clear hfin hx1 hA2 hB2 hx2 hW
   rw [hg2, hg1]
   exact HQ g2 g1 W ⟨hf.2.1, hf.1, by omega, hf.2.2, by omega, by omega⟩
 rintro Gs Gt W1 ⟨kS, kT, hne, hx, hGs, hGt⟩
 refine ord_rest (by kernel_rfl) ?_
 refine wpAny_take (i := 7) (v := ?_) rfl (by kernel_rfl) (by kernel_rfl) (by kernel_rfl) (fun _ _ _ h => h) (Or.inl ⟨by rfl, ?_⟩) ?_
 rotate_left
 ·intro wz; go_simp; (try with_reducible rfl)
 try simp only [Act.put, pu]
 refine wpAny_done (by kernel_rfl) ?_ _
 refine NoPanic.normal ?_
 have hB1 := bltB hB0 hB0.size hx
 have hGs := Nat.le_trans hB0.size hGs
 have hGt := Nat.le_trans hB0.size hGt
 clear hx hmk hB0
 skip
 go_wp2_with fail
 go_loopw [1, 2, 11] (fun av xv iv wr => ∃ (k : Nat) (a x : Int) (sA tA : List Int), k ≤ n ∧ av = .int .i64 a ∧ xv = .int .i64 x ∧ iv = .int .i64 ((k : Int) - 1) ∧ Hid (costR l.reverse a0 x0 = (costR (l.take k).reverse a x).map (fun r => (r.1 ++ sA, r.2 ++ tA))) ∧ Hid ((0 ≤ a ∧ a ≤ 1125899906842624) ∧ 1 ≤ x ∧ x ≤ 2097152) ∧ Hid (sA.length + k = n ∧ tA.length + k = n) ∧ Blk wr Gs 3 (icells (backL k sA)) ∧ Blk wr Gt 3 (icells (backL k tA)) ∧ Below w.heap.size w wr) (fun _ _ iv _ => (intOf iv + 1).toNat)
 case atStart => exact ⟨n, a0, x0, [], [], Nat.le_refl _, rfl, rfl, rfl, Lib.hid (by rw [List.take_of_length_le (by rw [Hlen.out]; exact Nat.le_refl _)]; cases costR l.reverse a0 x0 <;> simp), Lib.hid (by omega), Lib.hid (by simp), by rw [backL, List.append_nil]; exact kS, by rw [backL, List.append_nil]; exact kT, hB1⟩
 case round =>
  clear kS kT hB1 hr1 hr2
  obtain ⟨k, a, x, sA, tA, hk, rfl, rfl, rfl, HR, HBD, HLN, kS, kT, hB⟩ := hrel
  rcases Nat.eq_zero_or_pos k with h0 | h0
  ·subst h0
   have HF : Hid (RetC w (cost l a0 x0) (.returned (.tuple #[.slice (some ⟨Gs, 0, none⟩) n n, .slice (some ⟨Gt, 0, none⟩) n n, .int .i64 0])) wr) := Lib.hid (by
    have h1 := HLN.out
    refine RetC.yes (s := sA) (t := tA) ?_ (RI.of_blk kS h1.1) (RI.of_blk kT h1.2) hB
    rw [HC.out, HR.out]
    rfl)
   go_wp2_with fail
   go_ret3
   exact HF.out
  ·obtain ⟨m, rfl⟩ : ∃ m, k = m + 1 := ⟨k - 1, by omega⟩
   rw [show (((m + 1 : Nat) : Int) - 1) = (m : Int) by omega]
   obtain ⟨b, off, e, hA, hb, hx, hat, a0_, a1, a2, a3, a4, a5, a6, a7, a8⟩ := (HL.out.on hB).edge (show m < n by omega)
   have hpol := (edge_spec (way_edges HWB.out hx)).2.2.2.2.2
   have HP := Lib.hid hpol
   have hps := pol_spec hpol
   have HRV := Lib.hid (rev_take hx)
   have hRr := HR.out
   rw [HRV.out, costR_cons] at hRr
   have HR2 := Lib.hid hRr
   subst hA
   clear hx hat hpol hRr HR HRV
   have hmn : m < n := by omega
   have hbd := HBD.out
   have HEV : Hid (#[Value.int .i64 e.f, .int .i64 e.t, .int .i64 e.c, .int .i64 e.r, .int .i64 e.p0, .int .i64 e.p1, .int .i64 e.p2, .int .i64 e.p3, .int .i64 e.p4] = e.cs) := Lib.hid rfl
   obtain ⟨mz, hmz, hmin⟩ := min_named e.p4 e.r
   rw [← hmz] at HR2
   clear hmz
   go_wp2_with fail
   rw [HEV.out]
   obtain ⟨W2, hW2⟩ : ∃ W, W = wr.alloc (.cells e.cs 56) := ⟨_, rfl⟩
   have hb2 : Below wr.heap.size wr W2 := by rw [hW2]; exact (Below.refl _ _).alloc (Nat.le_refl _) _
   have k4 : Blk W2 wr.heap.size 56 e.cs := by rw [hW2]; exact Blk.new wr _ _
   obtain ⟨G, hG⟩ : ∃ G, wr.heap.size = G := ⟨_, rfl⟩
   have hSG := kS.lt
   have hTG := kT.lt
   rw [← hW2]
   rw [hG] at k4 hSG hTG ⊢
   replace kS := kS.below hb2 kS.lt
   replace kT := kT.below hb2 kT.lt
   have hB2 := bltB hB hB.size hb2
   clear hW2 hG hb2 a0_ a1 a2 a3 a4 a5 a6 a7 a8 hB hb
   refine (gin_any _ _ _ _).mono ?_
   rintro y w' ⟨rfl, rfl⟩
   obtain ⟨b1, hb1⟩ : ∃ z, inB a e.p3 mz = z := ⟨_, rfl⟩
   rw [hb1] at HR2 ⊢
   have HIN := Lib.hid hb1
   clear hb1
   rcases b1 with _ | _
   ·have HF : Hid (RetC w (cost l a0 x0) (.returned (.tuple #[.slice none 0 0, .slice none 0 0, .int .i64 6])) W2) := Lib.hid (RetC.no (by rw [HC.out, HR2.out]; rfl) (by decide) hB2)
    clear k4 kS kT hps hmin
    go_wp2_with fail
    go_ret3
    exact HF.out
   by_cases hx8 : x ≤ 1048576
   rotate_left
   ·have HF : Hid (RetC w (cost l a0 x0) (.returned (.tuple #[.slice none 0 0, .slice none 0 0, .int .i64 16])) W2) := Lib.hid (RetC.no (by rw [HC.out, HR2.out, decide_eq_false hx8]; rfl) (by decide) hB2)
    have hx9 : (1048576 : Int) < x := by omega
    clear k4 kS kT hps hmin
    go_wp2_with fail
    go_ret3
    exact HF.out
   rw [decide_eq_true hx8, show (true && true) = true from rfl, if_pos rfl] at HR2
   have cS := (kS.cell m).trans (icells_at _ (by rw [back_len]; omega))
   have cT := (kT.cell m).trans (icells_at _ (by rw [back_len]; omega))
   have fS := kS.frozen m
   have fT := kT.frozen m
   have c4 : W2.cell? ⟨G, 4, none⟩ = some (.int .i64 e.p0) := k4.cell 4
   have c5 : W2.cell? ⟨G, 5, none⟩ = some (.int .i64 e.p1) := k4.cell 5
   have c6 : W2.cell? ⟨G, 6, none⟩ = some (.int .i64 e.p2) := k4.cell 6
   have c7 : W2.cell? ⟨G, 7, none⟩ = some (.int .i64 e.p3) := k4.cell 7
   have c8 : W2.cell? ⟨G, 8, none⟩ = some (.int .i64 e.p4) := k4.cell 8
   have n1 : Gs ≠ G := by omega
   have n2 : Gt ≠ G := by omega
   have n3 : G ≠ Gs := by omega
   have n4 : G ≠ Gt := by omega
   have n5 : Gt ≠ Gs := fun h => hne h.symm
   clear hps hmin
   go_wp2_with fail
   replace kS := (kS.set_ m (.int .i64 a)).far (p := ⟨Gt, m, none⟩) hne (.int .i64 x)
   replace kT := (kT.far (p := ⟨Gs, m, none⟩) n5 (.int .i64 a)).set_ m (.int .i64 x)
   replace k4 := (k4.far (p := ⟨Gs, m, none⟩) n3 (.int .i64 a)).far (p := ⟨Gt, m, none⟩) n4 (.int .i64 x)
   replace hB2 := (hB2.setCell (p := ⟨Gs, m, none⟩) hGs (.int .i64 a)).setCell (p := ⟨Gt, m, none⟩) hGt (.int .i64 x)
   rw [icells_set, back_set] at kS kT
   generalize (W2.setCell ⟨Gs, m, none⟩ (.int .i64 a)).setCell ⟨Gt, m, none⟩ (.int .i64 x) = W3 at kS kT k4 hB2 ⊢
   clear cS cT fS fT c4 c5 c6 c7 c8 n1 n2 n3 n4 n5
   refine (fee_any e a W3 HP.out).mono ?_
   rintro y W4 ⟨rfl, hb4⟩
   replace kS := kS.below hb4 kS.lt
   replace kT := kT.below hb4 kT.lt
   replace k4 := k4.below hb4 k4.lt
   replace hB2 := bltB hB2 hB2.size hb4
   clear hb4
   obtain ⟨fv, hfv⟩ : ∃ z, feeV e a = z := ⟨_, rfl⟩
   obtain ⟨fb, hfb⟩ : ∃ z, feeB e a = z := ⟨_, rfl⟩
   rw [hfv, hfb] at HR2 ⊢
   clear hfv hfb
   go_wp2_with fail
   refine (nadd_any W4 a fv).mono ?_
   rintro y w' ⟨rfl, rfl⟩
   have HAB := Lib.hid (addB_range a fv)
   obtain ⟨sv, hsv⟩ : ∃ z, (if addB a fv = true then a + fv else 0) = z := ⟨_, rfl⟩
   obtain ⟨sb, hsb⟩ : ∃ z, addB a fv = z := ⟨_, rfl⟩
   rw [hsv] at HAB
   rw [hsb] at HR2 ⊢
   rw [hsb] at hsv
   rw [hsv] at HR2 ⊢
   clear hsv hsb
   have HB := Lib.hid hB2
   clear hB2
   rcases m with _ | m
   ·have hm0 : ¬ (0 : Int) < ((0 : Nat) : Int) := by omega
    have HR3 : Hid (costR l.reverse a0 x0 = (costR (l.take (0)).reverse sv (x + e.p2)).map (fun r => (r.1 ++ (a :: sA), r.2 ++ (x :: tA)))) := Lib.hid (by
     rw [HR2.out, show (l.take 0).reverse.isEmpty = true from rfl, Bool.true_or, if_pos rfl]
     cases costR (l.take (0)).reverse sv (x + e.p2) <;> simp)
    have hps := pol_spec HP.out
    have hp2 : 0 ≤ e.p2 ∧ e.p2 ≤ 1048576 := hps.2.2.2.2
    have hw2 : IntKind.i64.wrap (x + e.p2) = x + e.p2 := IntWalk.i64_in _ (by omega)
    have c6 : W4.cell? ⟨G, 6, none⟩ = some (.int .i64 e.p2) := k4.cell 6
    clear hps k4
    go_wp2_with fail
    refine region_still (by kernel_rfl) (by kernel_rfl) ?_
    replace c6 := (show W4.drew.cell? _ = _ from c6)
    replace HB := Lib.hid HB.out.drew
    replace kS := kS.drew
    replace kT := kT.drew
    generalize W4.drew = W4d at c6 HB kS kT ⊢
    with_reducible refine still_take ?_ ?_
    ·rfl
    intro K hK
    go_simp
    refine hK _ ?_
    clear hK K
    try simp only [Act.put, pu]
    with_reducible refine still_take ?_ ?_
    ·rfl
    intro K hK
    go_simp
    refine hK _ ?_
    clear hK K
    try simp only [Act.put, pu]
    with_reducible refine still_take ?_ ?_
    ·rfl
    intro K hK
    go_simp
    refine hK _ ?_
    clear hK K
    try simp only [Act.put, pu]
    with_reducible refine still_take ?_ ?_
    ·rfl
    intro K hK
    go_simp
    refine hK _ ?_
    clear hK K
    try simp only [Act.put, pu]
    with_reducible refine still_take ?_ ?_
    ·rfl
    intro K hK
    go_simp
    refine hK _ ?_
    clear hK K
    try simp only [Act.put, pu]
    with_reducible refine still_take ?_ ?_
    ·rfl
    intro K hK
    go_simp
    refine hK _ ?_
    clear hK K
    try simp only [Act.put, pu]
    with_reducible refine still_take ?_ ?_
    ·rfl
    intro K hK
    go_simp
    refine hK _ ?_
    clear hK K
    try simp only [Act.put, pu]
    with_reducible refine still_take ?_ ?_
    ·rfl
    intro K hK
    go_simp
    refine hK _ ?_
    clear hK K
    try simp only [Act.put, pu]
    with_reducible refine wpStill_nil ?_
    go_wp2_with fail
    go_roundw
    case rel => exact ⟨0, sv, x + e.p2, a :: sA, x :: tA, by omega, rfl, rfl, (by first | rfl | exact congrArg (Value.int .i64) (by omega)), HR3, Lib.hid ⟨HAB.out, by omega, by omega⟩, Lib.hid (by have h1 := HLN.out; simp only [List.length_cons]; omega), kS, kT, HB.out⟩
    case measure => first | (simp [intOf]; done) | (simp [intOf]; omega)
   ·have hm0 : (0 : Int) < ((m + 1 : Nat) : Int) := by omega
    have hem : (l.take (m + 1)).reverse.isEmpty = false := by
     rw [List.isEmpty_reverse]
     cases hl : l with
     | nil => have := Hlen.out; rw [hl] at this; simp at this; omega
     | cons => rfl
    rcases fb with _ | _
    ·have HF : Hid (RetC w (cost l a0 x0) (.returned (.tuple #[.slice none 0 0, .slice none 0 0, .int .i64 6])) W4) := Lib.hid (RetC.no (by rw [HC.out, HR2.out, hem]; rfl) (by decide) HB.out)
     clear hem kS kT k4
     go_wp2_with fail
     go_ret3
     exact HF.out
    ·rcases sb with _ | _
     ·have HF : Hid (RetC w (cost l a0 x0) (.returned (.tuple #[.slice none 0 0, .slice none 0 0, .int .i64 6])) W4) := Lib.hid (RetC.no (by rw [HC.out, HR2.out, hem]; rfl) (by decide) HB.out)
      clear hem kS kT k4
      go_wp2_with fail
      go_ret3
      exact HF.out
     ·have HR3 : Hid (costR l.reverse a0 x0 = (costR (l.take (m + 1)).reverse sv (x + e.p2)).map (fun r => (r.1 ++ (a :: sA), r.2 ++ (x :: tA)))) := Lib.hid (by
       rw [HR2.out, hem, show (false || (true && true)) = true from rfl, if_pos rfl]
       cases costR (l.take (m + 1)).reverse sv (x + e.p2) <;> simp)
      clear hem
      have hps := pol_spec HP.out
      have hp2 : 0 ≤ e.p2 ∧ e.p2 ≤ 1048576 := hps.2.2.2.2
      have hw2 : IntKind.i64.wrap (x + e.p2) = x + e.p2 := IntWalk.i64_in _ (by omega)
      have c6 : W4.cell? ⟨G, 6, none⟩ = some (.int .i64 e.p2) := k4.cell 6
      clear hps k4
      go_wp2_with fail
      refine region_still (by kernel_rfl) (by kernel_rfl) ?_
      replace c6 := (show W4.drew.cell? _ = _ from c6)
      replace HB := Lib.hid HB.out.drew
      replace kS := kS.drew
      replace kT := kT.drew
      generalize W4.drew = W4d at c6 HB kS kT ⊢
      with_reducible refine still_take ?_ ?_
      ·rfl
      intro K hK
      go_simp
      refine hK _ ?_
      clear hK K
      try simp only [Act.put, pu]
      with_reducible refine still_take ?_ ?_
      ·rfl
      intro K hK
      go_simp
      refine hK _ ?_
      clear hK K
      try simp only [Act.put, pu]
      with_reducible refine still_take ?_ ?_
      ·rfl
      intro K hK
      go_simp
      refine hK _ ?_
      clear hK K
      try simp only [Act.put, pu]
      with_reducible refine still_take ?_ ?_
      ·rfl
      intro K hK
      go_simp
      refine hK _ ?_
      clear hK K
      try simp only [Act.put, pu]
      with_reducible refine still_take ?_ ?_
      ·rfl
      intro K hK
      go_simp
      refine hK _ ?_
      clear hK K
      try simp only [Act.put, pu]
      with_reducible refine still_take ?_ ?_
      ·rfl
      intro K hK
      go_simp
      refine hK _ ?_
      clear hK K
      try simp only [Act.put, pu]
      with_reducible refine still_take ?_ ?_
      ·rfl
      intro K hK
      go_simp
      refine hK _ ?_
      clear hK K
      try simp only [Act.put, pu]
      with_reducible refine still_take ?_ ?_
      ·rfl
      intro K hK
      go_simp
      refine hK _ ?_
      clear hK K
      try simp only [Act.put, pu]
      with_reducible refine wpStill_nil ?_
      go_wp2_with fail
      go_roundw
      case rel => exact ⟨m + 1, sv, x + e.p2, a :: sA, x :: tA, by omega, rfl, rfl, (by first | rfl | exact congrArg (Value.int .i64) (by omega)), HR3, Lib.hid ⟨HAB.out, by omega, by omega⟩, Lib.hid (by have h1 := HLN.out; simp only [List.length_cons]; omega), kS, kT, HB.out⟩
      case measure => first | (simp [intOf]; done) | (simp [intOf]; omega)
end Go.Proofs.YthefgdehfgkhhaaGreat
namespace Go.Proofs.YthefgdehfgkhhaaGreat
open Go.RowKit Go.Shelf
set_option linter.unusedVariables false
set_option linter.unusedSimpArgs false
/-- The value v is the fraction q in lowest terms, of at most b digits above and below. -/
def IsQ (w : World) (v : Value) (q : Rat) (b : Nat) : Prop :=
 ∃ A n c B m d, v = .agg #[.slice A n c, .slice B m d] ∧ Rd w w.heap.size A n c (digs (rn q)) ∧ Rd w w.heap.size B m d (digs (rd q)) ∧ FQ (digs (rn q)) (digs (rd q)) q b
section
variable {w w' : World} {v : Value} {q : Rat} {b : Nat}
theorem IsQ.on (h : IsQ w v q b) (hb : Below w.heap.size w w') : IsQ w' v q b := by
 obtain ⟨A, n, c, B, m, d, e, r, t, f⟩ := h
 exact ⟨A, n, c, B, m, d, e, r.on hb, t.on hb, f⟩
theorem IsQ.drew (h : IsQ w v q b) : IsQ w.drew v q b := h.on (Below.refl _ _).drew
theorem IsQ.ge0 (h : IsQ w v q b) : 0 ≤ q := by
 obtain ⟨A, n, c, B, m, d, e, r, t, f⟩ := h
 exact f.ge0
theorem IsQ.as {q' : Rat} (h : IsQ w v q b) (e : q = q') : IsQ w v q' b := e ▸ h
theorem IsQ.mk {A B : Option Addr} {n c m d : Nat} (r : Rd w w.heap.size A n c (digs (rn q))) (t : Rd w w.heap.size B m d (digs (rd q))) (f : FQ (digs (rn q)) (digs (rd q)) q b) : IsQ w (.agg #[.slice A n c, .slice B m d]) q b := ⟨A, n, c, B, m, d, rfl, r, t, f⟩
end
def RetV (w : World) (q : Rat) (b : Nat) (e : Ending) (w' : World) : Prop := ∃ v, e = .returned v ∧ IsQ w' v q b ∧ Below w.heap.size w w'
def RetVO (w : World) (ok : Bool) (q : Rat) (b : Nat) (e : Ending) (w' : World) : Prop := ∃ v, e = .returned (.tuple #[v, .bool ok]) ∧ IsQ w' v q b ∧ Below w.heap.size w w'
theorem RetQ.v {w w' : World} {q : Rat} {b : Nat} {e : Ending} (h : RetQ w q b e w') : RetV w q b e w' := by
 obtain ⟨A, n, c, B, m, d, e1, r, t, f, hb⟩ := h
 exact ⟨_, e1, ⟨A, n, c, B, m, d, rfl, r, t, f⟩, hb⟩
theorem RetQO.v {w w' : World} {q : Rat} {b : Nat} {ok : Bool} {e : Ending} (h : RetQO w ok q b e w') : RetVO w ok q b e w' := by
 obtain ⟨A, n, c, B, m, d, e1, r, t, f, hb⟩ := h
 exact ⟨_, e1, ⟨A, n, c, B, m, d, rfl, r, t, f⟩, hb⟩
section
variable {w : World} {v1 v2 : Value} {q1 q2 : Rat} {b1 b2 : Nat}
theorem fmul_v (h1 : IsQ w v1 q1 b1) (h2 : IsQ w v2 q2 b2) (hb1 : b1 ≤ 9000) (hb2 : b2 ≤ 9000) : Calls Tryz.prog 69 #[v1, v2] w (RetV w (q1 * q2) (b1 + b2 + 2)) := by
 obtain ⟨A, n, c, B, m, d, rfl, r, t, f⟩ := h1
 obtain ⟨A', n', c', B', m', d', rfl, r', t', f'⟩ := h2
 exact (fmul_q r t f r' t' f' hb1 hb2).mono fun e w' h => h.v
theorem fcmp_v (h1 : IsQ w v1 q1 b1) (h2 : IsQ w v2 q2 b2) (hb1 : b1 ≤ 9000) (hb2 : b2 ≤ 9000) : Calls Tryz.prog 13 #[v1, v2] w fun e w' => e = .returned (.int .i64 (cmpQ q1 q2)) ∧ Below w.heap.size w w' := by
 obtain ⟨A, n, c, B, m, d, rfl, r, t, f⟩ := h1
 obtain ⟨A', n', c', B', m', d', rfl, r', t', f'⟩ := h2
 exact fcmp_q r t f r' t' f' hb1 hb2
end
theorem fof_v (w : World) (N D : Nat) (hN : N < 18446744073709551616) (hD : D < 18446744073709551616) : Calls Tryz.prog 10 #[.int .u64 N, .int .u64 D] w (RetVO w (decide (0 < D)) (mkRat N D) 2) :=
 (fof_q w N D hN hD).mono fun e w' h => h.v
/-- A fraction is stored into its own new block. -/
theorem isq_store {cw W : World} {G : Nat} {t : TypeId} {A B : Option Addr} {n c m d b : Nat} {q : Rat} (hB : Blk W G t #[.slice none 0 0, .slice none 0 0]) (I : IsQ W (.agg #[.slice A n c, .slice B m d]) q b) (hb : Below cw.heap.size cw W) (hG : cw.heap.size ≤ G) :
 let V := (W.setCell ⟨G, 0, none⟩ (.slice A n c)).setCell ⟨G, 1, none⟩ (.slice B m d)
 Blk V G t #[.slice A n c, .slice B m d] ∧ IsQ V (.agg #[.slice A n c, .slice B m d]) q b ∧ Below cw.heap.size cw V := by
 obtain ⟨A', n', c', B', m', d', e, r, t', f⟩ := I
 injection e with e
 have e := congrArg Array.toList e
 simp only [List.cons.injEq, and_true, Value.slice.injEq] at e
 obtain ⟨⟨rfl, rfl, rfl⟩, rfl, rfl, rfl⟩ := e
 obtain ⟨h1, h2, h3, h4⟩ := fr_store hB r t' hb hG
 exact ⟨h1, ⟨_, _, _, _, _, _, rfl, h2, h3, f⟩, h4⟩
/-- All orders end alike: what is left is walked once. -/
theorem ord_funnelT {P : Program} {ops : Array Oper} {Q : Exit → Act → World → Prop} {S : World → Prop} {N : Nat} {F : Value → Value → Nat → Act} {fuel k : Nat} {listed : Array Bool} {a : Act} {w : World} (listed' : Array Bool) (R : Value → Value → Nat → World → Prop)
 (g : (∀ x y z W, R x y z W → Ord P ops N Q S k listed' (F x y z) W) → Ord P ops N Q S fuel listed a w)
 (h : ∀ x y z W, R x y z W → Ord P ops N Q S k listed' (F x y z) W) : Ord P ops N Q S fuel listed a w := g h
theorem ord_funnelV {P : Program} {ops : Array Oper} {Q : Exit → Act → World → Prop} {S : World → Prop} {N : Nat} {F : Value → Nat → Act} {fuel k : Nat} {listed : Array Bool} {a : Act} {w : World} (listed' : Array Bool) (R : Value → Nat → World → Prop)
 (g : (∀ x z W, R x z W → Ord P ops N Q S k listed' (F x z) W) → Ord P ops N Q S fuel listed a w)
 (h : ∀ x z W, R x z W → Ord P ops N Q S k listed' (F x z) W) : Ord P ops N Q S fuel listed a w := g h
theorem rn_pos {q : Rat} (h : 0 ≤ q) : 0 < rn q ↔ q ≠ 0 := by
 have h2 := Rat.num_nonneg.2 h
 have h3 := Rat.num_eq_zero (q := q)
 unfold rn
 constructor
 ·intro h e
  have := h3.2 e
  omega
 ·intro h
  have : q.num ≠ 0 := fun e => h (h3.1 e)
  omega
theorem len_pos_q {q : Rat} (h : 0 ≤ q) : 0 < (digs (rn q)).length ↔ q ≠ 0 := by
 rw [← rn_pos h]
 constructor
 ·intro h
  rcases Nat.eq_zero_or_pos (rn q) with h0 | h0
  ·rw [h0, digs_zero] at h; simp at h
  ·exact h0
 ·exact digs_len_of'
end Go.Proofs.YthefgdehfgkhhaaGreat
