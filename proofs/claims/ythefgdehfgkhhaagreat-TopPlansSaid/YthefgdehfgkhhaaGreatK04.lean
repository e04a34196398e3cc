/-
  Of, up, Clone: digits laid out of a number, with a digit more below, anew.
-/
import Derived.Test.YthefgdehfgkhhaaGreatK01
import Derived.Test.YthefgdehfgkhhaaGreatK02
import Derived.Laws.CopyOwn
import Derived.Lib.LazyBuf
import Derived.Maps.AppendAt
import Derived.Test.YthefgdehfgkhhaaGreatK03
namespace Go.Proofs.YthefgdehfgkhhaaGreat
open Go.RowKit
set_option linter.unusedVariables false
set_option linter.unusedSimpArgs false
theorem digs_two (n : Nat) (h : n < 18446744073709551616) : val [n % 4294967296, n / 4294967296] = n := by
 simp only [val]; omega
theorem of_any (w : World) (n : Nat) (h : n < 18446744073709551616) : Calls Tryz.prog 34 #[.int .u64 n] w (RetN w n) := by
 have hd : Dig [n % 4294967296, n / 4294967296] := Dig.cons (Nat.mod_lt _ (by decide)) (Dig.cons (by omega) Dig.nil)
 have hB : Blk (w.alloc (.cells #[.int .u32 ((n : Int) % 4294967296), .int .u32 ((n : Int) / 4294967296)] 132)) w.heap.size 132 (cells [n % 4294967296, n / 4294967296]) := by
  have := Blk.new w 132 (cells [n % 4294967296, n / 4294967296])
  simpa [cells] using this
 have hr := Lib.hid (Rd.of_blk hB hd)
 have hbel : Below w.heap.size w (w.alloc (.cells #[.int .u32 ((n : Int) % 4294967296), .int .u32 ((n : Int) / 4294967296)] 132)) := (Below.refl _ _).alloc (Nat.le_refl _) _
 have HG : Hid (∀ (e : Ending) (w1 : World) (m : Nat), HasD w1 w1.heap.size m (val [n % 4294967296, n / 4294967296]) e → Below w.heap.size w w1 → RetN w n e w1) := Lib.hid (fun e w1 m hh hb => by
  rw [digs_two n h] at hh
  exact hh.ret hb)
 clear hd hB
 go_enter Tryz.func34, Tryz.ntmps34
 go_wp2_with fail
 refine (low_any _ _ _ _ _ _ hr.out (by simp)).mono ?_
 rintro e w1 ⟨⟨P, mm, dd, rfl, hmm, rr⟩, rfl⟩
 go_wp2_with fail
 go_ret
 exact HG.out _ _ _ ⟨_, _, _, rfl, hmm, rr⟩ hbel
theorem infoS : (Tryz.prog.info? 132).map (·.size) = some 1 := by kernel_rfl
theorem splice_cells (l : List Nat) (n : Nat) (hl : l.length = n) (L : List Value) (hL : L = (List.replicate (n + 1) 0).map fun d : Nat => Value.int .u32 (d : Int)) :
 splice L 1 (l.map fun d : Nat => Value.int .u32 (d : Int)) = (0 :: l).map fun d : Nat => Value.int .u32 (d : Int) := by
 subst hL
 simp [splice, List.replicate_succ]
 omega
def zeros (n : Nat) : List Nat := List.replicate n 0
theorem make_z (z : Int) (n : Nat) (hz : z = n) (hn : n ≤ 4194304) : ∀ u : World, (Instr.makeSlice 32 (.int .i64 z) (.int .i64 z)).run Tryz.prog u =
 .ok (.slice (some ⟨u.heap.size, 0, none⟩) n n) (u.alloc (.cells (cells (zeros n)) 132)) := make_u32 z n hz hn
/-- A number's digits, in new memory. -/
def RetF (w : World) (x : Nat) (e : Ending) (w' : World) : Prop :=
 ∃ A n c, e = .returned (.slice A n c) ∧ Rd w' w'.heap.size A n c (digs x) ∧ Below w.heap.size w w' ∧ ∀ ad, A = some ad → w.heap.size ≤ ad.block
theorem up_fin (w : World) (l : List Nat) (hdig : Dig l) (d : Nat) (hd : d < 4294967296) (g : Nat) (w1 : World) (hb : Blk w1 g 132 (cells (d :: l))) (hbel : Below w.heap.size w w1) :
 Rd w1 w1.heap.size (some ⟨g, 0, none⟩) (l.length + 1) (l.length + 1) (d :: l) ∧ ∀ (e : Ending) (m c : Nat), w.heap.size ≤ g → HasA w1 w1.heap.size (some ⟨g, 0, none⟩) m c (val (d :: l)) e → RetF w (d + 4294967296 * val l) e w1 :=
 ⟨Rd.of_blk hb (Dig.cons hd hdig), fun e m c hg hh => by
  obtain ⟨n', rfl, _, hr⟩ := hh
  exact ⟨_, n', c, rfl, hr, hbel, fun ad e => by injection e with e; subst e; exact hg⟩⟩
theorem up_any (w : World) (A : Option Addr) (n c : Nat) (l : List Nat) (h : Rd w w.heap.size A n c l) (hn : n ≤ 65536) (d : Nat) (hd : d < 4294967296) :
 Calls Tryz.prog 91 #[.slice A n c, .int .u32 d] w (RetF w (d + 4294967296 * val l)) := by
 rcases Nat.eq_zero_or_pos n with h0 | h0
 ·subst h0
  have hl : l = [] := List.eq_nil_of_length_eq_zero h.len
  subst hl
  clear h
  have hmk := make_z 1 1 rfl (by decide)
  have hc0 : (w.alloc (.cells (cells (zeros 1)) 132)).cell? ⟨w.heap.size, 0, none⟩ = some (.int .u32 0) := (Blk.new w _ _).cell 0
  have hf0 := (Blk.new w 132 (cells (zeros 1))).frozen 0
  have hB : Blk (w.alloc (.cells ((cells (zeros 1)).setIfInBounds 0 (.int .u32 (d : Int))) 132)) w.heap.size 132 (cells (d :: [])) := by
   have := Blk.new w 132 (cells [d])
   exact this
  obtain ⟨hr, hg⟩ := up_fin w [] Dig.nil d hd _ _ hB ((Below.refl _ _).alloc (Nat.le_refl _) _)
  have HR := Lib.hid hr
  have HG := Lib.hid hg
  clear hr hg hB
  go_enter Tryz.func91, Tryz.ntmps91
  go_wp2_with (with_reducible refine wpList_copy_nothing rfl (.tmp 11) (.tmp 12) 32 32 rfl 132 Tryz.underlying32 infoS _ _ _ _ _ _ rfl rfl rfl ?_)
  refine (low_at _ _ _ _ _ _ HR.out (by simp)).mono ?_
  rintro e w1 ⟨⟨mm, rfl, hmm, rr⟩, rfl⟩
  go_wp2_with fail
  go_ret
  exact HG.out _ _ _ (Nat.le_refl _) ⟨_, rfl, hmm, rr⟩
 ·have hmk := make_z ((n : Int) + 1) (n + 1) (by omega) (by omega)
  have hbel : Below w.heap.size w (w.alloc (.cells (cells (zeros (n + 1))) 132)) := (Below.refl _ _).alloc (Nat.le_refl _) _
  obtain ⟨b, off, rfl, hb, hc⟩ := h.at_ (by omega)
  obtain ⟨cs, hcs⟩ : ∃ cs, cs = l.map fun d : Nat => Value.int .u32 (d : Int) := ⟨_, rfl⟩
  have hcl : cs.length = n := by rw [hcs, List.length_map, h.len]
  have h1 : ∀ v ∈ cs, v.oneCell' = true := by
   intro v hv
   rw [hcs] at hv
   obtain ⟨d, _, rfl⟩ := List.mem_map.1 hv
   rfl
  have hsrc : ∀ j v, cs[j]? = some v → (w.alloc (.cells (cells (zeros (n + 1))) 132)).cell? ((⟨b, off, none⟩ : Addr).add j) = some v := fun j v hv => by
   have hj : j < n := by rw [← hcl]; exact (List.getElem?_eq_some_iff.1 hv).1
   have e : (⟨b, off, none⟩ : Addr).add j = ⟨b, off + j, none⟩ := by unfold Addr.add; split <;> simp_all
   rw [e, hbel.cell (p := ⟨b, off + j, none⟩) hb, hc j hj]
   rw [hcs, List.getElem?_map] at hv
   have : l[j]? = some (l.getD j 0) := by rw [List.getD_eq_getElem?_getD, List.getElem?_eq_getElem (by rw [h.len]; exact hj)]; rfl
   rw [this] at hv
   exact hv
  have hnew : (w.alloc (.cells (cells (zeros (n + 1))) 132)).heap[w.heap.size]? = some (.cells ((zeros (n + 1)).map fun d : Nat => Value.int .u32 (d : Int)).toArray 132 (0, 0)) := Blk.new _ _ _
  obtain ⟨cur, hcur⟩ : ∃ cur, cur = (zeros (n + 1)).map fun d : Nat => Value.int .u32 (d : Int) := ⟨_, rfl⟩
  rw [← hcur] at hnew
  have hcurl : cur.length = n + 1 := by rw [hcur]; simp [zeros]
  have hsp : splice cur 1 cs = (0 :: l).map fun d : Nat => Value.int .u32 (d : Int) := by rw [hcs]; exact splice_cells l (n) h.len cur hcur
  have HL := Lib.hid (And.intro hcl (And.intro h1 (And.intro hsrc (And.intro h.len (And.intro h.dig (And.intro hnew (And.intro hcurl hsp)))))))
  have HB := Lib.hid hbel
  clear hcs hcl h1 hsrc h hnew hcur hcurl hsp hbel hc
  go_enter Tryz.func91, Tryz.ntmps91
  go_wp2_with (with_reducible refine wpList_copy_splice rfl (.tmp 11) (.tmp 12) 32 32 rfl 132 Tryz.underlying32 infoS _ _ _ _ _ _ rfl rfl w.heap.size 1 cur 132 HL.out.2.2.2.2.2.1 cs ?hn (fun _ => ⟨rfl, _, rfl, HL.out.2.2.1⟩) ?hfit HL.out.2.1 w.heap.size w HB.out (Nat.le_refl _) ?_)
  case hn => rw [HL.out.1]; simp
  case hfit => rw [HL.out.1, HL.out.2.2.2.2.2.2.1]; omega
  intro w2 HG2 hb2
  rw [HL.out.2.2.2.2.2.2.2] at HG2
  have hB2 : Blk w2 w.heap.size 132 (cells (0 :: l)) := HG2.out
  have hc0 : w2.cell? ⟨w.heap.size, 0, none⟩ = some (.int .u32 0) := hB2.cell 0
  have hf0 := hB2.frozen 0
  have hB3 := hB2.set_ 0 (.int .u32 (d : Int))
  rw [cells_set] at hB3
  obtain ⟨hr, hg⟩ := up_fin w l HL.out.2.2.2.2.1 d hd _ _ hB3 (hb2.setCell (p := ⟨w.heap.size, 0, none⟩) (Nat.le_refl _) _)
  rw [HL.out.2.2.2.1] at hr
  have HR := Lib.hid hr
  have HG := Lib.hid hg
  clear hr hg hB2 hB3 HG2 HL
  go_wp2_with fail
  refine (low_at _ _ _ _ _ _ HR.out (by omega)).mono ?_
  rintro e w1 ⟨⟨mm, rfl, hmm, rr⟩, rfl⟩
  go_wp2_with fail
  go_ret
  exact HG.out _ _ _ (Nat.le_refl _) ⟨_, rfl, hmm, rr⟩
end Go.Proofs.YthefgdehfgkhhaaGreat
namespace Go.Proofs.YthefgdehfgkhhaaGreat
open Go.RowKit Go.Shelf
set_option linter.unusedVariables false
set_option linter.unusedSimpArgs false
attribute [local go_sem] Oper.semAt_some
attribute [local go_sem ↓] Go.wp_at_zero Go.wp_at_succ
/-- One digit more from the top. -/
def dstep (Y : Nat) (s : List Nat × Nat) (p : Nat × Nat) : List Nat × Nat :=
 if p.2 + 4294967296 * s.2 < Y then (s.1, p.2 + 4294967296 * s.2) else (s.1.set p.1 ((p.2 + 4294967296 * s.2) / Y), (p.2 + 4294967296 * s.2) % Y)
def dfold {l : List Nat} (Y n : Nat) (pre : List (Ix l)) : List Nat × Nat := pre.foldl (fun s x => dstep Y s x.1) (zeros n, 0)
theorem dfold_nil {l : List Nat} (Y n : Nat) : dfold (l := l) Y n [] = (zeros n, 0) := rfl
theorem dfold_snoc {l : List Nat} (Y n : Nat) (pre : List (Ix l)) (x : Ix l) : dfold Y n (pre ++ [x]) = dstep Y (dfold Y n pre) x.1 := by simp [dfold]
theorem top_lt {Y r d : Nat} (hr : r < Y) (hd : d < 4294967296) : d + 4294967296 * r < Y * 4294967296 := by omega
theorem dstep_inv {Y n : Nat} {s : List Nat × Nat} {p : Nat × Nat} (hd : p.2 < 4294967296) (h : s.1.length = n ∧ Dig s.1 ∧ s.2 < Y) : (dstep Y s p).1.length = n ∧ Dig (dstep Y s p).1 ∧ (dstep Y s p).2 < Y := by
 obtain ⟨h1, h2, h3⟩ := h
 unfold dstep
 split
 ·exact ⟨h1, h2, by assumption⟩
 ·refine ⟨by simp [h1], h2.set _ ?_, Nat.mod_lt _ (by omega)⟩
  exact Nat.div_lt_of_lt_mul (top_lt h3 hd)
theorem dfold_inv {l : List Nat} (hl : Dig l) {Y n : Nat} (hY : 0 < Y) (pre : List (Ix l)) : (dfold Y n pre).1.length = n ∧ Dig (dfold Y n pre).1 ∧ (dfold Y n pre).2 < Y := by
 suffices h : ∀ (pre : List (Ix l)) (s : List Nat × Nat), s.1.length = n ∧ Dig s.1 ∧ s.2 < Y → (pre.foldl (fun s x => dstep Y s x.1) s).1.length = n ∧ Dig (pre.foldl (fun s x => dstep Y s x.1) s).1 ∧ (pre.foldl (fun s x => dstep Y s x.1) s).2 < Y from
  h pre _ ⟨by simp [zeros], Dig.zeros n, hY⟩
 intro pre
 induction pre with
 | nil => exact fun s h => h
 | cons x pre ih =>
  intro s h
  exact ih _ (dstep_inv (by rw [x.2.2]; exact hl.getD _) h)
theorem div_step {d V Y : Nat} (hY : 0 < Y) : (d + 4294967296 * V) / Y = (d + 4294967296 * (V % Y)) / Y + 4294967296 * (V / Y) ∧ (d + 4294967296 * V) % Y = (d + 4294967296 * (V % Y)) % Y := by
 have e : d + 4294967296 * V = (d + 4294967296 * (V % Y)) + Y * (4294967296 * (V / Y)) := by
  have := Nat.mod_add_div V Y
  have e2 : 4294967296 * V = 4294967296 * (V % Y) + 4294967296 * (Y * (V / Y)) := by rw [← Nat.mul_add, this]
  have e3 : 4294967296 * (Y * (V / Y)) = Y * (4294967296 * (V / Y)) := by rw [← Nat.mul_assoc, ← Nat.mul_assoc, Nat.mul_comm 4294967296 Y]
  omega
 rw [e, Nat.add_mul_div_left _ _ hY, Nat.add_mul_mod_self_left]
 exact ⟨rfl, rfl⟩
theorem val_drop_cons {l : List Nat} {i : Nat} (h : i < l.length) : val (l.drop i) = l.getD i 0 + 4294967296 * val (l.drop (i + 1)) := by
 rw [List.drop_eq_getElem_cons h, val, List.getD_eq_getElem?_getD, List.getElem?_eq_getElem h]
 rfl
theorem drop_set_ge {q : List Nat} {i d : Nat} : (q.set i d).drop (i + 1) = q.drop (i + 1) := by
 rw [List.drop_set]; simp
/-- After j digits from the top. -/
theorem dfold_bkf {l : List Nat} (hl : Dig l) {Y : Nat} (hY : 0 < Y) : ∀ j, j ≤ l.length →
 val ((dfold Y l.length (bkf l j)).1.drop (l.length - j)) = val (l.drop (l.length - j)) / Y ∧ (dfold Y l.length (bkf l j)).2 = val (l.drop (l.length - j)) % Y ∧ ∀ i, i < l.length - j → (dfold Y l.length (bkf l j)).1.getD i 0 = 0
 | 0, _ => by
  rw [bkf, dfold_nil]
  have h0 : (zeros l.length).drop (l.length - 0) = [] := List.drop_eq_nil_of_le (by simp [zeros])
  have h1 : l.drop (l.length - 0) = [] := List.drop_eq_nil_of_le (by omega)
  simp only [h0, h1, val]
  refine ⟨by simp, by simp, fun i hi => ?_⟩
  simp only [zeros, List.getD_eq_getElem?_getD, List.getElem?_replicate]
  split <;> rfl
 | j + 1, hj => by
  obtain ⟨h1, h2, h3⟩ := dfold_bkf hl hY j (by omega)
  obtain ⟨g1, g2, g3⟩ := dfold_inv hl (n := l.length) hY (bkf l j)
  rw [bkf_succ (by omega), dfold_snoc]
  simp only
  generalize dfold Y l.length (bkf l j) = s at *
  obtain ⟨i, hi⟩ : ∃ i, i = l.length - 1 - j := ⟨_, rfl⟩
  have e1 : l.length - j = i + 1 := by omega
  have e2 : l.length - (j + 1) = i := by omega
  rw [e1] at h1 h2 h3
  rw [e2]
  simp only [← hi]
  have hil : i < l.length := by omega
  rw [val_drop_cons hil]
  obtain ⟨k1, k2⟩ := div_step (d := l.getD i 0) (V := val (l.drop (i + 1))) hY
  unfold dstep
  simp only
  rw [h2]
  split
  ·rename_i hlt
   refine ⟨?_, ?_, fun k hk => h3 k (by omega)⟩
   ·simp only
    rw [val_drop_cons (by omega), h3 i (by omega), h1, k1, Nat.div_eq_of_lt hlt]
   ·rw [k2, Nat.mod_eq_of_lt hlt]
  ·refine ⟨?_, k2.symm, fun k hk => ?_⟩
   ·simp only
    rw [val_drop_cons (by rw [List.length_set]; omega), drop_set_ge, h1, k1]
    congr 1
    rw [List.getD_eq_getElem?_getD, List.getElem?_set_self (by omega)]
    rfl
   ·simp only
    rw [getD_set (by omega)]
    exact h3 k (by omega)
theorem dfold_all {l : List Nat} (hl : Dig l) {Y : Nat} (hY : 0 < Y) : val (dfold Y l.length (bkf l l.length)).1 = val l / Y ∧ (dfold Y l.length (bkf l l.length)).2 = val l % Y := by
 obtain ⟨h1, h2, _⟩ := dfold_bkf hl hY l.length (Nat.le_refl _)
 rw [Nat.sub_self, List.drop_zero, List.drop_zero] at h1
 rw [Nat.sub_self, List.drop_zero] at h2
 exact ⟨h1, h2⟩
/-- Quotient and rest are handed back, and whether there is a divisor. -/
def RetD (w : World) (X Y : Nat) (e : Ending) (w' : World) : Prop :=
 ∃ A1 n1 c1 A2 n2 c2, e = .returned (.tuple #[.slice A1 n1 c1, .slice A2 n2 c2, .bool (decide (0 < Y))]) ∧ Rd w' w'.heap.size A1 n1 c1 (digs (X / Y)) ∧ Rd w' w'.heap.size A2 n2 c2 (digs (if Y = 0 then 0 else X % Y)) ∧ Below w.heap.size w w'
theorem blk_kept {W W' : World} {g : Nat} {t : TypeId} {cs : Array Value} {row : Option Nat} (h : Blk W g t cs) (hg : W.grownBy W' row) (hr : ∀ r, row = some r → ∃ o : Obj, W.heap[r]? = some o ∧ o.isCells = false) : Blk W' g t cs :=
 (hg.block g h.lt (fun e => by
  obtain ⟨o, ho, hc⟩ := hr g e.symm
  rw [show W.heap[g]? = _ from h] at ho
  cases ho
  cases hc)).trans h
theorem rd_kept {W W' : World} {A : Option Addr} {n c : Nat} {l : List Nat} {row : Option Nat} (h : Rd W W.heap.size A n c l) (hg : W.grownBy W' row) (hr : ∀ r, row = some r → ∃ o : Obj, W.heap[r]? = some o ∧ o.isCells = false) : Rd W' W'.heap.size A n c l :=
 ⟨h.len, h.cap, h.dig, fun h0 => by
  obtain ⟨b, off, e, hb, hc⟩ := h.at_ h0
  exact ⟨b, off, e, Nat.lt_of_lt_of_le hb hg.size, fun k hk => cell_kept (hc k hk) hg hr⟩⟩
/-- In a round: the row of the quotient, its box, the divisor's, the rest's. -/
structure DJ (w : World) (G Bs m1 m2 d2 : Nat) (P2 : Option Addr) (qs : List Nat) (A : Option Addr) (n c R : Nat) (W : World) : Prop where
 q : Blk W G 132 (cells qs)
 qb : Boxed W (G + 1) 32 (.slice (some ⟨G, 0, none⟩) m1 m1)
 bb : Boxed W w.heap.size 32 (.slice P2 m2 d2)
 rb : Boxed W (G + 1 + 1) 32 (.slice A n c)
 rd : Rd W W.heap.size A n c (digs R)
 bel : Below w.heap.size w W
 sz : Bs < W.heap.size
 ord : w.heap.size < G
section
variable {w W W' : World} {G Bs m1 m2 d2 n c R : Nat} {P2 A : Option Addr} {qs : List Nat}
theorem DJ.on (h : DJ w G Bs m1 m2 d2 P2 qs A n c R W) (hb : Below W.heap.size W W') : DJ w G Bs m1 m2 d2 P2 qs A n c R W' :=
 ⟨h.q.below hb h.q.lt, Blk.below (cs := #[_]) h.qb hb h.qb.lt, Blk.below (cs := #[_]) h.bb hb h.bb.lt, Blk.below (cs := #[_]) h.rb hb h.rb.lt, h.rd.on hb, bltB h.bel h.bel.size hb, Nat.lt_of_lt_of_le h.sz hb.size, h.ord⟩
theorem DJ.drew (h : DJ w G Bs m1 m2 d2 P2 qs A n c R W) : DJ w G Bs m1 m2 d2 P2 qs A n c R W.drew := h.on (Below.refl _ _).drew
theorem DJ.setr (h : DJ w G Bs m1 m2 d2 P2 qs A n c R W) {A3 : Option Addr} {n3 c3 R3 : Nat} (r3 : Rd W W.heap.size A3 n3 c3 (digs R3)) : DJ w G Bs m1 m2 d2 P2 qs A3 n3 c3 R3 (W.setCell ⟨G + 1 + 1, 0, none⟩ (.slice A3 n3 c3)) := by
 have ho := h.ord
 have hz : (W.setCell ⟨G + 1 + 1, 0, none⟩ (.slice A3 n3 c3)).heap.size = W.heap.size := by simp [World.setCell]
 refine ⟨h.q.far (p := ⟨G + 1 + 1, 0, none⟩) (by simp; omega) _, h.qb.other (by omega) _, h.bb.other (by omega) _, boxed_set h.rb _, ?_, h.bel.setCell (p := ⟨G + 1 + 1, 0, none⟩) (by simp; omega) _, by rw [hz]; exact h.sz, ho⟩
 rw [hz]
 refine ⟨r3.len, r3.cap, r3.dig, fun h0 => ?_⟩
 obtain ⟨b, off, e, hb, hc⟩ := r3.at_ h0
 refine ⟨b, off, e, hb, fun k hk => ?_⟩
 rw [World.cell?_setCell_other _ _ _ _ (fun e => by
  have h1 := hc k hk
  rw [← e, h.rb.cell] at h1
  cases h1)]
 exact hc k hk
theorem DJ.setq (h : DJ w G Bs m1 m2 d2 P2 qs A n c R W) (far : ∀ ad, A = some ad → ad.block ≠ G) (i v : Nat) : DJ w G Bs m1 m2 d2 P2 (qs.set i v) A n c R (W.setCell ⟨G, i, none⟩ (.int .u32 (v : Int))) := by
 have ho := h.ord
 have hz : (W.setCell ⟨G, i, none⟩ (.int .u32 (v : Int))).heap.size = W.heap.size := by simp [World.setCell]
 refine ⟨?_, Blk.far (cs := #[_]) h.qb (p := ⟨G, i, none⟩) (by simp) _, Blk.far (cs := #[_]) h.bb (p := ⟨G, i, none⟩) (by simp; omega) _, Blk.far (cs := #[_]) h.rb (p := ⟨G, i, none⟩) (by simp; omega) _, ?_, h.bel.setCell (p := ⟨G, i, none⟩) (by simp; omega) _, by rw [hz]; exact h.sz, ho⟩
 ·have := h.q.set_ i (.int .u32 (v : Int))
  rw [cells_set] at this
  exact this
 ·rw [hz]
  refine ⟨h.rd.len, h.rd.cap, h.rd.dig, fun h0 => ?_⟩
  obtain ⟨b, off, e, hb, hc⟩ := h.rd.at_ h0
  have hne := far _ e
  refine ⟨b, off, e, hb, fun k hk => ?_⟩
  rw [World.cell?_setCell_other _ _ _ _ (fun e2 => hne (by injection e2 with h1; exact h1.symm))]
  exact hc k hk
end
/-- Between two rounds. -/
def DI (w : World) (G Bs m1 m2 d2 : Nat) (P2 : Option Addr) (s : List Nat × Nat) (W : World) : Prop := ∃ A n c, DJ w G Bs m1 m2 d2 P2 s.1 A n c s.2 W
theorem DI.own {β : Type} {w : World} {G Bs m1 m2 d2 B : Nat} {P2 : Option Addr} (f : β → List Nat × Nat) (hB : w.heap.size ≤ B) : OwnFrom B (fun (s : β) W => DI w G Bs m1 m2 d2 P2 (f s) W) := fun s W W' row hs hg hr => by
 have hr' : ∀ r, row = some r → ∃ o : Obj, W.heap[r]? = some o ∧ o.isCells = false := fun r e => (hr r e).2
 obtain ⟨A, n, c, h1, h2, h3, h4, h5, h6, h7, h8⟩ := hs
 exact ⟨A, n, c, blk_kept h1 hg hr', blk_kept (cs := #[_]) h2 hg hr', blk_kept (cs := #[_]) h3 hg hr', blk_kept (cs := #[_]) h4 hg hr', rd_kept h5 hg hr', h6.grown hg h6.size (fun k e => Nat.le_trans hB (hr k e).1), Nat.lt_of_lt_of_le h7 hg.size, h8⟩
/-- What a step in a round keeps. -/
def St (B n₀ Bs : Nat) (W W' : World) : Prop := KeepsFrom B W W' ∧ KpB n₀ Bs W W'
section
variable {B n₀ Bs : Nat} {W W' W'' : World}
theorem St.trans (h : St B n₀ Bs W W') (k : St B n₀ Bs W' W'') : St B n₀ Bs W W'' := ⟨h.1.trans k.1, h.2.trans k.2⟩
theorem St.call (h : Below W.heap.size W W') (h0 : n₀ ≤ W.heap.size) (hs : Bs < W.heap.size) : St B n₀ Bs W W' :=
 ⟨⟨h.size, fun k o _ hk _ => (h.block k (Array.getElem?_eq_some_iff.1 hk).1).trans hk⟩, h.mono h0, h.cell (p := ⟨Bs, 0, none⟩) hs⟩
theorem St.set (W : World) {p : Addr} (h0 : n₀ ≤ p.block) (hs : p.block ≠ Bs) (u : Value) : St B n₀ Bs W (W.setCell p u) :=
 ⟨(KeepsOthers.setCell _ _ _).from _, (Below.refl _ _).setCell h0 _, World.cell?_setCell_other _ _ _ _ (fun e => hs (by rw [e]))⟩
theorem St.drew : St B n₀ Bs W W.drew := ⟨(KeepsOthers.drew _).from _, (Below.refl _ _).drew, rfl⟩
end
set_option maxRecDepth 100000 in
set_option maxHeartbeats 4000000 in
theorem divmod_any (w : World) (A1 A2 : Option Addr) (n1 c1 n2 c2 : Nat) (l1 l2 : List Nat) (h1 : Rd w w.heap.size A1 n1 c1 l1) (h2 : Rd w w.heap.size A2 n2 c2 l2) (hn1 : n1 ≤ 60000) (hn2 : n2 ≤ 60000) :
 Calls Tryz.prog 61 #[.slice A1 n1 c1, .slice A2 n2 c2] w (RetD w (tv l1) (tv l2)) := by
 refine (callsIn_wide (n := 9)).1 ?_
 refine callsIn_of_wp_marks Tryz.func61 rfl trivial ?_ rfl
 simp only [Tryz.ntmps61, List.size_toArray, List.length_cons, List.length_nil, Nat.reduceAdd, Nat.reduceSub, Array.replicate_succ, Array.replicate_zero, List.push_toArray, List.append_toArray, List.nil_append, List.cons_append]
 refine wpIn_wide.2 ?_
 go_wp2_with fail
 obtain ⟨w0, hw0⟩ : ∃ w0, w0 = w.alloc (.cells #[.slice A2 n2 c2] 32) := ⟨_, rfl⟩
 rw [← hw0]
 have hb0 : Below w.heap.size w w0 := by rw [hw0]; exact (Below.refl _ _).alloc (Nat.le_refl _) _
 have bB : Boxed w0 w.heap.size 32 (.slice A2 n2 c2) := by rw [hw0]; exact Boxed.new w _ _
 have hz0 : w.heap.size + 1 ≤ w0.heap.size := by rw [hw0]; simp
 have r1 := h1.below hb0
 have r2 := h2.below hb0
 clear hw0 h1 h2
 have hc0 := bB.cell
 have hf0 := bB.frozen
 have hS : w0.drew.cell? ⟨w.heap.size, 0, none⟩ = some (.slice A2 n2 c2) := hc0
 refine wp_region_noPanic ?_
 refine ord_begin 5 (fun wx => wx.cell? ⟨w.heap.size, 0, none⟩ = some (.slice A2 n2 c2)) (by kernel_rfl) ?_
 refine ord_take (i := 0) (v := ?_) (by kernel_rfl) rfl (by decide) (by kernel_rfl) (by kernel_rfl) (fun _ _ _ h => h) (Or.inl ⟨by rfl, ?_⟩) hS ?_
 rotate_left
 ·intro wz hz; (try dsimp only at hz); (try go_split_ands); go_simp; (try with_reducible rfl)
 try simp only [Act.put, pu]
 refine ord_take (i := 2) (v := ?_) (by kernel_rfl) rfl (by decide) (by kernel_rfl) (by kernel_rfl) (fun _ _ _ h => h) (Or.inl ⟨by rfl, ?_⟩) hS ?_
 rotate_left
 ·intro wz hz; (try dsimp only at hz); (try go_split_ands); go_simp; (try with_reducible rfl)
 try simp only [Act.put, pu]
 refine ord_step (i := 1) rfl (by decide) (by kernel_rfl) (by rfl) (fun K hK => ?_)
 go_simp
 refine (taken_any _ _ A1 n1 c1 l1 r1.drew (by omega)).mono ?_
 rintro e w' ⟨⟨P1, m1, d1, rfl, hm1, q1⟩, rfl⟩
 refine hK _ _ hS ?_
 clear hK K
 try simp only [Act.put, pu]
 refine ord_step (i := 3) rfl (by decide) (by kernel_rfl) (by rfl) (fun K hK => ?_)
 go_simp
 refine (taken_any _ _ A2 n2 c2 l2 r2.drew (by omega)).mono ?_
 rintro e w' ⟨⟨P2, m2, d2, rfl, hm2, q2⟩, rfl⟩
 refine hK _ _ hS ?_
 clear hK K
 try simp only [Act.put, pu]
 refine ord_take (i := 4) (v := ?_) (by kernel_rfl) rfl (by decide) (by kernel_rfl) (by kernel_rfl) (fun _ _ _ h => h) (Or.inl ⟨by rfl, ?_⟩) hS ?_
 rotate_left
 ·intro wz hz; (try dsimp only at hz); (try go_split_ands); go_simp; (try with_reducible rfl)
 try simp only [Act.put, pu]
 refine ord_rest (by kernel_rfl) ?_
 refine any_step (i := 5) rfl (by kernel_rfl) (by rfl) (fun K hK => ?_)
 go_simp
 refine hK _ _ ?_
 clear hK K
 try simp only [Act.put, pu]
 refine wpAny_done (by kernel_rfl) ?_ _
 refine NoPanic.normal ?_
 have hb1 : Below w.heap.size w (w0.setCell ⟨w.heap.size, 0, none⟩ (.slice P2 m2 d2)).drew := (hb0.setCell (p := ⟨w.heap.size, 0, none⟩) (Nat.le_refl _) _).drew
 have bB1 : Boxed (w0.setCell ⟨w.heap.size, 0, none⟩ (.slice P2 m2 d2)).drew w.heap.size 32 (.slice P2 m2 d2) := boxed_set bB _
 have hz1 : w.heap.size + 1 ≤ (w0.setCell ⟨w.heap.size, 0, none⟩ (.slice P2 m2 d2)).drew.heap.size := by simpa [World.drew] using hz0
 have Q1 : Rd w w.heap.size P1 m1 d1 (digs (tv l1)) := q1.keep (fun p hp => (hb0.cell hp).symm) (Nat.le_refl _)
 have Q2 : Rd w w.heap.size P2 m2 d2 (digs (tv l2)) := q2.keep (fun p hp => (hb0.cell hp).symm) (Nat.le_refl _)
 generalize (w0.setCell ⟨w.heap.size, 0, none⟩ (.slice P2 m2 d2)).drew = w1 at *
 obtain ⟨X, hX⟩ : ∃ X, tv l1 = X := ⟨_, rfl⟩
 obtain ⟨Y, hY⟩ : ∃ X, tv l2 = X := ⟨_, rfl⟩
 rw [hX] at Q1
 rw [hY] at Q2
 have HXY := Lib.hid (And.intro hX hY)
 clear hX hY hb0 bB hz0 hS hc0 hf0 r1 r2 q1 q2
 have hm1 : m1 ≤ 60000 := by omega
 have hm2 : m2 ≤ 60000 := by omega
 have hcB := bB1.cell
 rcases Nat.eq_zero_or_pos m2 with h0 | h0
 ·subst h0
  have hY0 : Y = 0 := digs_nil_iff.1 Q2.nil_of
  have hf : RetD w (tv l1) (tv l2) (.returned (.tuple #[.slice none 0 0, .slice none 0 0, .bool false])) w1 := by
   rw [HXY.out.1, HXY.out.2, hY0]
   exact ⟨none, 0, 0, none, 0, 0, rfl, by rw [Nat.div_zero, digs_zero]; exact Rd.nil _ _, by rw [if_pos rfl, digs_zero]; exact Rd.nil _ _, hb1⟩
  have HF := Lib.hid hf
  clear hf hY0 Q1 Q2
  go_wp2_with fail
  exact ⟨_, results_tmp3 (t := 4) (u := 5) (v := 6) rfl _ _ _, HF.out⟩
 ·have ht : ((m2 : Int) == 0) = false := by simp; omega
  have hYp : 0 < Y := by
   rcases Nat.eq_zero_or_pos Y with h | h
   ·exfalso
    subst h
    have := Q2.len
    rw [digs_zero] at this
    simp at this
    omega
   ·exact h
  have hmk := make_z (m1 : Int) m1 rfl (by omega)
  have HQ := Lib.hid (And.intro Q1 (And.intro Q2 bB1))
  clear Q1 Q2 bB1
  go_wp2_with fail
  obtain ⟨G, hG⟩ : ∃ G, G = w1.heap.size := ⟨_, rfl⟩
  obtain ⟨w2, hw2⟩ : ∃ w2, w2 = ((w1.alloc (.cells (cells (zeros m1)) 132)).alloc (.cells #[.slice (some ⟨w1.heap.size, 0, none⟩) m1 m1] 32)).alloc (.cells #[.slice none 0 0] 32) := ⟨_, rfl⟩
  rw [← hw2, ← hG]
  have hz2 : G + 3 ≤ w2.heap.size := by rw [hw2, hG]; simp
  have hI0 : DI w G w1.heap.size m1 m2 d2 P2 (dfold (l := digs X) Y m1 []) w2 := by
   have e1 : (w1.alloc (.cells (cells (zeros m1)) 132)).heap.size = G + 1 := by rw [hG]; simp
   have e2 : ((w1.alloc (.cells (cells (zeros m1)) 132)).alloc (.cells #[.slice (some ⟨w1.heap.size, 0, none⟩) m1 m1] 32)).heap.size = G + 2 := by rw [hG]; simp
   rw [hw2]
   refine ⟨none, 0, 0, ?_, ?_, ?_, ?_, ?_, ?_, ?_, ?_⟩
   ·have := Blk.new w1 132 (cells (zeros m1))
    rw [← hG] at this
    exact (this.alloc _).alloc _
   ·have := Boxed.new (w1.alloc (.cells (cells (zeros m1)) 132)) 32 (.slice (some ⟨w1.heap.size, 0, none⟩) m1 m1)
    rw [e1] at this
    rw [hG] at this ⊢
    exact this.alloc _
   ·exact ((HQ.out.2.2.alloc _).alloc _).alloc _
   ·have := Boxed.new ((w1.alloc (.cells (cells (zeros m1)) 132)).alloc (.cells #[.slice (some ⟨w1.heap.size, 0, none⟩) m1 m1] 32)) 32 (.slice none 0 0)
    rw [e2] at this
    exact this
   ·rw [dfold_nil]; simp only [digs_zero]; exact Rd.nil _ _
   ·exact ((hb1.alloc hb1.size _).alloc (Nat.le_trans hb1.size (by simp)) _).alloc (Nat.le_trans hb1.size (by simp; omega)) _
   ·simp; omega
   ·rw [hG]; omega
  have hG0 : w.heap.size < G := by rw [hG]; omega
  clear hw2 hG hmk hz1 hcB ht
  refine (back_any _ P1 m1 d1).mono ?_
  rintro e w3 ⟨rfl, rfl⟩
  go_wp2_with fail
  refine (wpIn_wide (n := 9)).1 ?_
  have bS : Boxed (w2.alloc (.cells #[.slice P1 m1 d1] 32)) w2.heap.size 32 (.slice P1 m1 d1) := Boxed.new _ _ _
  have hb2 : Below w.heap.size w (w2.alloc (.cells #[.slice P1 m1 d1] 32)) := by
   obtain ⟨_, _, _, h⟩ := hI0
   exact h.bel.alloc (by omega) _
  have hI1 : DI w G w2.heap.size m1 m2 d2 P2 (dfold (l := digs X) Y m1 []) (w2.alloc (.cells #[.slice P1 m1 d1] 32)) := by
   obtain ⟨A, n, c, h⟩ := hI0
   have h2 := h.on (W' := w2.alloc (.cells #[.slice P1 m1 d1] 32)) ((Below.refl _ _).alloc (Nat.le_refl _) _)
   exact ⟨A, n, c, h2.q, h2.qb, h2.bb, h2.rb, h2.rd, h2.bel, by simp, h2.ord⟩
  have hdig := dig_digs X
  have HY := Lib.hid hYp
  refine wpIn_rangeFunc_ownG rfl (by omega) (gf := 107) (lb := #[.pointer (some ⟨w2.heap.size, 0, none⟩)]) rfl trivial (enters_of Tryz.func107 (by kernel_rfl) rfl)
   (back_stops 8 (by omega) w2.heap.size w.heap.size P1 m1 d1 (digs X) (by omega) _ (by simp) (by simp; omega) bS.cell (HQ.out.1.below hb2)) (fun h k => h.trans k) (KpB.putObj (by simp; omega) (by simp)) (Below.refl _ _) (fun _ => rfl)
   (fun pre W => DI w G w2.heap.size m1 m2 d2 P2 (dfold (l := digs X) Y m1 pre) W)
   (fun _ _ _ => False)
   (DI.own _ (by simp; omega))
   (fun _ _ _ _ _ hs _ _ => hs)
   hI1
   (fun x => { tmps := #[.slice P1 m1 d1, .slice A2 n2 c2, undef, .pointer (some ⟨w.heap.size, 0, none⟩), .slice none 0 0, .slice none 0 0, .bool false, .pointer (some ⟨G + 1, 0, none⟩), .pointer (some ⟨G + 1 + 1, 0, none⟩), .int .i64 (x.1.1 : Int), .int .u32 (x.1.2 : Int), .slice A1 n1 c1, .slice P1 m1 d1, .slice A2 n2 c2, .slice P2 m2 d2, .slice P2 m2 d2, .int .i64 (m2 : Int), .bool false, .slice P1 m1 d1, .int .i64 (m1 : Int), .slice (some ⟨G, 0, none⟩) m1 m1, .slice P1 m1 d1,
    .func (.func 107) #[] #[.pointer (some ⟨w2.heap.size, 0, none⟩)], .int .i64 (x.1.1 : Int), .int .u32 (x.1.2 : Int), undef, undef, undef, undef, undef, undef, undef, undef, undef, undef, undef, undef, undef, undef, undef, undef, undef, undef, undef, undef, undef, undef, undef, undef, undef, undef, undef, undef], defers := [] }) ?assign ?body ?done ?stop
  case assign =>
   intro l x W K hK
   simp only [encB]
   gi_wp2
   exact hK
  case stop =>
   rintro D c pre W _ _ h _
   exact h.elim
  case body =>
   intro lp pre x W hI hlen
   obtain ⟨A, n, c, J0⟩ := hI
   obtain ⟨i1, i2, i3⟩ := dfold_inv hdig (n := m1) HY.out pre
   have hsn := dfold_snoc Y m1 pre x
   have hi : x.1.1 < m1 := by have := x.2.1; have e := HQ.out.1.len; omega
   have hd : x.1.2 < 4294967296 := by rw [x.2.2]; exact hdig.getD _
   generalize dfold Y m1 pre = s at *
   obtain ⟨qs, r⟩ := s
   simp only at *
   obtain ⟨i, hie⟩ : ∃ i, x.1.1 = i := ⟨_, rfl⟩
   obtain ⟨d, hde⟩ : ∃ d, x.1.2 = d := ⟨_, rfl⟩
   simp only [hie, hde]
   rw [hie] at hi
   rw [hde] at hd
   have HSN := Lib.hid (And.intro hsn (And.intro hie hde))
   have HJ0 := Lib.hid J0
   have hcr := J0.rb.cell
   have hfr := J0.rb.frozen
   have hcb := J0.bb.cell
   have hGw := J0.sz
   have hord := J0.ord
   have hlenY := digs_len_mono (Nat.le_of_lt i3)
   have hn : n ≤ 60000 := by
    have e1 := J0.rd.len
    have e2 := HQ.out.2.1.len
    omega
   have hwW : w.heap.size ≤ W.heap.size := J0.bel.size
   have HI1 := Lib.hid i1
   clear hsn hie hde hlenY J0 i1
   gi_wp2_with fail
   refine ⟨trivial, ?_⟩
   refine (CallsIn.inRound lp (callsIn_wide.2 (up_any _ A n c _ HJ0.out.rd (by omega) d hd))).mono ?_
   rintro e W1 ⟨A3, n3, c3, rfl, r3, hb3, far3⟩
   rw [val_digs] at r3
   have htop := top_lt i3 hd
   obtain ⟨R1, hR1⟩ : ∃ R1, d + 4294967296 * r = R1 := ⟨_, rfl⟩
   rw [hR1] at r3 htop
   have HR1 := Lib.hid hR1
   clear hR1
   have hn3 : n3 ≤ 60001 := by
    have e1 := r3.len
    have e2 : R1 < 4294967296 ^ (m2 + 1) := by
     have := lt_of_digs_len Y
     rw [HQ.out.2.1.len] at this
     rw [Nat.pow_succ]
     exact Nat.lt_of_lt_of_le htop (Nat.mul_le_mul_right _ (Nat.le_of_lt this))
    have := digs_len_le e2
    omega
   have J1 := HJ0.out.on hb3
   have hqlt := HJ0.out.q.lt
   have far : ∀ ad, A3 = some ad → ad.block ≠ G := fun ad e => by
    have := far3 ad e
    omega
   have hcr1 := J1.rb.cell
   have hfr1 := J1.rb.frozen
   have hcb1 := J1.bb.cell
   have J2 := J1.setr r3
   have S2 : St (w2.alloc (.cells #[.slice P1 m1 d1] 32)).heap.size w.heap.size w2.heap.size W (W1.setCell ⟨G + 1 + 1, 0, none⟩ (.slice A3 n3 c3)) :=
    (St.call hb3 hwW hGw).trans (St.set _ (by simp; omega) (by simp; omega) _)
   have HJ2 := Lib.hid (And.intro J2 (And.intro S2 far))
   clear J1 J2 S2 far far3 r3 hb3 hcr hfr hcb
   gi_wp2_with fail
   generalize W1.setCell ⟨G + 1 + 1, 0, none⟩ (.slice A3 n3 c3) = Wa at *
   refine ⟨trivial, ?_⟩
   refine (CallsIn.inRound lp (callsIn_wide.2 (cmp_any _ A3 P2 n3 c3 m2 d2 _ _ HJ2.out.1.rd ((HQ.out.2.1.below HJ2.out.1.bel).more HJ2.out.1.bel.size) (by omega) (by omega)))).mono ?_
   rintro e W2 ⟨rfl, hb4⟩
   rw [tv_digs, tv_digs]
   have J3 := HJ2.out.1.on hb4
   have S3 := HJ2.out.2.1.trans (St.call hb4 HJ2.out.1.bel.size HJ2.out.1.sz)
   have hcmp := cmpI_nat R1 Y
   have HC := Lib.hid hcmp
   clear hcmp hcr1 hfr1 hcb1 hb4
   generalize cmpI (R1 : Int) (Y : Int) = rr at *
   by_cases hlt : R1 < Y
   ·have hr : rr < 0 := by have := HC.out; rw [if_pos hlt] at this; omega
    have hfin : DI w G w2.heap.size m1 m2 d2 P2 (dfold Y m1 (pre ++ [x])) W2 := by
     refine ⟨A3, n3, c3, ?_⟩
     have e : dfold Y m1 (pre ++ [x]) = (qs, R1) := by
      rw [HSN.out.1]
      unfold dstep
      simp only
      rw [HSN.out.2.2, HR1.out, if_pos hlt]
     rw [e]
     exact J3
    have HF := Lib.hid (And.intro S3 hfin)
    clear S3 hfin J3
    gi_wp2_with fail
    exact ⟨HF.out.1.1, HF.out.1.2, HF.out.2⟩
   ·have hr : ¬ rr < 0 := by
     have := HC.out
     rw [if_neg hlt] at this
     split at this <;> omega
    have HJ3 := Lib.hid (And.intro J3 S3)
    clear J3 S3
    gi_wp2_with fail
    have hcq := HJ3.out.1.qb.cell
    have hS : W2.drew.cell? ⟨G + 1, 0, none⟩ = some (.slice (some ⟨G, 0, none⟩) m1 m1) := hcq
    have hi0 : (0 : Int) ≤ (i : Int) := by omega
    have hi1 : (i : Int) < (m1 : Int) := by omega
    have hfar := HJ2.out.2.2
    have hclo : ∀ (d' : Nat) (W' : World), d' < 4294967296 → Below W2.drew.heap.size W2.drew W' → Calls Tryz.prog 93 #[.int .u32 (d' : Int), .pointer (some ⟨w.heap.size, 0, none⟩), .pointer (some ⟨G + 1 + 1, 0, none⟩)] W' fun e W'' => e = .returned (.bool (decide (Y * d' ≤ R1))) ∧ Below W'.heap.size W' W'' := fun d' W' hd' hb' => by
     have J := HJ3.out.1.drew.on hb'
     exact holds_any W' w.heap.size (G + 1 + 1) P2 A3 m2 d2 n3 c3 Y R1 d' J.bb J.rb ((HQ.out.2.1.below J.bel).more J.bel.size) J.rd (by omega) (by omega) hd'
    have HCL := Lib.hid hclo
    clear hclo hcq hfar
    refine ord_begin_round 5 (fun wx => wx.cell? ⟨G + 1, 0, none⟩ = some (.slice (some ⟨G, 0, none⟩) m1 m1)) (by kernel_rfl) (by kernel_rfl) (by rintro ⟨_, _, h⟩; exact h) ?_
    refine ord_take (i := 0) (v := ?_) (by kernel_rfl) rfl (by decide) (by kernel_rfl) (by kernel_rfl) (fun _ _ _ h => h) (Or.inl ⟨by rfl, ?_⟩) hS ?_
    rotate_left
    ·intro wz hz; (try dsimp only at hz); (try go_split_ands); go_simp; (try with_reducible rfl)
    try simp only [Act.put, pu]
    refine ord_take (i := 1) (v := ?_) (by kernel_rfl) rfl (by decide) (by kernel_rfl) (by kernel_rfl) (fun _ _ _ h => h) (Or.inl ⟨by rfl, ?_⟩) hS ?_
    rotate_left
    ·intro wz hz; (try dsimp only at hz); (try go_split_ands); go_simp; (try with_reducible rfl)
    try simp only [Act.put, pu]
    refine ord_take (i := 2) (v := ?_) (by kernel_rfl) rfl (by decide) (by kernel_rfl) (by kernel_rfl) (fun _ _ _ h => h) (Or.inl ⟨by rfl, ?_⟩) hS ?_
    rotate_left
    ·intro wz hz; (try dsimp only at hz); (try go_split_ands); go_simp; (try with_reducible rfl)
    try simp only [Act.put, pu]
    refine ord_step (i := 3) rfl (by decide) (by kernel_rfl) (by rfl) (fun K hK => ?_)
    go_simp
    refine (great_any _ _ _ Y R1 HY.out htop HCL.out).mono ?_
    rintro e W4 ⟨rfl, hb5⟩
    have J4 := HJ3.out.1.drew.on hb5
    have S4 := (HJ3.out.2.trans St.drew).trans (St.call hb5 HJ3.out.1.bel.size HJ3.out.1.sz)
    have hS4 := J4.qb.cell
    refine hK _ _ hS4 ?_
    clear hK K
    try simp only [Act.put, pu]
    refine ord_take (i := 4) (v := ?_) (by kernel_rfl) rfl (by decide) (by kernel_rfl) (by kernel_rfl) (fun _ _ _ h => h) (Or.inl ⟨by rfl, ?_⟩) hS4 ?_
    rotate_left
    ·intro wz hz; (try dsimp only at hz); (try go_split_ands); go_simp; (try with_reducible rfl)
    try simp only [Act.put, pu]
    refine ord_rest (by kernel_rfl) ?_
    have hcg := J4.q.cell i
    rw [cells_at _ (by rw [HI1.out]; exact hi)] at hcg
    have hfg := J4.q.frozen i
    have J5 := J4.setq HJ2.out.2.2 i (R1 / Y)
    have S5 := S4.trans (St.set (W := W4) (p := ⟨G, i, none⟩) (by simp; omega) (by simp; omega) (.int .u32 ((R1 / Y : Nat) : Int)))
    have hqv : (qs.set i (R1 / Y)).getD i 0 = R1 / Y := by rw [List.getD_eq_getElem?_getD, List.getElem?_set_self (by rw [HI1.out]; exact hi)]; rfl
    have hcg5 := J5.q.cell i
    rw [cells_at _ (by rw [List.length_set, HI1.out]; exact hi), hqv] at hcg5
    have hcq5 := J5.qb.cell
    have hcb5 := J5.bb.cell
    have hcr5 := J5.rb.cell
    obtain ⟨QQ, hQQ⟩ : ∃ q, q = R1 / Y := ⟨_, rfl⟩
    rw [← hQQ] at J5 S5 hcg5 hcq5 hcb5 hcr5 ⊢
    have hqd : QQ < 4294967296 := by rw [hQQ]; exact Nat.div_lt_of_lt_mul htop
    generalize (qs.getD i 0) = qold at *
    have HQQ := Lib.hid hQQ
    have HJ5 := Lib.hid (And.intro J5 S5)
    clear hQQ J5 S5 J4 S4 hS4 hqv
    refine any_step (i := 5) rfl (by kernel_rfl) (by rfl) (fun K hK => ?_)
    go_simp
    refine hK _ _ ?_
    clear hK K
    try simp only [Act.put, pu]
    refine wpAny_done (by kernel_rfl) ?_ _
    gi_wp2_with fail
    generalize W4.setCell ⟨G, i, none⟩ (.int .u32 (QQ : Int)) = W5 at *
    clear hS HCL hcg hfg HJ3 hb5 hr
    have HS5 := Lib.hid HJ5.out.1
    have hS : W5.drew.cell? ⟨G + 1, 0, none⟩ = some (.slice (some ⟨G, 0, none⟩) m1 m1) ∧ W5.drew.cell? ⟨G + 1 + 1, 0, none⟩ = some (.slice A3 n3 c3) ∧ W5.drew.cell? ⟨w.heap.size, 0, none⟩ = some (.slice P2 m2 d2) ∧ W5.drew.cell? ⟨G, i, none⟩ = some (.int .u32 (QQ : Int)) := ⟨hcq5, hcr5, hcb5, hcg5⟩
    have hlg := HJ5.out.1.q.lt
    have hkeep : ∀ W' : World, Below W5.heap.size W5 W' → W'.cell? ⟨G + 1, 0, none⟩ = some (.slice (some ⟨G, 0, none⟩) m1 m1) ∧ W'.cell? ⟨G + 1 + 1, 0, none⟩ = some (.slice A3 n3 c3) ∧ W'.cell? ⟨w.heap.size, 0, none⟩ = some (.slice P2 m2 d2) ∧ W'.cell? ⟨G, i, none⟩ = some (.int .u32 (QQ : Int)) := fun W' hb' =>
     ⟨(HJ5.out.1.on hb').qb.cell, (HJ5.out.1.on hb').rb.cell, (HJ5.out.1.on hb').bb.cell, (hb'.cell (p := ⟨G, i, none⟩) hlg).trans hcg5⟩
    have HK := Lib.hid hkeep
    clear hkeep
    refine ord_begin_round 9 (fun wx => wx.cell? ⟨G + 1, 0, none⟩ = some (.slice (some ⟨G, 0, none⟩) m1 m1) ∧ wx.cell? ⟨G + 1 + 1, 0, none⟩ = some (.slice A3 n3 c3) ∧ wx.cell? ⟨w.heap.size, 0, none⟩ = some (.slice P2 m2 d2) ∧ wx.cell? ⟨G, i, none⟩ = some (.int .u32 (QQ : Int))) (by kernel_rfl) (by kernel_rfl) (by rintro ⟨_, _, h⟩; exact h) ?_
    refine ord_take (i := 0) (v := ?_) (by kernel_rfl) rfl (by decide) (by kernel_rfl) (by kernel_rfl) (fun _ _ _ h => h) (Or.inl ⟨by rfl, ?_⟩) hS ?_
    rotate_left
    ·intro wz hz; (try dsimp only at hz); (try go_split_ands); go_simp; (try with_reducible rfl)
    try simp only [Act.put, pu]
    refine ord_take (i := 1) (v := ?_) (by kernel_rfl) rfl (by decide) (by kernel_rfl) (by kernel_rfl) (fun _ _ _ h => h) (Or.inl ⟨by rfl, ?_⟩) hS ?_
    rotate_left
    ·intro wz hz; (try dsimp only at hz); (try go_split_ands); go_simp; (try with_reducible rfl)
    try simp only [Act.put, pu]
    refine ord_take (i := 2) (v := ?_) (by kernel_rfl) rfl (by decide) (by kernel_rfl) (by kernel_rfl) (fun _ _ _ h => h) (Or.inl ⟨by rfl, ?_⟩) hS ?_
    rotate_left
    ·intro wz hz; (try dsimp only at hz); (try go_split_ands); go_simp; (try with_reducible rfl)
    try simp only [Act.put, pu]
    refine ord_take (i := 3) (v := ?_) (by kernel_rfl) rfl (by decide) (by kernel_rfl) (by kernel_rfl) (fun _ _ _ h => h) (Or.inl ⟨by rfl, ?_⟩) hS ?_
    rotate_left
    ·intro wz hz; (try dsimp only at hz); (try go_split_ands); go_simp; (try with_reducible rfl)
    try simp only [Act.put, pu]
    refine ord_take (i := 4) (v := ?_) (by kernel_rfl) rfl (by decide) (by kernel_rfl) (by kernel_rfl) (fun _ _ _ h => h) (Or.inl ⟨by rfl, ?_⟩) hS ?_
    rotate_left
    ·intro wz hz; (try dsimp only at hz); (try go_split_ands); go_simp; (try with_reducible rfl)
    try simp only [Act.put, pu]
    refine ord_take (i := 5) (v := ?_) (by kernel_rfl) rfl (by decide) (by kernel_rfl) (by kernel_rfl) (fun _ _ _ h => h) (Or.inl ⟨by rfl, ?_⟩) hS ?_
    rotate_left
    ·intro wz hz; (try dsimp only at hz); (try go_split_ands); go_simp; (try with_reducible rfl)
    try simp only [Act.put, pu]
    refine ord_step (i := 6) rfl (by decide) (by kernel_rfl) (by rfl) (fun K hK => ?_)
    go_simp
    have hb6 : Below W5.heap.size W5 (W5.alloc (.cells #[.int .u32 (QQ : Int)] 132)).drew := ((Below.refl _ _).alloc (Nat.le_refl _) _).drew
    have hS6 := HK.out _ hb6
    have J6 := HJ5.out.1.on hb6
    have hq6 : Rd (W5.alloc (.cells #[.int .u32 (QQ : Int)] 132)).drew (W5.alloc (.cells #[.int .u32 (QQ : Int)] 132)).drew.heap.size (some ⟨W5.heap.size, 0, none⟩) 1 1 [QQ] := Rd.of_blk (t := 132) (l := [QQ]) (Blk.drew (Blk.new W5 _ _)) (Dig.cons hqd Dig.nil)
    refine hK _ _ hS6 ?_
    clear hK K
    try simp only [Act.put, pu]
    refine ord_step (i := 7) rfl (by decide) (by kernel_rfl) (by rfl) (fun K hK => ?_)
    go_simp
    refine (mul_any _ P2 _ m2 d2 1 1 _ _ ((HQ.out.2.1.below J6.bel).more J6.bel.size) hq6 (by omega) (by omega)).mono ?_
    rintro e W7 ⟨A4, n4, c4, rfl, q7, hb7⟩
    rw [tv_digs, tv_single] at q7
    have hb57 : Below W5.heap.size W5 W7 := bltB hb6 (by simp [World.drew]) hb7
    have hS7 := HK.out _ hb57
    refine hK _ _ hS7 ?_
    clear hK K
    try simp only [Act.put, pu]
    have hn4 : n4 ≤ 65536 := by
     have hle : Y * QQ ≤ R1 := by rw [HQQ.out]; exact Nat.mul_div_le R1 Y
     have h1 := digs_len_mono hle
     have h2 := HJ5.out.1.rd.len
     have h3 := q7.len
     omega
    refine ord_step (i := 8) rfl (by decide) (by kernel_rfl) (by rfl) (fun K hK => ?_)
    go_simp
    refine (sub_any W7 A3 A4 n3 c3 n4 c4 _ _ (HJ5.out.1.on hb57).rd q7 (by omega) (by omega)).mono ?_
    rintro e W8 ⟨A5, n5, c5, rfl, q8, hb8⟩
    rw [tv_digs, tv_digs] at q8
    have hb58 : Below W5.heap.size W5 W8 := bltB hb57 hb57.size hb8
    have hS8 := HK.out _ hb58
    refine hK _ _ hS8 ?_
    clear hK K
    try simp only [Act.put, pu]
    refine ord_rest (by kernel_rfl) ?_
    have J8 := HJ5.out.1.on hb58
    have e8 : R1 - Y * QQ = R1 % Y := by rw [HQQ.out]; have := Nat.div_add_mod R1 Y; omega
    rw [e8] at q8
    have J9 := J8.setr q8
    have S9 : St (w2.alloc (.cells #[.slice P1 m1 d1] 32)).heap.size w.heap.size w2.heap.size W (W8.setCell ⟨G + 1 + 1, 0, none⟩ (.slice A5 n5 c5)) := (HJ5.out.2.trans (St.call hb58 HJ5.out.1.bel.size HJ5.out.1.sz)).trans (St.set _ (by simp; omega) (by simp; omega) _)
    have hcr8 := J8.rb.cell
    have hfr8 := J8.rb.frozen
    have hfin : DI w G w2.heap.size m1 m2 d2 P2 (dfold Y m1 (pre ++ [x])) (W8.setCell ⟨G + 1 + 1, 0, none⟩ (.slice A5 n5 c5)) := by
     refine ⟨A5, n5, c5, ?_⟩
     have e : dfold Y m1 (pre ++ [x]) = (qs.set i QQ, R1 % Y) := by
      rw [HSN.out.1]
      unfold dstep
      simp only
      rw [HSN.out.2.2, HR1.out, if_neg hlt, HSN.out.2.1, HQQ.out]
     rw [e]
     exact J9
    have HF := Lib.hid (And.intro S9 hfin)
    clear S9 hfin J9 J8 q8 e8 hS8 hS7 hS6 J6 hq6 q7
    refine wpAny_take (i := 9) (v := ?_) rfl (by kernel_rfl) (by kernel_rfl) (by kernel_rfl) (fun _ _ _ h => h) (Or.inl ⟨by rfl, ?_⟩) ?_
    rotate_left
    ·intro wz; go_simp; (try with_reducible rfl)
    try simp only [Act.put, pu]
    refine wpAny_take (i := 10) (v := ?_) rfl (by kernel_rfl) (by kernel_rfl) (by kernel_rfl) (fun _ _ _ h => h) (Or.inl ⟨by rfl, ?_⟩) ?_
    rotate_left
    ·intro wz; go_simp; (try with_reducible rfl)
    try simp only [Act.put, pu]
    refine wpAny_take (i := 11) (v := ?_) rfl (by kernel_rfl) (by kernel_rfl) (by kernel_rfl) (fun _ _ _ h => h) (Or.inl ⟨by rfl, ?_⟩) ?_
    rotate_left
    ·intro wz; go_simp; (try with_reducible rfl)
    try simp only [Act.put, pu]
    refine any_step (i := 12) rfl (by kernel_rfl) (by rfl) (fun K hK => ?_)
    go_simp
    refine hK _ _ ?_
    clear hK K
    try simp only [Act.put, pu]
    refine wpAny_done (by kernel_rfl) ?_ _
    gi_wp2_with fail
    exact ⟨HF.out.1.1, HF.out.1.2, HF.out.2⟩
  case done =>
   intro D ys W hD hys hI hK
   subst hys
   have hXl := HQ.out.1.len
   obtain ⟨A, n, c, J⟩ := hI
   have hall := dfold_all hdig HY.out
   obtain ⟨i1, i2, i3⟩ := dfold_inv hdig (n := m1) HY.out (bkf (digs X) m1)
   rw [hXl, val_digs] at hall
   generalize dfold Y m1 (bkf (digs X) m1) = s at *
   obtain ⟨qs, r⟩ := s
   simp only at *
   obtain ⟨ha1, ha2⟩ := hall
   have hcq := J.qb.cell
   have hcr := J.rb.cell
   have hqr := Rd.of_blk J.q i2
   rw [i1] at hqr
   have HJ := Lib.hid (And.intro J (And.intro hqr (And.intro hK (And.intro ha1 ha2))))
   have hord := J.ord
   have hn : n ≤ 60000 := by
    have h1 := digs_len_mono (Nat.le_of_lt i3)
    have h2 := J.rd.len
    have h3 := HQ.out.2.1.len
    omega
   clear J hqr hK ha1 ha2 hXl
   go_wp2_with fail
   have hS : W.drew.cell? ⟨G + 1, 0, none⟩ = some (.slice (some ⟨G, 0, none⟩) m1 m1) ∧ W.drew.cell? ⟨G + 1 + 1, 0, none⟩ = some (.slice A n c) := ⟨hcq, hcr⟩
   refine wp_region_noPanic ?_
   refine ord_begin 6 (fun wx => wx.cell? ⟨G + 1, 0, none⟩ = some (.slice (some ⟨G, 0, none⟩) m1 m1) ∧ wx.cell? ⟨G + 1 + 1, 0, none⟩ = some (.slice A n c)) (by kernel_rfl) ?_
   refine ord_take (i := 0) (v := ?_) (by kernel_rfl) rfl (by decide) (by kernel_rfl) (by kernel_rfl) (fun _ _ _ h => h) (Or.inl ⟨by rfl, ?_⟩) hS ?_
   rotate_left
   ·intro wz hz; (try dsimp only at hz); (try go_split_ands); go_simp; (try with_reducible rfl)
   try simp only [Act.put, pu]
   refine ord_take (i := 2) (v := ?_) (by kernel_rfl) rfl (by decide) (by kernel_rfl) (by kernel_rfl) (fun _ _ _ h => h) (Or.inl ⟨by rfl, ?_⟩) hS ?_
   rotate_left
   ·intro wz hz; (try dsimp only at hz); (try go_split_ands); go_simp; (try with_reducible rfl)
   try simp only [Act.put, pu]
   refine ord_step (i := 1) rfl (by decide) (by kernel_rfl) (by rfl) (fun K hK => ?_)
   go_simp
   refine (low_any W.drew W.drew.heap.size _ _ _ _ HJ.out.2.1.drew (by omega)).mono ?_
   rintro e W' ⟨⟨A6, n6, c6, rfl, hn6, r6⟩, rfl⟩
   refine hK _ _ hS ?_
   clear hK K
   try simp only [Act.put, pu]
   refine ord_step (i := 3) rfl (by decide) (by kernel_rfl) (by rfl) (fun K hK => ?_)
   go_simp
   refine (clone_any W.drew A n c _ HJ.out.1.drew.rd (by omega)).mono ?_
   rintro e W9 ⟨A7, n7, c7, rfl, r7, hb9⟩
   have J9 := HJ.out.1.drew.on hb9
   have hS9 : W9.cell? ⟨G + 1, 0, none⟩ = some (.slice (some ⟨G, 0, none⟩) m1 m1) ∧ W9.cell? ⟨G + 1 + 1, 0, none⟩ = some (.slice A n c) := ⟨J9.qb.cell, J9.rb.cell⟩
   refine hK _ _ hS9 ?_
   clear hK K
   try simp only [Act.put, pu]
   have hK9 : W9.heap[D]? = some (.deferred (some [])) := (hb9.block D (Array.getElem?_eq_some_iff.1 HJ.out.2.2.1).1).trans HJ.out.2.2.1
   have hrow : ∀ r', some D = some r' → ∃ o : Obj, W9.heap[r']? = some o ∧ o.isCells = false := fun r' e => by cases e; exact ⟨_, hK9, rfl⟩
   have hfin : RetD w (tv l1) (tv l2) (.returned (.tuple #[.slice A6 n6 c6, .slice A7 n7 c7, .bool true])) (W9.putObj D (.deferred none)) := by
    rw [HXY.out.1, HXY.out.2]
    refine ⟨A6, n6, c6, A7, n7, c7, by rw [decide_eq_true HY.out], ?_, ?_, J9.bel.trans (belowK_b (w := w) (Nat.le_refl _) W9 D _ _ (by simp at hD; omega) hK9 rfl rfl)⟩
    ·rw [HJ.out.2.2.2.1] at r6
     exact rd_kept (r6.on hb9) (grownBy_putObj' _ D _) hrow
    ·rw [if_neg (by have := HY.out; omega), ← HJ.out.2.2.2.2]
     exact rd_kept r7 (grownBy_putObj' _ D _) hrow
   have HF := Lib.hid (And.intro hfin hK9)
   clear hfin hK9 hrow J9 r6 r7 hb9
   refine ord_take (i := 4) (v := ?_) (by kernel_rfl) rfl (by decide) (by kernel_rfl) (by kernel_rfl) (fun _ _ _ h => h) (Or.inl ⟨by rfl, ?_⟩) hS9 ?_
   rotate_left
   ·intro wz hz; (try dsimp only at hz); (try go_split_ands); go_simp; (try with_reducible rfl)
   try simp only [Act.put, pu]
   refine ord_take (i := 5) (v := ?_) (by kernel_rfl) rfl (by decide) (by kernel_rfl) (by kernel_rfl) (fun _ _ _ h => h) (Or.inl ⟨by rfl, ?_⟩) hS9 ?_
   rotate_left
   ·intro wz hz; (try dsimp only at hz); (try go_split_ands); go_simp; (try with_reducible rfl)
   try simp only [Act.put, pu]
   refine ord_rest (by kernel_rfl) ?_
   refine wpAny_take (i := 6) (v := ?_) rfl (by kernel_rfl) (by kernel_rfl) (by kernel_rfl) (fun _ _ _ h => h) (Or.inl ⟨by rfl, ?_⟩) ?_
   rotate_left
   ·intro wz; go_simp; (try with_reducible rfl)
   try simp only [Act.put, pu]
   refine wpAny_done (by kernel_rfl) ?_ _
   refine NoPanic.normal ?_
   go_wp2_with fail
   refine ⟨by simp, .inl ⟨_, _, rfl, run_takeDeferred HF.out.2, ?_⟩⟩
   exact ⟨_, results_tmp3 (t := 4) (u := 5) (v := 6) rfl _ _ _, HF.out.1⟩
end Go.Proofs.YthefgdehfgkhhaaGreat
namespace Go.Proofs.YthefgdehfgkhhaaGreat
open Go.RowKit Go.Shelf
set_option linter.unusedVariables false
set_option linter.unusedSimpArgs false
theorem gcd_step {X Y g : Nat} (h : Nat.gcd X Y = g) : Nat.gcd Y (X % Y) = g := by
 rw [← h, Nat.gcd_comm X Y, Nat.gcd_rec Y X, Nat.gcd_comm]
/-- What number a slice reads as. -/
def readV (v : Value) (w : World) : Nat := match v with
 | .slice (some ad) n _ => val ((List.range n).map fun k => match w.cell? ⟨ad.block, ad.off + k, none⟩ with | some (.int _ z) => z.toNat | _ => 0)
 | _ => 0
theorem readV_rd {w : World} {A : Option Addr} {B n c x : Nat} (h : Rd w B A n c (digs x)) : readV (.slice A n c) w = x := by
 rcases Nat.eq_zero_or_pos n with h0 | h0
 ·subst h0
  have := digs_nil_iff.1 h.nil_of
  subst this
  cases A <;> simp [readV, val]
 ·obtain ⟨b, off, rfl, hb, hc⟩ := h.at_ h0
  simp only [readV]
  have e : ((List.range n).map fun k => match w.cell? ⟨b, off + k, none⟩ with | some (.int _ z) => z.toNat | _ => 0) = digs x := by
   apply List.ext_getElem?
   intro i
   rw [List.getElem?_map]
   by_cases hi : i < n
   ·rw [List.getElem?_range hi, Option.map_some, hc i hi]
    have : (digs x)[i]? = some ((digs x).getD i 0) := by rw [List.getD_eq_getElem?_getD, List.getElem?_eq_getElem (by rw [h.len]; exact hi)]; rfl
    rw [this]
    simp
   ·rw [List.getElem?_eq_none (by simp; omega), List.getElem?_eq_none (by rw [h.len]; omega)]
    rfl
  rw [e, val_digs]
set_option maxRecDepth 100000 in
set_option maxHeartbeats 1000000 in
theorem gcd_any (w : World) (A1 A2 : Option Addr) (n1 c1 n2 c2 : Nat) (l1 l2 : List Nat) (h1 : Rd w w.heap.size A1 n1 c1 l1) (h2 : Rd w w.heap.size A2 n2 c2 l2) (hn1 : n1 ≤ 60000) (hn2 : n2 ≤ 60000) :
 Calls Tryz.prog 59 #[.slice A1 n1 c1, .slice A2 n2 c2] w (RetN w (Nat.gcd (tv l1) (tv l2))) := by
 go_enter Tryz.func59, Tryz.ntmps59
 go_wp2_with fail
 refine (taken_any _ _ A1 n1 c1 l1 h1 (by omega)).mono ?_
 rintro e w' ⟨⟨P1, m1, d1, rfl, hm1, r1⟩, rfl⟩
 go_wp2_with fail
 refine (taken_any _ _ A2 n2 c2 l2 h2 (by omega)).mono ?_
 rintro e w' ⟨⟨P2, m2, d2, rfl, hm2, r2⟩, rfl⟩
 have hm1 : m1 ≤ 60000 := by omega
 have hm2 : m2 ≤ 60000 := by omega
 clear h1 h2 hn1 hn2
 generalize tv l1 = X1 at *
 generalize tv l2 = X2 at *
 have R1 := Lib.hid r1
 have R2 := Lib.hid r2
 clear r1 r2
 go_wp2_with fail
 go_loopw [0, 1] (fun av bv wr => ∃ (X Y : Nat) (A B : Option Addr) (n c m d : Nat), av = .slice A n c ∧ bv = .slice B m d ∧ n ≤ 60000 ∧ m ≤ 60000 ∧ Hid (Rd wr wr.heap.size A n c (digs X)) ∧ Hid (Rd wr wr.heap.size B m d (digs Y)) ∧
  Hid (Nat.gcd X Y = Nat.gcd X1 X2) ∧ Hid (Below w.heap.size w wr)) (fun _ bv wr => readV bv wr)
 case atStart => exact ⟨X1, X2, P1, P2, m1, d1, m2, d2, rfl, rfl, hm1, hm2, R1, R2, Lib.hid rfl, Lib.hid (Below.refl _ _)⟩
 case round =>
  obtain ⟨X, Y, A, B, n, c, m, d, rfl, rfl, hn, hm, RA, RB, HG, HB⟩ := hrel
  rcases Nat.eq_zero_or_pos m with h0 | h0
  ·subst h0
   have hY : Y = 0 := digs_nil_iff.1 RB.out.nil_of
   have hX : X = Nat.gcd X1 X2 := by have := HG.out; rw [hY, Nat.gcd_zero_right] at this; exact this
   have HX := Lib.hid hX
   clear hY hX
   go_wp2_with fail
   refine (clone_any _ _ _ _ _ RA.out (by omega)).mono ?_
   rintro e w1 ⟨A1, n1, c1, rfl, r1, hb1⟩
   have hf : RetN w (Nat.gcd X1 X2) (.returned (.slice A1 n1 c1)) w1 := ⟨A1, n1, c1, rfl, by rw [← HX.out]; exact r1, bltB HB.out HB.out.size hb1⟩
   have HF := Lib.hid hf
   clear hf r1 hb1
   go_wp2_with fail
   go_ret
   exact HF.out
  ·have hpos : (0 : Int) < (m : Int) := by omega
   have hYp : 0 < Y := by
    rcases Nat.eq_zero_or_pos Y with e | e
    ·subst e; have := RB.out.len; rw [digs_zero] at this; simp at this; omega
    ·exact e
   have HY := Lib.hid hYp
   have HM := Lib.hid (readV_rd RB.out)
   clear hYp
   go_wp2_with fail
   refine (divmod_any _ _ _ _ _ _ _ _ _ RA.out RB.out (by omega) (by omega)).mono ?_
   rintro e w1 ⟨A1, n1, c1, A2, n2, c2, rfl, r1, r2, hb1⟩
   rw [tv_digs, tv_digs, if_neg (by have := HY.out; omega)] at r2
   have hn2 : n2 ≤ 60000 := by
    have h1 := digs_len_mono (Nat.le_of_lt (Nat.mod_lt X HY.out))
    have h2 := r2.len
    have h3 := RB.out.len
    omega
   have R2 := Lib.hid r2
   have RB1 := Lib.hid (RB.out.on hb1)
   have HB1 := Lib.hid (bltB HB.out HB.out.size hb1)
   have HM1 := Lib.hid (readV_rd r2)
   have HG1 := Lib.hid (gcd_step HG.out)
   clear r1 r2 hb1
   go_wp2_with fail
   go_roundw
   case rel => exact ⟨Y, X % Y, B, A2, m, d, n2, c2, rfl, rfl, hm, hn2, RB1, R2, HG1, HB1⟩
   case measure => rw [HM1.out, HM.out]; exact Nat.mod_lt _ HY.out
end Go.Proofs.YthefgdehfgkhhaaGreat
namespace Go.Proofs.YthefgdehfgkhhaaGreat
open Go.RowKit
set_option linter.unusedVariables false
set_option linter.unusedSimpArgs false
theorem rd_le {w : World} {B : Nat} {A : Option Addr} {n c x k : Nat} (h : Rd w B A n c (digs x)) (hx : x < 4294967296 ^ k) : n ≤ k := by
 have h1 := digs_len_le hx
 have h2 := h.len
 omega
theorem rd_lt {w : World} {B : Nat} {A : Option Addr} {n c x k : Nat} (h : Rd w B A n c (digs x)) (hn : n ≤ k) : x < 4294967296 ^ k := by
 have h1 := lt_of_digs_len x
 rw [h.len] at h1
 exact Nat.lt_of_lt_of_le h1 (Nat.pow_le_pow_right (by decide) hn)
theorem pow_mono {j k : Nat} (h : j ≤ k) : 4294967296 ^ j ≤ 4294967296 ^ k := Nat.pow_le_pow_right (by decide) h
theorem bd_add {x y j k m : Nat} (hx : x < 4294967296 ^ j) (hy : y < 4294967296 ^ k) (hj : j + 1 ≤ m) (hk : k + 1 ≤ m) : x + y < 4294967296 ^ m := by
 obtain ⟨m', rfl⟩ : ∃ m', m = m' + 1 := ⟨m - 1, by omega⟩
 have h1 : 4294967296 ^ j ≤ 4294967296 ^ m' := pow_mono (by omega)
 have h2 : 4294967296 ^ k ≤ 4294967296 ^ m' := pow_mono (by omega)
 rw [Nat.pow_succ]
 omega
theorem bd_mul {x y j k : Nat} (hx : x < 4294967296 ^ j) (hy : y < 4294967296 ^ k) : x * y < 4294967296 ^ (j + k) := by
 rw [Nat.pow_add]
 rcases Nat.eq_zero_or_pos y with h | h
 ·subst h; rw [Nat.mul_zero]; exact Nat.mul_pos (Nat.pow_pos (by decide)) (Nat.pow_pos (by decide))
 ·exact Nat.lt_of_lt_of_le ((Nat.mul_lt_mul_right h).2 hx) (Nat.mul_le_mul_left _ (Nat.le_of_lt hy))
theorem bd_gcd {x y j k m : Nat} (hx : x < 4294967296 ^ j) (hy : y < 4294967296 ^ k) (hj : j ≤ m) (hk : k ≤ m) (hm : 0 < m) : Nat.gcd x y < 4294967296 ^ m := by
 rcases Nat.eq_zero_or_pos x with h | h
 ·subst h; rw [Nat.gcd_zero_left]; exact Nat.lt_of_lt_of_le hy (pow_mono hk)
 ·exact Nat.lt_of_le_of_lt (Nat.gcd_le_left _ h) (Nat.lt_of_lt_of_le hx (pow_mono hj))
theorem dec_same {x y : Nat} (h : x = y) : decide (digs x = digs y) = true := by rw [h]; exact decide_eq_true rfl
theorem dec_diff {x y : Nat} (h : x ≠ y) : decide (digs x = digs y) = false := decide_eq_false (fun e => h (digs_inj e))
theorem as_digs {l : List Nat} (hd : Dig l) (hr : rightB l = true) : ∃ X, l = digs X := ⟨val l, (digs_val hd hr).symm⟩
theorem cmp_lt {x y : Nat} (h : x < y) : cmpI (x : Int) (y : Int) = -1 := by rw [cmpI_nat, if_pos h]
theorem cmp_gt {x y : Nat} (h : y < x) : cmpI (x : Int) (y : Int) = 1 := by rw [cmpI_nat, if_neg (by omega), if_pos h]
theorem cmp_eq {x y : Nat} (h : x = y) : cmpI (x : Int) (y : Int) = 0 := by rw [cmpI_nat, if_neg (by omega), if_neg (by omega)]
end Go.Proofs.YthefgdehfgkhhaaGreat
