/-
  split.Try: so many parts, one behind the other.
-/
import Derived.Test.YthefgdehfgkhhaaGreatK01
import Derived.Test.YthefgdehfgkhhaaGreatK19
import Derived.Test.YthefgdehfgkhhaaGreatK20
import Derived.Laws.EntriesVeiled
namespace Go.Proofs.YthefgdehfgkhhaaGreat
open Go.RowKit Go.Shelf
set_option linter.unusedVariables false
set_option linter.unusedSimpArgs false
attribute [local go_sem] Oper.semAt_some
def partZ : Value := .agg #[.int .i64 0, .slice none 0 0, .slice none 0 0, .slice none 0 0]
theorem infoP : (Tryz.prog.info? 51).map (fun i => (i.zero, i.size, i.bytes)) = some (some partZ, 4, 80) := by kernel_rfl
/-- A new row of parts. -/
def OwnP (w : World) (base : Nat) (v : Value) (ps : List Prt) : Prop :=
 ∃ l : List (Array Value), w.ownsRow base 51 4 v ps.length (l.flatMap fun a => a.toList) ∧ l.length = ps.length ∧ ∀ (i : Nat) (a : Array Value) (p : Prt), l[i]? = some a → ps[i]? = some p → PV w a p
theorem OwnP.nil (w : World) (base : Nat) : OwnP w base (.slice none 0 0) [] := ⟨[], World.ownsRow_nil _ _ _ _, rfl, fun i a p h => by simp at h⟩
theorem OwnP.wide {w : World} {l : List (Array Value)} {ps : List Prt} (hl : l.length = ps.length) (h : ∀ (i : Nat) (a : Array Value) (p : Prt), l[i]? = some a → ps[i]? = some p → PV w a p) : ∀ a ∈ l, a.size = 4 := by
 intro a ha
 obtain ⟨i, hi, rfl⟩ := List.mem_iff_getElem.1 ha
 exact (h i _ (ps[i]'(by omega)) (List.getElem?_eq_getElem hi) (List.getElem?_eq_getElem (by omega))).size
theorem OwnP.row {w : World} {base : Nat} {v : Value} {ps : List Prt} (h : OwnP w base v ps) : ∃ A c, v = .slice A ps.length c ∧ RP w A ps.length c ps := by
 obtain ⟨l, ho, hl, hp⟩ := h
 obtain ⟨A, c, e, r⟩ := Rg.of_own (OwnP.wide hl hp) hl ho
 exact ⟨A, c, e, l, r, hl, hp⟩
theorem OwnP.on {w w' : World} {base : Nat} {v : Value} {ps : List Prt} (h : OwnP w base v ps) (hb : Below w.heap.size w w') : OwnP w' base v ps := by
 obtain ⟨l, ho, hl, hp⟩ := h
 exact ⟨l, own_on ho hb, hl, fun i a p h1 h2 => (hp i a p h1 h2).on hb⟩
theorem OwnP.gr {M : Nat → Prop} {w w' : World} {base : Nat} {v : Value} {ps : List Prt} (h : OwnP w base v ps) (hg : Gr M w w') (hM : ∀ g, v.ownBlock = some g → ¬ M g) (hT : ∀ (T : TypeId) (b : Nat) cs fr, T = 56 ∨ T = 3 → w.heap[b]? = some (.cells cs T fr) → ¬ M b) : OwnP w' base v ps := by
 obtain ⟨l, ho, hl, hp⟩ := h
 exact ⟨l, own_gr ho hg hM, hl, fun i a p h1 h2 => (hp i a p h1 h2).gr hg hT⟩
theorem OwnP.base {w : World} {base : Nat} {v : Value} {ps : List Prt} (h : OwnP w base v ps) : ∀ g, v.ownBlock = some g → base ≤ g := by
 obtain ⟨l, ho, _⟩ := h
 exact fun g hg => (ho.lt g hg).1
theorem pv_one {w : World} {a : Array Value} {p : Prt} (h : PV w a p) : ∀ u ∈ a.toList, u.oneCell' = true := by
 obtain ⟨Aw, nw, cw, As, ns, cs, At, nt, ct, rfl, _⟩ := h
 intro u hu
 simp at hu
 rcases hu with rfl | rfl | rfl | rfl <;> rfl
theorem part_reads {w : World} {g : Nat} (a : Array Value) (ha : a.size = 4) (h : Blk w g 51 a) : Reads w w.heap.size 4 (some ⟨g, 0, none⟩) 1 a.toList := by
 have := (Rg.of_blk (k := 4) (l := [a]) h (fun x hx => by simp at hx; subst hx; exact ha) (fun i x hi j v hv => by
  match i, hi with
  | 0, hi => simp at hi; subst hi; rw [Nat.zero_mul, Nat.zero_add]; exact hv
  | i + 1, hi => simp at hi) (m := 1) (Nat.le_refl _)).reads
 simpa using this
/-- One part more. -/
theorem OwnP.push {w' : World} {base : Nat} {v' : Value} {ps : List Prt} {l : List (Array Value)} {a : Array Value} {p : Prt} (hl : l.length = ps.length) (hp : ∀ (i : Nat) (a : Array Value) (p : Prt), l[i]? = some a → ps[i]? = some p → PV w' a p) (hv : PV w' a p)
 (ho : w'.ownsRow base 51 4 v' (ps.length + 1) ((l.flatMap fun a => a.toList) ++ a.toList)) : OwnP w' base v' (ps ++ [p]) := by
 refine ⟨l ++ [a], ?_, by simp [hl], fun i x q h1 h2 => ?_⟩
 ·rw [List.length_append, List.flatMap_append]
  simpa using ho
 ·rcases Nat.lt_or_ge i ps.length with hi | hi
  ·rw [List.getElem?_append_left (by omega)] at h1 h2
   exact hp i x q h1 h2
  ·rw [List.getElem?_append_right (by omega)] at h1 h2
   rw [hl] at h1
   rcases Nat.eq_zero_or_pos (i - ps.length) with h0 | h0
   ·rw [h0] at h1 h2
    simp at h1 h2
    subst h1 h2
    exact hv
   ·rw [List.getElem?_eq_none (by simp; omega)] at h1
    simp at h1
theorem part_cells {w : World} {g : Nat} {a : Array Value} {T : TypeId} (h : Blk w g T a) : ∀ (j : Nat) (u : Value), a.toList[j]? = some u → w.cell? ((⟨g, 0, none⟩ : Addr).add j) = some u := by
 intro j u hu
 rw [addr_add, Nat.zero_add, h.cell j]
 simpa using hu
theorem part_nodig (a : Int) (A : Option Addr) (n c : Nat) (B : Option Addr) (m d : Nat) (C : Option Addr) (k e : Nat) : ∀ u ∈ (#[.int .i64 a, .slice A n c, .slice B m d, .slice C k e] : Array Value).toList, noDig u := by
 intro u hu
 simp at hu
 rcases hu with rfl | rfl | rfl | rfl <;> intro d h <;> simp at h
theorem partz_nodig : ∀ (j : Nat) (u : Value), partZ.cells[j]? = some u → noDig u := by
 intro j u hu
 exact part_nodig 0 none 0 0 none 0 0 none 0 0 u (Array.mem_of_getElem? hu).val
theorem Gr.grown_new {M : Nat → Prop} {w a a' : World} {r : Option Nat} (h : Gr M w a) (k : a.grownBy a' r) (hr : ∀ g, r = some g → w.heap.size ≤ g) : Gr M w a' :=
 ⟨k.os.trans h.os, k.tape.trans h.tape, k.output.trans h.output, Nat.le_trans h.size k.size, fun i hi hn => (k.block i (Nat.lt_of_lt_of_le hi h.size) (fun e => by have := hr i e.symm; omega)).trans (h.block i hi hn)⟩
theorem own_else {w : World} {o : Obj} {w' : World} {v : Value} (k : (w.alloc o).grownBy w' v.ownBlock) {b' : Nat} {o' : Obj} (hh : w.heap[b']? = some o') (hk : ∀ g, v.ownBlock = some g → b' ≠ g) : w'.heap[b']? = w.heap[b']? := by
 have hl : b' < w.heap.size := (Array.getElem?_eq_some_iff.1 hh).1
 refine (k.block b' (by rw [World.size_alloc]; omega) (fun e => hk b' e.symm rfl)).trans ?_
 exact Below.heap_alloc w o b' hl
theorem own_type {w : World} {base : Nat} {T : TypeId} {k : Nat} {v : Value} {n : Nat} {xs : List Value} (h : w.ownsRow base T k v n xs) {g : Nat} (hg : v.ownBlock = some g) : ∃ cs, w.heap[g]? = some (.cells cs T (0, 0)) := by
 rcases h.2 with ⟨rfl, _⟩ | ⟨g', cap, cur, rfl, _, hh, _⟩
 ·cases hg
 ·injection hg with hg
  subst hg
  exact ⟨cur, hh⟩
theorem MindAt.push {w : World} {o : Obj} {w' : World} {v : Value} {p b n : Nat} {L : Notes} (h : MindAt w p b n L) (k : (w.alloc o).grownBy w' v.ownBlock) (hk : ∀ g, v.ownBlock = some g → p ≠ g ∧ b ≠ g) : MindAt w' p b n L := by
 obtain ⟨D, hD, hs⟩ := h.own
 refine ⟨(own_else k h.box (fun g hg => (hk g hg).1)).trans h.box, ⟨D, own_at hD ?_, hs⟩, h.ne⟩
 obtain ⟨es, cl, hm⟩ := h.isMap
 exact own_else k hm (fun g hg => (hk g hg).2)
theorem Clean.keep {w w' : World} {v : Value} (h : Clean w v) (hk : ∀ g, v.ownBlock = some g → w'.heap[g]? = w.heap[g]?) : Clean w' v := fun g hg o d hc => h g hg o d ((World.cell?_of_block (a := ⟨g, o, none⟩) (hk g hg)).symm.trans hc)
theorem FracAt.push {w : World} {o : Obj} {w' : World} {v : Value} {G : Nat} {q : Rat} {bq : Nat} (h : FracAt w G q bq) (k : (w.alloc o).grownBy w' v.ownBlock) (hk : ∀ g, v.ownBlock = some g → G ≠ g) (hc : Clean w v) : FracAt w' G q bq := by
 obtain ⟨A, n, c, B, m, d, kb, A', n', c', B', m', d', e, r, t, f⟩ := h
 have hr : ∀ {A : Option Addr} {n c : Nat} {l : List Nat}, Rd w w.heap.size A n c l → Rd w' w'.heap.size A n c l := fun {A n c l} r => ⟨r.len, r.cap, r.dig, fun h0 => by
  obtain ⟨b, off, e, hb, hcl⟩ := r.at_ h0
  have hb2 : w'.heap[b]? = w.heap[b]? := own_else k (Array.getElem?_eq_getElem hb) (fun g hg e => by
   subst e
   exact hc b hg _ _ (hcl 0 h0))
  have := k.size
  rw [World.size_alloc] at this
  exact ⟨b, off, e, by omega, fun j hj => (World.cell?_of_block (a := ⟨b, off + j, none⟩) hb2).trans (hcl j hj)⟩⟩
 exact ⟨A, n, c, B, m, d, (own_else k kb hk).trans kb, A', n', c', B', m', d', e, hr r, hr t, f⟩
def RetT (w : World) (ok : Bool) (o : Option (List Prt × Rat)) (e : Ending) (w' : World) : Prop :=
 Below w.heap.size w w' ∧ match o with
 | none => e = .returned (.tuple #[.slice none 0 0, .agg #[.slice none 0 0, .slice none 0 0], .int .i64 (if ok then 19 else 1)])
 | some r => 0 < r.1.length ∧ ∃ A c A' n' c' B m d, e = .returned (.tuple #[.slice A r.1.length c, .agg #[.slice A' n' c', .slice B m d], .int .i64 0]) ∧ RP w' A r.1.length c r.1 ∧ IsQ w' (.agg #[.slice A' n' c', .slice B m d]) r.2 400
/-- What Try tells. -/
def tryO (L : Notes) (g : List Ed) (fr td a x n : Int) : Option (List Prt × Rat) := if argsB g fr td a x then tryF L g fr td a x n else none
theorem sends_cons (g : List Ed) (fr td x : Int) (L : Notes) (q : Rat) (a : Int) (as_ : List Int) : sendsF g fr td x L q (a :: as_) = match sendF g fr td x L a with
 | none => none
 | some (p, y) => (sendsF g fr td x (sentL L p.way p.s) (q * y.q) as_).map fun r => (p :: r.1, r.2) := by rw [sendsF]; rfl
theorem shares_len {a n : Int} {l : List Int} (h : shares a n = some l) : (l.length : Int) = n ∧ 1 ≤ n ∧ n ≤ 8 := by
 unfold shares at h
 split at h
 ·simp at h
 ·simp only [Option.some.injEq] at h
  subst h
  simp
  omega
set_option maxRecDepth 100000 in
set_option maxHeartbeats 4000000 in
theorem try_any (w : World) (p b m0 : Nat) (L : Notes) (hM : MindAt w p b m0 L) (hgd : Good L) (hm : m0 < 600000) (Ag : Option Addr) (ng cg : Nat) (g : List Ed) (h : RE w Ag ng cg g) (hng : ng ≤ 1048576) (fr td a x n : Int) (hn1 : 1 ≤ n) (hn8 : n ≤ 8) :
 Calls Tryz.prog 35 #[.slice Ag ng cg, .pointer (some ⟨p, 0, none⟩), .int .i64 fr, .int .i64 td, .int .i64 a, .int .i64 x, .int .i64 n] w (RetT w (argsB g fr td a x) (tryO L g fr td a x n)) := by
 have HL := Lib.hid h
 have HM := Lib.hid hM
 clear h hM
 have HT0 : Hid (tryO L g fr td a x n = if argsB g fr td a x then tryF L g fr td a x n else none) := Lib.hid rfl
 have HB0' : Hid (argsB g fr td a x = false → bestF L g fr td a x = none) := Lib.hid (fun h => by unfold bestF; rw [h]; rfl)
 have HA : Hid (argsB g fr td a x = true → inB a 1 1125899906842624 = true) := Lib.hid (fun h => by unfold argsB at h; simp only [Bool.and_eq_true] at h; exact h.2.2.2.2.1)
 obtain ⟨W0, hW0⟩ : ∃ W, W = ((((((w.alloc (.cells #[.slice Ag ng cg] 26)).alloc (.cells #[.pointer (some ⟨p, 0, none⟩)] 29)).alloc (.cells #[.int .i64 fr] 3)).alloc (.cells #[.int .i64 td] 3)).alloc (.cells #[.int .i64 x] 3)).alloc (.cells #[.slice none 0 0, .slice none 0 0] 34)) := ⟨_, rfl⟩
 have hB0 : Below w.heap.size w W0 := by rw [hW0]; exact (((((((Below.refl _ _).alloc (Nat.le_refl _) _).alloc (by simp; try omega) _).alloc (by simp; try omega) _).alloc (by simp; try omega) _).alloc (by simp; try omega) _).alloc (by simp; try omega) _)
 have k_bg : Blk W0 w.heap.size 26 #[.slice Ag ng cg] := by
  rw [hW0]
  have := Blk.new w 26 #[.slice Ag ng cg]
  exact (((((this.alloc _).alloc _).alloc _).alloc _).alloc _)
 have k_bm : Blk W0 (w.heap.size + 1) 29 #[.pointer (some ⟨p, 0, none⟩)] := by
  rw [hW0]
  have := Blk.new (w.alloc (.cells #[.slice Ag ng cg] 26)) 29 #[.pointer (some ⟨p, 0, none⟩)]
  rw [World.size_alloc] at this
  exact ((((this.alloc _).alloc _).alloc _).alloc _)
 have k_bf : Blk W0 (w.heap.size + 1 + 1) 3 #[.int .i64 fr] := by
  rw [hW0]
  have := Blk.new ((w.alloc (.cells #[.slice Ag ng cg] 26)).alloc (.cells #[.pointer (some ⟨p, 0, none⟩)] 29)) 3 #[.int .i64 fr]
  rw [World.size_alloc, World.size_alloc] at this
  exact (((this.alloc _).alloc _).alloc _)
 have k_bt : Blk W0 (w.heap.size + 1 + 1 + 1) 3 #[.int .i64 td] := by
  rw [hW0]
  have := Blk.new (((w.alloc (.cells #[.slice Ag ng cg] 26)).alloc (.cells #[.pointer (some ⟨p, 0, none⟩)] 29)).alloc (.cells #[.int .i64 fr] 3)) 3 #[.int .i64 td]
  rw [World.size_alloc, World.size_alloc, World.size_alloc] at this
  exact ((this.alloc _).alloc _)
 have k_bx : Blk W0 (w.heap.size + 1 + 1 + 1 + 1) 3 #[.int .i64 x] := by
  rw [hW0]
  have := Blk.new ((((w.alloc (.cells #[.slice Ag ng cg] 26)).alloc (.cells #[.pointer (some ⟨p, 0, none⟩)] 29)).alloc (.cells #[.int .i64 fr] 3)).alloc (.cells #[.int .i64 td] 3)) 3 #[.int .i64 x]
  rw [World.size_alloc, World.size_alloc, World.size_alloc, World.size_alloc] at this
  exact (this.alloc _)
 have k_b15 : Blk W0 (w.heap.size + 1 + 1 + 1 + 1 + 1) 34 #[.slice none 0 0, .slice none 0 0] := by
  rw [hW0]
  have := Blk.new (((((w.alloc (.cells #[.slice Ag ng cg] 26)).alloc (.cells #[.pointer (some ⟨p, 0, none⟩)] 29)).alloc (.cells #[.int .i64 fr] 3)).alloc (.cells #[.int .i64 td] 3)).alloc (.cells #[.int .i64 x] 3)) 34 #[.slice none 0 0, .slice none 0 0]
  rw [World.size_alloc, World.size_alloc, World.size_alloc, World.size_alloc, World.size_alloc] at this
  exact this
 go_enter Tryz.func35, Tryz.ntmps35
 go_upto_region 1 with (fail)
 rw [← hW0]
 clear hW0
 obtain ⟨b15, h_b15⟩ : ∃ z, w.heap.size + 1 + 1 + 1 + 1 + 1 = z := ⟨_, rfl⟩
 rw [h_b15] at k_b15
 obtain ⟨bx, h_bx⟩ : ∃ z, w.heap.size + 1 + 1 + 1 + 1 = z := ⟨_, rfl⟩
 rw [h_bx] at k_bx
 obtain ⟨bt, h_bt⟩ : ∃ z, w.heap.size + 1 + 1 + 1 = z := ⟨_, rfl⟩
 rw [h_bt] at k_bt
 obtain ⟨bf, h_bf⟩ : ∃ z, w.heap.size + 1 + 1 = z := ⟨_, rfl⟩
 rw [h_bf] at k_bf
 obtain ⟨bm, h_bm⟩ : ∃ z, w.heap.size + 1 = z := ⟨_, rfl⟩
 rw [h_bm] at k_bm
 obtain ⟨bg, h_bg⟩ : ∃ z, w.heap.size = z := ⟨_, rfl⟩
 rw [h_bg] at k_bg
 have HPL := Lib.hid (And.intro h_bg (And.intro h_bm (And.intro h_bf (And.intro h_bt (And.intro h_bx h_b15)))))
 rw [h_b15, h_bx, h_bt, h_bf, h_bm, h_bg]
 clear h_b15 h_bx h_bt h_bf h_bm h_bg
 have HL0 := Lib.hid (HL.out.on hB0)
 have HM0 := Lib.hid (HM.out.on hB0)
 have HB0 := Lib.hid hB0
 clear hB0
 have c_bg := k_bg.cell 0
 have c_bm := k_bm.cell 0
 have c_bf := k_bf.cell 0
 have c_bt := k_bt.cell 0
 have c_bx := k_bx.cell 0
 simp at c_bg c_bm c_bf c_bt c_bx
 go_wp2_with fail
 refine (best_any W0 p b m0 L HM0.out hgd Ag ng cg g HL0.out hng fr td a x).mono ?_
 rintro y W1 ⟨hb, hm1⟩
 clear c_bg c_bm c_bf c_bt c_bx
 replace k_bg := k_bg.below hb k_bg.lt
 replace k_bm := k_bm.below hb k_bm.lt
 replace k_bf := k_bf.below hb k_bf.lt
 replace k_bt := k_bt.below hb k_bt.lt
 replace k_bx := k_bx.below hb k_bx.lt
 replace k_b15 := k_b15.below hb k_b15.lt
 have HB1 := Lib.hid (bltB HB0.out HB0.out.size hb)
 have HL1 := Lib.hid (HL0.out.on hb)
 have HM1 := Lib.hid (HM0.out.on hb)
 clear hb HL0 HM0 HB0
 have g1 : ¬ n < 1 := by omega
 have g2 : ¬ 8 < n := by omega
 rcases hok : argsB g fr td a x with _ | _
 ·have hbn := HB0'.out hok
  rw [hbn] at hm1
  dsimp only at hm1
  rw [hok] at hm1
  rw [if_neg (by decide)] at hm1
  subst hm1
  clear hbn
  go_upto_region 2 with (fail)
  obtain ⟨W2, hW2⟩ : ∃ W, W = W1.alloc (.cells #[.slice none 0 0, .slice none 0 0] 34) := ⟨_, rfl⟩
  have hb2 : Below W1.heap.size W1 W2 := by rw [hW2]; exact (Below.refl _ _).alloc (Nat.le_refl _) _
  rw [← hW2]
  clear hW2
  replace k_bg := k_bg.below hb2 k_bg.lt
  replace k_bm := k_bm.below hb2 k_bm.lt
  replace k_bf := k_bf.below hb2 k_bf.lt
  replace k_bt := k_bt.below hb2 k_bt.lt
  replace k_bx := k_bx.below hb2 k_bx.lt
  replace k_b15 := k_b15.below hb2 k_b15.lt
  have HB2 := Lib.hid (bltB HB1.out HB1.out.size hb2)
  clear hb2
  have z0 := k_b15.cell 0
  have z1 := k_b15.cell 1
  have f0 := k_b15.frozen 0
  have f1 := k_b15.frozen 1
  simp at z0 z1
  have HOK := Lib.hid hok
  clear hok
  go_wp2_with fail
  have k9 := (k_b15.set_ 0 (.slice none 0 0)).set_ 1 (.slice none 0 0)
  have h15 : w.heap.size ≤ b15 := by have := HPL.out; omega
  have hBz := (HB2.out.setCell (p := ⟨b15, 0, none⟩) h15 (.slice none 0 0)).setCell (p := ⟨b15, 1, none⟩) h15 (.slice none 0 0)
  refine bodyPost_ret (v := .tuple #[.slice none 0 0, .agg #[.slice none 0 0, .slice none 0 0], .int .i64 1]) ?_ rfl ?_
  ·have e0 := k9.cell 0
   have e1 := k9.cell 1
   simp at e0 e1
   simp [results, Tryz.f35, go_sem, e0, e1]
  ·refine ⟨hBz, ?_⟩
   rw [HT0.out, HOK.out]
   rfl
 ·have HOK := Lib.hid hok
  have HAI := HA.out hok
  rw [hok] at hm1
  clear hok
  have hz : ∃ (z : Int) (vw : Value) (A' B' : Option Addr) (n' c' m' d' : Nat), y = .returned (.tuple #[vw, .agg #[.slice A' n' c', .slice B' m' d'], .int .i64 z]) ∧ (z == 1) = false := by
   generalize bestF L g fr td a x = u0 at hm1
   rcases u0 with _ | u
   ·exact ⟨19, _, _, _, _, _, _, _, hm1, rfl⟩
   ·obtain ⟨_, A, n, c, A1, n1, c1, B1, m1, d1, rfl, _⟩ := hm1
    exact ⟨0, _, _, _, _, _, _, _, rfl, rfl⟩
  clear hm1
  obtain ⟨z, vw, A1, B1, n1, c1, m1, d1, rfl, g3⟩ := hz
  go_upto_region 2 with (fail)
  obtain ⟨W2, hW2⟩ : ∃ W, W = W1.alloc (.cells #[.slice A1 n1 c1, .slice B1 m1 d1] 34) := ⟨_, rfl⟩
  have hb2 : Below W1.heap.size W1 W2 := by rw [hW2]; exact (Below.refl _ _).alloc (Nat.le_refl _) _
  rw [← hW2]
  clear hW2
  replace k_bg := k_bg.below hb2 k_bg.lt
  replace k_bm := k_bm.below hb2 k_bm.lt
  replace k_bf := k_bf.below hb2 k_bf.lt
  replace k_bt := k_bt.below hb2 k_bt.lt
  replace k_bx := k_bx.below hb2 k_bx.lt
  replace k_b15 := k_b15.below hb2 k_b15.lt
  have HB2 := Lib.hid (bltB HB1.out HB1.out.size hb2)
  have HL2 := Lib.hid (HL1.out.on hb2)
  have HM2 := Lib.hid (HM1.out.on hb2)
  clear hb2 HB1 HL1 HM1
  have hai : isI a := by simp only [inB, Bool.and_eq_true, decide_eq_true_eq] at HAI; exact ⟨by omega, by omega⟩
  clear HAI
  go_wp2_with fail
  refine (shares_any W2 a n hai).mono ?_
  rintro y W3 ⟨hb, hs⟩
  replace k_bg := k_bg.below hb k_bg.lt
  replace k_bm := k_bm.below hb k_bm.lt
  replace k_bf := k_bf.below hb k_bf.lt
  replace k_bt := k_bt.below hb k_bt.lt
  replace k_bx := k_bx.below hb k_bx.lt
  replace k_b15 := k_b15.below hb k_b15.lt
  have HB3 := Lib.hid (bltB HB2.out HB2.out.size hb)
  have HL3 := Lib.hid (HL2.out.on hb)
  have HM3 := Lib.hid (HM2.out.on hb)
  clear hb HB2 HL2 HM2
  have eq_ := fun (w : World) (a : Option Addr) (l c : Nat) => Go.run_eql_slice_nil (P := Tryz.prog) w 49 3 a l c Tryz.underlying49
  obtain ⟨osh, hosh⟩ : ∃ z, shares a n = z := ⟨_, rfl⟩
  rw [hosh] at hs
  have HSH := Lib.hid hosh
  clear hosh
  rcases osh with _ | sh
  ·dsimp only at hs
   subst hs
   have z0 := k_b15.cell 0
   have z1 := k_b15.cell 1
   have f0 := k_b15.frozen 0
   have f1 := k_b15.frozen 1
   simp at z0 z1
   go_wp2_with fail
   have k9 := (k_b15.set_ 0 (.slice none 0 0)).set_ 1 (.slice none 0 0)
   have h15 : w.heap.size ≤ b15 := by have := HPL.out; omega
   have hBz := (HB3.out.setCell (p := ⟨b15, 0, none⟩) h15 (.slice none 0 0)).setCell (p := ⟨b15, 1, none⟩) h15 (.slice none 0 0)
   refine bodyPost_ret (v := .tuple #[.slice none 0 0, .agg #[.slice none 0 0, .slice none 0 0], .int .i64 19]) ?_ rfl ?_
   ·have e0 := k9.cell 0
    have e1 := k9.cell 1
    simp at e0 e1
    simp [results, Tryz.f35, go_sem, e0, e1]
   ·refine ⟨hBz, ?_⟩
    rw [HT0.out, HOK.out]
    unfold tryF
    rw [HSH.out]
    rfl
  ·obtain ⟨hne, hl8, As, rfl, rS⟩ := hs
   obtain ⟨N, hN⟩ : ∃ N, sh.length = N := ⟨_, rfl⟩
   rw [hN] at rS hl8 ⊢
   have hN0 : 0 < N := by rcases Nat.eq_zero_or_pos N with h0 | h0; exact absurd (List.eq_nil_of_length_eq_zero (hN.trans h0)) hne; exact h0
   obtain ⟨bs, os_, hAs, hbs, _, _⟩ := rS.num hN0
   subst hAs
   have HS3 := Lib.hid rS
   have HN := Lib.hid (And.intro hN (And.intro hN0 hl8))
   clear rS hne hN hl8 hN0 hbs
   have HTS : Hid (tryO L g fr td a x n = sendsF g fr td x L 1 sh) := Lib.hid (by rw [HT0.out, HOK.out]; unfold tryF; rw [HSH.out]; rfl)
   clear HT0 HSH
   have c_bg := k_bg.cell 0
   have c_bm := k_bm.cell 0
   have c_bf := k_bf.cell 0
   have c_bt := k_bt.cell 0
   have c_bx := k_bx.cell 0
   simp at c_bg c_bm c_bf c_bt c_bx
   go_upto_region 7 with (fail)
   go_wp2_with fail
   clear eq_
   refine (copy_any W3 p b m0 L HM3.out).mono ?_
   rintro y W4 ⟨p2, b2, rfl, hM4, hp2, hb2, hb⟩
   have l_bg : bg < W3.heap.size := k_bg.lt
   have l_bm : bm < W3.heap.size := k_bm.lt
   have l_bf : bf < W3.heap.size := k_bf.lt
   have l_bt : bt < W3.heap.size := k_bt.lt
   have l_bx : bx < W3.heap.size := k_bx.lt
   have l_b15 : b15 < W3.heap.size := k_b15.lt
   have HNE : Hid ((bg ≠ bm ∧ bf ≠ bm ∧ bt ≠ bm ∧ bx ≠ bm ∧ b15 ≠ bm) ∧ (bg < p2 ∧ bf < p2 ∧ bt < p2 ∧ bx < p2 ∧ bm < p2 ∧ b15 < p2) ∧ (bg < b2 ∧ bf < b2 ∧ bt < b2 ∧ bx < b2 ∧ bm < b2 ∧ b15 < b2) ∧ w.heap.size ≤ b2) := Lib.hid (by have := HPL.out; have := HB3.out.size; omega)
   clear l_bg l_bm l_bf l_bt l_bx l_b15 hp2 hb2
   clear c_bg c_bm c_bf c_bt c_bx
   replace k_bg := k_bg.below hb k_bg.lt
   replace k_bm := k_bm.below hb k_bm.lt
   replace k_bf := k_bf.below hb k_bf.lt
   replace k_bt := k_bt.below hb k_bt.lt
   replace k_bx := k_bx.below hb k_bx.lt
   replace k_b15 := k_b15.below hb k_b15.lt
   have HB4 := Lib.hid (bltB HB3.out HB3.out.size hb)
   have HL4 := Lib.hid (HL3.out.on hb)
   have HS4 := Lib.hid (HS3.out.on hb)
   have HM4 := Lib.hid hM4
   clear hb hM4 HB3 HL3 HM3 HS3
   have f_bm := k_bm.frozen 0
   have c_bm := k_bm.cell 0
   simp at c_bm
   go_upto_region 8 with (fail)
   obtain ⟨W5, hW5⟩ : ∃ W, W = W4.setCell ⟨bm, 0, none⟩ (.pointer (some ⟨p2, 0, none⟩)) := ⟨_, rfl⟩
   have hg5 : Gr (· = bm) W4 W5 := by rw [hW5]; exact (Gr.refl (· = bm) W4).setCell (g := bm) (i := 0) (fun _ => show bm = bm from rfl) _
   have k_bm5 : Blk W5 bm 29 #[.pointer (some ⟨p2, 0, none⟩)] := by rw [hW5]; exact k_bm.set_ 0 _
   rw [← hW5]
   clear hW5 f_bm c_bm
   have hty : ∀ (T : TypeId) (cs' : Array Value) (b' : Nat) (fr' : Nat × Nat), T ≠ 29 → W4.heap[b']? = some (.cells cs' T fr') → ¬ b' = bm := fun T cs' b' fr' hT hh e => blk_ne k_bm hh hT e
   have HL5 := Lib.hid (Rg.gr HL4.out hg5 (fun b' cs' fr' hh => hty _ cs' b' fr' (by decide) hh))
   have HS5 := Lib.hid (Rg.gr HS4.out hg5 (fun b' cs' fr' hh => hty _ cs' b' fr' (by decide) hh))
   have HM5 := Lib.hid (HM4.out.gr hg5 (fun e => by have := HNE.out; omega) (fun e => by have := HNE.out; omega))
   replace k_bg := k_bg.gr hg5 (fun e => by have e : bg = bm := e; have := HNE.out; omega)
   replace k_bf := k_bf.gr hg5 (fun e => by have e : bf = bm := e; have := HNE.out; omega)
   replace k_bt := k_bt.gr hg5 (fun e => by have e : bt = bm := e; have := HNE.out; omega)
   replace k_bx := k_bx.gr hg5 (fun e => by have e : bx = bm := e; have := HNE.out; omega)
   replace k_b15 := k_b15.gr hg5 (fun e => by have e : b15 = bm := e; have := HNE.out; omega)
   replace k_bm := k_bm5
   have HB5 := Lib.hid (hg5.below (B := w.heap.size) (Nat.le_trans HB4.out.size (Nat.le_refl _)) (fun k hk e => by have e : k = bm := e; have := HPL.out; omega))
   have HB5 := Lib.hid (HB4.out.trans HB5.out)
   clear hg5 hty k_bm5 HL4 HS4 HM4 HB4
   go_wp2_with fail
   refine (fof_v W5 1 1 (by omega) (by omega)).mono ?_
   rintro y W6 ⟨v, rfl, Iv, hb⟩
   obtain ⟨Av, nv, cv, Bv, mv, dv, rfl, hIv⟩ := Iv
   have Iv : IsQ W6 (.agg #[.slice Av nv cv, .slice Bv mv dv]) _ _ := ⟨_, _, _, _, _, _, rfl, hIv⟩
   replace k_bg := k_bg.below hb k_bg.lt
   replace k_bm := k_bm.below hb k_bm.lt
   replace k_bf := k_bf.below hb k_bf.lt
   replace k_bt := k_bt.below hb k_bt.lt
   replace k_bx := k_bx.below hb k_bx.lt
   replace k_b15 := k_b15.below hb k_b15.lt
   have HB6 := Lib.hid (bltB HB5.out HB5.out.size hb)
   have HL6 := Lib.hid (HL5.out.on hb)
   have HS6 := Lib.hid (HS5.out.on hb)
   have HM6 := Lib.hid (HM5.out.on hb)
   clear hb HB5 HL5 HS5 HM5 hIv
   rw [show ((mkRat ((1 : Nat) : Int) 1 : Rat)) = 1 by decide] at Iv
   go_upto_region 9 with (fail)
   obtain ⟨W7, hW7⟩ : ∃ W, W = W6.alloc (.cells #[.slice Av nv cv, .slice Bv mv dv] 34) := ⟨_, rfl⟩
   have hb2 : Below W6.heap.size W6 W7 := by rw [hW7]; exact (Below.refl _ _).alloc (Nat.le_refl _) _
   have k21 : Blk W7 W6.heap.size 34 #[.slice Av nv cv, .slice Bv mv dv] := by rw [hW7]; exact Blk.new W6 _ _
   have Iv7 := Iv.on hb2
   rw [← hW7]
   obtain ⟨G21, hG21⟩ : ∃ z, W6.heap.size = z := ⟨_, rfl⟩
   rw [hG21] at k21 ⊢
   have HG21 : Hid ((bg < G21 ∧ bf < G21 ∧ bt < G21 ∧ bx < G21 ∧ bm < G21 ∧ b15 < G21) ∧ w.heap.size ≤ G21 ∧ b2 < G21) := Lib.hid (by have h1 := k_bg.lt; have h2 := k_bf.lt; have h3 := k_bt.lt; have h4 := k_bx.lt; have h5 := k_bm.lt; have h6 := k_b15.lt; have h7 := HB6.out.size; have h8 := HM6.out.lt; omega)
   clear hW7
   replace k_bg := k_bg.below hb2 k_bg.lt
   replace k_bm := k_bm.below hb2 k_bm.lt
   replace k_bf := k_bf.below hb2 k_bf.lt
   replace k_bt := k_bt.below hb2 k_bt.lt
   replace k_bx := k_bx.below hb2 k_bx.lt
   replace k_b15 := k_b15.below hb2 k_b15.lt
   have HB7 := Lib.hid (bltB HB6.out HB6.out.size hb2)
   have HL7 := Lib.hid (HL6.out.on hb2)
   have HS7 := Lib.hid (HS6.out.on hb2)
   have HM7 := Lib.hid (HM6.out.on hb2)
   have HF7 : Hid (FracAt W7 G21 1 2) := Lib.hid ⟨_, _, _, _, _, _, k21, Iv7⟩
   clear hb2 HB6 HL6 HS6 HM6 Iv Iv7 k21 hG21
   have HT7 : Hid (TryAt W7 ⟨p2, b2, bg, bm, bf, bt, bx, G21, x, fr, td, Ag, ng, cg⟩ g) := Lib.hid ⟨by have := k_bg.cell 0; simpa using this, by have := k_bm.cell 0; simpa using this, by have := k_bf.cell 0; simpa using this, by have := k_bt.cell 0; simpa using this, by have := k_bx.cell 0; simpa using this, HL7.out, by have h1 := k_bg.lt; have h2 := k_bf.lt; have h3 := k_bt.lt; have h4 := k_bx.lt; have h5 := k_bm.lt; dsimp only; omega, by have := HNE.out; dsimp only; omega, by have := HG21.out; dsimp only; omega⟩
   have HK15 := Lib.hid k_b15
   clear k_bg k_bm k_bf k_bt k_bx k_b15 HL7
   obtain ⟨i0, hi, hz0', hz1, hz2⟩ := info_parts infoP
   have HI := Lib.hid (And.intro hi (And.intro hz0' (And.intro hz1 hz2)))
   clear hi hz0' hz1 hz2
   go_wp2_with fail
   go_loopw [24, 66] (fun ov iv wr => ∃ (v : Value) (i : Nat), v = ov ∧ i ≤ N ∧ iv = .int .i64 i ∧ ∃ (L' : Notes) (q : Rat) (ps : List Prt), Hid (ps.length = i) ∧ Hid ((sendsF g fr td x L' q (sh.drop i)).map (fun r => (ps ++ r.1, r.2)) = sendsF g fr td x L 1 sh) ∧ Hid (Good L') ∧ Hid (∃ m, m ≤ m0 + 24 * i ∧ MindAt wr p2 b2 m L') ∧ Hid (FracAt wr G21 q (2 + 42 * i)) ∧ Hid (OwnP wr W7.heap.size v ps) ∧ Hid (Clean wr v) ∧ Hid (Gr (fun k => k = b2 ∨ k = G21) W7 wr)) (fun _ iv _ => N - (intOf iv).toNat)
   case atStart => exact ⟨_, 0, rfl, Nat.zero_le _, rfl, L, 1, [], Lib.hid rfl, Lib.hid (by rw [List.drop_zero]; cases sendsF g fr td x L 1 sh <;> rfl), Lib.hid hgd, Lib.hid ⟨m0, by omega, HM7.out⟩, HF7, Lib.hid (OwnP.nil _ _), Lib.hid (fun g hg => by cases hg), Lib.hid (Gr.refl _ _)⟩
   case round =>
    obtain ⟨v, i, rfl, hi, rfl, L', q, ps, HPS, HQ, HG', HMX, HF', HO, HCL, HGR⟩ := hrel
    obtain ⟨m, hmm, hMm⟩ := HMX.out
    have HM' := Lib.hid hMm
    clear hMm HMX
    have hGB : Hid (Below w.heap.size w wr) := Lib.hid (HB7.out.trans (HGR.out.below (B := w.heap.size) HB7.out.size (fun k hk e => by have h1 := HNE.out; have h2 := HG21.out; omega)))
    have k15 := HK15.out.gr HGR.out (fun e => by have h1 := HNE.out; have h2 := HG21.out; omega)
    by_cases hlt : i < N
    ·have hS' := Rg.gr HS7.out HGR.out (by
      obtain ⟨cs', kf⟩ := HF7.out.blk
      rintro b' cs' fr' hh (e | e)
      ·exact map_ne HM7.out hh e
      ·exact blk_ne kf hh (by decide) e)
     obtain ⟨bs', os', hAs, hbs, hxs, s0⟩ := hS'.num hlt
     injection hAs with hAs
     injection hAs with h1 h2
     subst h1 h2
     clear hS'
     obtain ⟨a1, ha1⟩ : ∃ z, sh.getD i 0 = z := ⟨_, rfl⟩
     rw [ha1] at s0 hxs
     have HX := Lib.hid hxs
     clear ha1 hxs
     have hlt' : (i : Int) < (N : Int) := by omega
     have HT' := Lib.hid (HT7.out.gr HM7.out HF7.out.blk HGR.out)
     clear HK15
     go_wp2_with fail
     refine (try1_any ⟨p2, b2, bg, bm, bf, bt, bx, G21, x, fr, td, Ag, ng, cg⟩ g wr m L' q (2 + 42 * i) a1 hng HT'.out HM'.out HG'.out (by have := HN.out; omega) HF'.out (by have := HN.out; omega)).mono ?_
     rintro y W8 hT
     dsimp only at hT
     obtain ⟨os1, hos1⟩ : ∃ z, sendF g fr td x L' a1 = z := ⟨_, rfl⟩
     rw [hos1] at hT
     have HOS := Lib.hid hos1
     clear hos1
     rcases os1 with _ | ⟨P, y1⟩
     ·obtain ⟨rfl, hb⟩ := hT
      replace k15 := k15.below hb k15.lt
      have hB8 := Lib.hid (bltB hGB.out hGB.out.size hb)
      clear hb
      go_upto_region 15 with (fail)
      obtain ⟨W9, hW9⟩ : ∃ W, W = W8.alloc (.cells #[.int .i64 0, .slice none 0 0, .slice none 0 0, .slice none 0 0] 51) := ⟨_, rfl⟩
      have hb2 : Below W8.heap.size W8 W9 := by rw [hW9]; exact (Below.refl _ _).alloc (Nat.le_refl _) _
      rw [← hW9]
      clear hW9
      replace k15 := k15.below hb2 k15.lt
      have hB9 := Lib.hid (bltB hB8.out hB8.out.size hb2)
      clear hb2 hB8
      have z0 := k15.cell 0
      have z1 := k15.cell 1
      have f0 := k15.frozen 0
      have f1 := k15.frozen 1
      simp at z0 z1
      go_wp2_with fail
      have k9 := (k15.set_ 0 (.slice none 0 0)).set_ 1 (.slice none 0 0)
      have h15 : w.heap.size ≤ b15 := by have := HPL.out; omega
      have hBz := (hB9.out.setCell (p := ⟨b15, 0, none⟩) h15 (.slice none 0 0)).setCell (p := ⟨b15, 1, none⟩) h15 (.slice none 0 0)
      refine bodyPost_ret (v := .tuple #[.slice none 0 0, .agg #[.slice none 0 0, .slice none 0 0], .int .i64 19]) ?_ rfl ?_
      ·have e0 := k9.cell 0
       have e1 := k9.cell 1
       simp at e0 e1
       simp [results, Tryz.f35, go_sem, e0, e1]
      ·refine ⟨hBz, ?_⟩
       rw [HTS.out, ← HQ.out, drop_at HX.out, sends_cons, HOS.out, HOK.out]
       rfl
     ·obtain ⟨⟨cs, rfl, hPV⟩, hF8, hG8, ⟨m8, hm8, hM8⟩, hg8⟩ := hT
      dsimp only at hPV hF8 hG8 hM8 hg8
      obtain ⟨Aw, nw, cw, Ax, nx, cx, At, nt, ct, rfl, hpv⟩ := hPV
      have HPV : Hid (PV W8 #[.int .i64 P.a, .slice Aw nw cw, .slice Ax nx cx, .slice At nt ct] P) := Lib.hid ⟨_, _, _, _, _, _, _, _, _, rfl, hpv⟩
      have HGR8 := Lib.hid (HGR.out.trans hg8)
      have HO8 : Hid (OwnP W8 W7.heap.size v ps) := Lib.hid (HO.out.gr hg8 (fun g' hg' => by have h1 := HO.out.base g' hg'; have h2 := HM7.out.lt; have h3 := HF7.out.lt; omega) (by
       obtain ⟨cs', kf⟩ := HF'.out.blk
       rintro T b' cs' fr' hTT hh (e | e)
       ·exact map_ne HM'.out hh e
       ·exact blk_ne kf hh (by rcases hTT with rfl | rfl <;> decide) e))
      have HCL8 : Hid (Clean W8 v) := Lib.hid (HCL.out.keep (fun g' hg' => hg8.block g' (by obtain ⟨_, ho, _⟩ := HO.out; exact (ho.lt g' hg').2) (by have h1 := HO.out.base g' hg'; have h2 := HM7.out.lt; have h3 := HF7.out.lt; omega)))
      have HF8 := Lib.hid hF8
      have HG8 := Lib.hid hG8
      have HM8 := Lib.hid hM8
      have HS8 := Lib.hid hm8
      clear hpv hF8 hG8 hM8 hg8 hm8 HGR HO HCL HF' HM' HG' k15 HT' s0 hbs hGB
      obtain ⟨a2, ha2⟩ : ∃ z, P.a = z := ⟨_, rfl⟩
      rw [ha2] at HPV ⊢
      go_upto_region 15 with (fail)
      obtain ⟨W9, hW9⟩ : ∃ W, W = W8.alloc (.cells #[.int .i64 a2, .slice Aw nw cw, .slice Ax nx cx, .slice At nt ct] 51) := ⟨_, rfl⟩
      have hb2 : Below W8.heap.size W8 W9 := by rw [hW9]; exact (Below.refl _ _).alloc (Nat.le_refl _) _
      have k27 : Blk W9 W8.heap.size 51 #[.int .i64 a2, .slice Aw nw cw, .slice Ax nx cx, .slice At nt ct] := by rw [hW9]; exact Blk.new W8 _ _
      rw [← hW9]
      obtain ⟨G27, hG27⟩ : ∃ z, W8.heap.size = z := ⟨_, rfl⟩
      rw [hG27] at k27 ⊢
      clear hW9 hG27
      have HPV9 := Lib.hid (HPV.out.on hb2)
      have HO9 := Lib.hid (HO8.out.on hb2)
      have HCL9 : Hid (Clean W9 v) := Lib.hid (HCL8.out.keep (fun g' hg' => hb2.block g' (by obtain ⟨_, ho, _⟩ := HO8.out; exact (ho.lt g' hg').2)))
      have HF9 := Lib.hid (HF8.out.on hb2)
      have HM9 := Lib.hid (HM8.out.on hb2)
      have HGR9 := Lib.hid (HGR8.out.trans (Gr.of_below hb2))
      clear hb2 HPV HO8 HF8 HM8 HGR8 HCL8
      have c0 := k27.cell 0
      have c1 := k27.cell 1
      have c2 := k27.cell 2
      have c3 := k27.cell 3
      simp at c0 c1 c2 c3
      obtain ⟨l, hol, hll, hlp⟩ := HO9.out
      have HOL := Lib.hid hol
      have HLL := Lib.hid hll
      have HLP := Lib.hid hlp
      have HBS := Lib.hid HO9.out.base
      clear hol hll hlp
      go_wp2_with (at_builtin
                   go_loud (refine wpList_append_clean _ rfl (.tmp 79) (.tmp 81) 40 rfl W7.heap.size 51 i0 partZ 4 80 Tryz.underlying40 HI.out.1 HI.out.2.1 HI.out.2.2.1 HI.out.2.2.2 rfl (by decide) v _ _ rfl (HOL.out.alloc _) ⟨W9.heap.size, 0, none⟩ 1 1 (Array.toList #[.int .i64 a2, .slice Aw nw cw, .slice Ax nx cx, .slice At nt ct]) rfl rfl (part_cells (Blk.new W9 _ #[.int .i64 a2, .slice Aw nw cw, .slice Ax nx cx, .slice At nt ct])) (pv_one HPV9.out) (by have h1 := HPS.out; have h2 := HN.out; simp only [maxLen]; omega) (by have h1 := HPS.out; have h2 := HN.out; omega) (by have := HGR9.out.size; simp; omega) (by decide) (HCL9.out.keep (fun g' hg' => Below.heap_alloc W9 _ g' (by obtain ⟨_, ho, _⟩ := HO9.out; exact (ho.lt g' hg').2))) (part_nodig _ _ _ _ _ _ _ _ _ _) partz_nodig ?_)
                   intro v1 W10 own1 gr1 at1 cl1)
      have hgo : Gr (fun k => k = b2 ∨ k = G21) W7 W10 := (HGR9.out.trans (Gr.of_below ((Below.refl _ _).alloc (Nat.le_refl _) _))).grown_new gr1 (fun k hk => HBS.out k hk)
      have hgx : ∀ (b' : Nat) (o' : Obj), W9.heap[b']? = some o' → (∀ k, v.ownBlock = some k → b' ≠ k) → W10.heap[b']? = W9.heap[b']? := fun b' o' hh hk => own_else gr1 hh hk
      have hnt : ∀ (T : TypeId) (b' : Nat) cs' fr', T ≠ 51 → W9.heap[b']? = some (.cells cs' T fr') → W10.heap[b']? = W9.heap[b']? := fun T b' cs' fr' hT hh => hgx b' _ hh (fun k hk e => by subst e; obtain ⟨cs2, h2⟩ := own_type HOL.out hk; rw [hh] at h2; injection h2 with h2; injection h2 with _ h2; exact hT h2)
      have HPV10 := Lib.hid (HPV9.out.stay (fun T b' cs' fr' hT hh => hnt T b' cs' fr' (by rcases hT with rfl | rfl <;> decide) hh))
      have HLP10 : Hid (∀ (i : Nat) (a : Array Value) (p : Prt), l[i]? = some a → ps[i]? = some p → PV W10 a p) := Lib.hid (fun i a p h1 h2 => (HLP.out i a p h1 h2).stay (fun T b' cs' fr' hT hh => hnt T b' cs' fr' (by rcases hT with rfl | rfl <;> decide) hh))
      have HO10 : Hid (OwnP W10 W7.heap.size v1 (ps ++ [P])) := Lib.hid (OwnP.push HLL.out HLP10.out HPV10.out own1)
      have HF10 : Hid (FracAt W10 G21 (q * y1.q) (2 + 42 * (i + 1))) := Lib.hid (by
       have hF := HF9.out.push gr1 (fun k hk e => by have h1 := HBS.out k hk; have h2 := HF7.out.lt; omega) HCL9.out
       exact hF)
      have HM10 : Hid (∃ m, m ≤ m0 + 24 * (i + 1) ∧ MindAt W10 p2 b2 m (sentL L' P.way P.s)) := Lib.hid ⟨m8, by have := HS8.out; omega, HM9.out.push gr1 (fun k hk => ⟨by have h1 := HBS.out k hk; have h2 := HM7.out.box.lt; omega, by have h1 := HBS.out k hk; have h2 := HM7.out.lt; omega⟩)⟩
      have HGR10 := Lib.hid hgo
      have HQ10 : Hid ((sendsF g fr td x (sentL L' P.way P.s) (q * y1.q) (sh.drop (i + 1))).map (fun r => ((ps ++ [P]) ++ r.1, r.2)) = sendsF g fr td x L 1 sh) := Lib.hid (by
       rw [← HQ.out, drop_at HX.out, sends_cons, HOS.out]
       dsimp only
       rw [Option.map_map]
       congr 1
       funext r
       simp)
      have HPS10 : Hid ((ps ++ [P]).length = i + 1) := Lib.hid (by rw [List.length_append, HPS.out]; rfl)
      have HCL10 := Lib.hid cl1
      clear hgo hgx hnt own1 gr1 at1 cl1 HCL9 HOL HPV9 HO9 HF9 HM9 HGR9 c0 c1 c2 c3 k27
      have hN8 : N ≤ 8 := HN.out.2.2
      have hi1 : wrap64 ((i : Int) + 1) = (i : Int) + 1 := wrap64_of_isI ⟨by omega, by omega⟩
      go_wp2_with fail
      go_roundw
      case rel => exact ⟨v1, i + 1, rfl, by omega, by (try rw [hi1]); go_num, _, _, _, HPS10, HQ10, HG8, HM10, HF10, HO10, HCL10, HGR10⟩
      case measure => (try rw [hi1]); simp [intOf]; omega
    ·have hin : i = N := by omega
     subst hin
     have hq := HQ.out
     rw [List.drop_of_length_le (by rw [HN.out.1]; exact Nat.le_refl _), sendsF] at hq
     rw [Option.map_some, List.append_nil] at hq
     obtain ⟨Ao, no, co, Bo, mo, do_, ko, Io⟩ := HF'.out
     have q0 := ko.cell 0
     have q1 := ko.cell 1
     simp at q0 q1
     have z0 := k15.cell 0
     have z1 := k15.cell 1
     have f0 := k15.frozen 0
     have f1 := k15.frozen 1
     simp at z0 z1
     obtain ⟨A, c, rfl, rP⟩ := HO.out.row
     have HP := Lib.hid rP
     have HIo := Lib.hid Io
     have HQQ := Lib.hid hq
     have HLN := Lib.hid HPS.out
     obtain ⟨NP, hNP⟩ : ∃ z, ps.length = z := ⟨_, rfl⟩
     rw [hNP] at HP ⊢
     have HNP := Lib.hid hNP
     clear rP hq Io HQ ko HO hNP
     go_wp2_with fail
     go_region
     have h15 : w.heap.size ≤ b15 := by have := HPL.out; omega
     obtain ⟨W8, hW8⟩ : ∃ W, W = ((wr.setCell ⟨b15, 0, none⟩ (.slice Ao no co)).setCell ⟨b15, 1, none⟩ (.slice Bo mo do_)).drew := ⟨_, rfl⟩
     have k9 : Blk W8 b15 34 #[.slice Ao no co, .slice Bo mo do_] := by rw [hW8]; exact ((k15.set_ 0 (.slice Ao no co)).set_ 1 (.slice Bo mo do_)).drew
     have hB8 : Below w.heap.size w W8 := by rw [hW8]; exact ((hGB.out.setCell (p := ⟨b15, 0, none⟩) h15 (.slice Ao no co)).setCell (p := ⟨b15, 1, none⟩) h15 (.slice Bo mo do_)).drew
     have hg : Gr (· = b15) wr W8 := by rw [hW8]; exact (((Gr.refl (· = b15) wr).setCell (g := b15) (i := 0) (fun _ => show b15 = b15 from rfl) _).setCell (g := b15) (i := 1) (fun _ => show b15 = b15 from rfl) _).drew
     rw [← hW8]
     clear hW8
     have HR : Hid (RetT w (argsB g fr td a x) (tryO L g fr td a x n) (.returned (.tuple #[.slice A NP c, .agg #[.slice Ao no co, .slice Bo mo do_], .int .i64 0])) W8) := Lib.hid (by
      rw [HTS.out, ← HQQ.out]
      refine ⟨hB8, by have h1 := HN.out; have h2 := HLN.out; dsimp only; omega, A, c, _, _, _, _, _, _, by dsimp only; rw [HNP.out], ?_, (HIo.out.gr1 hg (frac_nocell k15)).more' (by have := HN.out; omega)⟩
      dsimp only
      rw [HNP.out]
      exact HP.out.gr hg (fun T b' cs' fr' hT hh => blk_ne k15 hh (by rcases hT with rfl | rfl | rfl <;> decide)))
     clear hg hB8
     go_wp2_with fail
     refine bodyPost_ret (v := .tuple #[.slice A NP c, .agg #[.slice Ao no co, .slice Bo mo do_], .int .i64 0]) ?_ rfl HR.out
     have e0 := k9.cell 0
     have e1 := k9.cell 1
     simp at e0 e1
     simp [results, Tryz.f35, go_sem, e0, e1]
end Go.Proofs.YthefgdehfgkhhaaGreat
namespace Go.Proofs.YthefgdehfgkhhaaGreat
open Go.RowKit Go.Maps
set_option linter.unusedVariables false
set_option linter.unusedSimpArgs false
attribute [local go_sem] Oper.semAt_some
/-- Which side an edge goes from. -/
def sideF (S : List Cn) (e : Ed) : Int := match lookS S e.c with
 | none => 1
 | some s => if s.p0 = e.f then 0 else 1
def hasF (S : List Cn) (e : Ed) : Int := match lookS S e.c with
 | none => 0
 | some s => haveS s (sideF S e)
/-- The first edge where there is too little. -/
def lacksF (S : List Cn) : List Ed → List Int → Int → Int
 | e :: es, x :: xs, i => if hasF S e < x then i else lacksF S es xs (i + 1)
 | _, _, _ => -1
def backE (e : Ed) : Ed := ⟨e.t, e.f, e.c, e.r, e.p0, e.p1, e.p2, e.p3, e.p4⟩
/-- The edge's channel is there. -/
def EIn (S : List Cn) (e : Ed) : Prop := isI e.c ∧ (lookS S e.c).isSome = true
theorem sideF_eq {S : List Cn} {e : Ed} {s : Cn} (h : lookS S e.c = some s) : sideF S e = if s.p0 = e.f then 0 else 1 := by unfold sideF; rw [h]
theorem sideF_01 (S : List Cn) (e : Ed) : sideF S e = 0 ∨ sideF S e = 1 := by
 unfold sideF
 split
 ·exact .inr rfl
 ·split
  ·exact .inl rfl
  ·exact .inr rfl
theorem hasF_eq {S : List Cn} {e : Ed} {s : Cn} (h : lookS S e.c = some s) : hasF S e = haveS s (sideF S e) := by unfold hasF; rw [h]
set_option maxRecDepth 100000 in
theorem side_any (w : World) (p go co bs bh ns : Nat) (own : List Int) (S : List Cn) (lost : Int) (h : LedAt w p go co bs bh ns own S lost) (e : Ed) (he : EIn S e) :
 Calls Tryz.prog 31 #[.pointer (some ⟨p, 0, none⟩), e.v] w fun y w' => y = .returned (.int .i64 (sideF S e)) ∧ Below w.heap.size w w' := by
 obtain ⟨hi, hk⟩ := he
 obtain ⟨s, hs⟩ := Option.isSome_iff_exists.1 hk
 have HF := Lib.hid (sideF_eq hs)
 obtain ⟨f, t1, ch, r, p0, p1, p2, p3, p4⟩ := e
 dsimp only at hs hi HF
 obtain ⟨W0, hW0⟩ : ∃ W, W = w.alloc (.cells #[.int .i64 f, .int .i64 t1, .int .i64 ch, .int .i64 r, .int .i64 p0, .int .i64 p1, .int .i64 p2, .int .i64 p3, .int .i64 p4] 56) := ⟨_, rfl⟩
 have hB0 : Below w.heap.size w W0 := by rw [hW0]; exact (Below.refl _ _).alloc (Nat.le_refl _) _
 have k3 : Blk W0 w.heap.size 56 #[.int .i64 f, .int .i64 t1, .int .i64 ch, .int .i64 r, .int .i64 p0, .int .i64 p1, .int .i64 p2, .int .i64 p3, .int .i64 p4] := by rw [hW0]; exact Blk.new w _ _
 have HL0 := Lib.hid (h.on hB0)
 have HB0 := Lib.hid hB0
 have HS := Lib.hid hs
 simp only [Ed.v, Ed.cs]
 have d0 := k3.cell 0
 have d2 := k3.cell 2
 simp at d0 d2
 clear hB0 h hk hs
 go_enter Tryz.func31, Tryz.ntmps31
 go_upto_region 1 with (fail)
 rw [← hW0]
 clear hW0
 obtain ⟨G3, hG3⟩ : ∃ z, w.heap.size = z := ⟨_, rfl⟩
 rw [hG3] at k3 d0 d2 ⊢
 clear hG3
 go_wp2_with fail
 refine (seat_any W0 p go co bs bh ns own S lost HL0.out ch hi s HS.out).mono ?_
 rintro y W1 ⟨rfl, hb⟩
 replace k3 := k3.below hb k3.lt
 have HB1 := Lib.hid (bltB HB0.out HB0.out.size hb)
 clear hb d0 d2 HL0 HB0
 obtain ⟨c0, q0, q1, h0, h1⟩ := s
 simp only [Cn.v, Cn.cs]
 dsimp only at HF
 go_upto_region 2 with (fail)
 obtain ⟨W2, hW2⟩ : ∃ W, W = W1.alloc (.cells #[.int .i64 c0, .int .i64 q0, .int .i64 q1, .int .i64 h0, .int .i64 h1] 70) := ⟨_, rfl⟩
 have hb2 : Below W1.heap.size W1 W2 := by rw [hW2]; exact (Below.refl _ _).alloc (Nat.le_refl _) _
 have k5 : Blk W2 W1.heap.size 70 #[.int .i64 c0, .int .i64 q0, .int .i64 q1, .int .i64 h0, .int .i64 h1] := by rw [hW2]; exact Blk.new W1 _ _
 rw [← hW2]
 clear hW2
 replace k3 := k3.below hb2 k3.lt
 have HB2 := Lib.hid (bltB HB1.out HB1.out.size hb2)
 have d0 := k3.cell 0
 have e1 := k5.cell 1
 simp at d0 e1
 clear hb2 k3 k5
 by_cases hq : q0 = f
 ·have g0 : (q0 == f) = true := by simpa using hq
  have HR : Hid (sideF S ⟨f, t1, ch, r, p0, p1, p2, p3, p4⟩ = 0) := Lib.hid (by rw [HF.out, if_pos hq])
  clear hq HF
  go_wp2_with fail
  go_ret
  exact ⟨by rw [HR.out]; rfl, HB2.out⟩
 ·have g0 : (q0 == f) = false := by simpa using hq
  have HR : Hid (sideF S ⟨f, t1, ch, r, p0, p1, p2, p3, p4⟩ = 1) := Lib.hid (by rw [HF.out, if_neg hq])
  clear hq HF
  go_wp2_with fail
  go_ret
  exact ⟨by rw [HR.out]; rfl, HB2.out⟩
set_option maxRecDepth 100000 in
theorem pback_any (e : Ed) (w : World) : Calls Tryz.prog 15 #[e.v] w fun y w' => y = .returned (backE e).v ∧ Below w.heap.size w w' := by
 obtain ⟨f, t1, ch, r, p0, p1, p2, p3, p4⟩ := e
 obtain ⟨W0, hW0⟩ : ∃ W, W = (w.alloc (.cells #[.int .i64 f, .int .i64 t1, .int .i64 ch, .int .i64 r, .int .i64 p0, .int .i64 p1, .int .i64 p2, .int .i64 p3, .int .i64 p4] 56)).alloc (.cells #[.int .i64 0, .int .i64 0, .int .i64 0, .int .i64 0, .int .i64 0, .int .i64 0, .int .i64 0, .int .i64 0, .int .i64 0] 56) := ⟨_, rfl⟩
 have hB0 : Below w.heap.size w W0 := by rw [hW0]; exact ((Below.refl _ _).alloc (Nat.le_refl _) _).alloc (by simp) _
 have k1 : Blk W0 w.heap.size 56 #[.int .i64 f, .int .i64 t1, .int .i64 ch, .int .i64 r, .int .i64 p0, .int .i64 p1, .int .i64 p2, .int .i64 p3, .int .i64 p4] := by rw [hW0]; exact (Blk.new w _ _).alloc _
 have k2 : Blk W0 (w.heap.size + 1) 56 #[.int .i64 0, .int .i64 0, .int .i64 0, .int .i64 0, .int .i64 0, .int .i64 0, .int .i64 0, .int .i64 0, .int .i64 0] := by
  rw [hW0]
  have := Blk.new (w.alloc (.cells #[.int .i64 f, .int .i64 t1, .int .i64 ch, .int .i64 r, .int .i64 p0, .int .i64 p1, .int .i64 p2, .int .i64 p3, .int .i64 p4] 56)) 56 #[.int .i64 0, .int .i64 0, .int .i64 0, .int .i64 0, .int .i64 0, .int .i64 0, .int .i64 0, .int .i64 0, .int .i64 0]
  rw [World.size_alloc] at this
  exact this
 simp only [Ed.v, Ed.cs, backE]
 go_enter Tryz.func15, Tryz.ntmps15
 go_upto_region 1 with (fail)
 rw [← hW0]
 clear hW0
 obtain ⟨G2, hG2⟩ : ∃ z, w.heap.size + 1 = z := ⟨_, rfl⟩
 rw [hG2] at k2 ⊢
 obtain ⟨G1, hG1⟩ : ∃ z, w.heap.size = z := ⟨_, rfl⟩
 rw [hG1] at k1 ⊢
 have HG := Lib.hid (And.intro hG1 hG2)
 have d0 := k1.cell 0
 have d1 := k1.cell 1
 have f0 := k1.frozen 0
 have f1 := k1.frozen 1
 simp at d0 d1
 clear hG1 hG2
 go_upto_region 2 with (fail)
 obtain ⟨W1, hW1⟩ : ∃ W, W = (W0.setCell ⟨G1, 0, none⟩ (.int .i64 t1)).setCell ⟨G1, 1, none⟩ (.int .i64 f) := ⟨_, rfl⟩
 have hb1 : Below w.heap.size w W1 := by rw [hW1]; exact (hB0.setCell (p := ⟨G1, 0, none⟩) (show w.heap.size ≤ G1 by have := HG.out; omega) _).setCell (p := ⟨G1, 1, none⟩) (show w.heap.size ≤ G1 by have := HG.out; omega) _
 have k1b := (k1.set_ 0 (.int .i64 t1)).set_ 1 (.int .i64 f)
 have k2b := (k2.far (p := ⟨G1, 0, none⟩) (by have := HG.out; show G2 ≠ G1; omega) (.int .i64 t1)).far (p := ⟨G1, 1, none⟩) (by have := HG.out; show G2 ≠ G1; omega) (.int .i64 f)
 rw [← hW1] at k1b k2b ⊢
 clear hW1 k1 k2 hB0 d0 d1 f0 f1
 simp at k1b
 have c0 := k1b.cell 0
 have c1 := k1b.cell 1
 have c2 := k1b.cell 2
 have c3 := k1b.cell 3
 have c4 := k1b.cell 4
 have c5 := k1b.cell 5
 have c6 := k1b.cell 6
 have c7 := k1b.cell 7
 have c8 := k1b.cell 8
 have z0 := k2b.cell 0
 have z1 := k2b.cell 1
 have z2 := k2b.cell 2
 have z3 := k2b.cell 3
 have z4 := k2b.cell 4
 have z5 := k2b.cell 5
 have z6 := k2b.cell 6
 have z7 := k2b.cell 7
 have z8 := k2b.cell 8
 have fz0 := k2b.frozen 0
 have fz1 := k2b.frozen 1
 have fz2 := k2b.frozen 2
 have fz3 := k2b.frozen 3
 have fz4 := k2b.frozen 4
 have fz5 := k2b.frozen 5
 have fz6 := k2b.frozen 6
 have fz7 := k2b.frozen 7
 have fz8 := k2b.frozen 8
 simp at c0 z0 c1 z1 c2 z2 c3 z3 c4 z4 c5 z5 c6 z6 c7 z7 c8 z8
 have HB1 := Lib.hid hb1
 clear hb1 k1b
 go_wp2_with fail
 have hle : w.heap.size ≤ G2 := by have := HG.out; omega
 have k9 := ((((((((k2b.set_ 0 (.int .i64 t1)).set_ 1 (.int .i64 f)).set_ 2 (.int .i64 ch)).set_ 3 (.int .i64 r)).set_ 4 (.int .i64 p0)).set_ 5 (.int .i64 p1)).set_ 6 (.int .i64 p2)).set_ 7 (.int .i64 p3)).set_ 8 (.int .i64 p4)
 have hB9 := ((((((((HB1.out.setCell (p := ⟨G2, 0, none⟩) hle (.int .i64 t1)).setCell (p := ⟨G2, 1, none⟩) hle (.int .i64 f)).setCell (p := ⟨G2, 2, none⟩) hle (.int .i64 ch)).setCell (p := ⟨G2, 3, none⟩) hle (.int .i64 r)).setCell (p := ⟨G2, 4, none⟩) hle (.int .i64 p0)).setCell (p := ⟨G2, 5, none⟩) hle (.int .i64 p1)).setCell (p := ⟨G2, 6, none⟩) hle (.int .i64 p2)).setCell (p := ⟨G2, 7, none⟩) hle (.int .i64 p3)).setCell (p := ⟨G2, 8, none⟩) hle (.int .i64 p4)
 refine bodyPost_ret (v := .agg #[.int .i64 t1, .int .i64 f, .int .i64 ch, .int .i64 r, .int .i64 p0, .int .i64 p1, .int .i64 p2, .int .i64 p3, .int .i64 p4]) ?_ rfl ⟨rfl, hB9⟩
 have r0 := k9.cell 0
 have r1 := k9.cell 1
 have r2 := k9.cell 2
 have r3 := k9.cell 3
 have r4 := k9.cell 4
 have r5 := k9.cell 5
 have r6 := k9.cell 6
 have r7 := k9.cell 7
 have r8 := k9.cell 8
 simp at r0 r1 r2 r3 r4 r5 r6 r7 r8
 simp [results, Tryz.f15, go_sem, r0, r1, r2, r3, r4, r5, r6, r7, r8]
theorem lacks_cons (S : List Cn) (e : Ed) (es : List Ed) (x : Int) (xs : List Int) (i : Int) : lacksF S (e :: es) (x :: xs) i = if hasF S e < x then i else lacksF S es xs (i + 1) := by rw [lacksF]
set_option maxRecDepth 100000 in
set_option maxHeartbeats 2000000 in
theorem lacks_any (w : World) (p go co bs bh ns : Nat) (own : List Int) (S : List Cn) (lost : Int) (h : LedAt w p go co bs bh ns own S lost) (cs : Array Value) (P : Prt) (hP : PV w cs P) (hE : ∀ e ∈ P.way, EIn S e) :
 Calls Tryz.prog 36 #[.pointer (some ⟨p, 0, none⟩), .agg cs] w fun y w' => y = .returned (.int .i64 (lacksF S P.way P.s 0)) ∧ Below w.heap.size w w' := by
 obtain ⟨Aw, nw, cw, As, n, c, At, nt, ct, rfl, r1, r2, r3, hn8, hnn⟩ := hP
 subst hnn
 obtain ⟨W0, hW0⟩ : ∃ W, W = w.alloc (.cells #[.int .i64 P.a, .slice Aw n cw, .slice As n c, .slice At nt ct] 51) := ⟨_, rfl⟩
 have hB0 : Below w.heap.size w W0 := by rw [hW0]; exact (Below.refl _ _).alloc (Nat.le_refl _) _
 have k3 : Blk W0 w.heap.size 51 #[.int .i64 P.a, .slice Aw n cw, .slice As n c, .slice At nt ct] := by rw [hW0]; exact Blk.new w _ _
 have HL0 := Lib.hid (h.on hB0)
 have HB0 := Lib.hid hB0
 have HW := Lib.hid (r1.on hB0)
 have HS := Lib.hid (r2.on hB0)
 have HE := Lib.hid hE
 have HN := Lib.hid (And.intro r1.elen r2.ilen)
 clear hB0 h r1 r2 r3 hE
 go_enter Tryz.func36, Tryz.ntmps36
 go_upto_region 1 with (fail)
 rw [← hW0]
 clear hW0
 obtain ⟨G3, hG3⟩ : ∃ z, w.heap.size = z := ⟨_, rfl⟩
 rw [hG3] at k3 ⊢
 clear hG3
 have HK := Lib.hid k3
 clear k3
 go_wp2_with fail
 go_loopw [5] (fun iv wr => ∃ i : Nat, i ≤ n ∧ iv = .int .i64 i ∧ Hid (lacksF S (P.way.drop i) (P.s.drop i) i = lacksF S P.way P.s 0) ∧ Hid (Below W0.heap.size W0 wr)) (fun iv _ => n - (intOf iv).toNat)
 case atStart => exact ⟨0, Nat.zero_le _, rfl, Lib.hid rfl, Lib.hid (Below.refl _ _)⟩
 case round =>
  obtain ⟨i, hi, rfl, HQ, HB⟩ := hrel
  have k3 := HK.out.below HB.out HK.out.lt
  have d1 := k3.cell 1
  have d2 := k3.cell 2
  simp at d1 d2
  by_cases hlt : i < n
  ·obtain ⟨ba, oa, e, hA, hba, hx, hat, a0, a1, a2, a3, a4, a5, a6, a7, a8⟩ := (HW.out.on HB.out).edge hlt
   obtain ⟨bs', os_, hAs, hbs, hxs, s0⟩ := (HS.out.on HB.out).num hlt
   subst hA
   subst hAs
   obtain ⟨x, hxx⟩ : ∃ z, P.s.getD i 0 = z := ⟨_, rfl⟩
   rw [hxx] at s0 hxs
   have he := HE.out e (List.mem_of_getElem? hx)
   obtain ⟨s, hs⟩ := Option.isSome_iff_exists.1 he.2
   have HEI := Lib.hid he
   have HSS := Lib.hid hs
   have HSD := Lib.hid (sideF_eq hs)
   have HHV := Lib.hid (hasF_eq hs)
   have HST : Hid (lacksF S (P.way.drop i) (P.s.drop i) i = if hasF S e < x then (i : Int) else lacksF S (P.way.drop (i + 1)) (P.s.drop (i + 1)) ((i : Int) + 1)) := Lib.hid (by rw [drop_at hx, drop_at hxs, lacks_cons])
   have hlt' : (i : Int) < (n : Int) := by omega
   clear hx hat hxs hxx he hs
   obtain ⟨f, t1, ch, r, p0, p1, p2, p3, p4⟩ := e
   dsimp only at a0 a1 a2 a3 a4 a5 a6 a7 a8 HSD
   have hci : isI ch := HEI.out.1
   have HL1 := Lib.hid (HL0.out.on HB.out)
   go_wp2_with fail
   refine (seat_any wr p go co bs bh ns own S lost HL1.out ch hci s HSS.out).mono ?_
   rintro y W1 ⟨rfl, hb⟩
   replace k3 := k3.below hb k3.lt
   have HL2 := Lib.hid (HL1.out.on hb)
   have HB1 := Lib.hid (bltB HB.out HB.out.size hb)
   have b0 := (hb.cell (p := ⟨ba, _, none⟩) hba).trans a0
   have b1 := (hb.cell (p := ⟨ba, _, none⟩) hba).trans a1
   have b2 := (hb.cell (p := ⟨ba, _, none⟩) hba).trans a2
   have b3 := (hb.cell (p := ⟨ba, _, none⟩) hba).trans a3
   have b4 := (hb.cell (p := ⟨ba, _, none⟩) hba).trans a4
   have b5 := (hb.cell (p := ⟨ba, _, none⟩) hba).trans a5
   have b6 := (hb.cell (p := ⟨ba, _, none⟩) hba).trans a6
   have b7 := (hb.cell (p := ⟨ba, _, none⟩) hba).trans a7
   have b8 := (hb.cell (p := ⟨ba, _, none⟩) hba).trans a8
   have s1 := (hb.cell (p := ⟨bs', _, none⟩) hbs).trans s0
   have hba1 : ba < W1.heap.size := Nat.lt_of_lt_of_le hba hb.size
   have hbs1 : bs' < W1.heap.size := Nat.lt_of_lt_of_le hbs hb.size
   clear hb d1 d2 HL1 a0 a1 a2 a3 a4 a5 a6 a7 a8 s0 hci hba hbs
   obtain ⟨c0, q0, q1, h0, h1⟩ := s
   simp only [Cn.v, Cn.cs]
   dsimp only at HSD
   go_upto_region 5 with (fail)
   obtain ⟨W2, hW2⟩ : ∃ W, W = W1.alloc (.cells #[.int .i64 c0, .int .i64 q0, .int .i64 q1, .int .i64 h0, .int .i64 h1] 70) := ⟨_, rfl⟩
   have hb2 : Below W1.heap.size W1 W2 := by rw [hW2]; exact (Below.refl _ _).alloc (Nat.le_refl _) _
   have k6 : Blk W2 W1.heap.size 70 #[.int .i64 c0, .int .i64 q0, .int .i64 q1, .int .i64 h0, .int .i64 h1] := by rw [hW2]; exact Blk.new W1 _ _
   rw [← hW2]
   obtain ⟨G6, hG6⟩ : ∃ z, W1.heap.size = z := ⟨_, rfl⟩
   rw [hG6] at k6 ⊢
   replace k3 := k3.below hb2 k3.lt
   have HL3 := Lib.hid (HL2.out.on hb2)
   have HB2 := Lib.hid (bltB HB1.out HB1.out.size hb2)
   have hba2 : ba < W2.heap.size := Nat.lt_of_lt_of_le hba1 hb2.size
   have hbs2 : bs' < W2.heap.size := Nat.lt_of_lt_of_le hbs1 hb2.size
   replace b0 := (hb2.cell (p := ⟨ba, _, none⟩) hba1).trans b0
   replace b1 := (hb2.cell (p := ⟨ba, _, none⟩) hba1).trans b1
   replace b2 := (hb2.cell (p := ⟨ba, _, none⟩) hba1).trans b2
   replace b3 := (hb2.cell (p := ⟨ba, _, none⟩) hba1).trans b3
   replace b4 := (hb2.cell (p := ⟨ba, _, none⟩) hba1).trans b4
   replace b5 := (hb2.cell (p := ⟨ba, _, none⟩) hba1).trans b5
   replace b6 := (hb2.cell (p := ⟨ba, _, none⟩) hba1).trans b6
   replace b7 := (hb2.cell (p := ⟨ba, _, none⟩) hba1).trans b7
   replace b8 := (hb2.cell (p := ⟨ba, _, none⟩) hba1).trans b8
   replace s1 := (hb2.cell (p := ⟨bs', _, none⟩) hbs1).trans s1
   clear hW2 hG6 hb2 HL2 HB1 hba1 hbs1
   by_cases hq : q0 = f
   all_goals (
    (first | (have HSX : Hid (sideF S ⟨f, t1, ch, r, p0, p1, p2, p3, p4⟩ = 0) := Lib.hid (by rw [HSD.out, if_pos hq])) | (have HSX : Hid (sideF S ⟨f, t1, ch, r, p0, p1, p2, p3, p4⟩ = 1) := Lib.hid (by rw [HSD.out, if_neg hq])))
    obtain ⟨hv, hhv⟩ : ∃ z, hasF S ⟨f, t1, ch, r, p0, p1, p2, p3, p4⟩ = z := ⟨_, rfl⟩
    rw [hhv] at HHV HST
    have HHX : Hid (hv = (if sideF S ⟨f, t1, ch, r, p0, p1, p2, p3, p4⟩ = 0 then h0 else h1)) := Lib.hid (by rw [HHV.out]; rfl)
    clear hq HSD hhv HHV
    refine wp_region_noPanic ?_
    refine ord_begin 15 (fun wx => Below W2.heap.size W2 wx) (by kernel_rfl) ?_
    have hx0 : Below W2.heap.size W2 W2.drew := (Below.refl _ _).drew
    refine ord_take (i := 0) (v := ?_) (by kernel_rfl) rfl (by decide) (by kernel_rfl) (by kernel_rfl) (fun _ _ _ h => h) (Or.inl ⟨by rfl, ?_⟩) hx0 ?_
    rotate_left
    ·intro wz hz; go_simp; (try with_reducible rfl)
    try simp only [Act.put, pu]
    refine ord_take (i := 1) (v := ?_) (by kernel_rfl) rfl (by decide) (by kernel_rfl) (by kernel_rfl) (fun _ _ _ h => h) (Or.inl ⟨by rfl, ?_⟩) hx0 ?_
    rotate_left
    ·intro wz hz; go_simp; (try with_reducible rfl)
    try simp only [Act.put, pu]
    refine ord_take (i := 2) (v := ?_) (by kernel_rfl) rfl (by decide) (by kernel_rfl) (by kernel_rfl) (fun _ _ _ h => h) (Or.inl ⟨by rfl, ?_⟩) hx0 ?_
    rotate_left
    ·intro wz hz; have j3 := k3.below hz k3.lt; have y1 := j3.cell 1; have y2 := j3.cell 2; simp at y1 y2; go_simp; (try with_reducible rfl)
    try simp only [Act.put, pu]
    refine ord_take (i := 3) (v := ?_) (by kernel_rfl) rfl (by decide) (by kernel_rfl) (by kernel_rfl) (fun _ _ _ h => h) (Or.inl ⟨by rfl, ?_⟩) hx0 ?_
    rotate_left
    ·intro wz hz; go_simp; (try with_reducible rfl)
    try simp only [Act.put, pu]
    refine ord_take (i := 4) (v := ?_) (by kernel_rfl) rfl (by decide) (by kernel_rfl) (by kernel_rfl) (fun _ _ _ h => h) (Or.inl ⟨by rfl, ?_⟩) hx0 ?_
    rotate_left
    ·intro wz hz; go_simp; (try with_reducible rfl)
    try simp only [Act.put, pu]
    refine ord_take (i := 5) (v := ?_) (by kernel_rfl) rfl (by decide) (by kernel_rfl) (by kernel_rfl) (fun _ _ _ h => h) (Or.inl ⟨by rfl, ?_⟩) hx0 ?_
    rotate_left
    ·intro wz hz; have y0 := (hz.cell (p := ⟨ba, _, none⟩) hba2).trans b0; have y1 := (hz.cell (p := ⟨ba, _, none⟩) hba2).trans b1; have y2 := (hz.cell (p := ⟨ba, _, none⟩) hba2).trans b2; have y3 := (hz.cell (p := ⟨ba, _, none⟩) hba2).trans b3; have y4 := (hz.cell (p := ⟨ba, _, none⟩) hba2).trans b4; have y5 := (hz.cell (p := ⟨ba, _, none⟩) hba2).trans b5; have y6 := (hz.cell (p := ⟨ba, _, none⟩) hba2).trans b6; have y7 := (hz.cell (p := ⟨ba, _, none⟩) hba2).trans b7; have y8 := (hz.cell (p := ⟨ba, _, none⟩) hba2).trans b8; go_simp; (try with_reducible rfl)
    try simp only [Act.put, pu]
    refine ord_take (i := 7) (v := ?_) (by kernel_rfl) rfl (by decide) (by kernel_rfl) (by kernel_rfl) (fun _ _ _ h => h) (Or.inl ⟨by rfl, ?_⟩) hx0 ?_
    rotate_left
    ·intro wz hz; go_simp; (try with_reducible rfl)
    try simp only [Act.put, pu]
    refine ord_take (i := 10) (v := ?_) (by kernel_rfl) rfl (by decide) (by kernel_rfl) (by kernel_rfl) (fun _ _ _ h => h) (Or.inl ⟨by rfl, ?_⟩) hx0 ?_
    rotate_left
    ·intro wz hz; go_simp; (try with_reducible rfl)
    try simp only [Act.put, pu]
    refine ord_take (i := 11) (v := ?_) (by kernel_rfl) rfl (by decide) (by kernel_rfl) (by kernel_rfl) (fun _ _ _ h => h) (Or.inl ⟨by rfl, ?_⟩) hx0 ?_
    rotate_left
    ·intro wz hz; have j3 := k3.below hz k3.lt; have y1 := j3.cell 1; have y2 := j3.cell 2; simp at y1 y2; go_simp; (try with_reducible rfl)
    try simp only [Act.put, pu]
    refine ord_take (i := 12) (v := ?_) (by kernel_rfl) rfl (by decide) (by kernel_rfl) (by kernel_rfl) (fun _ _ _ h => h) (Or.inl ⟨by rfl, ?_⟩) hx0 ?_
    rotate_left
    ·intro wz hz; go_simp; (try with_reducible rfl)
    try simp only [Act.put, pu]
    refine ord_take (i := 13) (v := ?_) (by kernel_rfl) rfl (by decide) (by kernel_rfl) (by kernel_rfl) (fun _ _ _ h => h) (Or.inl ⟨by rfl, ?_⟩) hx0 ?_
    rotate_left
    ·intro wz hz; go_simp; (try with_reducible rfl)
    try simp only [Act.put, pu]
    refine ord_take (i := 14) (v := ?_) (by kernel_rfl) rfl (by decide) (by kernel_rfl) (by kernel_rfl) (fun _ _ _ h => h) (Or.inl ⟨by rfl, ?_⟩) hx0 ?_
    rotate_left
    ·intro wz hz; have y9 := (hz.cell (p := ⟨bs', _, none⟩) hbs2).trans s1; go_simp; (try with_reducible rfl)
    try simp only [Act.put, pu]
    refine ord_step (i := 6) rfl (by decide) (by kernel_rfl) (by rfl) (fun K hK => ?_)
    go_simp
    refine (side_any W2.drew p go co bs bh ns own S lost (HL3.out.on hx0) ⟨f, t1, ch, r, p0, p1, p2, p3, p4⟩ HEI.out).mono ?_
    rintro y X5_1 ⟨rfl, hb⟩
    rw [HSX.out]
    have hx1 := bltB hx0 hx0.size hb
    clear hb hx0
    refine hK _ _ hx1 ?_
    clear hK K
    try simp only [Act.put, pu]
    refine ord_take (i := 8) (v := ?_) (by kernel_rfl) rfl (by decide) (by kernel_rfl) (by kernel_rfl) (fun _ _ _ h => h) (Or.inl ⟨by rfl, ?_⟩) hx1 ?_
    rotate_left
    ·intro wz hz; go_simp; (try with_reducible rfl)
    try simp only [Act.put, pu]
    refine ord_take (i := 9) (v := ?_) (by kernel_rfl) rfl (by decide) (by kernel_rfl) (by kernel_rfl) (fun _ _ _ h => h) (Or.inl ⟨by rfl, ?_⟩) hx1 ?_
    rotate_left
    ·intro wz hz; have j6 := k6.below hz k6.lt; have y3 := j6.cell 3; have y4 := j6.cell 4; simp at y3 y4; go_simp; (try with_reducible rfl)
    try simp only [Act.put, pu]
    refine ord_rest (by kernel_rfl) ?_
    refine wpAny_take (i := 15) (v := ?_) rfl (by kernel_rfl) (by kernel_rfl) (by kernel_rfl) (fun _ _ _ h => h) (Or.inl ⟨by rfl, ?_⟩) ?_
    rotate_left
    ·intro wz; go_simp; (try with_reducible rfl)
    try simp only [Act.put, pu]
    refine wpAny_done (by kernel_rfl) ?_ _
    refine NoPanic.normal ?_
    rw [HSX.out] at HHX
    (first | (have hhe : hv = h0 := HHX.out) | (have hhe : hv = h1 := HHX.out))
    rw [← hhe]
    by_cases hl : hv < x
    ·have HR : Hid (lacksF S P.way P.s 0 = i) := Lib.hid (by rw [← HQ.out, HST.out, if_pos hl])
     go_wp2_with fail
     go_ret
     exact ⟨by rw [HR.out]; rfl, bltB HB0.out HB0.out.size (bltB HB2.out HB2.out.size hx1)⟩
    ·have HQ2 : Hid (lacksF S (P.way.drop (i + 1)) (P.s.drop (i + 1)) ((i + 1 : Nat) : Int) = lacksF S P.way P.s 0) := Lib.hid (by rw [← HQ.out, HST.out, if_neg hl]; rfl)
     have HB9 := Lib.hid (bltB HB2.out HB2.out.size hx1)
     go_wp2_with fail
     go_roundw
     case rel => exact ⟨i + 1, by omega, by go_num, HQ2, HB9⟩
     case measure => simp [intOf]; omega)
  ·have hin : i = n := by omega
   subst hin
   have HR : Hid (lacksF S P.way P.s 0 = -1) := Lib.hid (by
    rw [← HQ.out, List.drop_of_length_le (by rw [HN.out.1]; exact Nat.le_refl _)]
    rfl)
   go_wp2_with fail
   go_ret
   exact ⟨by rw [HR.out]; rfl, bltB HB0.out HB0.out.size HB.out⟩
end Go.Proofs.YthefgdehfgkhhaaGreat
