/-
  Those edges of which something is so: those, In; ContainsFunc.
-/
import Derived.Test.YthefgdehfgkhhaaGreatK01
import Derived.Test.YthefgdehfgkhhaaGreatK09
import Derived.Deep.Onto
namespace Go.Proofs.YthefgdehfgkhhaaGreat
open Go.RowKit Go.Shelf
set_option linter.unusedVariables false
set_option linter.unusedSimpArgs false
def Ed.zv : Value := Ed.z.v
theorem infoE : (Tryz.prog.info? 56).map (fun i => (i.zero, i.size, i.bytes)) = some (some Ed.zv, 9, 72) := by kernel_rfl
/-- The rows of edges, flat. -/
def efl (es : List Ed) : List Value := (ecs es).flatMap fun a => a.toList
theorem efl_append (a b : List Ed) : efl (a ++ b) = efl a ++ efl b := by unfold efl ecs; rw [List.map_append, List.flatMap_append]
theorem efl_one (es : List Ed) : ∀ u ∈ efl es, u.oneCell' = true := by
 intro v hv
 unfold efl ecs at hv
 rw [List.mem_flatMap] at hv
 obtain ⟨a, ha, hv⟩ := hv
 obtain ⟨e, _, rfl⟩ := List.mem_map.1 ha
 simp [Ed.cs] at hv
 rcases hv with rfl | rfl | rfl | rfl | rfl | rfl | rfl | rfl | rfl <;> rfl
/-- A new row of edges. -/
def OwnE (w : World) (base : Nat) (v : Value) (es : List Ed) : Prop := w.ownsRow base 56 9 v es.length (efl es)
theorem OwnE.row {w : World} {base : Nat} {v : Value} {es : List Ed} (h : OwnE w base v es) : ∃ A c, v = .slice A es.length c ∧ RE w A es.length c es :=
 Rg.of_own (l := ecs es) (ecs_wide es) (by rw [ecs, List.length_map]) h
theorem own_on {w w' : World} {base : Nat} {T : TypeId} {k : Nat} {v : Value} {n : Nat} {xs : List Value} (h : w.ownsRow base T k v n xs) (hb : Below w.heap.size w w') : w'.ownsRow base T k v n xs :=
 h.kept (below_grown hb none) (Classical.em _)
theorem OwnE.on {w w' : World} {base : Nat} {v : Value} {es : List Ed} (h : OwnE w base v es) (hb : Below w.heap.size w w') : OwnE w' base v es := own_on h hb
def RetOE (w : World) (es : List Ed) (e : Ending) (w' : World) : Prop := ∃ v, e = .returned v ∧ OwnE w' w.heap.size v es ∧ Below w.heap.size w w'
theorem blk_reads {w : World} {g : Nat} (e : Ed) (h : Blk w g 56 e.cs) : Reads w w.heap.size 9 (some ⟨g, 0, none⟩) 1 (efl [e]) :=
 (Rg.of_blk (k := 9) (l := ecs [e]) h (ecs_wide _) (fun i a hi j v hv => by
  match i, hi with
  | 0, hi => simp [ecs] at hi; subst hi; rw [Nat.zero_mul, Nat.zero_add]; exact hv
  | i + 1, hi => simp [ecs] at hi) (m := 1) (Nat.le_refl _)).reads
theorem filter_take {p : Ed → Bool} {g : List Ed} {i : Nat} {e : Ed} (h : g[i]? = some e) : (g.take (i + 1)).filter p = (g.take i).filter p ++ (if p e then [e] else []) := by
 rw [List.take_add_one, h, List.filter_append]
 congr 1
 by_cases hp : p e <;> simp [List.filter_cons, hp]
theorem inq_any (e : Ed) (P : Int) (gp : Nat) (w : World) (hp : w.cell? ⟨gp, 0, none⟩ = some (.int .i64 P)) (hlt : gp < w.heap.size) : Calls Tryz.prog 119 #[e.v, .pointer (some ⟨gp, 0, none⟩)] w fun x w' => x = .returned (.bool (decide (e.t = P))) ∧ Below w.heap.size w w' := by
 have HE : Hid (decide (e.t = P) = (e.t == P)) := Lib.hid (by rw [Bool.eq_iff_iff]; simp)
 obtain ⟨f, t, c, r, p0, p1, p2, p3, p4⟩ := e
 simp only [Ed.v, Ed.cs] at *
 obtain ⟨b, hb⟩ : ∃ b, (t == P) = b := ⟨_, rfl⟩
 rw [hb] at HE
 go_enter Tryz.func119, Tryz.ntmps119
 go_wp2_with fail
 go_ret
 exact ⟨by rw [HE.out]; simp [hb], (Below.refl _ _).alloc (Nat.le_refl _) _⟩
theorem hasq_any (e : Ed) (P : Int) (gp : Nat) (w : World) (hp : w.cell? ⟨gp, 0, none⟩ = some (.int .i64 P)) (hlt : gp < w.heap.size) : Calls Tryz.prog 101 #[e.v, .pointer (some ⟨gp, 0, none⟩)] w fun x w' => x = .returned (.bool (decide (e.f = P))) ∧ Below w.heap.size w w' := by
 have HE : Hid (decide (e.f = P) = (e.f == P)) := Lib.hid (by rw [Bool.eq_iff_iff]; simp)
 obtain ⟨f, t, c, r, p0, p1, p2, p3, p4⟩ := e
 simp only [Ed.v, Ed.cs] at *
 obtain ⟨b, hb⟩ : ∃ b, (f == P) = b := ⟨_, rfl⟩
 rw [hb] at HE
 go_enter Tryz.func101, Tryz.ntmps101
 go_wp2_with fail
 go_ret
 exact ⟨by rw [HE.out]; simp [hb], (Below.refl _ _).alloc (Nat.le_refl _) _⟩
set_option maxRecDepth 100000 in
theorem those_edge (w : World) (A : Option Addr) (n c : Nat) (g : List Ed) (h : RE w A n c g) (hn : n ≤ 1048576) : Calls Tryz.prog 54 #[.slice A n c, .func (.func 48) #[] #[]] w (RetOE w (g.filter edgeB)) := by
 have HL := Lib.hid h
 have Hlen := Lib.hid h.elen
 obtain ⟨i0, hi, hz0', hz1, hz2⟩ := info_parts infoE
 have HI := Lib.hid (And.intro hi (And.intro hz0' (And.intro hz1 hz2)))
 clear h hi hz0' hz1 hz2
 go_enter Tryz.func54, Tryz.ntmps54
 go_wp2_with fail
 go_loopw [5, 10] (fun ov iv wr => ∃ (v : Value) (i : Nat), v = ov ∧ i ≤ n ∧ iv = .int .i64 i ∧ Hid (OwnE wr w.heap.size v ((g.take i).filter edgeB)) ∧ Below w.heap.size w wr) (fun _ iv _ => n - (intOf iv).toNat)
 case atStart => exact ⟨_, 0, rfl, Nat.zero_le _, rfl, Lib.hid (World.ownsRow_nil _ _ _ _), Below.refl _ _⟩
 case round =>
  obtain ⟨v, i, rfl, hi, rfl, HO, hB⟩ := hrel
  by_cases hlt : i < n
  ·obtain ⟨b, off, e, hA, hb, hx, hat, a0, a1, a2, a3, a4, a5, a6, a7, a8⟩ := (HL.out.on hB).edge hlt
   have HF := Lib.hid (filter_take (p := edgeB) hx)
   have HM : Hid (((g.take i).filter edgeB).length ≤ i) := Lib.hid (Nat.le_trans (List.length_filter_le _ _) (by rw [List.length_take]; omega))
   subst hA
   clear hx hat
   have hlt' : (i : Int) < (n : Int) := by omega
   have HEV : Hid (e.v = .agg #[.int .i64 e.f, .int .i64 e.t, .int .i64 e.c, .int .i64 e.r, .int .i64 e.p0, .int .i64 e.p1, .int .i64 e.p2, .int .i64 e.p3, .int .i64 e.p4] ∧ e.cs = #[.int .i64 e.f, .int .i64 e.t, .int .i64 e.c, .int .i64 e.r, .int .i64 e.p0, .int .i64 e.p1, .int .i64 e.p2, .int .i64 e.p3, .int .i64 e.p4]) := Lib.hid ⟨rfl, rfl⟩
   go_wp2_with fail
   rw [← HEV.out.1, ← HEV.out.2]
   obtain ⟨W1, hW1⟩ : ∃ W, W = wr.alloc (.cells e.cs 56) := ⟨_, rfl⟩
   have hb1 : Below wr.heap.size wr W1 := by rw [hW1]; exact (Below.refl _ _).alloc (Nat.le_refl _) _
   have k4 : Blk W1 wr.heap.size 56 e.cs := by rw [hW1]; exact Blk.new wr _ _
   have HO1 : Hid (OwnE W1 w.heap.size v ((g.take i).filter edgeB)) := Lib.hid (by rw [hW1]; exact World.ownsRow.alloc HO.out _)
   obtain ⟨G, hG⟩ : ∃ G, wr.heap.size = G := ⟨_, rfl⟩
   have hGw : w.heap.size ≤ G := hG ▸ hB.size
   rw [← hW1, hG]
   rw [hG] at k4
   have hB1 := bltB hB hB.size hb1
   clear hW1 hb1 a0 a1 a2 a3 a4 a5 a6 a7 a8 HO hB hG hb
   go_wp2_with fail
   refine (edge_any e _).mono ?_
   rintro y W2 ⟨rfl, hb⟩
   have k4 := k4.below hb k4.lt
   have HO2 := Lib.hid (HO1.out.on hb)
   have hB2 := bltB hB1 hB1.size hb
   have c0 : W2.cell? ⟨G, 0, none⟩ = some (.int .i64 e.f) := k4.cell 0
   have c1 : W2.cell? ⟨G, 1, none⟩ = some (.int .i64 e.t) := k4.cell 1
   have c2 : W2.cell? ⟨G, 2, none⟩ = some (.int .i64 e.c) := k4.cell 2
   have c3 : W2.cell? ⟨G, 3, none⟩ = some (.int .i64 e.r) := k4.cell 3
   have c4 : W2.cell? ⟨G, 4, none⟩ = some (.int .i64 e.p0) := k4.cell 4
   have c5 : W2.cell? ⟨G, 5, none⟩ = some (.int .i64 e.p1) := k4.cell 5
   have c6 : W2.cell? ⟨G, 6, none⟩ = some (.int .i64 e.p2) := k4.cell 6
   have c7 : W2.cell? ⟨G, 7, none⟩ = some (.int .i64 e.p3) := k4.cell 7
   have c8 : W2.cell? ⟨G, 8, none⟩ = some (.int .i64 e.p4) := k4.cell 8
   clear hb hB1 HO1
   obtain ⟨bb, hbb⟩ : ∃ z, edgeB e = z := ⟨_, rfl⟩
   rw [hbb] at HF ⊢
   clear hbb
   rcases bb with _ | _
   ·rw [if_neg (by decide), List.append_nil] at HF
    have HO3 : Hid (OwnE W2 w.heap.size v ((g.take (i + 1)).filter edgeB)) := Lib.hid (by rw [HF.out]; exact HO2.out)
    clear HO2 HF c0 c1 c2 c3 c4 c5 c6 c7 c8 k4
    go_wp2_with fail
    go_roundw
    case rel => exact ⟨v, i + 1, rfl, by omega, by go_num, HO3, hB2⟩
    case measure => simp [intOf]; omega
   ·rw [if_pos rfl] at HF
    go_wp2_with (at_builtin
                 go_loud (refine wpList_append_any _ rfl (.tmp 17) (.tmp 19) 26 rfl w.heap.size 56 i0 Ed.zv 9 72 Tryz.underlying26 HI.out.1 HI.out.2.1 HI.out.2.2.1 HI.out.2.2.2 rfl (by decide) v _ _ rfl (HO2.out.alloc _) _ (some ⟨W2.heap.size, 0, none⟩) 1 1 (efl [e]) rfl ((blk_reads e (Blk.new W2 _ e.cs)).more (Nat.le_refl _)) (efl_one _) (by have := HM.out; simp only [maxLen]; omega) (by have := HM.out; omega) (Nat.le_trans hB2.size (by simp)) ?_)
                 intro v1 W3 own1 gr1 at1)
    have hb3 : Below w.heap.size w W3 := (hB2.alloc hB2.size _).grown gr1 (Nat.le_trans hB2.size (by simp)) (fun k hk => (HO2.out.lt k hk).1)
    have HO3 : Hid (OwnE W3 w.heap.size v1 ((g.take (i + 1)).filter edgeB)) := Lib.hid (by rw [HF.out]; unfold OwnE; rw [List.length_append, efl_append]; exact own1)
    clear own1 gr1 at1 HO2 HF c0 c1 c2 c3 c4 c5 c6 c7 c8 k4 hB2
    go_wp2_with fail
    go_roundw
    case rel => exact ⟨v1, i + 1, rfl, by omega, by go_num, HO3, hb3⟩
    case measure => simp [intOf]; omega
  ·have hin : i = n := by omega
   subst hin
   have HF : Hid (RetOE w (g.filter edgeB) (.returned v) wr) := Lib.hid ⟨v, rfl, by have h := HO.out; rwa [List.take_of_length_le (by rw [Hlen.out]; omega)] at h, hB⟩
   go_wp2_with fail
   go_ret
   exact HF.out
set_option maxRecDepth 100000 in
theorem those_in (w : World) (A : Option Addr) (n c : Nat) (g : List Ed) (h : RE w A n c g) (hn : n ≤ 1048576) (P : Int) (gp : Nat) (hp : w.cell? ⟨gp, 0, none⟩ = some (.int .i64 P)) (hgp : gp < w.heap.size) : Calls Tryz.prog 54 #[.slice A n c, .func (.func 119) #[] #[.pointer (some ⟨gp, 0, none⟩)]] w (RetOE w (g.filter (fun e => decide (e.t = P)))) := by
 have HL := Lib.hid h
 have Hlen := Lib.hid h.elen
 obtain ⟨i0, hi, hz0', hz1, hz2⟩ := info_parts infoE
 have HI := Lib.hid (And.intro hi (And.intro hz0' (And.intro hz1 hz2)))
 have HP := Lib.hid hp
 clear hp
 clear h hi hz0' hz1 hz2
 go_enter Tryz.func54, Tryz.ntmps54
 go_wp2_with fail
 go_loopw [5, 10] (fun ov iv wr => ∃ (v : Value) (i : Nat), v = ov ∧ i ≤ n ∧ iv = .int .i64 i ∧ Hid (OwnE wr w.heap.size v ((g.take i).filter (fun e => decide (e.t = P)))) ∧ Below w.heap.size w wr) (fun _ iv _ => n - (intOf iv).toNat)
 case atStart => exact ⟨_, 0, rfl, Nat.zero_le _, rfl, Lib.hid (World.ownsRow_nil _ _ _ _), Below.refl _ _⟩
 case round =>
  obtain ⟨v, i, rfl, hi, rfl, HO, hB⟩ := hrel
  by_cases hlt : i < n
  ·obtain ⟨b, off, e, hA, hb, hx, hat, a0, a1, a2, a3, a4, a5, a6, a7, a8⟩ := (HL.out.on hB).edge hlt
   have HF := Lib.hid (filter_take (p := (fun e => decide (e.t = P))) hx)
   have HM : Hid (((g.take i).filter (fun e => decide (e.t = P))).length ≤ i) := Lib.hid (Nat.le_trans (List.length_filter_le _ _) (by rw [List.length_take]; omega))
   subst hA
   clear hx hat
   have hlt' : (i : Int) < (n : Int) := by omega
   have HEV : Hid (e.v = .agg #[.int .i64 e.f, .int .i64 e.t, .int .i64 e.c, .int .i64 e.r, .int .i64 e.p0, .int .i64 e.p1, .int .i64 e.p2, .int .i64 e.p3, .int .i64 e.p4] ∧ e.cs = #[.int .i64 e.f, .int .i64 e.t, .int .i64 e.c, .int .i64 e.r, .int .i64 e.p0, .int .i64 e.p1, .int .i64 e.p2, .int .i64 e.p3, .int .i64 e.p4]) := Lib.hid ⟨rfl, rfl⟩
   go_wp2_with fail
   rw [← HEV.out.1, ← HEV.out.2]
   obtain ⟨W1, hW1⟩ : ∃ W, W = wr.alloc (.cells e.cs 56) := ⟨_, rfl⟩
   have hb1 : Below wr.heap.size wr W1 := by rw [hW1]; exact (Below.refl _ _).alloc (Nat.le_refl _) _
   have k4 : Blk W1 wr.heap.size 56 e.cs := by rw [hW1]; exact Blk.new wr _ _
   have HO1 : Hid (OwnE W1 w.heap.size v ((g.take i).filter (fun e => decide (e.t = P)))) := Lib.hid (by rw [hW1]; exact World.ownsRow.alloc HO.out _)
   obtain ⟨G, hG⟩ : ∃ G, wr.heap.size = G := ⟨_, rfl⟩
   have hGw : w.heap.size ≤ G := hG ▸ hB.size
   rw [← hW1, hG]
   rw [hG] at k4
   have hB1 := bltB hB hB.size hb1
   clear hW1 hb1 a0 a1 a2 a3 a4 a5 a6 a7 a8 HO hB hG hb
   go_wp2_with fail
   refine (inq_any e P gp _ ((hB1.cell (p := ⟨gp, 0, none⟩) hgp).trans HP.out) (Nat.lt_of_lt_of_le hgp hB1.size)).mono ?_
   rintro y W2 ⟨rfl, hb⟩
   have k4 := k4.below hb k4.lt
   have HO2 := Lib.hid (HO1.out.on hb)
   have hB2 := bltB hB1 hB1.size hb
   have c0 : W2.cell? ⟨G, 0, none⟩ = some (.int .i64 e.f) := k4.cell 0
   have c1 : W2.cell? ⟨G, 1, none⟩ = some (.int .i64 e.t) := k4.cell 1
   have c2 : W2.cell? ⟨G, 2, none⟩ = some (.int .i64 e.c) := k4.cell 2
   have c3 : W2.cell? ⟨G, 3, none⟩ = some (.int .i64 e.r) := k4.cell 3
   have c4 : W2.cell? ⟨G, 4, none⟩ = some (.int .i64 e.p0) := k4.cell 4
   have c5 : W2.cell? ⟨G, 5, none⟩ = some (.int .i64 e.p1) := k4.cell 5
   have c6 : W2.cell? ⟨G, 6, none⟩ = some (.int .i64 e.p2) := k4.cell 6
   have c7 : W2.cell? ⟨G, 7, none⟩ = some (.int .i64 e.p3) := k4.cell 7
   have c8 : W2.cell? ⟨G, 8, none⟩ = some (.int .i64 e.p4) := k4.cell 8
   clear hb hB1 HO1
   obtain ⟨bb, hbb⟩ : ∃ z, decide (e.t = P) = z := ⟨_, rfl⟩
   rw [hbb] at HF ⊢
   clear hbb
   rcases bb with _ | _
   ·rw [if_neg (by decide), List.append_nil] at HF
    have HO3 : Hid (OwnE W2 w.heap.size v ((g.take (i + 1)).filter (fun e => decide (e.t = P)))) := Lib.hid (by rw [HF.out]; exact HO2.out)
    clear HO2 HF c0 c1 c2 c3 c4 c5 c6 c7 c8 k4
    go_wp2_with fail
    go_roundw
    case rel => exact ⟨v, i + 1, rfl, by omega, by go_num, HO3, hB2⟩
    case measure => simp [intOf]; omega
   ·rw [if_pos rfl] at HF
    go_wp2_with (at_builtin
                 go_loud (refine wpList_append_any _ rfl (.tmp 17) (.tmp 19) 26 rfl w.heap.size 56 i0 Ed.zv 9 72 Tryz.underlying26 HI.out.1 HI.out.2.1 HI.out.2.2.1 HI.out.2.2.2 rfl (by decide) v _ _ rfl (HO2.out.alloc _) _ (some ⟨W2.heap.size, 0, none⟩) 1 1 (efl [e]) rfl ((blk_reads e (Blk.new W2 _ e.cs)).more (Nat.le_refl _)) (efl_one _) (by have := HM.out; simp only [maxLen]; omega) (by have := HM.out; omega) (Nat.le_trans hB2.size (by simp)) ?_)
                 intro v1 W3 own1 gr1 at1)
    have hb3 : Below w.heap.size w W3 := (hB2.alloc hB2.size _).grown gr1 (Nat.le_trans hB2.size (by simp)) (fun k hk => (HO2.out.lt k hk).1)
    have HO3 : Hid (OwnE W3 w.heap.size v1 ((g.take (i + 1)).filter (fun e => decide (e.t = P)))) := Lib.hid (by rw [HF.out]; unfold OwnE; rw [List.length_append, efl_append]; exact own1)
    clear own1 gr1 at1 HO2 HF c0 c1 c2 c3 c4 c5 c6 c7 c8 k4 hB2
    go_wp2_with fail
    go_roundw
    case rel => exact ⟨v1, i + 1, rfl, by omega, by go_num, HO3, hb3⟩
    case measure => simp [intOf]; omega
  ·have hin : i = n := by omega
   subst hin
   have HF : Hid (RetOE w (g.filter (fun e => decide (e.t = P))) (.returned v) wr) := Lib.hid ⟨v, rfl, by have h := HO.out; rwa [List.take_of_length_le (by rw [Hlen.out]; omega)] at h, hB⟩
   go_wp2_with fail
   go_ret
   exact HF.out
theorem In_any (w : World) (A : Option Addr) (n c : Nat) (g : List Ed) (h : RE w A n c g) (hn : n ≤ 1048576) (P : Int) : Calls Tryz.prog 99 #[.slice A n c, .int .i64 P] w (RetOE w (intoG g P)) := by
 have hb : Below w.heap.size w (w.alloc (.cells #[.int .i64 P] 3)) := (Below.refl _ _).alloc (Nat.le_refl _) _
 have HC := Lib.hid (those_in (w.alloc (.cells #[.int .i64 P] 3)) A n c g (h.on hb) hn P w.heap.size ((Blk.new w 3 #[.int .i64 P]).cell 0) (by simp))
 have HB := Lib.hid hb
 clear hb h
 go_enter Tryz.func99, Tryz.ntmps99
 go_wp2_with fail
 refine HC.out.mono ?_
 rintro e w' ⟨v, rfl, ho, hb⟩
 have HF : Hid (RetOE w (intoG g P) (.returned v) w') := Lib.hid ⟨v, rfl, World.ownsRow.mono ho (by simp), HB.out.trans (hb.mono HB.out.size)⟩
 clear ho hb
 go_wp2_with fail
 go_ret
 exact HF.out
theorem any_take {p : Ed → Bool} {g : List Ed} {i : Nat} {e : Ed} (h : g[i]? = some e) : (g.take (i + 1)).any p = ((g.take i).any p || p e) := by
 rw [List.take_add_one, h, List.any_append]
 simp
def RetIx (w : World) (b : Bool) (e : Ending) (w' : World) : Prop := ∃ z : Int, e = .returned (.int .i64 z) ∧ decide (0 ≤ z) = b ∧ Below w.heap.size w w'
set_option maxRecDepth 100000 in
theorem index_has (w : World) (A : Option Addr) (n c : Nat) (g : List Ed) (h : RE w A n c g) (hn : n ≤ 1048576) (P : Int) (gp : Nat) (hp : w.cell? ⟨gp, 0, none⟩ = some (.int .i64 P)) (hgp : gp < w.heap.size) :
 Calls Tryz.prog 120 #[.slice A n c, .func (.func 101) #[] #[.pointer (some ⟨gp, 0, none⟩)]] w (RetIx w (g.any fun y => decide (y.f = P))) := by
 have HL := Lib.hid h
 have Hlen := Lib.hid h.elen
 have HP := Lib.hid hp
 clear h hp
 go_enter Tryz.func120, Tryz.ntmps120
 go_wp2_with fail
 go_loopw [8] (fun iv wr => ∃ i : Nat, i ≤ n ∧ iv = .int .i64 i ∧ Hid ((g.take i).any (fun y => decide (y.f = P)) = false) ∧ Below w.heap.size w wr) (fun iv _ => n - (intOf iv).toNat)
 case atStart => exact ⟨0, Nat.zero_le _, rfl, Lib.hid rfl, Below.refl _ _⟩
 case round =>
  obtain ⟨i, hi, rfl, HA, hB⟩ := hrel
  by_cases hlt : i < n
  ·obtain ⟨b, off, e, hA, hb, hx, hat, a0, a1, a2, a3, a4, a5, a6, a7, a8⟩ := (HL.out.on hB).edge hlt
   have HF := Lib.hid (any_take (p := fun y => decide (y.f = P)) hx)
   have HG : Hid (e ∈ g) := Lib.hid (List.mem_of_getElem? hx)
   subst hA
   clear hx hat
   have hlt' : (i : Int) < (n : Int) := by omega
   have HEV : Hid (e.v = .agg #[.int .i64 e.f, .int .i64 e.t, .int .i64 e.c, .int .i64 e.r, .int .i64 e.p0, .int .i64 e.p1, .int .i64 e.p2, .int .i64 e.p3, .int .i64 e.p4]) := Lib.hid rfl
   go_wp2_with fail
   rw [← HEV.out]
   refine (hasq_any e P gp _ ((hB.cell (p := ⟨gp, 0, none⟩) hgp).trans HP.out) (Nat.lt_of_lt_of_le hgp hB.size)).mono ?_
   rintro y W2 ⟨rfl, hbb⟩
   have hB2 := bltB hB hB.size hbb
   clear hbb hB a0 a1 a2 a3 a4 a5 a6 a7 a8
   obtain ⟨bb, hbb⟩ : ∃ z, decide (e.f = P) = z := ⟨_, rfl⟩
   have HBB := Lib.hid hbb
   rw [hbb] at HF ⊢
   clear hbb
   rcases bb with _ | _
   ·have HA2 : Hid ((g.take (i + 1)).any (fun y => decide (y.f = P)) = false) := Lib.hid (by rw [HF.out, HA.out]; rfl)
    go_wp2_with fail
    go_roundw
    case rel => exact ⟨i + 1, by omega, by go_num, HA2, hB2⟩
    case measure => simp [intOf]; omega
   ·have HR : Hid (RetIx w (g.any fun y => decide (y.f = P)) (.returned (.int .i64 i)) W2) := Lib.hid ⟨i, rfl, by
     rw [decide_eq_true (by omega : (0 : Int) ≤ (i : Int))]
     exact (List.any_eq_true.2 ⟨e, HG.out, HBB.out⟩).symm, hB2⟩
    go_wp2_with fail
    go_ret
    exact HR.out
  ·have HR : Hid (RetIx w (g.any fun y => decide (y.f = P)) (.returned (.int .i64 (-1))) wr) := Lib.hid ⟨-1, rfl, by
    have h := HA.out
    rw [List.take_of_length_le (by rw [Hlen.out]; omega)] at h
    rw [h]
    rfl, hB⟩
   go_wp2_with fail
   go_ret
   exact HR.out
theorem has_any (w : World) (A : Option Addr) (n c : Nat) (g : List Ed) (h : RE w A n c g) (hn : n ≤ 1048576) (P : Int) (gp : Nat) (hp : w.cell? ⟨gp, 0, none⟩ = some (.int .i64 P)) (hgp : gp < w.heap.size) :
 Calls Tryz.prog 100 #[.slice A n c, .func (.func 101) #[] #[.pointer (some ⟨gp, 0, none⟩)]] w fun e w' => e = .returned (.bool (g.any fun y => decide (y.f = P))) ∧ Below w.heap.size w w' := by
 have HC := Lib.hid (index_has w A n c g h hn P gp hp hgp)
 clear h hp
 go_enter Tryz.func100, Tryz.ntmps100
 go_wp2_with fail
 refine HC.out.mono ?_
 rintro e w' ⟨z, rfl, hz, hb⟩
 have HZ := Lib.hid hz
 clear hz
 obtain ⟨d, hd⟩ : ∃ d, decide (0 ≤ z) = d := ⟨_, rfl⟩
 have HD := Lib.hid hd
 rcases d with _ | _
 ·have h0 : ¬ 0 ≤ z := of_decide_eq_false hd
  clear hd
  go_wp2_with fail
  go_ret
  exact ⟨by rw [← HZ.out, HD.out]; rfl, hb⟩
 ·have h0 : 0 ≤ z := of_decide_eq_true hd
  clear hd
  go_wp2_with fail
  go_ret
  exact ⟨by rw [← HZ.out, HD.out]; rfl, hb⟩
end Go.Proofs.YthefgdehfgkhhaaGreat
