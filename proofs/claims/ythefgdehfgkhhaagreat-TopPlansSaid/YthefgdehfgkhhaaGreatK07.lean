/-
  A mind: what is noted of a way, as it counts of a room.
-/
import Derived.Test.YthefgdehfgkhhaaGreatK01
import Derived.Test.YthefgdehfgkhhaaGreatK06
import Derived.Test.YthefgdehfgkhhaaGreatK03
import Derived.BigRegion
import Derived.Lib.MinMax
import Derived.Deep.RegionHeld3
import Derived.Deep.DrawnRows
namespace Go.Proofs.YthefgdehfgkhhaaGreat
open Go.RowKit Go.Maps
set_option linter.unusedVariables false
set_option linter.unusedSimpArgs false
attribute [local go_sem] Oper.semAt_some
theorem zeroNote (w : World) : (zeroValue 122).run Tryz.prog w = .ok (noteV 0 0 0) w := by kernel_rfl
theorem own_at {w wx : World} {b n : Nat} {D : DataW Unit} (h : w.ownsMap Tryz.prog 125 (noteElem (H := Unit)) b n D) (he : wx.heap[b]? = w.heap[b]?) : wx.ownsMap Tryz.prog 125 (noteElem (H := Unit)) b n D := by
 obtain ⟨es, clock, hb, r⟩ := h
 exact ⟨es, clock, by rw [he]; exact hb, r⟩
theorem noteD_inj {a b r a' b' r' : Int} (h : noteD (H := Unit) a b r = noteD a' b' r') : a = a' ∧ b = b' ∧ r = r' := by
 simp only [noteD] at h
 injection h with h1
 injection h1 with h1 h2
 injection h2 with h2 h3
 injection h3 with h3 _
 injection h1 with h1
 injection h2 with h2
 injection h3 with h3
 injection h1 with _ h1
 injection h2 with _ h2
 injection h3 with _ h3
 exact ⟨h1, h2, h3⟩
/-- What is looked up at a way. -/
theorem look_note {w : World} {p b n : Nat} {L : Notes} (h : MindAt w p b n L) {f c : Int} (hf : isI f) (hc : isI c) :
 ∃ a b' r, (∀ wx : World, wx.heap[b]? = w.heap[b]? → (Instr.lookup 81 (.map (some b)) (wayV f c) true).run Tryz.prog wx = .ok (.tuple #[noteV a b' r, .bool (look L (f, c)).isSome]) wx) ∧ ∀ v, look L (f, c) = some v → v = (a, b', r) := by
 obtain ⟨D, hown, hs⟩ := h.own
 have key : ∀ wx : World, wx.heap[b]? = w.heap[b]? → ∃ a b' r, (Instr.lookup 81 (.map (some b)) (wayV f c) true).run Tryz.prog wx = .ok (.tuple #[noteV a b' r, .bool (look L (f, c)).isSome]) wx ∧ D.atKey (wayL f c) (noteD 0 0 0) = noteD a b' r := fun wx he => by
  obtain ⟨v, ps, hrun, hv⟩ := (own_at hown he).look_ok lawWay Tryz.underlying81 (zeroNote wx) (noteElem_mk 0 0 0) (keyOf_way hf hc)
  obtain ⟨a, b', r, rfl, hz⟩ := noteElem_inv hv
  rw [hs.has f c hf hc] at hrun
  exact ⟨a, b', r, hrun, (Prod.mk.inj hz).1⟩
 obtain ⟨a, b', r, hrun, hat⟩ := key w rfl
 refine ⟨a, b', r, fun wx he => ?_, fun v hv => ?_⟩
 ·obtain ⟨a2, b2, r2, hrun2, hat2⟩ := key wx he
  obtain ⟨rfl, rfl, rfl⟩ := noteD_inj (hat.symm.trans hat2)
  exact hrun2
 ·obtain ⟨x, y, z⟩ := v
  obtain ⟨rfl, rfl, rfl⟩ := noteD_inj ((hs.at_ f c x y z _ hf hc hv).symm.trans hat)
  rfl
/-- The least and the greatest of two, each under a name of its own. -/
theorem min_named (x y : Int) : ∃ z, z = min x y ∧ ∀ (ts : Array TypeId) (t : TypeId) (w : World), (Builtin.min_ ts t #[.int .i64 x, .int .i64 y]).run Tryz.prog w = .ok (.int .i64 z) w := ⟨_, rfl, fun ts t w => Lib.run_min_ints w ts t _ _ _ _⟩
theorem max_named (x y : Int) : ∃ z, z = max x y ∧ ∀ (ts : Array TypeId) (t : TypeId) (w : World), (Builtin.max_ ts t #[.int .i64 x, .int .i64 y]).run Tryz.prog w = .ok (.int .i64 z) w := ⟨_, rfl, fun ts t w => Lib.run_max_ints w ts t _ _ _ _⟩
/-- Three cells of a note, stored one by one. -/
theorem note_store {w w2 : World} {G : Nat} {t : TypeId} {a0 b0 c0 : Value} (hB : Blk w2 G t #[a0, b0, c0]) (hb : Below w.heap.size w w2) (hG : w.heap.size ≤ G) (a b c : Value) :
 let W := ((w2.setCell ⟨G, 0, none⟩ a).setCell ⟨G, 1, none⟩ b).setCell ⟨G, 2, none⟩ c
 Blk W G t #[a, b, c] ∧ Below w.heap.size w W :=
 ⟨((hB.set_ 0 a).set_ 1 b).set_ 2 c, ((hb.setCell (p := ⟨G, 0, none⟩) hG _).setCell (p := ⟨G, 1, none⟩) hG _).setCell (p := ⟨G, 2, none⟩) hG _⟩
set_option maxRecDepth 100000 in
theorem of_note_any (w : World) (p b n : Nat) (L : Notes) (h : MindAt w p b n L) (hgd : Good L) (f c r : Int) (hf : isI f) (hc : isI c) (hr0 : 0 < r) (hr1 : r ≤ 1125899906842624) : Calls Tryz.prog 56 #[.pointer (some ⟨p, 0, none⟩), wayV f c, .int .i64 r] w fun e w' => e = .returned (noteV (cnt L (f, c) r).1 (cnt L (f, c) r).2 r) ∧ Below w.heap.size w w' := by
 obtain ⟨a, b', r', hlook, hlk⟩ := look_note h hf hc
 obtain ⟨w0, hw0⟩ : ∃ w0, w0 = (w.alloc (.cells #[.int .i64 f, .int .i64 c] 125)).alloc (.cells #[.int .i64 0, .int .i64 0, .int .i64 0] 122) := ⟨_, rfl⟩
 have hb0 : Below w.heap.size w w0 := by rw [hw0]; exact ((Below.refl _ _).alloc (Nat.le_refl _) _).alloc (by simp) _
 obtain ⟨G, hG⟩ : ∃ G, G = w0.heap.size := ⟨_, rfl⟩
 have hGs : G = w.heap.size + 2 := by rw [hG, hw0]; simp
 have hbl : b < w.heap.size := by obtain ⟨D, hown, _⟩ := h.own; exact hown.lt
 have hwb : w0.heap[b]? = w.heap[b]? := hb0.block b hbl
 have hl1 := hlook w0.drew hwb
 have hl2 := hlook (w0.alloc (.cells #[.int .i64 0, .int .i64 0, .int .i64 0] 122)).drew (by rw [← hwb]; exact (MapKept.heap_alloc w0 _).2 b (by omega))
 have hm := h.box.below hb0 h.box.lt
 have hm0 : w0.cell? ⟨p, 0, none⟩ = some (.map (some b)) := hm.cell 0
 have hway : Blk w0 w.heap.size 125 #[.int .i64 f, .int .i64 c] := by rw [hw0]; exact (Blk.new w _ _).alloc _
 have hy0 : w0.cell? ⟨w.heap.size, 0, none⟩ = some (.int .i64 f) := hway.cell 0
 have hy1 : w0.cell? ⟨w.heap.size, 1, none⟩ = some (.int .i64 c) := hway.cell 1
 simp only [wayV, noteV] at hl1 hl2 ⊢
 have HR : Hid (Blk w0 (w.heap.size + 1) 122 #[.int .i64 0, .int .i64 0, .int .i64 0]) := Lib.hid (by
  rw [hw0]
  have := Blk.new (w.alloc (.cells #[.int .i64 f, .int .i64 c] 125)) 122 #[.int .i64 0, .int .i64 0, .int .i64 0]
  rw [World.size_alloc] at this
  exact this)
 have hlp : p < w0.heap.size := hm.lt
 have hlw : w.heap.size < w0.heap.size := by omega
 have HLK := Lib.hid hlk
 have HB := Lib.hid (And.intro hb0 (And.intro hway (And.intro hGs hbl)))
 clear hlook hlk hm hway hb0 hwb h hbl hGs
 go_enter Tryz.func56, Tryz.ntmps56
 go_wp2_with fail
 rw [← hw0]
 clear hw0
 go_big_region
 all_goals (
  have hBo := HB.out
  have hR0 : Blk w0 (w.heap.size + 1) 122 #[.int .i64 0, .int .i64 0, .int .i64 0] := HR.out
  have hN1 : Blk (w0.alloc (.cells #[.int .i64 a, .int .i64 b', .int .i64 r'] 122)).drew G 122 #[.int .i64 a, .int .i64 b', .int .i64 r'] := by rw [hG]; exact (Blk.new w0 _ _).drew
  have hR1 : Blk (w0.alloc (.cells #[.int .i64 a, .int .i64 b', .int .i64 r'] 122)).drew (w.heap.size + 1) 122 #[.int .i64 0, .int .i64 0, .int .i64 0] := (hR0.alloc _).drew
  have hb1 : Below w.heap.size w (w0.alloc (.cells #[.int .i64 a, .int .i64 b', .int .i64 r'] 122)).drew := (hBo.1.alloc (by omega) _).drew
  have hGs := Lib.hid hBo.2.2.1
  have hne1 : ¬ w.heap.size + 1 = G := by have := hGs.out; omega
  have hne2 : ¬ G = w.heap.size + 1 := by have := hGs.out; omega
  generalize (w0.alloc (.cells #[.int .i64 a, .int .i64 b', .int .i64 r'] 122)).drew = W1 at *
  simp only [← hG]
  clear hl1 hl2 hm0 hy0 hy1 hlp hlw HB hBo hR0 HR hG
  have hc0 := hR1.cell 0
  have hc1 := hR1.cell 1
  have hc2 := hR1.cell 2
  have hf0 := hR1.frozen 0
  have hf1 := hR1.frozen 1
  have hf2 := hR1.frozen 2
  have hn0 := hN1.cell 0
  have hn1 := hN1.cell 1
  have hn2 := hN1.cell 2
  have hg0 := hN1.frozen 0
  have hg1 := hN1.frozen 1
  have hg2 := hN1.frozen 2
  rcases hs : look L (f, c) with _ | v
  ·have HC : Hid (cnt L (f, c) r = (0, r + 1)) := Lib.hid (by rw [cnt_eq, hs])
   clear hs
   simp only [Option.isSome_none]
   go_wp2_with fail
   obtain ⟨j1, j2⟩ := note_store hR1 hb1 (Nat.le_succ _) (.int .i64 0) (.int .i64 (r + 1)) (.int .i64 r)
   refine bodyPost_ret (v := noteV 0 (r + 1) r) ?_ rfl ?_
   ·have e0 := j1.cell 0
    have e1 := j1.cell 1
    have e2 := j1.cell 2
    simp [results, Tryz.f56, go_sem, e0, e1, e2, noteV]
   ·exact ⟨by rw [HC.out]; rfl, j2⟩
  ·have hv := HLK.out v hs
   subst hv
   have hok : noteOk (a, b', r') := (hgd.ok _ (look_some hs)).2
   simp only [noteOk] at hok
   have HC : Hid (cnt L (f, c) r = (min a r, max (min b' (r + 1)) (min a r + 1))) := Lib.hid (by rw [cnt_eq, hs]; rfl)
   clear hs HLK
   obtain ⟨lo, hlo, hm1⟩ := min_named a r
   obtain ⟨m1, hm, hm2⟩ := min_named b' (r + 1)
   obtain ⟨hi, hhi, hm3⟩ := max_named m1 (lo + 1)
   have hlo0 : 0 ≤ lo := by omega
   have hlo1 : lo ≤ 1125899906842624 := by omega
   rw [← hlo, ← hm, ← hhi] at HC
   clear hlo hm hhi hok
   simp only [Option.isSome_some]
   go_wp2_with fail
   have hG2 : w.heap.size ≤ G := by have := hGs.out; omega
   have hR2 := ((hR1.far (p := ⟨G, 0, none⟩) hne1 (.int .i64 lo)).far (p := ⟨G, 2, none⟩) hne1 (.int .i64 r)).far (p := ⟨G, 1, none⟩) hne1 (.int .i64 hi)
   have hb2 := ((hb1.setCell (p := ⟨G, 0, none⟩) hG2 (.int .i64 lo)).setCell (p := ⟨G, 2, none⟩) hG2 (.int .i64 r)).setCell (p := ⟨G, 1, none⟩) hG2 (.int .i64 hi)
   obtain ⟨j1, j2⟩ := note_store hR2 hb2 (Nat.le_succ _) (.int .i64 lo) (.int .i64 hi) (.int .i64 r)
   refine bodyPost_ret (v := noteV lo hi r) ?_ rfl ?_
   ·have e0 := j1.cell 0
    have e1 := j1.cell 1
    have e2 := j1.cell 2
    simp [results, Tryz.f56, go_sem, e0, e1, e2, noteV]
   ·exact ⟨by rw [HC.out]; rfl, j2⟩)
end Go.Proofs.YthefgdehfgkhhaaGreat
namespace Go.Proofs.YthefgdehfgkhhaaGreat
set_option linter.unusedVariables false
set_option linter.unusedSimpArgs false
section
variable {P : Program} {ops : Array Oper} {Q : Exit → Act → World → Prop} {S : World → Prop} {n : Nat}
/-- Number i or number k comes up. -/
theorem ord_step2 {i k : Nat} {oi ok : Oper} {fuel : Nat} {listed : Array Bool} {a : Act} {w : World} (hi : ops[i]? = some oi) (hk : ops[k]? = some ok) (hin : i < n) (hkn : k < n) (hr : Region.ready .any ops listed = [i, k])
 (hwi : Region.wanted oi (yielded ops a.tmps) = true) (hwk : Region.wanted ok (yielded ops a.tmps) = true)
 (h1 : ∀ K : Act → World → Prop, (∀ a' w', S w' → Ord P ops n Q S fuel (listed.setIfInBounds i true) a' w' → K a' w') → Oper.wp P oi a w K Q)
 (h2 : ∀ K : Act → World → Prop, (∀ a' w', S w' → Ord P ops n Q S fuel (listed.setIfInBounds k true) a' w' → K a' w') → Oper.wp P ok a w K Q) : Ord P ops n Q S (fuel + 1) listed a w := fun inv => by
 refine ⟨fun h0 => (by rw [hr] at h0; cases h0), fun j hj => ?_⟩
 have hjr := hj
 rw [hr] at hj
 simp only [List.mem_cons, List.not_mem_nil, or_false] at hj
 rcases hj with rfl | rfl
 ·refine wpOp_step hi (fun K' hK => ?_)
  rw [if_pos hwi]
  exact h1 K' (fun a' w' hS hO => hK a' w' ⟨fun _ => hS, hO (inv.set hjr hin)⟩)
 ·refine wpOp_step hk (fun K' hK => ?_)
  rw [if_pos hwk]
  exact h2 K' (fun a' w' hS hO => hK a' w' ⟨fun _ => hS, hO (inv.set hjr hkn)⟩)
/-- Number i, k or m comes up. -/
theorem ord_step3 {i k m : Nat} {oi ok om : Oper} {fuel : Nat} {listed : Array Bool} {a : Act} {w : World} (hi : ops[i]? = some oi) (hk : ops[k]? = some ok) (hm : ops[m]? = some om) (hin : i < n) (hkn : k < n) (hmn : m < n) (hr : Region.ready .any ops listed = [i, k, m])
 (hwi : Region.wanted oi (yielded ops a.tmps) = true) (hwk : Region.wanted ok (yielded ops a.tmps) = true) (hwm : Region.wanted om (yielded ops a.tmps) = true)
 (h1 : ∀ K : Act → World → Prop, (∀ a' w', S w' → Ord P ops n Q S fuel (listed.setIfInBounds i true) a' w' → K a' w') → Oper.wp P oi a w K Q)
 (h2 : ∀ K : Act → World → Prop, (∀ a' w', S w' → Ord P ops n Q S fuel (listed.setIfInBounds k true) a' w' → K a' w') → Oper.wp P ok a w K Q)
 (h3 : ∀ K : Act → World → Prop, (∀ a' w', S w' → Ord P ops n Q S fuel (listed.setIfInBounds m true) a' w' → K a' w') → Oper.wp P om a w K Q) : Ord P ops n Q S (fuel + 1) listed a w := fun inv => by
 refine ⟨fun h0 => (by rw [hr] at h0; cases h0), fun j hj => ?_⟩
 have hjr := hj
 rw [hr] at hj
 simp only [List.mem_cons, List.not_mem_nil, or_false] at hj
 rcases hj with rfl | rfl | rfl
 ·refine wpOp_step hi (fun K' hK => ?_)
  rw [if_pos hwi]
  exact h1 K' (fun a' w' hS hO => hK a' w' ⟨fun _ => hS, hO (inv.set hjr hin)⟩)
 ·refine wpOp_step hk (fun K' hK => ?_)
  rw [if_pos hwk]
  exact h2 K' (fun a' w' hS hO => hK a' w' ⟨fun _ => hS, hO (inv.set hjr hkn)⟩)
 ·refine wpOp_step hm (fun K' hK => ?_)
  rw [if_pos hwm]
  exact h3 K' (fun a' w' hS hO => hK a' w' ⟨fun _ => hS, hO (inv.set hjr hmn)⟩)
theorem ord_relist {fuel : Nat} {listed : Array Bool} (listed' : Array Bool) {a : Act} {w : World} (e : listed = listed') (h : Ord P ops n Q S fuel listed' a w) : Ord P ops n Q S fuel listed a w := e ▸ h
/-- All orders end alike: what is left is walked once. -/
theorem ord_funnel {F : Nat → Act} {fuel k : Nat} {listed : Array Bool} {a : Act} {w : World} (listed' : Array Bool) (R : Nat → World → Prop)
 (g : (∀ x W, R x W → Ord P ops n Q S k listed' (F x) W) → Ord P ops n Q S fuel listed a w)
 (h : ∀ x W, R x W → Ord P ops n Q S k listed' (F x) W) : Ord P ops n Q S fuel listed a w := g h
theorem ord_funnel2 {F : Nat → Nat → Act} {fuel k : Nat} {listed : Array Bool} {a : Act} {w : World} (listed' : Array Bool) (R : Nat → Nat → World → Prop)
 (g : (∀ x y W, R x y W → Ord P ops n Q S k listed' (F x y) W) → Ord P ops n Q S fuel listed a w)
 (h : ∀ x y W, R x y W → Ord P ops n Q S k listed' (F x y) W) : Ord P ops n Q S fuel listed a w := g h
end
end Go.Proofs.YthefgdehfgkhhaaGreat
namespace Go.Proofs.YthefgdehfgkhhaaGreat
open Go.RowKit Go.Maps
set_option linter.unusedVariables false
set_option linter.unusedSimpArgs false
attribute [local go_sem] Oper.semAt_some
def Ed.e4 (e : Ed) : E4 := ⟨e.f, e.t, e.c, e.r⟩
def bnd (L : Notes) (e : E4) : Int × Int := if e.ok then cnt L (e.f, e.c) e.r else (0, 0)
/-- A mind stays what it is while new memory is made. -/
theorem MindAt.on {w w' : World} {p b n : Nat} {L : Notes} (h : MindAt w p b n L) (hb : Below w.heap.size w w') : MindAt w' p b n L :=
 ⟨h.box.below hb h.box.lt, by obtain ⟨D, h1, h2⟩ := h.own; exact ⟨D, own_at h1 (hb.block b h1.lt), h2⟩, h.ne⟩
theorem isI_of {z : Int} (h1 : 0 ≤ z) (h2 : z < 1048576) : isI z := ⟨by omega, by omega⟩
set_option maxRecDepth 100000 in
set_option maxHeartbeats 1000000 in
theorem bounds_any (w : World) (p b n : Nat) (L : Notes) (h : MindAt w p b n L) (hgd : Good L) (e : Ed) : Calls Tryz.prog 30 #[.pointer (some ⟨p, 0, none⟩), e.v] w fun x w' => x = .returned (.tuple #[.int .i64 (bnd L e.e4).1, .int .i64 (bnd L e.e4).2]) ∧ Below w.heap.size w w' := by
 obtain ⟨f, t, c, r, p0, p1, p2, p3, p4⟩ := e
 have hb0 : Below w.heap.size w (w.alloc (.cells #[.int .i64 f, .int .i64 t, .int .i64 c, .int .i64 r, .int .i64 p0, .int .i64 p1, .int .i64 p2, .int .i64 p3, .int .i64 p4] 56)) := (Below.refl _ _).alloc (Nat.le_refl _) _
 have J0 : Blk (w.alloc (.cells #[.int .i64 f, .int .i64 t, .int .i64 c, .int .i64 r, .int .i64 p0, .int .i64 p1, .int .i64 p2, .int .i64 p3, .int .i64 p4] 56)) w.heap.size 56 #[.int .i64 f, .int .i64 t, .int .i64 c, .int .i64 r, .int .i64 p0, .int .i64 p1, .int .i64 p2, .int .i64 p3, .int .i64 p4] := Blk.new w _ _
 have hM0 := h.on hb0
 obtain ⟨w0, hw0⟩ : ∃ w0, w0 = w.alloc (.cells #[.int .i64 f, .int .i64 t, .int .i64 c, .int .i64 r, .int .i64 p0, .int .i64 p1, .int .i64 p2, .int .i64 p3, .int .i64 p4] 56) := ⟨_, rfl⟩
 rw [← hw0] at hb0 J0 hM0
 have j0 := J0.cell 0
 have j1 := J0.cell 1
 have j2 := J0.cell 2
 have j3 := J0.cell 3
 have j4 := J0.cell 4
 have j5 := J0.cell 5
 have j6 := J0.cell 6
 have j7 := J0.cell 7
 have j8 := J0.cell 8
 simp only [Ed.v, Ed.cs]
 go_enter Tryz.func30, Tryz.ntmps30
 go_wp2_with fail
 rw [← hw0]
 clear hw0
 go_wp2_with fail
 refine (may_any ⟨f, t, c, r, p0, p1, p2, p3, p4⟩ w0).mono ?_
 rintro y w1 ⟨rfl, hb⟩
 have J := J0.below hb J0.lt
 have hM := hM0.on hb
 have hb1 := bltB hb0 hb0.size hb
 clear hb j0 j1 j2 j3 j4 j5 j6 j7 j8 hM0 h
 simp only
 rcases hm : mayB f t c r with _ | _
 ·have HB : Hid (bnd L (Ed.e4 ⟨f, t, c, r, p0, p1, p2, p3, p4⟩) = (0, 0)) := Lib.hid (by unfold bnd; rw [if_neg]; simp only [E4.ok, Ed.e4, hm]; decide)
  go_wp2_with fail
  exact bodyPost_ret (v := .tuple #[.int .i64 0, .int .i64 0]) (by simp [results, Tryz.f30, go_sem]) rfl ⟨by rw [HB.out], hb1⟩
 ·have HB : Hid (bnd L (Ed.e4 ⟨f, t, c, r, p0, p1, p2, p3, p4⟩) = cnt L (f, c) r) := Lib.hid (by unfold bnd; rw [if_pos]; rfl; exact hm)
  have hs := mayB_iff.1 hm
  have hfk : isI f := isI_of hs.1.1 (by omega)
  have hc : isI c := isI_of hs.2.2.2.1.1 hs.2.2.2.1.2
  have hr0 := hs.2.2.2.2.1
  have hr1 := hs.2.2.2.2.2
  clear hs hm
  go_wp2_with fail
  refine wp_region_noPanic ?_
  refine ord_begin 7 (fun wx => Below w1.heap.size w1 wx) (by kernel_rfl) ?_
  have hT : Below w1.heap.size w1 w1.drew := (Below.refl _ _).drew
  refine ord_take (i := 0) (v := ?_) (by kernel_rfl) rfl (by decide) (by kernel_rfl) (by kernel_rfl) (fun _ _ _ h => h) (Or.inl ⟨by rfl, ?_⟩) hT ?_
  rotate_left
  ·intro wz hz; go_simp; (try with_reducible rfl)
  try simp only [Act.put, pu]
  refine ord_take (i := 1) (v := ?_) (by kernel_rfl) rfl (by decide) (by kernel_rfl) (by kernel_rfl) (fun _ _ _ h => h) (Or.inl ⟨by rfl, ?_⟩) hT ?_
  rotate_left
  ·intro wz hz; have j := J.below hz J.lt; have q0 := j.cell 0; have q1 := j.cell 1; have q2 := j.cell 2; have q3 := j.cell 3; have q4 := j.cell 4; have q5 := j.cell 5; have q6 := j.cell 6; have q7 := j.cell 7; have q8 := j.cell 8; go_simp; (try with_reducible rfl)
  try simp only [Act.put, pu]
  refine ord_take (i := 3) (v := ?_) (by kernel_rfl) rfl (by decide) (by kernel_rfl) (by kernel_rfl) (fun _ _ _ h => h) (Or.inl ⟨by rfl, ?_⟩) hT ?_
  rotate_left
  ·intro wz hz; go_simp; (try with_reducible rfl)
  try simp only [Act.put, pu]
  refine ord_take (i := 4) (v := ?_) (by kernel_rfl) rfl (by decide) (by kernel_rfl) (by kernel_rfl) (fun _ _ _ h => h) (Or.inl ⟨by rfl, ?_⟩) hT ?_
  rotate_left
  ·intro wz hz; have j := J.below hz J.lt; have q3 := j.cell 3; go_simp; (try with_reducible rfl)
  try simp only [Act.put, pu]
  refine ord_funnel (F := ?F) (k := 1) #[true, true, true, true, true, true, true, false] (fun G2 W => Blk W G2 122 #[.int .i64 0, .int .i64 0, .int .i64 0] ∧ Below w1.heap.size w1 W ∧ w1.heap.size ≤ G2) ?_ ?_
  rotate_left
  ·intro HQ
   refine ord_step2 (i := 2) (k := 6) rfl rfl (by decide) (by decide) (by kernel_rfl) (by rfl) (by rfl) (fun K hK => ?_) (fun K hK => ?_)
   ·go_simp
    refine (there_any ⟨f, t, c, r, p0, p1, p2, p3, p4⟩ _).mono ?_
    rintro y X1 ⟨rfl, hb⟩
    have hx1 := bltB hT hT.size hb
    clear hb
    refine hK _ _ hx1 ?_
    clear hK K
    try simp only [Act.put, pu]
    refine ord_step2 (i := 5) (k := 6) rfl rfl (by decide) (by decide) (by kernel_rfl) (by rfl) (by rfl) (fun K hK => ?_) (fun K hK => ?_)
    ·go_simp
     refine (of_note_any _ p b n L (hM.on hx1) hgd f c r hfk hc hr0 hr1).mono ?_
     rintro y X2 ⟨rfl, hb⟩
     have hx2 := bltB hx1 hx1.size hb
     clear hb
     refine hK _ _ hx2 ?_
     clear hK K
     try simp only [Act.put, pu]
     refine ord_step (i := 6) rfl (by decide) (by kernel_rfl) (by rfl) (fun K hK => ?_)
     go_simp
     obtain ⟨G2, hG2⟩ : ∃ G2, X2.heap.size = G2 := ⟨_, rfl⟩
     have hN : Blk (X2.alloc (.cells #[.int .i64 0, .int .i64 0, .int .i64 0] 122)) G2 122 #[.int .i64 0, .int .i64 0, .int .i64 0] := hG2 ▸ Blk.new X2 _ _
     rw [hG2]
     refine hK _ _ (hx2.alloc hx2.size _) ?_
     clear hK K
     try simp only [Act.put, pu]
     refine ord_relist #[true, true, true, true, true, true, true, false] (by kernel_rfl) ?_
     exact HQ _ _ ⟨hN, hx2.alloc hx2.size _, hG2 ▸ hx2.size⟩
    ·go_simp
     obtain ⟨G2, hG2⟩ : ∃ G2, X1.heap.size = G2 := ⟨_, rfl⟩
     have hN : Blk (X1.alloc (.cells #[.int .i64 0, .int .i64 0, .int .i64 0] 122)) G2 122 #[.int .i64 0, .int .i64 0, .int .i64 0] := hG2 ▸ Blk.new X1 _ _
     rw [hG2]
     have hx2 := hx1.alloc hx1.size (.cells #[.int .i64 0, .int .i64 0, .int .i64 0] 122)
     have hG : w1.heap.size ≤ G2 := hG2 ▸ hx1.size
     refine hK _ _ hx2 ?_
     clear hK K
     try simp only [Act.put, pu]
     refine ord_step (i := 5) rfl (by decide) (by kernel_rfl) (by rfl) (fun K hK => ?_)
     go_simp
     refine (of_note_any _ p b n L (hM.on hx2) hgd f c r hfk hc hr0 hr1).mono ?_
     rintro y X3 ⟨rfl, hb⟩
     have hx3 := bltB hx2 hx2.size hb
     have hN3 := hN.below hb hN.lt
     clear hb
     refine hK _ _ hx3 ?_
     clear hK K
     try simp only [Act.put, pu]
     refine ord_relist #[true, true, true, true, true, true, true, false] (by kernel_rfl) ?_
     exact HQ _ _ ⟨hN3, hx3, hG⟩
   ·go_simp
    obtain ⟨G2, hG2⟩ : ∃ G2, w1.heap.size = G2 := ⟨_, rfl⟩
    have hN : Blk (w1.alloc (.cells #[.int .i64 0, .int .i64 0, .int .i64 0] 122)).drew G2 122 #[.int .i64 0, .int .i64 0, .int .i64 0] := hG2 ▸ (Blk.new w1 _ _).drew
    rw [hG2]
    have hx1 : Below w1.heap.size w1 (w1.alloc (.cells #[.int .i64 0, .int .i64 0, .int .i64 0] 122)).drew := ((Below.refl _ _).alloc (Nat.le_refl _) _).drew
    have hG : w1.heap.size ≤ G2 := Nat.le_of_eq hG2
    refine hK _ _ hx1 ?_
    clear hK K
    try simp only [Act.put, pu]
    refine ord_step (i := 2) rfl (by decide) (by kernel_rfl) (by rfl) (fun K hK => ?_)
    go_simp
    refine (there_any ⟨f, t, c, r, p0, p1, p2, p3, p4⟩ _).mono ?_
    rintro y X2 ⟨rfl, hb⟩
    have hx2 := bltB hx1 hx1.size hb
    have hN2 := hN.below hb hN.lt
    clear hb
    refine hK _ _ hx2 ?_
    clear hK K
    try simp only [Act.put, pu]
    refine ord_step (i := 5) rfl (by decide) (by kernel_rfl) (by rfl) (fun K hK => ?_)
    go_simp
    refine (of_note_any _ p b n L (hM.on hx2) hgd f c r hfk hc hr0 hr1).mono ?_
    rintro y X3 ⟨rfl, hb⟩
    have hx3 := bltB hx2 hx2.size hb
    have hN3 := hN2.below hb hN2.lt
    clear hb
    refine hK _ _ hx3 ?_
    clear hK K
    try simp only [Act.put, pu]
    refine ord_relist #[true, true, true, true, true, true, true, false] (by kernel_rfl) ?_
    exact HQ _ _ ⟨hN3, hx3, hG⟩
  rintro G2 W2 ⟨hN0, hb2, hG2⟩
  simp only [noteV, wayV]
  refine ord_rest (by kernel_rfl) ?_
  have hc0 := hN0.cell 0
  have hc1 := hN0.cell 1
  have hc2 := hN0.cell 2
  have hf0 := hN0.frozen 0
  have hf1 := hN0.frozen 1
  have hf2 := hN0.frozen 2
  refine any_step (i := 7) rfl (by kernel_rfl) (by rfl) (fun K hK => ?_)
  go_simp
  refine hK _ _ ?_
  clear hK K
  try simp only [Act.put, pu]
  have hN : Blk (((W2.setCell ⟨G2, 0, none⟩ (.int .i64 (cnt L (f, c) r).1)).setCell ⟨G2, 1, none⟩ (.int .i64 (cnt L (f, c) r).2)).setCell ⟨G2, 2, none⟩ (.int .i64 r)) G2 122 #[.int .i64 (cnt L (f, c) r).1, .int .i64 (cnt L (f, c) r).2, .int .i64 r] := ((hN0.set_ 0 _).set_ 1 _).set_ 2 _
  have hb3 := ((hb2.setCell (p := ⟨G2, 0, none⟩) hG2 (.int .i64 (cnt L (f, c) r).1)).setCell (p := ⟨G2, 1, none⟩) hG2 (.int .i64 (cnt L (f, c) r).2)).setCell (p := ⟨G2, 2, none⟩) hG2 (.int .i64 r)
  generalize ((W2.setCell ⟨G2, 0, none⟩ (.int .i64 (cnt L (f, c) r).1)).setCell ⟨G2, 1, none⟩ (.int .i64 (cnt L (f, c) r).2)).setCell ⟨G2, 2, none⟩ (.int .i64 r) = W3 at *
  clear hc0 hc1 hc2 hf0 hf1 hf2 hN0 hb2
  refine wpAny_done (by kernel_rfl) ?_ _
  refine NoPanic.normal ?_
  have hb4 := bltB hb1 hb1.size hb3
  have hn0 := hN.cell 0
  have hn1 := hN.cell 1
  clear hb3 hN hM J
  go_wp2_with fail
  go_big_region
  go_wp2_with fail
  exact bodyPost_ret (v := .tuple #[.int .i64 (cnt L (f, c) r).1, .int .i64 (cnt L (f, c) r).2]) (by simp [results, Tryz.f30, go_sem]) rfl ⟨by rw [HB.out], hb4.drew⟩
end Go.Proofs.YthefgdehfgkhhaaGreat
namespace Go.Proofs.YthefgdehfgkhhaaGreat
open Go.RowKit Go.Maps
set_option linter.unusedVariables false
set_option linter.unusedSimpArgs false
attribute [local go_sem] Oper.semAt_some
/-- What a note put leaves behind. -/
theorem MindAt.put {w : World} {p b n : Nat} {L : Notes} (h : MindAt w p b n L) (hn : n < 1000000) {f c x y z : Int} (hf : isI f) (hc : isI c) (hx : isI x) (hy : isI y) (hz : isI z) :
 ∃ w', (Instr.mapUpdate 81 (.map (some b)) (.agg #[.int .i64 f, .int .i64 c]) (.agg #[.int .i64 x, .int .i64 y, .int .i64 z])).run Tryz.prog w = .ok () w' ∧ MindAt w' p b (n + 1) (putL L (f, c) (x, y, z)) ∧ w.grownBy w' (some b) := by
 obtain ⟨D, h1, h2⟩ := h.own
 obtain ⟨w', hrun, hown', hturn⟩ := h1.store lawWay Tryz.underlying81 (by unfold maxLen; omega) (keyOf_way hf hc) (noteElem_mk x y z)
 have hg := hturn.grown
 refine ⟨w', hrun, ⟨?_, ⟨_, hown', h2.put (h1.tidy lawWay) hf hc hx hy hz⟩, h.ne⟩, hg⟩
 exact (hg.block p h.box.lt (fun e => h.ne (by injection e))).trans h.box
theorem MindAt.more {w : World} {p b n m : Nat} {L : Notes} (h : MindAt w p b n L) (hm : n ≤ m) : MindAt w p b m L :=
 ⟨h.box, by obtain ⟨D, h1, h2⟩ := h.own; exact ⟨D, h1.mono hm, h2⟩, h.ne⟩
theorem MindAt.lt {w : World} {p b n : Nat} {L : Notes} (h : MindAt w p b n L) : b < w.heap.size := by
 obtain ⟨D, h1, h2⟩ := h.own; exact h1.lt
theorem below_grown {w w' : World} (h : Below w.heap.size w w') (r : Option Nat) : w.grownBy w' r := ⟨h.os, h.tape, h.output, h.size, fun i hi _ => h.block i hi⟩
theorem below_then {w a w' : World} {b : Nat} (h : Below w.heap.size w a) (k : a.grownBy w' (some b)) : w.grownBy w' (some b) :=
 (below_grown h (some b)).andThen k (fun j hj => .inr (by rw [← hj]))
set_option maxRecDepth 100000 in
set_option maxHeartbeats 2000000 in
theorem failed_any (w : World) (p b n : Nat) (L : Notes) (h : MindAt w p b n L) (hgd : Good L) (hn : n < 1000000) (e : Ed) (x : Int) : Calls Tryz.prog 70 #[.pointer (some ⟨p, 0, none⟩), e.v, .int .i64 x] w fun y w' => y = .returned (.tuple #[]) ∧ MindAt w' p b (n + 1) (failL L e.e4 x) ∧ w.grownBy w' (some b) := by
 obtain ⟨f, t, c, r, p0, p1, p2, p3, p4⟩ := e
 have hb0 : Below w.heap.size w (w.alloc (.cells #[.int .i64 f, .int .i64 t, .int .i64 c, .int .i64 r, .int .i64 p0, .int .i64 p1, .int .i64 p2, .int .i64 p3, .int .i64 p4] 56)) := (Below.refl _ _).alloc (Nat.le_refl _) _
 have J0 : Blk (w.alloc (.cells #[.int .i64 f, .int .i64 t, .int .i64 c, .int .i64 r, .int .i64 p0, .int .i64 p1, .int .i64 p2, .int .i64 p3, .int .i64 p4] 56)) w.heap.size 56 #[.int .i64 f, .int .i64 t, .int .i64 c, .int .i64 r, .int .i64 p0, .int .i64 p1, .int .i64 p2, .int .i64 p3, .int .i64 p4] := Blk.new w _ _
 have hM0 := h.on hb0
 obtain ⟨w0, hw0⟩ : ∃ w0, w0 = w.alloc (.cells #[.int .i64 f, .int .i64 t, .int .i64 c, .int .i64 r, .int .i64 p0, .int .i64 p1, .int .i64 p2, .int .i64 p3, .int .i64 p4] 56) := ⟨_, rfl⟩
 rw [← hw0] at hb0 J0 hM0
 have j0 := J0.cell 0
 have j1 := J0.cell 1
 have j2 := J0.cell 2
 have j3 := J0.cell 3
 have j4 := J0.cell 4
 have j5 := J0.cell 5
 have j6 := J0.cell 6
 have j7 := J0.cell 7
 have j8 := J0.cell 8
 simp only [Ed.v, Ed.cs]
 go_enter Tryz.func70, Tryz.ntmps70
 go_wp2_with fail
 rw [← hw0]
 clear hw0
 go_wp2_with fail
 refine (some_any ⟨f, t, c, r, p0, p1, p2, p3, p4⟩ x w0).mono ?_
 rintro y w1 ⟨rfl, hb⟩
 have J := J0.below hb J0.lt
 have hM := hM0.on hb
 have hb1 := bltB hb0 hb0.size hb
 clear hb j0 j1 j2 j3 j4 j5 j6 j7 j8 hM0 h
 rcases hm : someB ⟨f, t, c, r, p0, p1, p2, p3, p4⟩ x with _ | _
 ·have HB : Hid (failL L (Ed.e4 ⟨f, t, c, r, p0, p1, p2, p3, p4⟩) x = L) := Lib.hid (by unfold failL; rw [if_neg]; intro hh; have : someB ⟨f, t, c, r, p0, p1, p2, p3, p4⟩ x = true := hh; rw [hm] at this; cases this)
  have HM := Lib.hid hM
  clear hM
  go_wp2_with fail
  exact bodyPost_end (v := .tuple #[]) (by simp [results, Tryz.f70, go_sem]) rfl ⟨rfl, by rw [HB.out]; exact HM.out.more (Nat.le_succ _), below_grown hb1 _⟩
 ·have hmy : E4.may (Ed.e4 ⟨f, t, c, r, p0, p1, p2, p3, p4⟩) x = true := hm
  have HB : Hid (failL L (Ed.e4 ⟨f, t, c, r, p0, p1, p2, p3, p4⟩) x = putL L (f, c) (min (cnt L (f, c) r).1 (x - 1), min (cnt L (f, c) r).2 x, r)) := Lib.hid (by unfold failL; rw [if_pos hmy]; rfl)
  have hs := may_spec.1 hmy
  simp only [Ed.e4] at hs
  have hfk : isI f := isI_of hs.1.1.1 (by omega)
  have hc : isI c := isI_of hs.1.2.2.2.1.1 hs.1.2.2.2.1.2
  have hr0 := hs.1.2.2.2.2.1
  have hr1 := hs.1.2.2.2.2.2
  have hx0 := hs.2.1
  have hx1 := hs.2.2
  clear hs hm hmy
  go_wp2_with fail
  refine wp_region_noPanic ?_
  refine ord_begin 7 (fun wx => Below w1.heap.size w1 wx) (by kernel_rfl) ?_
  have hT : Below w1.heap.size w1 w1.drew := (Below.refl _ _).drew
  refine ord_take (i := 0) (v := ?_) (by kernel_rfl) rfl (by decide) (by kernel_rfl) (by kernel_rfl) (fun _ _ _ h => h) (Or.inl ⟨by rfl, ?_⟩) hT ?_
  rotate_left
  ·intro wz hz; go_simp; (try with_reducible rfl)
  try simp only [Act.put, pu]
  refine ord_take (i := 1) (v := ?_) (by kernel_rfl) rfl (by decide) (by kernel_rfl) (by kernel_rfl) (fun _ _ _ h => h) (Or.inl ⟨by rfl, ?_⟩) hT ?_
  rotate_left
  ·intro wz hz; have j := J.below hz J.lt; have q0 := j.cell 0; have q1 := j.cell 1; have q2 := j.cell 2; have q3 := j.cell 3; have q4 := j.cell 4; have q5 := j.cell 5; have q6 := j.cell 6; have q7 := j.cell 7; have q8 := j.cell 8; go_simp; (try with_reducible rfl)
  try simp only [Act.put, pu]
  refine ord_take (i := 3) (v := ?_) (by kernel_rfl) rfl (by decide) (by kernel_rfl) (by kernel_rfl) (fun _ _ _ h => h) (Or.inl ⟨by rfl, ?_⟩) hT ?_
  rotate_left
  ·intro wz hz; go_simp; (try with_reducible rfl)
  try simp only [Act.put, pu]
  refine ord_take (i := 4) (v := ?_) (by kernel_rfl) rfl (by decide) (by kernel_rfl) (by kernel_rfl) (fun _ _ _ h => h) (Or.inl ⟨by rfl, ?_⟩) hT ?_
  rotate_left
  ·intro wz hz; have j := J.below hz J.lt; have q3 := j.cell 3; go_simp; (try with_reducible rfl)
  try simp only [Act.put, pu]
  refine ord_funnel (F := ?F) (k := 1) #[true, true, true, true, true, true, true, false] (fun G2 W => Blk W G2 122 #[.int .i64 0, .int .i64 0, .int .i64 0] ∧ Below w1.heap.size w1 W ∧ w1.heap.size ≤ G2) ?_ ?_
  rotate_left
  ·intro HQ
   refine ord_step2 (i := 2) (k := 6) rfl rfl (by decide) (by decide) (by kernel_rfl) (by rfl) (by rfl) (fun K hK => ?_) (fun K hK => ?_)
   ·go_simp
    refine (there_any ⟨f, t, c, r, p0, p1, p2, p3, p4⟩ _).mono ?_
    rintro y X1 ⟨rfl, hb⟩
    have hx1 := bltB hT hT.size hb
    clear hb
    refine hK _ _ hx1 ?_
    clear hK K
    try simp only [Act.put, pu]
    refine ord_step2 (i := 5) (k := 6) rfl rfl (by decide) (by decide) (by kernel_rfl) (by rfl) (by rfl) (fun K hK => ?_) (fun K hK => ?_)
    ·go_simp
     refine (of_note_any _ p b n L (hM.on hx1) hgd f c r hfk hc hr0 hr1).mono ?_
     rintro y X2 ⟨rfl, hb⟩
     have hx2 := bltB hx1 hx1.size hb
     clear hb
     refine hK _ _ hx2 ?_
     clear hK K
     try simp only [Act.put, pu]
     refine ord_step (i := 6) rfl (by decide) (by kernel_rfl) (by rfl) (fun K hK => ?_)
     go_simp
     obtain ⟨G2, hG2⟩ : ∃ G2, X2.heap.size = G2 := ⟨_, rfl⟩
     have hN : Blk (X2.alloc (.cells #[.int .i64 0, .int .i64 0, .int .i64 0] 122)) G2 122 #[.int .i64 0, .int .i64 0, .int .i64 0] := hG2 ▸ Blk.new X2 _ _
     rw [hG2]
     refine hK _ _ (hx2.alloc hx2.size _) ?_
     clear hK K
     try simp only [Act.put, pu]
     refine ord_relist #[true, true, true, true, true, true, true, false] (by kernel_rfl) ?_
     exact HQ _ _ ⟨hN, hx2.alloc hx2.size _, hG2 ▸ hx2.size⟩
    ·go_simp
     obtain ⟨G2, hG2⟩ : ∃ G2, X1.heap.size = G2 := ⟨_, rfl⟩
     have hN : Blk (X1.alloc (.cells #[.int .i64 0, .int .i64 0, .int .i64 0] 122)) G2 122 #[.int .i64 0, .int .i64 0, .int .i64 0] := hG2 ▸ Blk.new X1 _ _
     rw [hG2]
     have hx2 := hx1.alloc hx1.size (.cells #[.int .i64 0, .int .i64 0, .int .i64 0] 122)
     have hG : w1.heap.size ≤ G2 := hG2 ▸ hx1.size
     refine hK _ _ hx2 ?_
     clear hK K
     try simp only [Act.put, pu]
     refine ord_step (i := 5) rfl (by decide) (by kernel_rfl) (by rfl) (fun K hK => ?_)
     go_simp
     refine (of_note_any _ p b n L (hM.on hx2) hgd f c r hfk hc hr0 hr1).mono ?_
     rintro y X3 ⟨rfl, hb⟩
     have hx3 := bltB hx2 hx2.size hb
     have hN3 := hN.below hb hN.lt
     clear hb
     refine hK _ _ hx3 ?_
     clear hK K
     try simp only [Act.put, pu]
     refine ord_relist #[true, true, true, true, true, true, true, false] (by kernel_rfl) ?_
     exact HQ _ _ ⟨hN3, hx3, hG⟩
   ·go_simp
    obtain ⟨G2, hG2⟩ : ∃ G2, w1.heap.size = G2 := ⟨_, rfl⟩
    have hN : Blk (w1.alloc (.cells #[.int .i64 0, .int .i64 0, .int .i64 0] 122)).drew G2 122 #[.int .i64 0, .int .i64 0, .int .i64 0] := hG2 ▸ (Blk.new w1 _ _).drew
    rw [hG2]
    have hx1 : Below w1.heap.size w1 (w1.alloc (.cells #[.int .i64 0, .int .i64 0, .int .i64 0] 122)).drew := ((Below.refl _ _).alloc (Nat.le_refl _) _).drew
    have hG : w1.heap.size ≤ G2 := Nat.le_of_eq hG2
    refine hK _ _ hx1 ?_
    clear hK K
    try simp only [Act.put, pu]
    refine ord_step (i := 2) rfl (by decide) (by kernel_rfl) (by rfl) (fun K hK => ?_)
    go_simp
    refine (there_any ⟨f, t, c, r, p0, p1, p2, p3, p4⟩ _).mono ?_
    rintro y X2 ⟨rfl, hb⟩
    have hx2 := bltB hx1 hx1.size hb
    have hN2 := hN.below hb hN.lt
    clear hb
    refine hK _ _ hx2 ?_
    clear hK K
    try simp only [Act.put, pu]
    refine ord_step (i := 5) rfl (by decide) (by kernel_rfl) (by rfl) (fun K hK => ?_)
    go_simp
    refine (of_note_any _ p b n L (hM.on hx2) hgd f c r hfk hc hr0 hr1).mono ?_
    rintro y X3 ⟨rfl, hb⟩
    have hx3 := bltB hx2 hx2.size hb
    have hN3 := hN2.below hb hN2.lt
    clear hb
    refine hK _ _ hx3 ?_
    clear hK K
    try simp only [Act.put, pu]
    refine ord_relist #[true, true, true, true, true, true, true, false] (by kernel_rfl) ?_
    exact HQ _ _ ⟨hN3, hx3, hG⟩
  rintro G2 W2 ⟨hN0, hb2, hG2⟩
  simp only [noteV, wayV]
  refine ord_rest (by kernel_rfl) ?_
  have hc0 := hN0.cell 0
  have hc1 := hN0.cell 1
  have hc2 := hN0.cell 2
  have hf0 := hN0.frozen 0
  have hf1 := hN0.frozen 1
  have hf2 := hN0.frozen 2
  refine any_step (i := 7) rfl (by kernel_rfl) (by rfl) (fun K hK => ?_)
  go_simp
  refine hK _ _ ?_
  clear hK K
  try simp only [Act.put, pu]
  have hN : Blk (((W2.setCell ⟨G2, 0, none⟩ (.int .i64 (cnt L (f, c) r).1)).setCell ⟨G2, 1, none⟩ (.int .i64 (cnt L (f, c) r).2)).setCell ⟨G2, 2, none⟩ (.int .i64 r)) G2 122 #[.int .i64 (cnt L (f, c) r).1, .int .i64 (cnt L (f, c) r).2, .int .i64 r] := ((hN0.set_ 0 _).set_ 1 _).set_ 2 _
  have hb3 := ((hb2.setCell (p := ⟨G2, 0, none⟩) hG2 (.int .i64 (cnt L (f, c) r).1)).setCell (p := ⟨G2, 1, none⟩) hG2 (.int .i64 (cnt L (f, c) r).2)).setCell (p := ⟨G2, 2, none⟩) hG2 (.int .i64 r)
  generalize ((W2.setCell ⟨G2, 0, none⟩ (.int .i64 (cnt L (f, c) r).1)).setCell ⟨G2, 1, none⟩ (.int .i64 (cnt L (f, c) r).2)).setCell ⟨G2, 2, none⟩ (.int .i64 r) = W3 at *
  clear hc0 hc1 hc2 hf0 hf1 hf2 hN0 hb2
  refine wpAny_done (by kernel_rfl) ?_ _
  refine NoPanic.normal ?_
  have hcnt := cnt_ok hgd (f, c) hr0
  obtain ⟨lo, hlo⟩ : ∃ lo, (cnt L (f, c) r).1 = lo := ⟨_, rfl⟩
  obtain ⟨hi, hhi⟩ : ∃ hi, (cnt L (f, c) r).2 = hi := ⟨_, rfl⟩
  rw [hlo, hhi] at hcnt
  rw [hlo, hhi] at HB
  rw [hlo, hhi] at hN
  simp only [hlo, hhi]
  clear hlo hhi
  obtain ⟨z1, hz1, hv1⟩ := min_named lo (x - 1)
  obtain ⟨z2, hz2, hv2⟩ := min_named hi x
  have hi1 : isI z1 := by unfold isI; omega
  have hi2 : isI z2 := by unfold isI; omega
  have hi3 : isI r := by unfold isI; omega
  rw [← hz1, ← hz2] at HB
  clear hz1 hz2
  have hwr : IntKind.i64.wrap (x - 1) = x - 1 := IntWalk.i64_in _ (by omega)
  have hJ := J.below hb3 J.lt
  have hM := hM.on hb3
  have hb4 := bltB hb1 hb1.size hb3
  have hlN := hN.lt
  clear hb3 J
  have J := hJ
  clear hJ
  go_wp2_with fail
  refine wp_region_noPanic ?_
  refine ord_begin 18 (fun wx => Below W3.heap.size W3 wx) (by kernel_rfl) ?_
  have hT : Below W3.heap.size W3 W3.drew := (Below.refl _ _).drew
  refine ord_take (i := 0) (v := ?_) (by kernel_rfl) rfl (by decide) (by kernel_rfl) (by kernel_rfl) (fun _ _ _ h => h) (Or.inl ⟨by rfl, ?_⟩) hT ?_
  rotate_left
  ·intro wz hz; go_simp; (try with_reducible rfl)
  try simp only [Act.put, pu]
  refine ord_take (i := 1) (v := ?_) (by kernel_rfl) rfl (by decide) (by kernel_rfl) (by kernel_rfl) (fun _ _ _ h => h) (Or.inl ⟨by rfl, ?_⟩) hT ?_
  rotate_left
  ·intro wz hz; have j := hM.box.below hz hM.box.lt; have q := j.cell 0; go_simp; (try with_reducible rfl)
  try simp only [Act.put, pu]
  refine ord_take (i := 2) (v := ?_) (by kernel_rfl) rfl (by decide) (by kernel_rfl) (by kernel_rfl) (fun _ _ _ h => h) (Or.inl ⟨by rfl, ?_⟩) hT ?_
  rotate_left
  ·intro wz hz; go_simp; (try with_reducible rfl)
  try simp only [Act.put, pu]
  refine ord_take (i := 3) (v := ?_) (by kernel_rfl) rfl (by decide) (by kernel_rfl) (by kernel_rfl) (fun _ _ _ h => h) (Or.inl ⟨by rfl, ?_⟩) hT ?_
  rotate_left
  ·intro wz hz; have j := hM.box.below hz hM.box.lt; have q := j.cell 0; go_simp; (try with_reducible rfl)
  try simp only [Act.put, pu]
  refine ord_take (i := 4) (v := ?_) (by kernel_rfl) rfl (by decide) (by kernel_rfl) (by kernel_rfl) (fun _ _ _ h => h) (Or.inl ⟨by rfl, ?_⟩) hT ?_
  rotate_left
  ·intro wz hz; have j := J.below hz J.lt; have q0 := j.cell 0; have q1 := j.cell 1; have q2 := j.cell 2; have q3 := j.cell 3; have q4 := j.cell 4; have q5 := j.cell 5; have q6 := j.cell 6; have q7 := j.cell 7; have q8 := j.cell 8; go_simp; (try with_reducible rfl)
  try simp only [Act.put, pu]
  refine ord_take (i := 6) (v := ?_) (by kernel_rfl) rfl (by decide) (by kernel_rfl) (by kernel_rfl) (fun _ _ _ h => h) (Or.inl ⟨by rfl, ?_⟩) hT ?_
  rotate_left
  ·intro wz hz; go_simp; (try with_reducible rfl)
  try simp only [Act.put, pu]
  refine ord_take (i := 7) (v := ?_) (by kernel_rfl) rfl (by decide) (by kernel_rfl) (by kernel_rfl) (fun _ _ _ h => h) (Or.inl ⟨by rfl, ?_⟩) hT ?_
  rotate_left
  ·intro wz hz; have j := hN.below hz hN.lt; have q0 := j.cell 0; have q1 := j.cell 1; go_simp; (try with_reducible rfl)
  try simp only [Act.put, pu]
  refine ord_take (i := 8) (v := ?_) (by kernel_rfl) rfl (by decide) (by kernel_rfl) (by kernel_rfl) (fun _ _ _ h => h) (Or.inl ⟨by rfl, ?_⟩) hT ?_
  rotate_left
  ·intro wz hz; go_simp; (try with_reducible rfl)
  try simp only [Act.put, pu]
  refine ord_take (i := 9) (v := ?_) (by kernel_rfl) rfl (by decide) (by kernel_rfl) (by kernel_rfl) (fun _ _ _ h => h) (Or.inl ⟨by rfl, ?_⟩) hT ?_
  rotate_left
  ·intro wz hz; go_simp; (try with_reducible rfl)
  try simp only [Act.put, pu]
  refine ord_take (i := 10) (v := ?_) (by kernel_rfl) rfl (by decide) (by kernel_rfl) (by kernel_rfl) (fun _ _ _ h => h) (Or.inl ⟨by rfl, ?_⟩) hT ?_
  rotate_left
  ·intro wz hz; go_simp; (try with_reducible rfl)
  try simp only [Act.put, pu]
  refine ord_take (i := 11) (v := ?_) (by kernel_rfl) rfl (by decide) (by kernel_rfl) (by kernel_rfl) (fun _ _ _ h => h) (Or.inl ⟨by rfl, ?_⟩) hT ?_
  rotate_left
  ·intro wz hz; go_simp; (try with_reducible rfl)
  try simp only [Act.put, pu]
  refine ord_take (i := 12) (v := ?_) (by kernel_rfl) rfl (by decide) (by kernel_rfl) (by kernel_rfl) (fun _ _ _ h => h) (Or.inl ⟨by rfl, ?_⟩) hT ?_
  rotate_left
  ·intro wz hz; have j := hN.below hz hN.lt; have q0 := j.cell 0; have q1 := j.cell 1; go_simp; (try with_reducible rfl)
  try simp only [Act.put, pu]
  refine ord_take (i := 13) (v := ?_) (by kernel_rfl) rfl (by decide) (by kernel_rfl) (by kernel_rfl) (fun _ _ _ h => h) (Or.inl ⟨by rfl, ?_⟩) hT ?_
  rotate_left
  ·intro wz hz; go_simp; (try with_reducible rfl)
  try simp only [Act.put, pu]
  refine ord_take (i := 14) (v := ?_) (by kernel_rfl) rfl (by decide) (by kernel_rfl) (by kernel_rfl) (fun _ _ _ h => h) (Or.inl ⟨by rfl, ?_⟩) hT ?_
  rotate_left
  ·intro wz hz; go_simp; (try with_reducible rfl)
  try simp only [Act.put, pu]
  refine ord_take (i := 15) (v := ?_) (by kernel_rfl) rfl (by decide) (by kernel_rfl) (by kernel_rfl) (fun _ _ _ h => h) (Or.inl ⟨by rfl, ?_⟩) hT ?_
  rotate_left
  ·intro wz hz; go_simp; (try with_reducible rfl)
  try simp only [Act.put, pu]
  refine ord_take (i := 16) (v := ?_) (by kernel_rfl) rfl (by decide) (by kernel_rfl) (by kernel_rfl) (fun _ _ _ h => h) (Or.inl ⟨by rfl, ?_⟩) hT ?_
  rotate_left
  ·intro wz hz; have j := J.below hz J.lt; have q3 := j.cell 3; go_simp; (try with_reducible rfl)
  try simp only [Act.put, pu]
  refine ord_take (i := 17) (v := ?_) (by kernel_rfl) rfl (by decide) (by kernel_rfl) (by kernel_rfl) (fun _ _ _ h => h) (Or.inl ⟨by rfl, ?_⟩) hT ?_
  rotate_left
  ·intro wz hz; go_simp; (try with_reducible rfl)
  try simp only [Act.put, pu]
  refine ord_step (i := 5) rfl (by decide) (by kernel_rfl) (by rfl) (fun K hK => ?_)
  go_simp
  refine (there_any ⟨f, t, c, r, p0, p1, p2, p3, p4⟩ _).mono ?_
  rintro y W4 ⟨rfl, hb⟩
  have hx := bltB hT hT.size hb
  clear hb
  refine hK _ _ hx ?_
  clear hK K
  try simp only [Act.put, pu]
  refine ord_rest (by kernel_rfl) ?_
  have hM2 := hM.on hx
  obtain ⟨W5, hrun, hM3, hg⟩ := hM2.put hn hfk hc hi1 hi2 hi3
  simp only [wayV]
  refine any_step (i := 18) rfl (by kernel_rfl) (by rfl) (fun K hK => ?_)
  go_simp
  refine hK _ _ ?_
  clear hK K
  try simp only [Act.put, pu]
  refine wpAny_done (by kernel_rfl) ?_ _
  refine NoPanic.normal ?_
  have hfin := below_then (bltB hb4 hb4.size hx) hg
  have HM := Lib.hid hM3
  clear hM3 hM2 hM hrun hg hx J hN
  go_wp2_with fail
  exact bodyPost_end (v := .tuple #[]) (by simp [results, Tryz.f70, go_sem]) rfl ⟨rfl, by rw [HB.out]; exact HM.out, hfin⟩
set_option maxRecDepth 100000 in
set_option maxHeartbeats 2000000 in
theorem passed_any (w : World) (p b n : Nat) (L : Notes) (h : MindAt w p b n L) (hgd : Good L) (hn : n < 1000000) (e : Ed) (x : Int) : Calls Tryz.prog 68 #[.pointer (some ⟨p, 0, none⟩), e.v, .int .i64 x] w fun y w' => y = .returned (.tuple #[]) ∧ MindAt w' p b (n + 1) (passL L e.e4 x) ∧ w.grownBy w' (some b) := by
 obtain ⟨f, t, c, r, p0, p1, p2, p3, p4⟩ := e
 have hb0 : Below w.heap.size w (w.alloc (.cells #[.int .i64 f, .int .i64 t, .int .i64 c, .int .i64 r, .int .i64 p0, .int .i64 p1, .int .i64 p2, .int .i64 p3, .int .i64 p4] 56)) := (Below.refl _ _).alloc (Nat.le_refl _) _
 have J0 : Blk (w.alloc (.cells #[.int .i64 f, .int .i64 t, .int .i64 c, .int .i64 r, .int .i64 p0, .int .i64 p1, .int .i64 p2, .int .i64 p3, .int .i64 p4] 56)) w.heap.size 56 #[.int .i64 f, .int .i64 t, .int .i64 c, .int .i64 r, .int .i64 p0, .int .i64 p1, .int .i64 p2, .int .i64 p3, .int .i64 p4] := Blk.new w _ _
 have hM0 := h.on hb0
 obtain ⟨w0, hw0⟩ : ∃ w0, w0 = w.alloc (.cells #[.int .i64 f, .int .i64 t, .int .i64 c, .int .i64 r, .int .i64 p0, .int .i64 p1, .int .i64 p2, .int .i64 p3, .int .i64 p4] 56) := ⟨_, rfl⟩
 rw [← hw0] at hb0 J0 hM0
 have j0 := J0.cell 0
 have j1 := J0.cell 1
 have j2 := J0.cell 2
 have j3 := J0.cell 3
 have j4 := J0.cell 4
 have j5 := J0.cell 5
 have j6 := J0.cell 6
 have j7 := J0.cell 7
 have j8 := J0.cell 8
 simp only [Ed.v, Ed.cs]
 go_enter Tryz.func68, Tryz.ntmps68
 go_wp2_with fail
 rw [← hw0]
 clear hw0
 go_wp2_with fail
 refine (some_any ⟨f, t, c, r, p0, p1, p2, p3, p4⟩ x w0).mono ?_
 rintro y w1 ⟨rfl, hb⟩
 have J := J0.below hb J0.lt
 have hM := hM0.on hb
 have hb1 := bltB hb0 hb0.size hb
 clear hb j0 j1 j2 j3 j4 j5 j6 j7 j8 hM0 h
 rcases hm : someB ⟨f, t, c, r, p0, p1, p2, p3, p4⟩ x with _ | _
 ·have HB : Hid (passL L (Ed.e4 ⟨f, t, c, r, p0, p1, p2, p3, p4⟩) x = L) := Lib.hid (by unfold passL; rw [if_neg]; intro hh; have : someB ⟨f, t, c, r, p0, p1, p2, p3, p4⟩ x = true := hh; rw [hm] at this; cases this)
  have HM := Lib.hid hM
  clear hM
  go_wp2_with fail
  exact bodyPost_end (v := .tuple #[]) (by simp [results, Tryz.f68, go_sem]) rfl ⟨rfl, by rw [HB.out]; exact HM.out.more (Nat.le_succ _), below_grown hb1 _⟩
 ·have hmy : E4.may (Ed.e4 ⟨f, t, c, r, p0, p1, p2, p3, p4⟩) x = true := hm
  have HB : Hid (passL L (Ed.e4 ⟨f, t, c, r, p0, p1, p2, p3, p4⟩) x = putL L (f, c) (max (cnt L (f, c) r).1 x, max (cnt L (f, c) r).2 (x + 1), r)) := Lib.hid (by unfold passL; rw [if_pos hmy]; rfl)
  have hs := may_spec.1 hmy
  simp only [Ed.e4] at hs
  have hfk : isI f := isI_of hs.1.1.1 (by omega)
  have hc : isI c := isI_of hs.1.2.2.2.1.1 hs.1.2.2.2.1.2
  have hr0 := hs.1.2.2.2.2.1
  have hr1 := hs.1.2.2.2.2.2
  have hx0 := hs.2.1
  have hx1 := hs.2.2
  clear hs hm hmy
  go_wp2_with fail
  refine wp_region_noPanic ?_
  refine ord_begin 7 (fun wx => Below w1.heap.size w1 wx) (by kernel_rfl) ?_
  have hT : Below w1.heap.size w1 w1.drew := (Below.refl _ _).drew
  refine ord_take (i := 0) (v := ?_) (by kernel_rfl) rfl (by decide) (by kernel_rfl) (by kernel_rfl) (fun _ _ _ h => h) (Or.inl ⟨by rfl, ?_⟩) hT ?_
  rotate_left
  ·intro wz hz; go_simp; (try with_reducible rfl)
  try simp only [Act.put, pu]
  refine ord_take (i := 1) (v := ?_) (by kernel_rfl) rfl (by decide) (by kernel_rfl) (by kernel_rfl) (fun _ _ _ h => h) (Or.inl ⟨by rfl, ?_⟩) hT ?_
  rotate_left
  ·intro wz hz; have j := J.below hz J.lt; have q0 := j.cell 0; have q1 := j.cell 1; have q2 := j.cell 2; have q3 := j.cell 3; have q4 := j.cell 4; have q5 := j.cell 5; have q6 := j.cell 6; have q7 := j.cell 7; have q8 := j.cell 8; go_simp; (try with_reducible rfl)
  try simp only [Act.put, pu]
  refine ord_take (i := 3) (v := ?_) (by kernel_rfl) rfl (by decide) (by kernel_rfl) (by kernel_rfl) (fun _ _ _ h => h) (Or.inl ⟨by rfl, ?_⟩) hT ?_
  rotate_left
  ·intro wz hz; go_simp; (try with_reducible rfl)
  try simp only [Act.put, pu]
  refine ord_take (i := 4) (v := ?_) (by kernel_rfl) rfl (by decide) (by kernel_rfl) (by kernel_rfl) (fun _ _ _ h => h) (Or.inl ⟨by rfl, ?_⟩) hT ?_
  rotate_left
  ·intro wz hz; have j := J.below hz J.lt; have q3 := j.cell 3; go_simp; (try with_reducible rfl)
  try simp only [Act.put, pu]
  refine ord_funnel (F := ?F) (k := 1) #[true, true, true, true, true, true, true, false] (fun G2 W => Blk W G2 122 #[.int .i64 0, .int .i64 0, .int .i64 0] ∧ Below w1.heap.size w1 W ∧ w1.heap.size ≤ G2) ?_ ?_
  rotate_left
  ·intro HQ
   refine ord_step2 (i := 2) (k := 6) rfl rfl (by decide) (by decide) (by kernel_rfl) (by rfl) (by rfl) (fun K hK => ?_) (fun K hK => ?_)
   ·go_simp
    refine (there_any ⟨f, t, c, r, p0, p1, p2, p3, p4⟩ _).mono ?_
    rintro y X1 ⟨rfl, hb⟩
    have hx1 := bltB hT hT.size hb
    clear hb
    refine hK _ _ hx1 ?_
    clear hK K
    try simp only [Act.put, pu]
    refine ord_step2 (i := 5) (k := 6) rfl rfl (by decide) (by decide) (by kernel_rfl) (by rfl) (by rfl) (fun K hK => ?_) (fun K hK => ?_)
    ·go_simp
     refine (of_note_any _ p b n L (hM.on hx1) hgd f c r hfk hc hr0 hr1).mono ?_
     rintro y X2 ⟨rfl, hb⟩
     have hx2 := bltB hx1 hx1.size hb
     clear hb
     refine hK _ _ hx2 ?_
     clear hK K
     try simp only [Act.put, pu]
     refine ord_step (i := 6) rfl (by decide) (by kernel_rfl) (by rfl) (fun K hK => ?_)
     go_simp
     obtain ⟨G2, hG2⟩ : ∃ G2, X2.heap.size = G2 := ⟨_, rfl⟩
     have hN : Blk (X2.alloc (.cells #[.int .i64 0, .int .i64 0, .int .i64 0] 122)) G2 122 #[.int .i64 0, .int .i64 0, .int .i64 0] := hG2 ▸ Blk.new X2 _ _
     rw [hG2]
     refine hK _ _ (hx2.alloc hx2.size _) ?_
     clear hK K
     try simp only [Act.put, pu]
     refine ord_relist #[true, true, true, true, true, true, true, false] (by kernel_rfl) ?_
     exact HQ _ _ ⟨hN, hx2.alloc hx2.size _, hG2 ▸ hx2.size⟩
    ·go_simp
     obtain ⟨G2, hG2⟩ : ∃ G2, X1.heap.size = G2 := ⟨_, rfl⟩
     have hN : Blk (X1.alloc (.cells #[.int .i64 0, .int .i64 0, .int .i64 0] 122)) G2 122 #[.int .i64 0, .int .i64 0, .int .i64 0] := hG2 ▸ Blk.new X1 _ _
     rw [hG2]
     have hx2 := hx1.alloc hx1.size (.cells #[.int .i64 0, .int .i64 0, .int .i64 0] 122)
     have hG : w1.heap.size ≤ G2 := hG2 ▸ hx1.size
     refine hK _ _ hx2 ?_
     clear hK K
     try simp only [Act.put, pu]
     refine ord_step (i := 5) rfl (by decide) (by kernel_rfl) (by rfl) (fun K hK => ?_)
     go_simp
     refine (of_note_any _ p b n L (hM.on hx2) hgd f c r hfk hc hr0 hr1).mono ?_
     rintro y X3 ⟨rfl, hb⟩
     have hx3 := bltB hx2 hx2.size hb
     have hN3 := hN.below hb hN.lt
     clear hb
     refine hK _ _ hx3 ?_
     clear hK K
     try simp only [Act.put, pu]
     refine ord_relist #[true, true, true, true, true, true, true, false] (by kernel_rfl) ?_
     exact HQ _ _ ⟨hN3, hx3, hG⟩
   ·go_simp
    obtain ⟨G2, hG2⟩ : ∃ G2, w1.heap.size = G2 := ⟨_, rfl⟩
    have hN : Blk (w1.alloc (.cells #[.int .i64 0, .int .i64 0, .int .i64 0] 122)).drew G2 122 #[.int .i64 0, .int .i64 0, .int .i64 0] := hG2 ▸ (Blk.new w1 _ _).drew
    rw [hG2]
    have hx1 : Below w1.heap.size w1 (w1.alloc (.cells #[.int .i64 0, .int .i64 0, .int .i64 0] 122)).drew := ((Below.refl _ _).alloc (Nat.le_refl _) _).drew
    have hG : w1.heap.size ≤ G2 := Nat.le_of_eq hG2
    refine hK _ _ hx1 ?_
    clear hK K
    try simp only [Act.put, pu]
    refine ord_step (i := 2) rfl (by decide) (by kernel_rfl) (by rfl) (fun K hK => ?_)
    go_simp
    refine (there_any ⟨f, t, c, r, p0, p1, p2, p3, p4⟩ _).mono ?_
    rintro y X2 ⟨rfl, hb⟩
    have hx2 := bltB hx1 hx1.size hb
    have hN2 := hN.below hb hN.lt
    clear hb
    refine hK _ _ hx2 ?_
    clear hK K
    try simp only [Act.put, pu]
    refine ord_step (i := 5) rfl (by decide) (by kernel_rfl) (by rfl) (fun K hK => ?_)
    go_simp
    refine (of_note_any _ p b n L (hM.on hx2) hgd f c r hfk hc hr0 hr1).mono ?_
    rintro y X3 ⟨rfl, hb⟩
    have hx3 := bltB hx2 hx2.size hb
    have hN3 := hN2.below hb hN2.lt
    clear hb
    refine hK _ _ hx3 ?_
    clear hK K
    try simp only [Act.put, pu]
    refine ord_relist #[true, true, true, true, true, true, true, false] (by kernel_rfl) ?_
    exact HQ _ _ ⟨hN3, hx3, hG⟩
  rintro G2 W2 ⟨hN0, hb2, hG2⟩
  simp only [noteV, wayV]
  refine ord_rest (by kernel_rfl) ?_
  have hc0 := hN0.cell 0
  have hc1 := hN0.cell 1
  have hc2 := hN0.cell 2
  have hf0 := hN0.frozen 0
  have hf1 := hN0.frozen 1
  have hf2 := hN0.frozen 2
  refine any_step (i := 7) rfl (by kernel_rfl) (by rfl) (fun K hK => ?_)
  go_simp
  refine hK _ _ ?_
  clear hK K
  try simp only [Act.put, pu]
  have hN : Blk (((W2.setCell ⟨G2, 0, none⟩ (.int .i64 (cnt L (f, c) r).1)).setCell ⟨G2, 1, none⟩ (.int .i64 (cnt L (f, c) r).2)).setCell ⟨G2, 2, none⟩ (.int .i64 r)) G2 122 #[.int .i64 (cnt L (f, c) r).1, .int .i64 (cnt L (f, c) r).2, .int .i64 r] := ((hN0.set_ 0 _).set_ 1 _).set_ 2 _
  have hb3 := ((hb2.setCell (p := ⟨G2, 0, none⟩) hG2 (.int .i64 (cnt L (f, c) r).1)).setCell (p := ⟨G2, 1, none⟩) hG2 (.int .i64 (cnt L (f, c) r).2)).setCell (p := ⟨G2, 2, none⟩) hG2 (.int .i64 r)
  generalize ((W2.setCell ⟨G2, 0, none⟩ (.int .i64 (cnt L (f, c) r).1)).setCell ⟨G2, 1, none⟩ (.int .i64 (cnt L (f, c) r).2)).setCell ⟨G2, 2, none⟩ (.int .i64 r) = W3 at *
  clear hc0 hc1 hc2 hf0 hf1 hf2 hN0 hb2
  refine wpAny_done (by kernel_rfl) ?_ _
  refine NoPanic.normal ?_
  have hcnt := cnt_ok hgd (f, c) hr0
  obtain ⟨lo, hlo⟩ : ∃ lo, (cnt L (f, c) r).1 = lo := ⟨_, rfl⟩
  obtain ⟨hi, hhi⟩ : ∃ hi, (cnt L (f, c) r).2 = hi := ⟨_, rfl⟩
  rw [hlo, hhi] at hcnt
  rw [hlo, hhi] at HB
  rw [hlo, hhi] at hN
  simp only [hlo, hhi]
  clear hlo hhi
  obtain ⟨z1, hz1, hv1⟩ := max_named lo x
  obtain ⟨z2, hz2, hv2⟩ := max_named hi (x + 1)
  have hi1 : isI z1 := by unfold isI; omega
  have hi2 : isI z2 := by unfold isI; omega
  have hi3 : isI r := by unfold isI; omega
  rw [← hz1, ← hz2] at HB
  clear hz1 hz2
  have hwr : IntKind.i64.wrap (x + 1) = x + 1 := IntWalk.i64_in _ (by omega)
  have hJ := J.below hb3 J.lt
  have hM := hM.on hb3
  have hb4 := bltB hb1 hb1.size hb3
  have hlN := hN.lt
  clear hb3 J
  have J := hJ
  clear hJ
  go_wp2_with fail
  refine wp_region_noPanic ?_
  refine ord_begin 18 (fun wx => Below W3.heap.size W3 wx) (by kernel_rfl) ?_
  have hT : Below W3.heap.size W3 W3.drew := (Below.refl _ _).drew
  refine ord_take (i := 0) (v := ?_) (by kernel_rfl) rfl (by decide) (by kernel_rfl) (by kernel_rfl) (fun _ _ _ h => h) (Or.inl ⟨by rfl, ?_⟩) hT ?_
  rotate_left
  ·intro wz hz; go_simp; (try with_reducible rfl)
  try simp only [Act.put, pu]
  refine ord_take (i := 1) (v := ?_) (by kernel_rfl) rfl (by decide) (by kernel_rfl) (by kernel_rfl) (fun _ _ _ h => h) (Or.inl ⟨by rfl, ?_⟩) hT ?_
  rotate_left
  ·intro wz hz; have j := hM.box.below hz hM.box.lt; have q := j.cell 0; go_simp; (try with_reducible rfl)
  try simp only [Act.put, pu]
  refine ord_take (i := 2) (v := ?_) (by kernel_rfl) rfl (by decide) (by kernel_rfl) (by kernel_rfl) (fun _ _ _ h => h) (Or.inl ⟨by rfl, ?_⟩) hT ?_
  rotate_left
  ·intro wz hz; go_simp; (try with_reducible rfl)
  try simp only [Act.put, pu]
  refine ord_take (i := 3) (v := ?_) (by kernel_rfl) rfl (by decide) (by kernel_rfl) (by kernel_rfl) (fun _ _ _ h => h) (Or.inl ⟨by rfl, ?_⟩) hT ?_
  rotate_left
  ·intro wz hz; have j := hM.box.below hz hM.box.lt; have q := j.cell 0; go_simp; (try with_reducible rfl)
  try simp only [Act.put, pu]
  refine ord_take (i := 4) (v := ?_) (by kernel_rfl) rfl (by decide) (by kernel_rfl) (by kernel_rfl) (fun _ _ _ h => h) (Or.inl ⟨by rfl, ?_⟩) hT ?_
  rotate_left
  ·intro wz hz; have j := J.below hz J.lt; have q0 := j.cell 0; have q1 := j.cell 1; have q2 := j.cell 2; have q3 := j.cell 3; have q4 := j.cell 4; have q5 := j.cell 5; have q6 := j.cell 6; have q7 := j.cell 7; have q8 := j.cell 8; go_simp; (try with_reducible rfl)
  try simp only [Act.put, pu]
  refine ord_take (i := 6) (v := ?_) (by kernel_rfl) rfl (by decide) (by kernel_rfl) (by kernel_rfl) (fun _ _ _ h => h) (Or.inl ⟨by rfl, ?_⟩) hT ?_
  rotate_left
  ·intro wz hz; go_simp; (try with_reducible rfl)
  try simp only [Act.put, pu]
  refine ord_take (i := 7) (v := ?_) (by kernel_rfl) rfl (by decide) (by kernel_rfl) (by kernel_rfl) (fun _ _ _ h => h) (Or.inl ⟨by rfl, ?_⟩) hT ?_
  rotate_left
  ·intro wz hz; have j := hN.below hz hN.lt; have q0 := j.cell 0; have q1 := j.cell 1; go_simp; (try with_reducible rfl)
  try simp only [Act.put, pu]
  refine ord_take (i := 8) (v := ?_) (by kernel_rfl) rfl (by decide) (by kernel_rfl) (by kernel_rfl) (fun _ _ _ h => h) (Or.inl ⟨by rfl, ?_⟩) hT ?_
  rotate_left
  ·intro wz hz; go_simp; (try with_reducible rfl)
  try simp only [Act.put, pu]
  refine ord_take (i := 9) (v := ?_) (by kernel_rfl) rfl (by decide) (by kernel_rfl) (by kernel_rfl) (fun _ _ _ h => h) (Or.inl ⟨by rfl, ?_⟩) hT ?_
  rotate_left
  ·intro wz hz; go_simp; (try with_reducible rfl)
  try simp only [Act.put, pu]
  refine ord_take (i := 10) (v := ?_) (by kernel_rfl) rfl (by decide) (by kernel_rfl) (by kernel_rfl) (fun _ _ _ h => h) (Or.inl ⟨by rfl, ?_⟩) hT ?_
  rotate_left
  ·intro wz hz; go_simp; (try with_reducible rfl)
  try simp only [Act.put, pu]
  refine ord_take (i := 11) (v := ?_) (by kernel_rfl) rfl (by decide) (by kernel_rfl) (by kernel_rfl) (fun _ _ _ h => h) (Or.inl ⟨by rfl, ?_⟩) hT ?_
  rotate_left
  ·intro wz hz; have j := hN.below hz hN.lt; have q0 := j.cell 0; have q1 := j.cell 1; go_simp; (try with_reducible rfl)
  try simp only [Act.put, pu]
  refine ord_take (i := 12) (v := ?_) (by kernel_rfl) rfl (by decide) (by kernel_rfl) (by kernel_rfl) (fun _ _ _ h => h) (Or.inl ⟨by rfl, ?_⟩) hT ?_
  rotate_left
  ·intro wz hz; go_simp; (try with_reducible rfl)
  try simp only [Act.put, pu]
  refine ord_take (i := 13) (v := ?_) (by kernel_rfl) rfl (by decide) (by kernel_rfl) (by kernel_rfl) (fun _ _ _ h => h) (Or.inl ⟨by rfl, ?_⟩) hT ?_
  rotate_left
  ·intro wz hz; go_simp; (try with_reducible rfl)
  try simp only [Act.put, pu]
  refine ord_take (i := 14) (v := ?_) (by kernel_rfl) rfl (by decide) (by kernel_rfl) (by kernel_rfl) (fun _ _ _ h => h) (Or.inl ⟨by rfl, ?_⟩) hT ?_
  rotate_left
  ·intro wz hz; go_simp; (try with_reducible rfl)
  try simp only [Act.put, pu]
  refine ord_take (i := 15) (v := ?_) (by kernel_rfl) rfl (by decide) (by kernel_rfl) (by kernel_rfl) (fun _ _ _ h => h) (Or.inl ⟨by rfl, ?_⟩) hT ?_
  rotate_left
  ·intro wz hz; go_simp; (try with_reducible rfl)
  try simp only [Act.put, pu]
  refine ord_take (i := 16) (v := ?_) (by kernel_rfl) rfl (by decide) (by kernel_rfl) (by kernel_rfl) (fun _ _ _ h => h) (Or.inl ⟨by rfl, ?_⟩) hT ?_
  rotate_left
  ·intro wz hz; have j := J.below hz J.lt; have q3 := j.cell 3; go_simp; (try with_reducible rfl)
  try simp only [Act.put, pu]
  refine ord_take (i := 17) (v := ?_) (by kernel_rfl) rfl (by decide) (by kernel_rfl) (by kernel_rfl) (fun _ _ _ h => h) (Or.inl ⟨by rfl, ?_⟩) hT ?_
  rotate_left
  ·intro wz hz; go_simp; (try with_reducible rfl)
  try simp only [Act.put, pu]
  refine ord_step (i := 5) rfl (by decide) (by kernel_rfl) (by rfl) (fun K hK => ?_)
  go_simp
  refine (there_any ⟨f, t, c, r, p0, p1, p2, p3, p4⟩ _).mono ?_
  rintro y W4 ⟨rfl, hb⟩
  have hx := bltB hT hT.size hb
  clear hb
  refine hK _ _ hx ?_
  clear hK K
  try simp only [Act.put, pu]
  refine ord_rest (by kernel_rfl) ?_
  have hM2 := hM.on hx
  obtain ⟨W5, hrun, hM3, hg⟩ := hM2.put hn hfk hc hi1 hi2 hi3
  simp only [wayV]
  refine any_step (i := 18) rfl (by kernel_rfl) (by rfl) (fun K hK => ?_)
  go_simp
  refine hK _ _ ?_
  clear hK K
  try simp only [Act.put, pu]
  refine wpAny_done (by kernel_rfl) ?_ _
  refine NoPanic.normal ?_
  have hfin := below_then (bltB hb4 hb4.size hx) hg
  have HM := Lib.hid hM3
  clear hM3 hM2 hM hrun hg hx J hN
  go_wp2_with fail
  exact bodyPost_end (v := .tuple #[]) (by simp [results, Tryz.f68, go_sem]) rfl ⟨rfl, by rw [HB.out]; exact HM.out, hfin⟩
end Go.Proofs.YthefgdehfgkhhaaGreat
