/-
  A mind: what is noted of a way, as it counts of a room.
-/
import Derived.Test.YtdobpicamibgpaaMind4
import Derived.Test.YtdobpicamibgpaaNote2
import Derived.Test.YtdobpicamibgpaaOrd
import Derived.BigRegion
import Derived.Lib.MinMax
namespace Go.Proofs.Ytdobpicamibgpaa
open Go.RowKit Go.Maps
set_option linter.unusedVariables false
set_option linter.unusedSimpArgs false
attribute [local go_sem] Oper.semAt_some

theorem zeroNote (w : World) : (zeroValue 72).run Try.prog w = .ok (noteV 0 0 0) w := by kernel_rfl

theorem own_at {w wx : World} {b n : Nat} {D : DataW Unit} (h : w.ownsMap Try.prog 75 (noteElem (H := Unit)) b n D) (he : wx.heap[b]? = w.heap[b]?) : wx.ownsMap Try.prog 75 (noteElem (H := Unit)) b n D := by
  obtain ⟨es, clock, hb, r⟩ := h
  exact ⟨es, clock, by rw [he]; exact hb, r⟩

theorem noteD_inj {a b r a' b' r' : Int} (h : noteD (H := Unit) a b r = noteD a' b' r') : a = a' ∧ b = b' ∧ r = r' := by
  simp only [noteD] at h
  injection h with h1
  injection h1 with h1 h2
  injection h2 with h2 h3
  injection h3 with h3 _
  injection h1 with h1
  injection h2 with h2
  injection h3 with h3
  injection h1 with _ h1
  injection h2 with _ h2
  injection h3 with _ h3
  exact ⟨h1, h2, h3⟩

/-- What is looked up at a way. -/
theorem look_note {w : World} {p b n : Nat} {L : Notes} (h : MindAt w p b n L) {f c : Int} (hf : isI f) (hc : isI c) :
    ∃ a b' r, (∀ wx : World, wx.heap[b]? = w.heap[b]? → (Instr.lookup 58 (.map (some b)) (wayV f c) true).run Try.prog wx = .ok (.tuple #[noteV a b' r, .bool (look L (f, c)).isSome]) wx) ∧ ∀ v, look L (f, c) = some v → v = (a, b', r) := by
  obtain ⟨D, hown, hs⟩ := h.own
  have key : ∀ wx : World, wx.heap[b]? = w.heap[b]? → ∃ a b' r, (Instr.lookup 58 (.map (some b)) (wayV f c) true).run Try.prog wx = .ok (.tuple #[noteV a b' r, .bool (look L (f, c)).isSome]) wx ∧ D.atKey (wayL f c) (noteD 0 0 0) = noteD a b' r := fun wx he => by
    obtain ⟨v, ps, hrun, hv⟩ := (own_at hown he).look_ok lawWay Try.underlying58 (zeroNote wx) (noteElem_mk 0 0 0) (keyOf_way hf hc)
    obtain ⟨a, b', r, rfl, hz⟩ := noteElem_inv hv
    rw [hs.has f c hf hc] at hrun
    exact ⟨a, b', r, hrun, (Prod.mk.inj hz).1⟩
  obtain ⟨a, b', r, hrun, hat⟩ := key w rfl
  refine ⟨a, b', r, fun wx he => ?_, fun v hv => ?_⟩
  · obtain ⟨a2, b2, r2, hrun2, hat2⟩ := key wx he
    obtain ⟨rfl, rfl, rfl⟩ := noteD_inj (hat.symm.trans hat2)
    exact hrun2
  · obtain ⟨x, y, z⟩ := v
    obtain ⟨rfl, rfl, rfl⟩ := noteD_inj ((hs.at_ f c x y z _ hf hc hv).symm.trans hat)
    rfl

/-- The least and the greatest of two, each under a name of its own. -/
theorem min_named (x y : Int) : ∃ z, z = min x y ∧ ∀ (ts : Array TypeId) (t : TypeId) (w : World), (Builtin.min_ ts t #[.int .i64 x, .int .i64 y]).run Try.prog w = .ok (.int .i64 z) w := ⟨_, rfl, fun ts t w => Lib.run_min_ints w ts t _ _ _ _⟩
theorem max_named (x y : Int) : ∃ z, z = max x y ∧ ∀ (ts : Array TypeId) (t : TypeId) (w : World), (Builtin.max_ ts t #[.int .i64 x, .int .i64 y]).run Try.prog w = .ok (.int .i64 z) w := ⟨_, rfl, fun ts t w => Lib.run_max_ints w ts t _ _ _ _⟩

/-- Three cells of a note, stored one by one. -/
theorem note_store {w w2 : World} {G : Nat} {t : TypeId} {a0 b0 c0 : Value} (hB : Blk w2 G t #[a0, b0, c0]) (hb : Below w.heap.size w w2) (hG : w.heap.size ≤ G) (a b c : Value) :
    let W := ((w2.setCell ⟨G, 0, none⟩ a).setCell ⟨G, 1, none⟩ b).setCell ⟨G, 2, none⟩ c
    Blk W G t #[a, b, c] ∧ Below w.heap.size w W :=
  ⟨((hB.set_ 0 a).set_ 1 b).set_ 2 c, ((hb.setCell (p := ⟨G, 0, none⟩) hG _).setCell (p := ⟨G, 1, none⟩) hG _).setCell (p := ⟨G, 2, none⟩) hG _⟩

set_option maxRecDepth 100000 in
theorem of_note_any (w : World) (p b n : Nat) (L : Notes) (h : MindAt w p b n L) (hgd : Good L) (f c r : Int) (hf : isI f) (hc : isI c) (hr0 : 0 < r) (hr1 : r ≤ 1125899906842624) : Calls Try.prog 41 #[.pointer (some ⟨p, 0, none⟩), wayV f c, .int .i64 r] w fun e w' => e = .returned (noteV (cnt L (f, c) r).1 (cnt L (f, c) r).2 r) ∧ Below w.heap.size w w' := by
  obtain ⟨a, b', r', hlook, hlk⟩ := look_note h hf hc
  obtain ⟨w0, hw0⟩ : ∃ w0, w0 = (w.alloc (.cells #[.int .i64 f, .int .i64 c] 75)).alloc (.cells #[.int .i64 0, .int .i64 0, .int .i64 0] 72) := ⟨_, rfl⟩
  have hb0 : Below w.heap.size w w0 := by rw [hw0]; exact ((Below.refl _ _).alloc (Nat.le_refl _) _).alloc (by simp) _
  obtain ⟨G, hG⟩ : ∃ G, G = w0.heap.size := ⟨_, rfl⟩
  have hGs : G = w.heap.size + 2 := by rw [hG, hw0]; simp
  have hbl : b < w.heap.size := by obtain ⟨D, hown, _⟩ := h.own; exact hown.lt
  have hwb : w0.heap[b]? = w.heap[b]? := hb0.block b hbl
  have hl1 := hlook w0.drew hwb
  have hl2 := hlook (w0.alloc (.cells #[.int .i64 0, .int .i64 0, .int .i64 0] 72)).drew (by rw [← hwb]; exact (MapKept.heap_alloc w0 _).2 b (by omega))
  have hm := h.box.below hb0 h.box.lt
  have hm0 : w0.cell? ⟨p, 0, none⟩ = some (.map (some b)) := hm.cell 0
  have hway : Blk w0 w.heap.size 75 #[.int .i64 f, .int .i64 c] := by rw [hw0]; exact (Blk.new w _ _).alloc _
  have hy0 : w0.cell? ⟨w.heap.size, 0, none⟩ = some (.int .i64 f) := hway.cell 0
  have hy1 : w0.cell? ⟨w.heap.size, 1, none⟩ = some (.int .i64 c) := hway.cell 1
  simp only [wayV, noteV] at hl1 hl2 ⊢
  have HR : Hid (Blk w0 (w.heap.size + 1) 72 #[.int .i64 0, .int .i64 0, .int .i64 0]) := Lib.hid (by
    rw [hw0]
    have := Blk.new (w.alloc (.cells #[.int .i64 f, .int .i64 c] 75)) 72 #[.int .i64 0, .int .i64 0, .int .i64 0]
    rw [World.size_alloc] at this
    exact this)
  have hlp : p < w0.heap.size := hm.lt
  have hlw : w.heap.size < w0.heap.size := by omega
  have HLK := Lib.hid hlk
  have HB := Lib.hid (And.intro hb0 (And.intro hway (And.intro hGs hbl)))
  clear hlook hlk hm hway hb0 hwb h hbl hGs
  go_enter Try.func41, Try.ntmps41
  go_wp2_with fail
  rw [← hw0]
  clear hw0
  go_big_region
  all_goals (
    have hBo := HB.out
    have hR0 : Blk w0 (w.heap.size + 1) 72 #[.int .i64 0, .int .i64 0, .int .i64 0] := HR.out
    have hN1 : Blk (w0.alloc (.cells #[.int .i64 a, .int .i64 b', .int .i64 r'] 72)).drew G 72 #[.int .i64 a, .int .i64 b', .int .i64 r'] := by rw [hG]; exact (Blk.new w0 _ _).drew
    have hR1 : Blk (w0.alloc (.cells #[.int .i64 a, .int .i64 b', .int .i64 r'] 72)).drew (w.heap.size + 1) 72 #[.int .i64 0, .int .i64 0, .int .i64 0] := (hR0.alloc _).drew
    have hb1 : Below w.heap.size w (w0.alloc (.cells #[.int .i64 a, .int .i64 b', .int .i64 r'] 72)).drew := (hBo.1.alloc (by omega) _).drew
    have hGs := Lib.hid hBo.2.2.1
    have hne1 : ¬ w.heap.size + 1 = G := by have := hGs.out; omega
    have hne2 : ¬ G = w.heap.size + 1 := by have := hGs.out; omega
    generalize (w0.alloc (.cells #[.int .i64 a, .int .i64 b', .int .i64 r'] 72)).drew = W1 at *
    simp only [← hG]
    clear hl1 hl2 hm0 hy0 hy1 hlp hlw HB hBo hR0 HR hG
    have hc0 := hR1.cell 0
    have hc1 := hR1.cell 1
    have hc2 := hR1.cell 2
    have hf0 := hR1.frozen 0
    have hf1 := hR1.frozen 1
    have hf2 := hR1.frozen 2
    have hn0 := hN1.cell 0
    have hn1 := hN1.cell 1
    have hn2 := hN1.cell 2
    have hg0 := hN1.frozen 0
    have hg1 := hN1.frozen 1
    have hg2 := hN1.frozen 2
    rcases hs : look L (f, c) with _ | v
    · have HC : Hid (cnt L (f, c) r = (0, r + 1)) := Lib.hid (by rw [cnt_eq, hs])
      clear hs
      simp only [Option.isSome_none]
      go_wp2_with fail
      obtain ⟨j1, j2⟩ := note_store hR1 hb1 (Nat.le_succ _) (.int .i64 0) (.int .i64 (r + 1)) (.int .i64 r)
      refine bodyPost_ret (v := noteV 0 (r + 1) r) ?_ rfl ?_
      · have e0 := j1.cell 0
        have e1 := j1.cell 1
        have e2 := j1.cell 2
        simp [results, Try.f41, go_sem, e0, e1, e2, noteV]
      · exact ⟨by rw [HC.out]; rfl, j2⟩
    · have hv := HLK.out v hs
      subst hv
      have hok : noteOk (a, b', r') := (hgd.ok _ (look_some hs)).2
      simp only [noteOk] at hok
      have HC : Hid (cnt L (f, c) r = (min a r, max (min b' (r + 1)) (min a r + 1))) := Lib.hid (by rw [cnt_eq, hs]; rfl)
      clear hs HLK
      obtain ⟨lo, hlo, hm1⟩ := min_named a r
      obtain ⟨m1, hm, hm2⟩ := min_named b' (r + 1)
      obtain ⟨hi, hhi, hm3⟩ := max_named m1 (lo + 1)
      have hlo0 : 0 ≤ lo := by omega
      have hlo1 : lo ≤ 1125899906842624 := by omega
      rw [← hlo, ← hm, ← hhi] at HC
      clear hlo hm hhi hok
      simp only [Option.isSome_some]
      go_wp2_with fail
      have hG2 : w.heap.size ≤ G := by have := hGs.out; omega
      have hR2 := ((hR1.far (p := ⟨G, 0, none⟩) hne1 (.int .i64 lo)).far (p := ⟨G, 2, none⟩) hne1 (.int .i64 r)).far (p := ⟨G, 1, none⟩) hne1 (.int .i64 hi)
      have hb2 := ((hb1.setCell (p := ⟨G, 0, none⟩) hG2 (.int .i64 lo)).setCell (p := ⟨G, 2, none⟩) hG2 (.int .i64 r)).setCell (p := ⟨G, 1, none⟩) hG2 (.int .i64 hi)
      obtain ⟨j1, j2⟩ := note_store hR2 hb2 (Nat.le_succ _) (.int .i64 lo) (.int .i64 hi) (.int .i64 r)
      refine bodyPost_ret (v := noteV lo hi r) ?_ rfl ?_
      · have e0 := j1.cell 0
        have e1 := j1.cell 1
        have e2 := j1.cell 2
        simp [results, Try.f41, go_sem, e0, e1, e2, noteV]
      · exact ⟨by rw [HC.out]; rfl, j2⟩)

end Go.Proofs.Ytdobpicamibgpaa
