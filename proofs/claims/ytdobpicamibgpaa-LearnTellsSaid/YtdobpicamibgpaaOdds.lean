/-
  A mind: Copy, Odds.
-/
import Derived.Test.YtdobpicamibgpaaOlder
import Derived.Test.YtdobpicamibgpaaFrac
import Derived.Shelf.SlMaps.Clone
namespace Go.Proofs.Ytdobpicamibgpaa
open Go.RowKit Go.Maps
set_option linter.unusedVariables false
set_option linter.unusedSimpArgs false
attribute [local go_sem] Oper.semAt_some

set_option maxRecDepth 100000 in
theorem mclone_any (w : World) (b n : Nat) (D : DataW Unit) (h : w.ownsMap Try.prog 75 (noteElem (H := Unit)) b n D) : Calls Try.prog 44 #[.map (some b)] w fun e w' => e = .returned (.map (some w.heap.size)) ∧ w'.ownsMap Try.prog 75 (noteElem (H := Unit)) w.heap.size n D ∧ Below w.heap.size w w' ∧ w.heap.size < w'.heap.size := by
  obtain ⟨es, clock, hb, F, hs, hD⟩ := h
  have hq := fun w => run_eql_map_nil_sl (P := Try.prog) w 58 _ _ (some b) Try.underlying58
  have hf : (w.alloc (.map es clock)).ownsMap Try.prog 75 (noteElem (H := Unit)) w.heap.size n D := ⟨es, clock, (MapKept.heap_alloc w _).1, F, hs, hD⟩
  have hbl : Below w.heap.size w (w.alloc (.map es clock)) := (Below.refl _ _).alloc (Nat.le_refl _) _
  have HF := Lib.hid (And.intro hf hbl)
  clear hf hbl hs hD F
  go_enter Try.func44, Try.ntmps44
  go_wp2
  rw [run_callFunc_extern Try.func61 (by kernel_rfl) (by kernel_rfl) (by kernel_rfl) (e := Extern.MapsClone.clone) (by kernel_rfl), run_maps_clone_sl w 58 hb]
  simp only [Result.andThen]
  rw [Oper.upon_value]
  go_wp2
  rw [run_typeAssert_map_sl _ 58 _ _ _ _ Try.underlying58]
  simp only [Result.andThen]
  rw [Oper.upon_value]
  go_wp2
  go_ret
  exact ⟨rfl, HF.out.1, HF.out.2, by simp⟩

theorem copy_any (w : World) (p b n : Nat) (L : Notes) (h : MindAt w p b n L) : Calls Try.prog 21 #[.pointer (some ⟨p, 0, none⟩)] w fun e w' => ∃ p2 b2, e = .returned (.pointer (some ⟨p2, 0, none⟩)) ∧ MindAt w' p2 b2 n L ∧ w.heap.size ≤ p2 ∧ w.heap.size ≤ b2 ∧ Below w.heap.size w w' := by
  obtain ⟨D, hown, hs⟩ := h.own
  have hc : w.cell? ⟨p, 0, none⟩ = some (.map (some b)) := h.box.cell 0
  have HO := Lib.hid hown
  have HS := Lib.hid hs
  clear hown hs h
  go_enter Try.func21, Try.ntmps21
  go_wp2_with fail
  refine (mclone_any w b n D HO.out).mono ?_
  rintro e w1 ⟨rfl, hown1, hb, hlt⟩
  have H1 := Lib.hid (And.intro hown1 (And.intro hb hlt))
  clear hown1 hb hlt
  go_wp2_with fail
  go_ret
  refine ⟨w1.heap.size, w.heap.size, rfl, ⟨Blk.new w1 _ _, ⟨D, H1.out.1.alloc _, HS.out⟩, by have := H1.out.2.2; omega⟩, H1.out.2.1.size, Nat.le_refl _, H1.out.2.1.alloc H1.out.2.1.size _⟩

/-- The odds of an amount: above and below, in lowest terms. -/
def oN (L : Notes) (e : E4) (x : Int) : Nat := (oddN L e x).toNat
def oD (L : Notes) (e : E4) : Nat := (oddD L e).toNat
def oddA (L : Notes) (e : E4) (x : Int) : List Nat := if oddOk e x then digs (oN L e x / Nat.gcd (oN L e x) (oD L e)) else []
def oddB (L : Notes) (e : E4) (x : Int) : List Nat := if oddOk e x then digs (oD L e / Nat.gcd (oN L e x) (oD L e)) else []
def RetQ (w : World) (L : Notes) (e : E4) (x : Int) (y : Ending) (w' : World) : Prop :=
  ∃ A n c B m d, y = .returned (.tuple #[.agg #[.slice A n c, .slice B m d], .bool (oddOk e x)]) ∧ Rd w' w'.heap.size A n c (oddA L e x) ∧ Rd w' w'.heap.size B m d (oddB L e x) ∧ Below w.heap.size w w'

set_option maxRecDepth 100000 in
set_option maxHeartbeats 1000000 in
theorem odds_any (w : World) (p b n : Nat) (L : Notes) (h : MindAt w p b n L) (hgd : Good L) (e : Ed) (x : Int) : Calls Try.prog 23 #[.pointer (some ⟨p, 0, none⟩), e.v, .int .i64 x] w (RetQ w L e.e4 x) := by
  obtain ⟨f, t, c, r, p0, p1, p2, p3, p4⟩ := e
  obtain ⟨cs, hcs⟩ : ∃ cs : Array Value, cs = #[.int .i64 f, .int .i64 t, .int .i64 c, .int .i64 r, .int .i64 p0, .int .i64 p1, .int .i64 p2, .int .i64 p3, .int .i64 p4] := ⟨_, rfl⟩
  obtain ⟨w0, hw0⟩ : ∃ w0, w0 = (w.alloc (.cells cs 26)).alloc (.cells #[.slice none 0 0, .slice none 0 0] 42) := ⟨_, rfl⟩
  have hb0 : Below w.heap.size w w0 := by rw [hw0]; exact ((Below.refl _ _).alloc (Nat.le_refl _) _).alloc (by simp) _
  have J0 : Blk w0 w.heap.size 26 cs := by rw [hw0]; exact (Blk.new w _ _).alloc _
  have R0 : Blk w0 (w.heap.size + 1) 42 #[.slice none 0 0, .slice none 0 0] := by
    rw [hw0]
    have := Blk.new (w.alloc (.cells cs 26)) 42 #[.slice none 0 0, .slice none 0 0]
    rw [World.size_alloc] at this
    exact this
  have hM0 := h.on hb0
  rw [hcs] at hw0 J0
  clear hcs
  have j0 := J0.cell 0
  have j1 := J0.cell 1
  have j2 := J0.cell 2
  have j3 := J0.cell 3
  have j4 := J0.cell 4
  have j5 := J0.cell 5
  have j6 := J0.cell 6
  have j7 := J0.cell 7
  have j8 := J0.cell 8
  simp only [Ed.v, Ed.cs]
  go_enter Try.func23, Try.ntmps23
  go_wp2_with fail
  rw [← hw0]
  clear hw0
  go_wp2_with fail
  refine (may_any ⟨f, t, c, r, p0, p1, p2, p3, p4⟩ w0).mono ?_
  rintro y w1 ⟨rfl, hb⟩
  have J := J0.below hb J0.lt
  have R := R0.below hb R0.lt
  have hM := hM0.on hb
  have hb1 := bltB hb0 hb0.size hb
  clear hb j0 j1 j2 j3 j4 j5 j6 j7 j8 hM0 h J0 R0 hb0
  have HE : Hid (oddOk (Ed.e4 ⟨f, t, c, r, p0, p1, p2, p3, p4⟩) x = (mayB f t c r && (decide (0 ≤ x) && decide (x ≤ r)))) := Lib.hid rfl
  have hj0 := J.cell 0
  have hj1 := J.cell 1
  have hj2 := J.cell 2
  have hj3 := J.cell 3
  have hj4 := J.cell 4
  have hj5 := J.cell 5
  have hj6 := J.cell 6
  have hj7 := J.cell 7
  have hj8 := J.cell 8
  have hr0 := R.cell 0
  have hr1 := R.cell 1
  have hf0 := R.frozen 0
  have hf1 := R.frozen 1
  simp only
  by_cases hok : (mayB f t c r && (decide (0 ≤ x) && decide (x ≤ r))) = true
  · simp only [Bool.and_eq_true, decide_eq_true_eq] at hok
    obtain ⟨hm, hx0, hx1⟩ := hok
    have HT : Hid (oddOk (Ed.e4 ⟨f, t, c, r, p0, p1, p2, p3, p4⟩) x = true) := Lib.hid (by rw [HE.out, hm, decide_eq_true hx0, decide_eq_true hx1]; rfl)
    have hs := mayB_iff.1 hm
    have hrr := hs.2.2.2.2.1
    have hrm := hs.2.2.2.2.2
    have hcnt := cnt_ok hgd (f, c) hrr
    rw [hm]
    clear HE
    go_wp2_with fail
    refine (bounds_any w1 p b n L hM hgd ⟨f, t, c, r, p0, p1, p2, p3, p4⟩).mono ?_
    rintro y w2 ⟨rfl, hb⟩
    have HB : Hid (bnd L (Ed.e4 ⟨f, t, c, r, p0, p1, p2, p3, p4⟩) = cnt L (f, c) r) := Lib.hid (by unfold bnd; rw [if_pos]; rfl; exact hm)
    rw [HB.out]
    have R2 := R.below hb R.lt
    have hb2 := bltB hb1 hb1.size hb
    have HN : Hid (oN L (Ed.e4 ⟨f, t, c, r, p0, p1, p2, p3, p4⟩) x = ((cnt L (f, c) r).2 - min (max x (cnt L (f, c) r).1) (cnt L (f, c) r).2).toNat) := Lib.hid rfl
    have HD : Hid (oD L (Ed.e4 ⟨f, t, c, r, p0, p1, p2, p3, p4⟩) = ((cnt L (f, c) r).2 - (cnt L (f, c) r).1).toNat) := Lib.hid rfl
    clear hb R J hM hj0 hj1 hj2 hj3 hj4 hj5 hj6 hj7 hj8 hr0 hr1 hf0 hf1 hb1 HB
    obtain ⟨lo, hlo⟩ : ∃ lo, (cnt L (f, c) r).1 = lo := ⟨_, rfl⟩
    obtain ⟨hi, hhi⟩ : ∃ hi, (cnt L (f, c) r).2 = hi := ⟨_, rfl⟩
    rw [hlo, hhi] at hcnt HN
    rw [hlo, hhi] at HD
    simp only [hlo, hhi]
    clear hlo hhi
    obtain ⟨z1, hz1, hv1⟩ := max_named x lo
    obtain ⟨z2, hz2, hv2⟩ := min_named z1 hi
    obtain ⟨N, hN⟩ : ∃ N : Nat, hi - z2 = (N : Int) := ⟨(hi - z2).toNat, by omega⟩
    obtain ⟨D, hD⟩ : ∃ D : Nat, hi - lo = (D : Int) := ⟨(hi - lo).toNat, by omega⟩
    have HN2 : Hid (oN L (Ed.e4 ⟨f, t, c, r, p0, p1, p2, p3, p4⟩) x = N) := Lib.hid (by rw [HN.out, ← hz1, ← hz2, hN]; rfl)
    have HD2 : Hid (oD L (Ed.e4 ⟨f, t, c, r, p0, p1, p2, p3, p4⟩) = D) := Lib.hid (by rw [HD.out, hD]; rfl)
    have hw1 : IntKind.i64.wrap (hi - z2) = (N : Int) := by rw [IntWalk.i64_in _ (by omega), hN]
    have hw2 : IntKind.i64.wrap (hi - lo) = (D : Int) := by rw [IntWalk.i64_in _ (by omega), hD]
    have hNb : N < 18446744073709551616 := by omega
    have hDb : D < 18446744073709551616 := by omega
    have hD0 : 0 < D := by omega
    have HZ := Lib.hid (And.intro hNb (And.intro hDb hD0))
    have hu1 : IntKind.u64.wrap (N : Int) = (N : Int) := by simp [IntKind.wrap, IntKind.signed, IntKind.bits]; omega
    have hu2 : IntKind.u64.wrap (D : Int) = (D : Int) := by simp [IntKind.wrap, IntKind.signed, IntKind.bits]; omega
    clear HN HD hz1 hz2 hcnt hN hD hs hNb hDb hD0 hx0 hx1 hrr hrm hm
    go_wp2_with fail
    refine (fof_any w2 N D HZ.out.1 HZ.out.2.1).mono ?_
    rintro y w3 ⟨A, n', c', B, m', d', rfl, r1, r2, hb⟩
    have hD0 := HZ.out.2.2
    rw [if_neg (Nat.pos_iff_ne_zero.1 hD0)] at r1 r2
    rw [decide_eq_true hD0]
    have R3 := R2.below hb R2.lt
    have hb3 := bltB hb2 hb2.size hb
    have hc0 := R3.cell 0
    have hc1 := R3.cell 1
    have hf0 := R3.frozen 0
    have hf1 := R3.frozen 1
    clear hb R2 hb2
    go_wp2_with fail
    obtain ⟨h4, q1, q2, hb4⟩ := fr_store R3 r1 r2 hb3 (Nat.le_succ _)
    refine bodyPost_ret (v := .tuple #[.agg #[.slice A n' c', .slice B m' d'], .bool true]) ?_ rfl ?_
    · have e0 := h4.cell 0
      have e1 := h4.cell 1
      simp [results, Try.f23, go_sem, e0, e1]
    · refine ⟨A, n', c', B, m', d', by rw [HT.out], ?_, ?_, hb4⟩
      · unfold oddA; rw [if_pos HT.out, HN2.out, HD2.out]; exact q1
      · unfold oddB; rw [if_pos HT.out, HN2.out, HD2.out]; exact q2
  · have HT : Hid (oddOk (Ed.e4 ⟨f, t, c, r, p0, p1, p2, p3, p4⟩) x = false) := Lib.hid (by rw [HE.out]; simpa using hok)
    have HA : Hid (oddA L (Ed.e4 ⟨f, t, c, r, p0, p1, p2, p3, p4⟩) x = []) := Lib.hid (by unfold oddA; rw [if_neg (by rw [HT.out]; decide)])
    have HB : Hid (oddB L (Ed.e4 ⟨f, t, c, r, p0, p1, p2, p3, p4⟩) x = []) := Lib.hid (by unfold oddB; rw [if_neg (by rw [HT.out]; decide)])
    rcases hm : mayB f t c r with _ | _
    · clear hok HE
      go_wp2_with fail
      obtain ⟨h4, q1, q2, hb4⟩ := fr_store R (Rd.nil _ _) (Rd.nil _ _) hb1 (Nat.le_succ _)
      refine bodyPost_ret (v := .tuple #[.agg #[.slice none 0 0, .slice none 0 0], .bool false]) ?_ rfl ?_
      · have e0 := h4.cell 0
        have e1 := h4.cell 1
        simp [results, Try.f23, go_sem, e0, e1]
      · refine ⟨none, 0, 0, none, 0, 0, by rw [HT.out], ?_, ?_, hb4⟩
        · rw [HA.out]; exact q1
        · rw [HB.out]; exact q2
    · by_cases hx0 : 0 ≤ x
      · have hx1 : ¬ x ≤ r := fun hx1 => hok (by rw [hm, decide_eq_true hx0, decide_eq_true hx1]; rfl)
        clear hok HE
        go_wp2_with fail
        obtain ⟨h4, q1, q2, hb4⟩ := fr_store R (Rd.nil _ _) (Rd.nil _ _) hb1 (Nat.le_succ _)
        refine bodyPost_ret (v := .tuple #[.agg #[.slice none 0 0, .slice none 0 0], .bool false]) ?_ rfl ?_
        · have e0 := h4.cell 0
          have e1 := h4.cell 1
          simp [results, Try.f23, go_sem, e0, e1]
        · refine ⟨none, 0, 0, none, 0, 0, by rw [HT.out], ?_, ?_, hb4⟩
          · rw [HA.out]; exact q1
          · rw [HB.out]; exact q2
      · clear hok HE
        go_wp2_with fail
        obtain ⟨h4, q1, q2, hb4⟩ := fr_store R (Rd.nil _ _) (Rd.nil _ _) hb1 (Nat.le_succ _)
        refine bodyPost_ret (v := .tuple #[.agg #[.slice none 0 0, .slice none 0 0], .bool false]) ?_ rfl ?_
        · have e0 := h4.cell 0
          have e1 := h4.cell 1
          simp [results, Try.f23, go_sem, e0, e1]
        · refine ⟨none, 0, 0, none, 0, 0, by rw [HT.out], ?_, ?_, hb4⟩
          · rw [HA.out]; exact q1
          · rw [HB.out]; exact q2

end Go.Proofs.Ytdobpicamibgpaa
