/-
  The document's own minds: small functions, count, note.
-/
import Derived.Test.YtdobpicamibgpaaLway
import Derived.Test.YtdobpicamibgpaaNote3
import Derived.Test.YtdobpicamibgpaaApp
import Derived.BigRegion
import Derived.Lib.MinMax
import Derived.Deep.AppendLies
import Derived.Laws.OwnMore

/-
  The document's own minds: New, Known, May, some, part, Back.
-/
namespace Go.Proofs.Ytdobpicamibgpaa
open Go.RowKit
set_option linter.unusedVariables false
set_option linter.unusedSimpArgs false

/-- An entry's cells. -/
def wc (e : (Int × Int) × (Int × Int × Int)) : List Value := [.int .i64 e.1.1, .int .i64 e.1.2, .int .i64 e.2.1, .int .i64 e.2.2.1, .int .i64 e.2.2.2]
def rcells (L : Notes) : List Value := L.flatMap wc
theorem rcells_len (L : Notes) : (rcells L).length = L.length * 5 := by
  unfold rcells
  induction L with
  | nil => rfl
  | cons e L ih => rw [List.flatMap_cons, List.length_append, ih, List.length_cons]; simp [wc]; omega
theorem rcells_at (L : Notes) (k : Nat) (e : (Int × Int) × (Int × Int × Int)) (h : L[k]? = some e) (j : Nat) (hj : j < 5) : (rcells L)[k * 5 + j]? = (wc e)[j]? := by
  unfold rcells
  induction L generalizing k with
  | nil => simp at h
  | cons a L ih =>
    rw [List.flatMap_cons]
    cases k with
    | zero =>
      simp at h
      subst h
      rw [List.getElem?_append_left (by simp [wc]; omega)]
      simp
    | succ k =>
      simp at h
      rw [List.getElem?_append_right (by simp [wc]; omega), show (k + 1) * 5 + j - (wc a).length = k * 5 + j by simp [wc]; omega]
      exact ih k h

/-- Block p holds a mind of the document's: a row of entries. -/
structure RefAt (w : World) (base p : Nat) (L : Notes) : Prop where
  row : ∃ v, Blk w p 63 #[v] ∧ w.ownsRow base 68 5 v L.length (rcells L) ∧ v.ownBlock ≠ some p
  base : base ≤ p

theorem rnew_any (w : World) : Calls Try.prog 11 #[] w fun e w' => ∃ p, e = .returned (.pointer (some ⟨p, 0, none⟩)) ∧ RefAt w' w.heap.size p [] ∧ w.heap.size ≤ p ∧ Below w.heap.size w w' := by
  go_enter Try.func11, Try.ntmps11
  go_wp2_with fail
  go_ret
  exact ⟨w.heap.size, rfl, ⟨⟨_, Blk.new w _ _, World.ownsRow_nil _ _ _ _, by simp [Value.ownBlock]⟩, Nat.le_refl _⟩, Nat.le_refl _, (Below.refl _ _).alloc (Nat.le_refl _) _⟩

theorem row_slice {w : World} {base n : Nat} {e : TypeId} {size : Nat} {v : Value} {xs : List Value} (h : w.ownsRow base e size v n xs) : ∃ A c, v = .slice A n c := by
  rcases h.2 with ⟨rfl, rfl⟩ | ⟨g, cap, cur, rfl, _⟩
  · exact ⟨_, _, rfl⟩
  · exact ⟨_, _, rfl⟩

theorem rknown_any (w : World) (base p : Nat) (L : Notes) (h : RefAt w base p L) : Calls Try.prog 20 #[.pointer (some ⟨p, 0, none⟩)] w fun e w' => e = .returned (.int .i64 L.length) ∧ w = w' := by
  obtain ⟨v, hB, hrow, hne⟩ := h.row
  obtain ⟨A, c, rfl⟩ := row_slice hrow
  have hc := hB.cell 0
  clear hB hrow hne h
  go_enter Try.func20, Try.ntmps20
  go_wp2
  go_ret
  exact ⟨rfl, rfl⟩

set_option maxRecDepth 100000 in
theorem rmay_any (e : Ed) (w : World) : Calls Try.prog 43 #[e.v] w fun x w' => x = .returned (.bool (mayB e.f e.t e.c e.r)) ∧ Below w.heap.size w w' := by
  obtain ⟨f, t, c, r, p0, p1, p2, p3, p4⟩ := e
  simp only [Ed.v, Ed.cs]
  go_enter Try.func43, Try.ntmps43
  go_wp2_with fail
  all_goals go_ret
  all_goals (refine ⟨?_, (Below.refl _ _).alloc (Nat.le_refl _) _⟩)
  all_goals (refine congrArg (fun b => Ending.returned (.bool b)) ?_)
  all_goals (unfold mayB partyB)
  all_goals (rw [show (decide (0 < r)) = decide (1 ≤ r) from rfl])
  all_goals (first | (simp [*]; done) | (simp [*]; omega))

theorem rback_any (e : Ed) (w : World) : Calls Try.prog 38 #[e.v] w fun x w' => x = .returned (Ed.v ⟨e.t, e.f, e.c, e.r, 0, 0, 0, 0, 0⟩) ∧ Below w.heap.size w w' := by
  obtain ⟨f, t, c, r, p0, p1, p2, p3, p4⟩ := e
  have hN := Blk.new (w.alloc (.cells (Ed.cs ⟨f, t, c, r, p0, p1, p2, p3, p4⟩) 26)) 26 #[.int .i64 t, .int .i64 f, .int .i64 c, .int .i64 r, .int .i64 0, .int .i64 0, .int .i64 0, .int .i64 0, .int .i64 0]
  rw [World.size_alloc] at hN
  simp only [Ed.v, Ed.cs] at *
  go_enter Try.func38, Try.ntmps38
  go_wp2_with fail
  refine bodyPost_ret (v := Ed.v ⟨t, f, c, r, 0, 0, 0, 0, 0⟩) ?_ rfl ?_
  · have e0 := hN.cell 0
    have e1 := hN.cell 1
    have e2 := hN.cell 2
    have e3 := hN.cell 3
    have e4 := hN.cell 4
    have e5 := hN.cell 5
    have e6 := hN.cell 6
    have e7 := hN.cell 7
    have e8 := hN.cell 8
    simp only [List.getElem?_toArray, List.getElem?_cons_zero, List.getElem?_cons_succ] at e0 e1 e2 e3 e4 e5 e6 e7 e8
    simp [results, Try.f38, go_sem, e0, e1, e2, e3, e4, e5, e6, e7, e8, Ed.v, Ed.cs]
  · exact ⟨rfl, ((Below.refl _ _).alloc (Nat.le_refl _) _).alloc (by simp) _⟩

set_option maxRecDepth 100000 in
theorem rsome_any (e : Ed) (a : Int) (w : World) : Calls Try.prog 35 #[e.v, .int .i64 a] w fun x w' => x = .returned (.bool (someB e a)) ∧ Below w.heap.size w w' := by
  obtain ⟨f, t, c, r, p0, p1, p2, p3, p4⟩ := e
  have hb0 : Below w.heap.size w (w.alloc (.cells (Ed.cs ⟨f, t, c, r, p0, p1, p2, p3, p4⟩) 26)) := (Below.refl _ _).alloc (Nat.le_refl _) _
  have hB0 : Blk (w.alloc (.cells (Ed.cs ⟨f, t, c, r, p0, p1, p2, p3, p4⟩) 26)) w.heap.size 26 (Ed.cs ⟨f, t, c, r, p0, p1, p2, p3, p4⟩) := Blk.new w _ _
  simp only [Ed.v, Ed.cs] at *
  go_enter Try.func35, Try.ntmps35
  go_wp2_with fail
  generalize w.alloc (.cells #[.int .i64 f, .int .i64 t, .int .i64 c, .int .i64 r, .int .i64 p0, .int .i64 p1, .int .i64 p2, .int .i64 p3, .int .i64 p4] 26) = w0 at *
  refine (rmay_any ⟨f, t, c, r, p0, p1, p2, p3, p4⟩ w0).mono ?_
  rintro e w1 ⟨rfl, hb⟩
  have hB1 := hB0.below hb hB0.lt
  have hb1 := hb0.trans (hb.mono hb0.size)
  have hc3 : w1.cell? ⟨w.heap.size, 3, none⟩ = some (.int .i64 r) := hB1.cell 3
  clear hb hb0 hB0 hB1
  simp only
  have HM : Hid (someB ⟨f, t, c, r, p0, p1, p2, p3, p4⟩ a = (mayB f t c r && (decide (0 < a) && decide (a ≤ r)))) := Lib.hid rfl
  cases hm : mayB f t c r with
  | false =>
    go_wp2_with fail
    go_ret
    exact ⟨by rw [HM.out, hm]; rfl, hb1⟩
  | true =>
    by_cases h1 : 0 < a
    · have h1' : 1 ≤ a := h1
      by_cases h2 : a ≤ r
      · have HZ : Hid (someB ⟨f, t, c, r, p0, p1, p2, p3, p4⟩ a = true) := Lib.hid (by rw [HM.out, hm, decide_eq_true h1, decide_eq_true h2]; rfl)
        clear h1 HM
        go_wp2_with fail
        go_ret
        exact ⟨by rw [HZ.out]; rfl, hb1⟩
      · have HZ : Hid (someB ⟨f, t, c, r, p0, p1, p2, p3, p4⟩ a = false) := Lib.hid (by rw [HM.out, hm, decide_eq_false h2, Bool.and_false, Bool.and_false])
        clear h1 HM
        go_wp2_with fail
        go_ret
        exact ⟨by rw [HZ.out]; rfl, hb1⟩
    · have h1' : ¬ 1 ≤ a := h1
      have HZ : Hid (someB ⟨f, t, c, r, p0, p1, p2, p3, p4⟩ a = false) := Lib.hid (by rw [HM.out, hm, decide_eq_false h1, Bool.false_and, Bool.and_false])
      clear h1 HM
      go_wp2_with fail
      go_ret
      exact ⟨by rw [HZ.out]; rfl, hb1⟩

theorem rpart_any (n d : Int) (w : World) (h0 : 0 ≤ n) (hn : n ≤ 9223372036854775806) (hd : 0 < d) : Calls Try.prog 39 #[.int .i64 n, .int .i64 d] w fun x w' => x = .returned (.int .i64 (upI n d)) ∧ Below w.heap.size w w' := by
  have hu : upI n d = n / d + min (n % d) 1 := by
    unfold upI
    have := Int.emod_nonneg n (by omega : d ≠ 0)
    split <;> omega
  have h1 := Int.emod_nonneg n (by omega : d ≠ 0)
  have h2 := Int.ediv_nonneg h0 (by omega : 0 ≤ d)
  have h3 : n / d ≤ n := Int.ediv_le_self _ h0
  have HU := Lib.hid hu
  obtain ⟨q, hq⟩ : ∃ q, n / d = q := ⟨_, rfl⟩
  obtain ⟨m, hm⟩ : ∃ m, n % d = m := ⟨_, rfl⟩
  rw [hq] at h2 h3
  rw [hm] at h1
  obtain ⟨z, hz, hv⟩ : ∃ z, z = min m 1 ∧ ∀ (ts : Array TypeId) (t : TypeId) (w : World), (Builtin.min_ ts t #[.int .i64 m, .int .i64 1]).run Try.prog w = .ok (.int .i64 z) w := ⟨_, rfl, fun ts t w => Lib.run_min_ints w ts t _ _ _ _⟩
  have hzb : 0 ≤ z ∧ z ≤ 1 := by omega
  have HZ : Hid (upI n d = q + z) := Lib.hid (by rw [HU.out, hq, hm, hz])
  clear hz hu HU
  have hdz : (d == 0) = false := by simp; omega
  have hw : IntKind.i64.wrap (q + z) = q + z := IntWalk.i64_in _ (by omega)
  go_enter Try.func39, Try.ntmps39
  go_wp2_with fail
  go_big_region
  go_wp2_with fail
  go_ret
  exact ⟨by rw [HZ.out]; rfl, (Below.refl _ _).drew⟩

end Go.Proofs.Ytdobpicamibgpaa

/-
  The document's own minds: count, Bounds.
-/
namespace Go.Proofs.Ytdobpicamibgpaa
open Go.RowKit
set_option linter.unusedVariables false
set_option linter.unusedSimpArgs false

theorem RefAt.on {w w' : World} {base p : Nat} {L : Notes} (h : RefAt w base p L) (hb : Below w.heap.size w w') : RefAt w' base p L := by
  obtain ⟨v, hB, hrow, hne⟩ := h.row
  refine ⟨⟨v, hB.below hb hB.lt, hrow.kept (row := none) ⟨hb.os, hb.tape, hb.output, hb.size, fun i hi _ => hb.block i hi⟩ ?_, hne⟩, h.base⟩
  cases hv : v.ownBlock with
  | none => exact .inl rfl
  | some g => exact .inr (by simp)

/-- An entry's place. -/
theorem RefAt.at_ {w : World} {base p : Nat} {L : Notes} (h : RefAt w base p L) {j : Nat} {e : (Int × Int) × (Int × Int × Int)} (he : L[j]? = some e) :
    ∃ g c, w.cell? ⟨p, 0, none⟩ = some (.slice (some ⟨g, 0, none⟩) L.length c) ∧ w.cell? ⟨g, j * 5, none⟩ = some (.int .i64 e.1.1) ∧ w.cell? ⟨g, j * 5 + 1, none⟩ = some (.int .i64 e.1.2) ∧ w.cell? ⟨g, j * 5 + 2, none⟩ = some (.int .i64 e.2.1) ∧
      w.cell? ⟨g, j * 5 + 3, none⟩ = some (.int .i64 e.2.2.1) ∧ w.cell? ⟨g, j * 5 + 4, none⟩ = some (.int .i64 e.2.2.2) ∧ g ≠ p ∧ base ≤ g ∧ w.ownsRow base 68 5 (.slice (some ⟨g, 0, none⟩) L.length c) L.length (rcells L) ∧ Blk w p 63 #[.slice (some ⟨g, 0, none⟩) L.length c] := by
  obtain ⟨v, hB, hrow, hne⟩ := h.row
  have hj : j < L.length := (List.getElem?_eq_some_iff.1 he).1
  rcases hrow.2 with ⟨_, h0⟩ | ⟨g, cap, cur, rfl, hb, _⟩
  · omega
  · have at5 := fun i (hi : i < 5) => (hrow.cellAt (j * 5 + i) (by omega)).trans (rcells_at L j e he i hi)
    refine ⟨g, cap, hB.cell 0, at5 0 (by omega), at5 1 (by omega), at5 2 (by omega), at5 3 (by omega), at5 4 (by omega), ?_, hb, hrow, hB⟩
    intro e2
    apply hne
    rw [e2]; rfl

theorem cnt_take {L : Notes} (ho : L.Pairwise fun a b => a.1 ≠ b.1) {i : Nat} {e : (Int × Int) × (Int × Int × Int)} (he : L[i]? = some e) (k : Int × Int) (r : Int) : cnt (L.take (i + 1)) k r = if e.1 = k then cnt1 e.2 r else cnt (L.take i) k r := by
  rw [cnt_eq, cnt_eq, List.take_add_one, he, look_append]
  simp only [Option.toList_some]
  rw [look_cons]
  by_cases hk : e.1 = k
  · rw [if_pos hk, if_pos hk]
    have hn : look (L.take i) k = none := by
      cases hl : look (L.take i) k with
      | none => rfl
      | some v =>
        exfalso
        have hm := look_some hl
        obtain ⟨m, hm1, hm2⟩ := List.getElem_of_mem hm
        have hml : m < i := by
          have := hm1
          rw [List.length_take] at this
          omega
        have hi : i < L.length := (List.getElem?_eq_some_iff.1 he).1
        have h2 : L[m]'(by omega) = (k, v) := by rw [← hm2, List.getElem_take]
        have h3 := List.pairwise_iff_getElem.1 ho m i (by omega) hi hml
        rw [h2, (List.getElem?_eq_some_iff.1 he).2] at h3
        exact h3 hk.symm
    rw [hn]; rfl
  · rw [if_neg hk, if_neg hk]
    simp [look]

theorem min_named2 (x y : Int) : ∃ z, z = min x y ∧ ∀ (ts : Array TypeId) (t : TypeId) (w : World), (Builtin.min_ ts t #[.int .i64 x, .int .i64 y]).run Try.prog w = .ok (.int .i64 z) w := ⟨_, rfl, fun ts t w => Lib.run_min_ints w ts t _ _ _ _⟩
theorem max_named2 (x y : Int) : ∃ z, z = max x y ∧ ∀ (ts : Array TypeId) (t : TypeId) (w : World), (Builtin.max_ ts t #[.int .i64 x, .int .i64 y]).run Try.prog w = .ok (.int .i64 z) w := ⟨_, rfl, fun ts t w => Lib.run_max_ints w ts t _ _ _ _⟩

set_option maxRecDepth 100000 in
set_option maxHeartbeats 1000000 in
theorem rcount_any (w : World) (base p : Nat) (L : Notes) (h : RefAt w base p L) (hgd : Good L) (hn : L.length < 1000000) (e : Ed) (hr0 : 0 < e.r) (hr1 : e.r ≤ 1125899906842624) : Calls Try.prog 36 #[.pointer (some ⟨p, 0, none⟩), e.v] w fun y w' => y = .returned (.tuple #[.int .i64 (cnt L (e.f, e.c) e.r).1, .int .i64 (cnt L (e.f, e.c) e.r).2]) ∧ Below w.heap.size w w' := by
  obtain ⟨f, t, c, r, p0, p1, p2, p3, p4⟩ := e
  simp only at hr0 hr1
  obtain ⟨w0, hw0⟩ : ∃ w0, w0 = w.alloc (.cells #[.int .i64 f, .int .i64 t, .int .i64 c, .int .i64 r, .int .i64 p0, .int .i64 p1, .int .i64 p2, .int .i64 p3, .int .i64 p4] 26) := ⟨_, rfl⟩
  have hb0 : Below w.heap.size w w0 := by rw [hw0]; exact (Below.refl _ _).alloc (Nat.le_refl _) _
  have J : Blk w0 w.heap.size 26 #[.int .i64 f, .int .i64 t, .int .i64 c, .int .i64 r, .int .i64 p0, .int .i64 p1, .int .i64 p2, .int .i64 p3, .int .i64 p4] := by rw [hw0]; exact Blk.new w _ _
  have hR := h.on hb0
  have j3 := J.cell 3
  simp only [Ed.v, Ed.cs]
  clear h
  have hw1 : IntKind.i64.wrap (r + 1) = r + 1 := IntWalk.i64_in _ (by omega)
  go_enter Try.func36, Try.ntmps36
  go_wp2_with fail
  rw [← hw0]
  clear hw0
  go_wp2_with fail
  go_loopw [6, 7, 8] (fun lo hi i wr => ∃ j : Nat, j ≤ L.length ∧ i = .int .i64 j ∧ lo = .int .i64 (cnt (L.take j) (f, c) r).1 ∧ hi = .int .i64 (cnt (L.take j) (f, c) r).2 ∧ Below w0.heap.size w0 wr) (fun _ _ i _ => L.length - (intOf i).toNat)
  case atStart => exact ⟨0, Nat.zero_le _, rfl, rfl, rfl, Below.refl _ _⟩
  case round =>
    obtain ⟨j, hj, rfl, rfl, rfl, hb⟩ := hrel
    have hRr := hR.on hb
    have Jr := J.below hb J.lt
    have hbw := bltB hb0 hb0.size hb
    by_cases hlt : j < L.length
    · obtain ⟨en, hen⟩ : ∃ en, L[j]? = some en := ⟨_, List.getElem?_eq_getElem hlt⟩
      have hst := Lib.hid (cnt_take hgd.once hen (f, c) r)
      have hok := (hgd.ok en (List.mem_of_getElem? hen)).2
      obtain ⟨g, cp, k0, k1, k2, k3, k4, k5, _⟩ := hRr.at_ hen
      obtain ⟨⟨f', c'⟩, ⟨a, b, z⟩⟩ := en
      simp only [noteOk] at hok
      simp only at k1 k2 k3 k4 k5 hst
      have q0 := Jr.cell 0
      have q2 := Jr.cell 2
      have q3 := Jr.cell 3
      have hgl : g < wr.heap.size := World.block_lt_of_cell? wr ⟨g, j * 5, none⟩ k1
      have hwl := Jr.lt
      have hal : Below w0.heap.size w0 (wr.alloc (.cells #[.int .i64 f', .int .i64 c', .int .i64 a, .int .i64 b, .int .i64 z] 68)) := hb.alloc hb.size _
      have HAL := Lib.hid hal
      clear hal hRr Jr hbw hen hb
      obtain ⟨lo, hlo, hv1⟩ := min_named2 a r
      obtain ⟨m1, hm1, hv2⟩ := min_named2 b (r + 1)
      obtain ⟨hi, hhi, hv3⟩ := max_named2 m1 (lo + 1)
      have hw2 : IntKind.i64.wrap (lo + 1) = lo + 1 := IntWalk.i64_in _ (by omega)
      have HV : Hid (cnt1 (a, b, z) r = (lo, hi)) := Lib.hid (by simp only [cnt1]; rw [hhi, hm1, hlo])
      clear hlo hm1 hhi hok
      by_cases hf : f' = f
      · obtain rfl := hf.symm
        by_cases hc : c' = c
        · obtain rfl := hc.symm
          go_wp2_with fail
          go_roundw
          case rel => exact ⟨j + 1, by omega, by go_num, by rw [hst.out, if_pos rfl, HV.out], by rw [hst.out, if_pos rfl, HV.out], HAL.out⟩
          case measure => simp [intOf]; omega
        · go_wp2_with fail
          go_roundw
          case rel => exact ⟨j + 1, by omega, by go_num, by rw [hst.out, if_neg (fun h => hc (by injection h))], by rw [hst.out, if_neg (fun h => hc (by injection h))], HAL.out⟩
          case measure => simp [intOf]; omega
      · go_wp2_with fail
        go_roundw
        case rel => exact ⟨j + 1, by omega, by go_num, by rw [hst.out, if_neg (fun h => hf (by injection h))], by rw [hst.out, if_neg (fun h => hf (by injection h))], HAL.out⟩
        case measure => simp [intOf]; omega
    · have hjn : L.take j = L := List.take_of_length_le (by omega)
      rw [hjn]
      obtain ⟨v, hB, hrow, _⟩ := hRr.row
      obtain ⟨A', c', rfl⟩ := row_slice hrow
      have k0 := hB.cell 0
      clear hB hrow hRr Jr
      have HB := Lib.hid hbw
      clear hbw
      go_wp2_with fail
      exact bodyPost_ret (v := .tuple #[.int .i64 (cnt L (f, c) r).1, .int .i64 (cnt L (f, c) r).2]) (by simp [results, Try.f36, go_sem]) rfl ⟨rfl, HB.out⟩

end Go.Proofs.Ytdobpicamibgpaa

/-
  The document's own minds: note.
-/
namespace Go.Proofs.Ytdobpicamibgpaa
open Go.RowKit
set_option linter.unusedVariables false
set_option linter.unusedSimpArgs false

theorem infoW : (Try.prog.info? 68).map (fun i => (i.zero, i.size, i.bytes)) = some (some (.agg #[.int .i64 0, .int .i64 0, .int .i64 0, .int .i64 0, .int .i64 0]), 5, 40) := by kernel_rfl

/-- What else there is stays what it is while a mind of the document's is written. -/
structure RefGrown (w w' : World) : Prop where
  os : w'.os = w.os
  tape : w'.tape = w.tape
  output : w'.output = w.output
  size : w.heap.size ≤ w'.heap.size
  block : ∀ i, i < w.heap.size → (∀ cs, w.heap[i]? ≠ some (.cells cs 63 (0, 0))) → (∀ cs, w.heap[i]? ≠ some (.cells cs 68 (0, 0))) → w'.heap[i]? = w.heap[i]?
theorem RefGrown.of_below {w w' : World} (h : Below w.heap.size w w') : RefGrown w w' := ⟨h.os, h.tape, h.output, h.size, fun i hi _ _ => h.block i hi⟩
theorem RefGrown.trans {a b c : World} (h : RefGrown a b) (k : RefGrown b c) : RefGrown a c :=
  ⟨k.os.trans h.os, k.tape.trans h.tape, k.output.trans h.output, Nat.le_trans h.size k.size, fun i hi h1 h2 => by
    have e := h.block i hi h1 h2
    exact (k.block i (Nat.lt_of_lt_of_le hi h.size) (by rw [e]; exact h1) (by rw [e]; exact h2)).trans e⟩

/-- What a written mind leaves. -/
structure RefPost (w w' : World) (base p : Nat) (L : Notes) : Prop where
  mind : RefAt w' base p L
  low : Below base w w'
  grown : RefGrown w w'

theorem put_there2 {L : Notes} (ho : L.Pairwise fun a b => a.1 ≠ b.1) {j : Nat} {e : (Int × Int) × (Int × Int × Int)} (he : L[j]? = some e) (v : Int × Int × Int) : putL L e.1 v = L.set j (e.1, v) := by
  have hj := (List.getElem?_eq_some_iff.1 he).1
  have hs : (look L e.1).isSome = true := by
    rw [look_isSome]
    exact List.any_eq_true.2 ⟨e, List.mem_of_getElem? he, by simp⟩
  unfold putL
  rw [if_pos hs]
  refine List.ext_getElem? fun i => ?_
  rw [List.getElem?_map, List.getElem?_set]
  by_cases hij : j = i
  · subst hij
    rw [if_pos rfl, he]
    simp [hj]
  · rw [if_neg hij]
    cases hi : L[i]? with
    | none => rfl
    | some a =>
      simp only [Option.map_some]
      rw [if_neg]
      intro hk
      have hil := (List.getElem?_eq_some_iff.1 hi).1
      have h1 := (List.getElem?_eq_some_iff.1 hi).2
      have h2 := (List.getElem?_eq_some_iff.1 he).2
      rcases Nat.lt_or_gt_of_ne hij with h | h
      · have := List.pairwise_iff_getElem.1 ho j i hj hil h
        rw [h1, h2] at this
        exact this hk.symm
      · have := List.pairwise_iff_getElem.1 ho i j hil hj h
        rw [h1, h2] at this
        exact this hk

theorem put_none {L : Notes} {k : Int × Int} (h : ∀ e ∈ L, e.1 ≠ k) (v : Int × Int × Int) : putL L k v = L ++ [(k, v)] := by
  unfold putL
  rw [if_neg]
  rw [look_isSome]
  intro h1
  obtain ⟨e, he, h2⟩ := List.any_eq_true.1 h1
  exact h e he (by simpa using h2)

theorem rcells_set (L : Notes) {j : Nat} (hj : j < L.length) (e : (Int × Int) × (Int × Int × Int)) :
    ((((((rcells L).set (j * 5) (.int .i64 e.1.1)).set (j * 5 + 1) (.int .i64 e.1.2)).set (j * 5 + 2) (.int .i64 e.2.1)).set (j * 5 + 3) (.int .i64 e.2.2.1)).set (j * 5 + 4) (.int .i64 e.2.2.2)) = rcells (L.set j e) := by
  have hlen := rcells_len L
  refine List.ext_getElem? fun i => ?_
  by_cases hi : i < L.length * 5
  · have hi5 : i = (i / 5) * 5 + i % 5 := by omega
    have hm : i % 5 < 5 := Nat.mod_lt _ (by decide)
    generalize i / 5 = q at *
    generalize i % 5 = m at *
    subst hi5
    have hq : q < L.length := by omega
    by_cases hqj : j = q
    · subst hqj
      rw [rcells_at (L.set j e) j e (by simp [hq]) m hm]
      simp only [List.getElem?_set, List.length_set, hlen]
      rcases (by omega : m = 0 ∨ m = 1 ∨ m = 2 ∨ m = 3 ∨ m = 4) with rfl | rfl | rfl | rfl | rfl
      all_goals (simp [wc]; try omega)
    · rw [rcells_at (L.set j e) q L[q] (by rw [List.getElem?_set_ne hqj, List.getElem?_eq_getElem hq]) m hm]
      rw [List.getElem?_set_ne (by omega), List.getElem?_set_ne (by omega), List.getElem?_set_ne (by omega), List.getElem?_set_ne (by omega), List.getElem?_set_ne (by omega)]
      exact rcells_at L q L[q] (List.getElem?_eq_getElem hq) m hm
  · rw [List.getElem?_eq_none (by simp [hlen]; omega), List.getElem?_eq_none (by rw [rcells_len]; simp; omega)]

/-- A note stored in its place. -/
theorem RefAt.stored {w : World} {base p g c : Nat} {L : Notes} (hrow : w.ownsRow base 68 5 (.slice (some ⟨g, 0, none⟩) L.length c) L.length (rcells L)) (hB : Blk w p 63 #[.slice (some ⟨g, 0, none⟩) L.length c]) (hg : g ≠ p) (hbase : base ≤ p) (hgb : base ≤ g)
    {j : Nat} (hj : j < L.length) (e : (Int × Int) × (Int × Int × Int)) :
    RefPost w (((((w.setCell ⟨g, j * 5, none⟩ (.int .i64 e.1.1)).setCell ⟨g, j * 5 + 1, none⟩ (.int .i64 e.1.2)).setCell ⟨g, j * 5 + 2, none⟩ (.int .i64 e.2.1)).setCell ⟨g, j * 5 + 3, none⟩ (.int .i64 e.2.2.1)).setCell ⟨g, j * 5 + 4, none⟩ (.int .i64 e.2.2.2)) base p (L.set j e) := by
  obtain ⟨h1, g1⟩ := hrow.stored (j * 5) (.int .i64 e.1.1)
  obtain ⟨h2, g2⟩ := h1.stored (j * 5 + 1) (.int .i64 e.1.2)
  obtain ⟨h3, g3⟩ := h2.stored (j * 5 + 2) (.int .i64 e.2.1)
  obtain ⟨h4, g4⟩ := h3.stored (j * 5 + 3) (.int .i64 e.2.2.1)
  obtain ⟨h5, g5⟩ := h4.stored (j * 5 + 4) (.int .i64 e.2.2.2)
  rw [rcells_set L hj] at h5
  have hB5 := ((((hB.far (p := ⟨g, j * 5, none⟩) hg.symm (.int .i64 e.1.1)).far (p := ⟨g, j * 5 + 1, none⟩) hg.symm (.int .i64 e.1.2)).far (p := ⟨g, j * 5 + 2, none⟩) hg.symm (.int .i64 e.2.1)).far (p := ⟨g, j * 5 + 3, none⟩) hg.symm (.int .i64 e.2.2.1)).far (p := ⟨g, j * 5 + 4, none⟩) hg.symm (.int .i64 e.2.2.2)
  have hlow := (((((Below.refl base w).setCell (p := ⟨g, j * 5, none⟩) hgb (.int .i64 e.1.1)).setCell (p := ⟨g, j * 5 + 1, none⟩) hgb (.int .i64 e.1.2)).setCell (p := ⟨g, j * 5 + 2, none⟩) hgb (.int .i64 e.2.1)).setCell (p := ⟨g, j * 5 + 3, none⟩) hgb (.int .i64 e.2.2.1)).setCell (p := ⟨g, j * 5 + 4, none⟩) hgb (.int .i64 e.2.2.2)
  refine ⟨⟨⟨_, hB5, by rw [List.length_set]; exact h5, fun e2 => hg (by injection e2)⟩, hbase⟩, hlow, ⟨hlow.os, hlow.tape, hlow.output, hlow.size, fun i hi _ h2' => ?_⟩⟩
  have hig : i ≠ g := fun e2 => by
    rcases hrow.2 with ⟨h', _⟩ | ⟨g', cap', cur, h', _, hh, _⟩
    · simp at h'
    · simp only [Value.slice.injEq, Option.some.injEq, Addr.mk.injEq, and_true, true_and] at h'
      obtain ⟨rfl, rfl⟩ := h'
      exact h2' cur (by rw [e2]; exact hh)
  have hne : ∀ k : Nat, some i ≠ some g := fun _ e2 => hig (by injection e2)
  rw [g5.block i (by simpa using hi) (fun e2 => hig (by injection e2)), g4.block i (by simpa using hi) (fun e2 => hig (by injection e2)), g3.block i (by simpa using hi) (fun e2 => hig (by injection e2)), g2.block i (by simpa using hi) (fun e2 => hig (by injection e2)), g1.block i hi (fun e2 => hig (by injection e2))]

end Go.Proofs.Ytdobpicamibgpaa

/-
  The document's own minds: note.
-/
namespace Go.Proofs.Ytdobpicamibgpaa
open Go.RowKit
set_option linter.unusedVariables false
set_option linter.unusedSimpArgs false

/-- The append of these two values runs to an end in this world. -/
def AppOk (P : Program) (t ty : TypeId) (s x : Value) (w : World) : Prop := ∃ v' w', (Builtin.append_ #[t, t] ty #[s, x]).run P w = .ok v' w'
/-- What it tells, and the world behind it. -/
def appV (P : Program) (t ty : TypeId) (s x : Value) (w : World) : Value := match (Builtin.append_ #[t, t] ty #[s, x]).run P w with | .ok v _ => v | .halt _ _ => undef
def appW (P : Program) (t ty : TypeId) (s x : Value) (w : World) : World := match (Builtin.append_ #[t, t] ty #[s, x]).run P w with | .ok _ w' => w' | .halt _ w' => w'

theorem app_of_run {P : Program} {t ty : TypeId} {s x : Value} {w : World} {v' : Value} {w' : World} (h : (Builtin.append_ #[t, t] ty #[s, x]).run P w = .ok v' w') :
    AppOk P t ty s x w ∧ appV P t ty s x w = v' ∧ appW P t ty s x w = w' := ⟨⟨v', w', h⟩, by simp [appV, h], by simp [appW, h]⟩

theorem wp_append_ok {P : Program} {dst : Option Tmp} {s x : Operand} {t ty : TypeId} {pos : String} {after : Array Edge} {guard : Option (Nat × Bool)} {a : Act} {w : World} {K : Act → World → Prop} {Q : Exit → Act → World → Prop}
    (h : AppOk P t ty (a.eval s) (a.eval x) w) :
    Oper.wp P { dst := dst, op := .call { callee := .builtin .append, args := #[s, x], argTypes := #[t, t] }, type := ty, pos := pos, after := after, guard := guard } a w K Q =
      K (a.put dst (appV P t ty (a.eval s) (a.eval x) w)) (appW P t ty (a.eval s) (a.eval x) w) := by
  obtain ⟨v', w', hr⟩ := h
  obtain ⟨_, h2, h3⟩ := app_of_run hr
  rw [h2, h3]
  unfold Oper.wp execOp
  simp only [resolve, invoke, builtin, Sem.run_bind, Sem.run_pure, Result.andThen_ok, List.map_toArray, List.map_cons, List.map_nil, hr]
  rfl

theorem RefPost.drew {w w' : World} {base p : Nat} {L : Notes} (h : RefPost w w' base p L) : RefPost w w'.drew base p L :=
  ⟨h.mind.on ((Below.refl _ _).drew), h.low.drew, h.grown.trans (RefGrown.of_below (Below.refl _ _).drew)⟩
theorem RefPost.after {w a w' : World} {base p : Nat} {L : Notes} (h : RefPost a w' base p L) (hb : Below w.heap.size w a) (hB : base ≤ w.heap.size) : RefPost w w' base p L :=
  ⟨h.mind, (hb.mono hB).trans h.low, (RefGrown.of_below hb).trans h.grown⟩
theorem RefAt.lt {w : World} {base p : Nat} {L : Notes} (h : RefAt w base p L) : p < w.heap.size ∧ base ≤ p := by
  obtain ⟨v, hB, _⟩ := h.row
  exact ⟨hB.lt, h.base⟩

/-- A note appended. -/
theorem RefAt.append {w : World} {base p : Nat} {L : Notes} (h : RefAt w base p L) (hn : L.length < 1000000) (e : (Int × Int) × (Int × Int × Int)) :
    ∃ Av cv, Blk w p 63 #[.slice Av L.length cv] ∧ ∀ W, W = (w.alloc (.cells #[.int .i64 e.1.1, .int .i64 e.1.2, .int .i64 e.2.1, .int .i64 e.2.2.1, .int .i64 e.2.2.2] 68)).drew → ∃ v' w', (∃ A c, v' = .slice A (L.length + 1) c) ∧ (Builtin.append_ #[61, 61] 61 #[.slice Av L.length cv, .slice (some ⟨w.heap.size, 0, none⟩) 1 1]).run Try.prog W = .ok v' w' ∧
      w'.cell? ⟨p, 0, none⟩ = some (.slice Av L.length cv) ∧ w'.frozen? ⟨p, 0, none⟩ = false ∧ RefPost w (w'.setCell ⟨p, 0, none⟩ v') base p (L ++ [e]) := by
  obtain ⟨v, hB, hrow, hne⟩ := h.row
  obtain ⟨Av, cv, hvs⟩ := row_slice hrow
  refine ⟨Av, cv, hvs ▸ hB, fun W hW => ?_⟩
  rw [← hvs]
  have hbW : Below w.heap.size w W := by rw [hW]; exact ((Below.refl _ _).alloc (Nat.le_refl _) _).drew
  obtain ⟨i0, hi, hz0, hz1, hz2⟩ := info_parts infoW
  have hrowW := (h.on hbW)
  have hown : W.ownsRow base 68 5 v L.length (rcells L) := by
    refine hrow.kept (row := none) ⟨hbW.os, hbW.tape, hbW.output, hbW.size, fun i hi _ => hbW.block i hi⟩ ?_
    cases hv : v.ownBlock with
    | none => exact .inl rfl
    | some g => exact .inr (by simp)
  have hN : Blk W w.heap.size 68 #[.int .i64 e.1.1, .int .i64 e.1.2, .int .i64 e.2.1, .int .i64 e.2.2.1, .int .i64 e.2.2.2] := by rw [hW]; exact (Blk.new w _ _).drew
  have hrd : Reads W W.heap.size 5 (some ⟨w.heap.size, 0, none⟩) 1 (wc e) := by
    refine ⟨by simp [wc], fun _ => ⟨_, rfl, hN.lt, fun j u hu => ?_⟩⟩
    rw [addr_add, Nat.zero_add, hN.cell j, ← hu]
    simp [wc]
  have hpb := h.lt
  obtain ⟨v', w', hrun, hown', hgr, hat⟩ := run_append_any (P := Try.prog) W base 61 61 68 i0 _ 5 40 Try.underlying61 hi hz0 hz1 hz2 rfl (by decide) v L.length (rcells L) hown W.heap.size (some ⟨w.heap.size, 0, none⟩) 1 1 (wc e) hrd (by simp [wc, Value.oneCell']) (by simp only [maxLen]; omega) (by omega) (by have := hbW.size; omega)
  have hpW : p < W.heap.size := Nat.lt_of_lt_of_le hpb.1 hbW.size
  have hBW := hB.below hbW hB.lt
  have hB' : Blk w' p 63 #[v] := (hgr.block p hpW (fun e2 => hne e2.symm)).trans hBW
  have hne' : v'.ownBlock ≠ some p := by
    rcases hat with h1 | h1
    · rw [h1]; exact hne
    · rw [h1]; intro e2; injection e2 with e2; omega
  refine ⟨v', w', row_slice hown', hrun, hB'.cell 0, hB'.frozen 0, ⟨⟨v', hB'.set_ 0 v', ?_, hne'⟩, h.base⟩, ?_, ?_⟩
  · have hg2 : w'.grownBy (w'.setCell ⟨p, 0, none⟩ v') (some p) := ⟨rfl, rfl, rfl, by simp, fun i _ hi => Below.heap_setCell w' _ v' i (fun e2 => hi (by rw [e2]))⟩
    have := hown'.kept hg2 (.inr hne')
    rw [List.length_append, List.length_singleton, show rcells (L ++ [e]) = rcells L ++ wc e by unfold rcells; rw [List.flatMap_append]; simp]
    exact this
  · have h1 : Below base w W := hbW.mono (by omega)
    have h2 : Below base W w' := by
      refine (Below.refl base W).grown hgr (by have := hbW.size; omega) (fun k hk => ?_)
      exact (hown.lt k hk).1
    exact (h1.trans h2).setCell (p := ⟨p, 0, none⟩) h.base v'
  · refine ⟨hgr.os.trans hbW.os, hgr.tape.trans hbW.tape, hgr.output.trans hbW.output, Nat.le_trans hbW.size (Nat.le_trans hgr.size (by simp)), fun i hi h1 h2 => ?_⟩
    have hip : i ≠ p := fun e2 => h1 #[v] (by rw [e2]; exact hB)
    have hiv : some i ≠ v.ownBlock := fun e2 => by
      rcases hrow.2 with ⟨rfl, _⟩ | ⟨g, cap, cur, rfl, _, hh, _⟩
      · simp [Value.ownBlock] at e2
      · simp [Value.ownBlock] at e2
        exact h2 cur (by rw [e2]; exact hh)
    rw [Below.heap_setCell w' _ v' i hip, hgr.block i (Nat.lt_of_lt_of_le hi hbW.size) hiv]
    exact hbW.block i hi

attribute [local go_sem ↓] wp_append_ok

set_option maxRecDepth 100000 in
set_option maxHeartbeats 2000000 in
theorem rnote_any (w : World) (base p : Nat) (L : Notes) (h : RefAt w base p L) (ho : L.Pairwise fun a b => a.1 ≠ b.1) (hn : L.length < 1000000) (e : Ed) (lo hi : Int) : Calls Try.prog 37 #[.pointer (some ⟨p, 0, none⟩), e.v, .int .i64 lo, .int .i64 hi] w fun y w' => y = .returned (.tuple #[]) ∧ RefPost w w' base p (putL L (e.f, e.c) (lo, hi, e.r)) := by
  obtain ⟨f, t, c, r, p0, p1, p2, p3, p4⟩ := e
  have hpl := h.lt
  obtain ⟨w0, hw0⟩ : ∃ w0, w0 = (w.alloc (.cells #[.int .i64 f, .int .i64 t, .int .i64 c, .int .i64 r, .int .i64 p0, .int .i64 p1, .int .i64 p2, .int .i64 p3, .int .i64 p4] 26)).alloc (.cells #[.int .i64 f, .int .i64 c, .int .i64 lo, .int .i64 hi, .int .i64 r] 68) := ⟨_, rfl⟩
  have hb0 : Below w.heap.size w w0 := by rw [hw0]; exact ((Below.refl _ _).alloc (Nat.le_refl _) _).alloc (by simp) _
  have J : Blk w0 w.heap.size 26 #[.int .i64 f, .int .i64 t, .int .i64 c, .int .i64 r, .int .i64 p0, .int .i64 p1, .int .i64 p2, .int .i64 p3, .int .i64 p4] := by rw [hw0]; exact (Blk.new w _ _).alloc _
  have K : Blk w0 (w.heap.size + 1) 68 #[.int .i64 f, .int .i64 c, .int .i64 lo, .int .i64 hi, .int .i64 r] := by
    rw [hw0]
    have := Blk.new (w.alloc (.cells #[.int .i64 f, .int .i64 t, .int .i64 c, .int .i64 r, .int .i64 p0, .int .i64 p1, .int .i64 p2, .int .i64 p3, .int .i64 p4] 26)) 68 #[.int .i64 f, .int .i64 c, .int .i64 lo, .int .i64 hi, .int .i64 r]
    rw [World.size_alloc] at this
    exact this
  have hR := h.on hb0
  simp only [Ed.v, Ed.cs]
  clear h
  go_enter Try.func37, Try.ntmps37
  go_wp2_with fail
  rw [← hw0]
  clear hw0
  go_loopw [9] (fun i wr => ∃ j : Nat, j ≤ L.length ∧ i = .int .i64 j ∧ (∀ m, m < j → ∀ en, L[m]? = some en → en.1 ≠ (f, c)) ∧ Below w0.heap.size w0 wr) (fun i _ => L.length - (intOf i).toNat)
  case atStart => exact ⟨0, Nat.zero_le _, rfl, fun m hm => by omega, Below.refl _ _⟩
  case round =>
    obtain ⟨j, hj, rfl, hno, hb⟩ := hrel
    have hRr := hR.on hb
    have Jr := J.below hb J.lt
    have Kr := K.below hb K.lt
    have hbw := bltB hb0 hb0.size hb
    have HNO := Lib.hid hno
    clear hno
    by_cases hlt : j < L.length
    · obtain ⟨en, hen⟩ : ∃ en, L[j]? = some en := ⟨_, List.getElem?_eq_getElem hlt⟩
      obtain ⟨g, cp, k0, k1, k2, k3, k4, k5, hgp, hgb, hrow, hB⟩ := hRr.at_ hen
      have hput := Lib.hid (put_there2 ho hen)
      have HEN := Lib.hid hen
      have q0 := Jr.cell 0
      have q2 := Jr.cell 2
      have HB := Lib.hid (And.intro hb (And.intro hbw (And.intro hrow (And.intro hB (And.intro hgp hgb)))))
      have hf0 := hrow.frozenAt (j * 5)
      have hf1 := hrow.frozenAt (j * 5 + 1)
      have hf2 := hrow.frozenAt (j * 5 + 2)
      have hf3 := hrow.frozenAt (j * 5 + 3)
      have hf4 := hrow.frozenAt (j * 5 + 4)
      have n0 := Kr.cell 0
      have n1 := Kr.cell 1
      have n2 := Kr.cell 2
      have n3 := Kr.cell 3
      have n4 := Kr.cell 4
      obtain ⟨⟨f', c'⟩, ⟨a, b, z⟩⟩ := en
      simp only at k1 k2 k3 k4 k5 hput
      clear hen hbw hrow hB hgp hgb hRr Jr Kr hb
      by_cases hf : f' = f
      · obtain rfl := hf.symm
        by_cases hc : c' = c
        · obtain rfl := hc.symm
          go_wp2_with fail
          go_big_region
          go_wp2_with fail
          go_big_region
          go_wp2_with fail
          have hpost := RefAt.stored HB.out.2.2.1 HB.out.2.2.2.1 HB.out.2.2.2.2.1 hpl.2 HB.out.2.2.2.2.2 hlt ((f, c), (lo, hi, r))
          exact bodyPost_ret (v := .tuple #[]) (by simp [results, Try.f37, go_sem]) rfl ⟨rfl, by rw [hput.out (lo, hi, r)]; exact hpost.drew.drew.after HB.out.2.1 (by omega)⟩
        · go_wp2_with fail
          go_big_region
          go_wp2_with fail
          go_roundw
          case rel => exact ⟨j + 1, by omega, by go_num, fun m hm en' hen' => by
            rcases Nat.lt_or_ge m j with h1 | h1
            · exact HNO.out m h1 en' hen'
            · obtain rfl : m = j := by omega
              rw [HEN.out] at hen'
              cases hen'
              exact fun h => hc (by injection h), HB.out.1.drew⟩
          case measure => simp [intOf]; omega
      · have hfb : (f' == f) = false := by simpa using hf
        have hfd : decide (f' = f) = false := decide_eq_false hf
        go_wp2_with fail
        go_big_region
        go_wp2_with fail
        go_roundw
        case rel => exact ⟨j + 1, by omega, by go_num, fun m hm en' hen' => by
          rcases Nat.lt_or_ge m j with h1 | h1
          · exact HNO.out m h1 en' hen'
          · obtain rfl : m = j := by omega
            rw [HEN.out] at hen'
            cases hen'
            exact fun h => hf (by injection h), HB.out.1.drew⟩
        case measure => simp [intOf]; omega
    · have hjn : j = L.length := by omega
      have hput : putL L (f, c) (lo, hi, r) = L ++ [((f, c), (lo, hi, r))] := put_none (fun en hm => by
        obtain ⟨m, hm1, hm2⟩ := List.getElem_of_mem hm
        exact HNO.out m (by omega) en (by rw [← hm2]; exact List.getElem?_eq_getElem hm1)) _
      obtain ⟨Av, cv, hB, happ⟩ := hRr.append hn ((f, c), (lo, hi, r))
      obtain ⟨v', w', ⟨A', c', hv'⟩, hrun, hc0, hf0, hpost⟩ := happ _ rfl
      subst hv'
      simp only at hrun
      obtain ⟨ha1, ha2, ha3⟩ := app_of_run hrun
      have k0 := hB.cell 0
      have n0 := Kr.cell 0
      have n1 := Kr.cell 1
      have n2 := Kr.cell 2
      have n3 := Kr.cell 3
      have n4 := Kr.cell 4
      have hkl := Kr.lt
      have hpr : p < wr.heap.size := hB.lt
      have HP := Lib.hid (And.intro hpost (And.intro hput hbw))
      clear hpost hput hbw hB Kr Jr hRr happ hrun hb
      go_wp2_with fail
      go_big_region
      go_wp2_with fail
      exact bodyPost_end (v := .tuple #[]) (by simp [results, Try.f37, go_sem]) rfl ⟨rfl, by rw [HP.out.2.1]; exact HP.out.1.after HP.out.2.2 (by omega)⟩

end Go.Proofs.Ytdobpicamibgpaa
