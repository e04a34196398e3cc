/-
  Cmp: by the numbers.
-/
import Derived.Test.YthkgeafidbihmaaGreatDoorBack
import Derived.Test.YthkgeafidbihmaaGreatDoorOrd
import Derived.Deep.DrawnRows
import Derived.Deep.RegionHeld3
namespace Go.Proofs.YthkgeafidbihmaaGreatDoor
open Go.RowKit Go.Shelf
set_option linter.unusedVariables false
set_option linter.unusedSimpArgs false
attribute [local go_sem] Oper.semAt_some
attribute [local go_sem ↓] Go.wp_at_zero Go.wp_at_succ

/-- What has come after k rounds: each place among the upper k, with its digit. -/
theorem mem_bkf {l : List Nat} : ∀ {k i : Nat} (hi : i < l.length), l.length - k ≤ i → k ≤ l.length → ∃ h, (⟨(i, l.getD i 0), h⟩ : Ix l) ∈ bkf l k
  | 0, i, hi, hk, _ => by omega
  | k + 1, i, hi, hk, hl => by
    rw [bkf_succ (by omega)]
    by_cases h : l.length - k ≤ i
    · obtain ⟨h1, h2⟩ := mem_bkf hi h (by omega)
      exact ⟨h1, List.mem_append_left _ h2⟩
    · have e : i = l.length - 1 - k := by omega
      subst e
      exact ⟨⟨hi, rfl⟩, List.mem_append_right _ (by simp)⟩

theorem bkf_last {l : List Nat} {k : Nat} {ini : List (Ix l)} {last : Ix l} (h : bkf l k = ini ++ [last]) : ∃ k', k' < k ∧ ini = bkf l k' ∧ last.1.1 = l.length - 1 - k' ∧ last.1.2 = l.getD last.1.1 0 := by
  induction k with
  | zero => simp [bkf] at h
  | succ k ih =>
    by_cases hk : k < l.length
    · rw [bkf_succ hk] at h
      obtain ⟨h1, h2⟩ := List.append_inj' h rfl
      simp only [List.cons.injEq, and_true] at h2
      refine ⟨k, by omega, h1.symm, by rw [← h2], last.2.2⟩
    · rw [bkf, dif_neg hk] at h
      obtain ⟨k', a, b, c, d⟩ := ih h
      exact ⟨k', by omega, b, c, d⟩

theorem cmpI_nat (x y : Nat) : cmpI (x : Int) (y : Int) = if x < y then -1 else if y < x then 1 else 0 := by
  unfold cmpI
  simp only [Int.ofNat_lt]

theorem cmp_len {X Y m n : Nat} (hm : (digs X).length = m) (hn : (digs Y).length = n) (h : m ≠ n) : cmpI (X : Int) (Y : Int) = cmpI (m : Int) (n : Int) := by
  rw [cmpI_nat, cmpI_nat]
  by_cases h1 : m < n
  · have := digs_len_lt (m := X) (n := Y) (by omega)
    rw [if_pos this, if_pos h1]
  · have := digs_len_lt (m := Y) (n := X) (by omega)
    rw [if_neg (by omega), if_pos this, if_neg h1, if_pos (by omega)]

theorem drop_eq {a b : List Nat} (hl : a.length = b.length) (i : Nat) (h : ∀ j, i ≤ j → j < a.length → b.getD j 0 = a.getD j 0) : a.drop i = b.drop i := by
  apply List.ext_getElem
  · simp [hl]
  · intro k h1 h2
    rw [List.length_drop] at h1 h2
    have := h (i + k) (by omega) (by omega)
    simp only [List.getD_eq_getElem?_getD, List.getElem?_eq_getElem (show i + k < a.length by omega), List.getElem?_eq_getElem (show i + k < b.length by omega), Option.getD_some] at this
    rw [List.getElem_drop, List.getElem_drop, this]

theorem cmp_top {X Y i : Nat} (hl : (digs X).length = (digs Y).length) (h : ∀ j, i + 1 ≤ j → j < (digs X).length → (digs Y).getD j 0 = (digs X).getD j 0) (hne : (digs X).getD i 0 ≠ (digs Y).getD i 0) :
    cmpI (X : Int) (Y : Int) = cmpI ((digs X).getD i 0 : Nat) ((digs Y).getD i 0 : Nat) := by
  have hd := drop_eq hl (i + 1) h
  rw [cmpI_nat, cmpI_nat]
  by_cases h1 : (digs X).getD i 0 < (digs Y).getD i 0
  · have := val_lt_of_top (dig_digs X) i hd h1
    rw [val_digs, val_digs] at this
    rw [if_pos this, if_pos h1]
  · have := val_lt_of_top (dig_digs Y) i hd.symm (by omega)
    rw [val_digs, val_digs] at this
    rw [if_neg (by omega), if_pos this, if_neg h1, if_pos (by omega)]

theorem cmp_same {X Y : Nat} (hl : (digs X).length = (digs Y).length) (h : ∀ j, j < (digs X).length → (digs Y).getD j 0 = (digs X).getD j 0) : cmpI (X : Int) (Y : Int) = 0 := by
  have := drop_eq hl 0 (fun j _ hj => h j hj)
  rw [List.drop_zero, List.drop_zero] at this
  have e := digs_inj this
  subst e
  rw [cmpI_nat, if_neg (Nat.lt_irrefl _), if_neg (Nat.lt_irrefl _)]

theorem boxed_set {W : World} {B : Nat} {t : TypeId} {v : Value} (h : Boxed W B t v) (u : Value) : Boxed (W.setCell ⟨B, 0, none⟩ u) B t u := Blk.set_ (w := W) (g := B) (t := t) (cs := #[v]) h 0 u

set_option maxRecDepth 100000 in
set_option maxHeartbeats 2000000 in
theorem cmp_any (w : World) (A1 A2 : Option Addr) (n1 c1 n2 c2 : Nat) (l1 l2 : List Nat) (h1 : Rd w w.heap.size A1 n1 c1 l1) (h2 : Rd w w.heap.size A2 n2 c2 l2) (hn1 : n1 ≤ 1048576) (hn2 : n2 ≤ 1048576) :
    Calls Tryz.prog 28 #[.slice A1 n1 c1, .slice A2 n2 c2] w fun e w' => e = .returned (.int .i64 (cmpI (tv l1) (tv l2))) ∧ Below w.heap.size w w' := by
  refine (callsIn_wide (n := 9)).1 ?_
  refine callsIn_of_wp_marks Tryz.func28 rfl trivial ?_ rfl
  simp only [Tryz.ntmps28, List.size_toArray, List.length_cons, List.length_nil, Nat.reduceAdd, Nat.reduceSub, Array.replicate_succ, Array.replicate_zero, List.push_toArray, List.append_toArray, List.nil_append, List.cons_append]
  refine wpIn_wide.2 ?_
  go_wp2_with fail
  obtain ⟨w0, hw0⟩ : ∃ w0, w0 = (w.alloc (.cells #[.slice A2 n2 c2] 22)).alloc (.cells #[.int .i64 0] 3) := ⟨_, rfl⟩
  rw [← hw0]
  have hb0 : Below w.heap.size w w0 := by rw [hw0]; exact ((Below.refl _ _).alloc (Nat.le_refl _) _).alloc (by simp) _
  have bB : Boxed w0 w.heap.size 22 (.slice A2 n2 c2) := by rw [hw0]; exact (Boxed.new w _ _).alloc _
  have bR : Boxed w0 (w.heap.size + 1) 3 (.int .i64 0) := by
    rw [hw0]
    have := Boxed.new (w.alloc (.cells #[.slice A2 n2 c2] 22)) 3 (.int .i64 0)
    rw [World.size_alloc] at this
    exact this
  have hz0 : w.heap.size + 2 ≤ w0.heap.size := by rw [hw0]; simp
  have r1 := h1.below hb0
  have r2 := h2.below hb0
  clear hw0 h1 h2
  have hc0 := bB.cell
  have hf0 := bB.frozen
  have hS : w0.drew.cell? ⟨w.heap.size, 0, none⟩ = some (.slice A2 n2 c2) := hc0
  refine wp_region_noPanic ?_
  refine ord_begin 5 (fun wx => wx.cell? ⟨w.heap.size, 0, none⟩ = some (.slice A2 n2 c2)) (by kernel_rfl) ?_
  refine ord_take (i := 0) (v := ?_) (by kernel_rfl) rfl (by decide) (by kernel_rfl) (by kernel_rfl) (fun _ _ _ h => h) (Or.inl ⟨by rfl, ?_⟩) hS ?_
  rotate_left
  · intro wz hz; (try dsimp only at hz); (try go_split_ands); go_simp; (try with_reducible rfl)
  try simp only [Act.put, List.setIfInBounds_toArray, List.set_cons_zero, List.set_cons_succ]
  refine ord_take (i := 2) (v := ?_) (by kernel_rfl) rfl (by decide) (by kernel_rfl) (by kernel_rfl) (fun _ _ _ h => h) (Or.inl ⟨by rfl, ?_⟩) hS ?_
  rotate_left
  · intro wz hz; (try dsimp only at hz); (try go_split_ands); go_simp; (try with_reducible rfl)
  try simp only [Act.put, List.setIfInBounds_toArray, List.set_cons_zero, List.set_cons_succ]
  refine ord_step (i := 1) rfl (by decide) (by kernel_rfl) (by rfl) (fun K hK => ?_)
  go_simp
  refine (taken_any _ _ A1 n1 c1 l1 r1.drew hn1).mono ?_
  rintro e w' ⟨⟨P1, m1, d1, rfl, hm1, q1⟩, rfl⟩
  refine hK _ _ hS ?_
  clear hK K
  try simp only [Act.put, List.setIfInBounds_toArray, List.set_cons_zero, List.set_cons_succ]
  refine ord_step (i := 3) rfl (by decide) (by kernel_rfl) (by rfl) (fun K hK => ?_)
  go_simp
  refine (taken_any _ _ A2 n2 c2 l2 r2.drew hn2).mono ?_
  rintro e w' ⟨⟨P2, m2, d2, rfl, hm2, q2⟩, rfl⟩
  refine hK _ _ hS ?_
  clear hK K
  try simp only [Act.put, List.setIfInBounds_toArray, List.set_cons_zero, List.set_cons_succ]
  refine ord_take (i := 4) (v := ?_) (by kernel_rfl) rfl (by decide) (by kernel_rfl) (by kernel_rfl) (fun _ _ _ h => h) (Or.inl ⟨by rfl, ?_⟩) hS ?_
  rotate_left
  · intro wz hz; (try dsimp only at hz); (try go_split_ands); go_simp; (try with_reducible rfl)
  try simp only [Act.put, List.setIfInBounds_toArray, List.set_cons_zero, List.set_cons_succ]
  refine ord_rest (by kernel_rfl) ?_
  refine any_step (i := 5) rfl (by kernel_rfl) (by rfl) (fun K hK => ?_)
  go_simp
  refine hK _ _ ?_
  clear hK K
  try simp only [Act.put, List.setIfInBounds_toArray, List.set_cons_zero, List.set_cons_succ]
  refine wpAny_done (by kernel_rfl) ?_ _
  refine NoPanic.normal ?_
  have hb1 : Below w.heap.size w (w0.setCell ⟨w.heap.size, 0, none⟩ (.slice P2 m2 d2)).drew := (hb0.setCell (p := ⟨w.heap.size, 0, none⟩) (Nat.le_refl _) _).drew
  have bB1 : Boxed (w0.setCell ⟨w.heap.size, 0, none⟩ (.slice P2 m2 d2)).drew w.heap.size 22 (.slice P2 m2 d2) := boxed_set bB _
  have bR1 : Boxed (w0.setCell ⟨w.heap.size, 0, none⟩ (.slice P2 m2 d2)).drew (w.heap.size + 1) 3 (.int .i64 0) := bR.other (by omega) _
  have hz1 : w.heap.size + 2 ≤ (w0.setCell ⟨w.heap.size, 0, none⟩ (.slice P2 m2 d2)).drew.heap.size := by simpa [World.drew] using hz0
  have Q1 : Rd w w.heap.size P1 m1 d1 (digs (tv l1)) := q1.keep (fun p hp => (hb0.cell hp).symm) (Nat.le_refl _)
  have Q2 : Rd w w.heap.size P2 m2 d2 (digs (tv l2)) := q2.keep (fun p hp => (hb0.cell hp).symm) (Nat.le_refl _)
  generalize (w0.setCell ⟨w.heap.size, 0, none⟩ (.slice P2 m2 d2)).drew = w1 at *
  obtain ⟨X1, hX1⟩ : ∃ X, tv l1 = X := ⟨_, rfl⟩
  obtain ⟨X2, hX2⟩ : ∃ X, tv l2 = X := ⟨_, rfl⟩
  rw [hX1] at Q1
  rw [hX2] at Q2
  have HX12 := Lib.hid (And.intro hX1 hX2)
  clear hX1 hX2 hb0 bB bR hz0 hS hc0 hf0 r1 r2 q1 q2
  have hm1 : m1 ≤ 1048576 := by omega
  have hm2 : m2 ≤ 1048576 := by omega
  have hcB := bB1.cell
  have hcR := bR1.cell
  have hfR := bR1.frozen
  by_cases hne : m1 = m2
  · subst hne
    have ht : ((m1 : Int) != (m1 : Int)) = false := by simp
    have HQ := Lib.hid (And.intro Q1 Q2)
    have HB := Lib.hid (And.intro bB1 bR1)
    have hll : (digs X1).length = (digs X2).length := by rw [Q1.len, Q2.len]
    have hl2 := Q2.len
    have hl1 := Q1.len
    have HL := Lib.hid (And.intro hll (And.intro hl1 hl2))
    clear Q1 Q2 bB1 bR1 hll hl1 hl2
    go_wp2_with fail
    refine (back_any _ P1 m1 d1).mono ?_
    rintro e w2 ⟨rfl, rfl⟩
    go_wp2_with fail
    clear hcB hcR hfR ht
    refine (wpIn_wide (n := 9)).1 ?_
    have bS : Boxed (w1.alloc (.cells #[.slice P1 m1 d1] 22)) w1.heap.size 22 (.slice P1 m1 d1) := Boxed.new _ _ _
    have hb2 : Below w.heap.size w (w1.alloc (.cells #[.slice P1 m1 d1] 22)) := hb1.alloc (by omega) _
    refine wpIn_rangeFunc_ownG rfl (by omega) (gf := 70) (lb := #[.pointer (some ⟨w1.heap.size, 0, none⟩)]) rfl trivial (enters_of Tryz.func70 (by kernel_rfl) rfl)
      (back_stops 8 (by omega) w1.heap.size w.heap.size P1 m1 d1 (digs X1) hm1 _ (by simp) (by simp; omega) bS.cell (HQ.out.1.below hb2)) (fun h k => h.trans k) (KpB.putObj (by simp; omega) (by simp)) (Below.refl _ _) (fun _ => rfl)
      (fun pre W => ((∀ p ∈ pre, (digs X2).getD p.1.1 0 = p.1.2) ∧ Boxed W w.heap.size 22 (.slice P2 m1 d2) ∧ Boxed W (w.heap.size + 1) 3 (.int .i64 0)) ∧ Below w.heap.size w W)
      (fun c pre W => (c = .ret ∧ ∃ ini last, pre = ini ++ [last] ∧ (∀ p ∈ ini, (digs X2).getD p.1.1 0 = p.1.2) ∧ (digs X2).getD last.1.1 0 ≠ last.1.2 ∧ Boxed W (w.heap.size + 1) 3 (.int .i64 (cmpI (last.1.2 : Int) ((digs X2).getD last.1.1 0 : Nat)))) ∧ Below w.heap.size w W)
      (OwnFrom.and (Own.from (fun s A B row hs hg hr => ⟨hs.1, boxed_own w.heap.size 22 (fun _ : Unit => Value.slice P2 m1 d2) () A B row hs.2.1 hg hr, boxed_own (w.heap.size + 1) 3 (fun _ : Unit => Value.int .i64 0) () A B row hs.2.2 hg hr⟩) _) (ownFrom_below (Nat.le_refl _) (by simp; omega)))
      (fun c => OwnFrom.and (Own.from (fun s A B row hs hg hr => by
        obtain ⟨hc, ini, last, e1, e2, e3, e4⟩ := hs
        exact ⟨hc, ini, last, e1, e2, e3, boxed_own (w.heap.size + 1) 3 (fun _ : Unit => Value.int .i64 (cmpI (last.1.2 : Int) ((digs X2).getD last.1.1 0 : Nat))) () A B row e4 hg hr⟩) _) (ownFrom_below (Nat.le_refl _) (by simp; omega)))
      ⟨⟨by simp, HB.out.1.alloc _, HB.out.2.alloc _⟩, hb2⟩
      (fun x => { tmps := #[.slice P1 m1 d1, .slice A2 n2 c2, undef, .pointer (some ⟨w.heap.size, 0, none⟩), .pointer (some ⟨w.heap.size + 1, 0, none⟩), .int .i64 (x.1.1 : Int), .int .u32 (x.1.2 : Int), .slice A1 n1 c1, .slice P1 m1 d1, .slice A2 n2 c2, .slice P2 m1 d2, .slice P1 m1 d1, .int .i64 (m1 : Int), .slice P2 m1 d2, .int .i64 (m1 : Int), .bool false, undef, undef, undef, undef, undef, .slice P1 m1 d1,
        .func (.func 70) #[] #[.pointer (some ⟨w1.heap.size, 0, none⟩)], .int .i64 (x.1.1 : Int), .int .u32 (x.1.2 : Int), undef, undef, undef, undef, undef, undef, undef, undef, undef, undef, undef, undef], defers := [] }) ?assign ?body ?done ?stop
    case assign =>
      intro l x W K hK
      simp only [encB]
      gi_wp2
      exact hK
    case body =>
      rintro l pre x W ⟨⟨hp, hbx, hrs⟩, hB⟩ _
      have hi := x.2.1
      have hdx := x.2.2
      have hq := HQ.out.2.below hB
      have hl1 := HL.out.2.1
      obtain ⟨bb, bo, hP, hbb, hcell⟩ := hq.at_ (by omega)
      have hcy := hcell x.1.1 (by omega)
      have hcB := hbx.cell
      have hcR := hrs.cell
      have hfR := hrs.frozen
      have HBX := Lib.hid (And.intro hbx (And.intro hrs (And.intro hp hB)))
      have hi1 : (x.1.1 : Int) < (m1 : Int) := by omega
      have hi0 : (0 : Int) ≤ (x.1.1 : Int) := by omega
      have HXD := Lib.hid hdx
      clear hbx hrs hp hB hq hl1 hcell hdx hi
      subst hP
      obtain ⟨i, hieq⟩ : ∃ i, x.1.1 = i := ⟨_, rfl⟩
      obtain ⟨d, hdeq⟩ : ∃ d, x.1.2 = d := ⟨_, rfl⟩
      obtain ⟨y, hy⟩ : ∃ y, (digs X2).getD x.1.1 0 = y := ⟨_, rfl⟩
      rw [hy] at hcy
      rw [hieq] at hcy hi1 hi0
      have HE := Lib.hid (And.intro hieq (And.intro hdeq hy))
      simp only [hieq, hdeq]
      clear hieq hdeq hy
      by_cases hdy : d = y
      · subst hdy
        have ht : ((d : Int) != (d : Int)) = false := by simp
        gi_wp2
        refine ⟨KeepsFrom.refl _ _, KpB.refl _ _ _, ⟨fun p hp' => ?_, HBX.out.1, HBX.out.2.1⟩, HBX.out.2.2.2⟩
        rcases List.mem_append.1 hp' with h | h
        · exact HBX.out.2.2.1 p h
        · rw [List.mem_singleton.1 h, HE.out.2.2, HE.out.2.1]
      · have ht : ((d : Int) != (y : Int)) = true := by simp; omega
        gi_wp2_with (refine ⟨trivial, ?_⟩; gi_at_call 52; refine (CallsIn.inRound l (callsIn_wide.2 (compare_u32 _ _ _))).mono ?_; rintro e w' ⟨rfl, rfl⟩)
        refine ⟨(KeepsOthers.setCell _ _ _).from _, ⟨rfl, pre, x, rfl, HBX.out.2.2.1, ?_, ?_⟩, HBX.out.2.2.2.setCell (p := ⟨w.heap.size + 1, 0, none⟩) (by simp) _⟩
        · rw [HE.out.2.2, HE.out.2.1]; exact fun h => hdy h.symm
        · rw [HE.out.2.2, HE.out.2.1]; exact boxed_set HBX.out.2.1 _
    case done =>
      rintro D ys W hD rfl ⟨⟨hp, hbx, hrs⟩, hB⟩ hK
      have hcR := hrs.cell
      have hfR := hrs.frozen
      have hz : cmpI (X1 : Int) (X2 : Int) = 0 := cmp_same HL.out.1 (fun j hj => by
        obtain ⟨hh, hm⟩ := mem_bkf (l := digs X1) (k := m1) hj (by rw [HL.out.2.1]; omega) (by rw [HL.out.2.1]; exact Nat.le_refl _)
        exact hp _ hm)
      have HZ := Lib.hid hz
      have HF := Lib.hid (And.intro hrs (And.intro hB hK))
      clear hz hrs hB hK hp hbx
      go_wp2_with fail
      have hK' := (KeepsOthers.setCell W ⟨w.heap.size + 1, 0, none⟩ (.int .i64 0)).same D _ HF.out.2.2 rfl
      refine ⟨by simp, .inl ⟨_, _, rfl, run_takeDeferred hK', ?_⟩⟩
      have hc5 := cell_kept (boxed_set HF.out.1 (.int .i64 0)).cell (grownBy_putObj' _ D (.deferred none)) (fun r e => by cases e; exact ⟨_, hK', rfl⟩)
      refine ⟨.int .i64 0, ?_, ?_, (HF.out.2.1.setCell (p := ⟨w.heap.size + 1, 0, none⟩) (by simp) _).trans (belowK_b (w := w) (Nat.le_refl _) _ D _ _ (by simp at hD; omega) hK' rfl rfl)⟩
      · simp [results, Tryz.f28, go_sem, hc5]
      · rw [HX12.out.1, HX12.out.2, HZ.out]
    case stop =>
      rintro D c pre W hD ⟨k, hk, rfl⟩ ⟨⟨rfl, ini, last, e1, e2, e3, hrs⟩, hB⟩ hK
      refine wpIn_wide.2 ?_
      have HF := Lib.hid (And.intro hrs (And.intro hB hK))
      have HE := Lib.hid (And.intro e1 (And.intro e2 e3))
      clear hrs hB hK e1 e2 e3
      go_wp2_with fail
      have hK' := HF.out.2.2
      refine ⟨by simp, .inl ⟨_, _, rfl, run_takeDeferred hK', ?_⟩⟩
      have hc5 := cell_kept HF.out.1.cell (grownBy_putObj' _ D (.deferred none)) (fun r e => by cases e; exact ⟨_, hK', rfl⟩)
      refine ⟨.int .i64 (cmpI (last.1.2 : Int) ((digs X2).getD last.1.1 0 : Nat)), ?_, ?_, HF.out.2.1.trans (belowK_b (w := w) (Nat.le_refl _) _ D _ _ (by simp at hD; omega) hK' rfl rfl)⟩
      · simp [results, Tryz.f28, go_sem, hc5]
      · obtain ⟨h1, h2, h3⟩ := HE.out
        obtain ⟨k', hk', hini, hl1, hl2⟩ := bkf_last h1
        subst hini
        rw [HX12.out.1, HX12.out.2, hl2]
        refine congrArg (fun z => Ending.returned (.int .i64 z)) (cmp_top HL.out.1 (fun j hj1 hj2 => ?_) (fun h => h3 (by rw [hl2, h]))).symm
        obtain ⟨hh, hm⟩ := mem_bkf (l := digs X1) (k := k') hj2 (by omega) (by rw [HL.out.2.1]; omega)
        exact h2 _ hm
  · have ht : ((m1 : Int) != (m2 : Int)) = true := by simp; omega
    have HX : Hid (cmpI (X1 : Int) (X2 : Int) = cmpI (m1 : Int) (m2 : Int)) := Lib.hid (cmp_len Q1.len Q2.len hne)
    have HB := Lib.hid bR1
    clear Q1 Q2 bB1 bR1
    go_wp2_with fail
    refine (compare_int _ _ _).mono ?_
    rintro e w2 ⟨rfl, rfl⟩
    go_wp2_with fail
    have hc5 := (boxed_set HB.out (.int .i64 (cmpI (m1 : Int) (m2 : Int)))).cell
    refine ⟨.int .i64 (cmpI (m1 : Int) (m2 : Int)), ?_, ?_, hb1.setCell (p := ⟨w.heap.size + 1, 0, none⟩) (by simp) _⟩
    · simp [results, Tryz.f28, go_sem, hc5]
    · rw [HX12.out.1, HX12.out.2, HX.out]

end Go.Proofs.YthkgeafidbihmaaGreatDoor
