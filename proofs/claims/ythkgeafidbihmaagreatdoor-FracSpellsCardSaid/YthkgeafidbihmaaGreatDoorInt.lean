/-
  Int: a number's int, if it is one.
-/
import Derived.Test.YthkgeafidbihmaaGreatDoorDivMod
namespace Go.Proofs.YthkgeafidbihmaaGreatDoor
open Go.RowKit Go.Shelf
set_option linter.unusedVariables false
set_option linter.unusedSimpArgs false
attribute [local go_sem] Oper.semAt_some
attribute [local go_sem ↓] Go.wp_at_zero Go.wp_at_succ

def istep (s d : Nat) : Nat := s * 4294967296 % 18446744073709551616 + d
def ifold {l : List Nat} (pre : List (Ix l)) : Nat := pre.foldl (fun s x => istep s x.1.2) 0

theorem ifold_snoc {l : List Nat} (pre : List (Ix l)) (x : Ix l) : ifold (pre ++ [x]) = istep (ifold pre) x.1.2 := by simp [ifold]

theorem istep_eq (s d : Nat) (hd : d < 4294967296) : istep s d = (s * 4294967296 + d) % 18446744073709551616 := by unfold istep; omega

theorem ifold_bkf {l : List Nat} (hl : Dig l) : ∀ j, j ≤ l.length → ifold (bkf l j) = val (l.drop (l.length - j)) % 18446744073709551616
  | 0, _ => by
    have h1 : l.drop (l.length - 0) = [] := List.drop_eq_nil_of_le (by omega)
    rw [h1]; rfl
  | j + 1, hj => by
    have h1 := ifold_bkf hl j (by omega)
    rw [bkf_succ (by omega), ifold_snoc, h1]
    simp only
    obtain ⟨i, hi⟩ : ∃ i, i = l.length - 1 - j := ⟨_, rfl⟩
    have e1 : l.length - j = i + 1 := by omega
    have e2 : l.length - (j + 1) = i := by omega
    rw [e1, e2, ← hi, istep_eq _ _ (hl.getD _), val_drop_cons (l := l) (i := i) (by omega)]
    omega

theorem ifold_all {l : List Nat} (hl : Dig l) : ifold (bkf l l.length) = val l % 18446744073709551616 := by
  have h := ifold_bkf hl l.length (Nat.le_refl _)
  rwa [Nat.sub_self, List.drop_zero] at h

theorem two_digs {X m : Nat} (h : (digs X).length = m) (hm : m ≤ 2) : X < 18446744073709551616 := by
  have h1 := lt_of_digs_len X
  rw [h] at h1
  have : 4294967296 ^ m ≤ 4294967296 ^ 2 := Nat.pow_le_pow_right (by decide) hm
  omega
theorem more_digs {X m : Nat} (h : (digs X).length = m) (hm : 2 < m) : 18446744073709551616 ≤ X := by
  rcases Nat.lt_or_ge X 18446744073709551616 with h1 | h1
  · have := digs_len_le (n := X) (k := 2) (by omega)
    omega
  · exact h1

def intV (x : Nat) : Nat := if x < 9223372036854775808 then x else 0
def intB (x : Nat) : Bool := decide (x < 9223372036854775808)
/-- The int, and whether it is one. -/
def RetI (w : World) (x : Nat) (e : Ending) (w' : World) : Prop := e = .returned (.tuple #[.int .i64 (intV x : Nat), .bool (intB x)]) ∧ Below w.heap.size w w'

theorem ifold_lt {l : List Nat} (hl : Dig l) (pre : List (Ix l)) : ifold pre < 18446744073709551616 := by
  rcases List.eq_nil_or_concat pre with rfl | ⟨pre', x, rfl⟩
  · exact Nat.zero_lt_succ _
  · rw [List.concat_eq_append, ifold_snoc, istep_eq _ _ (by rw [x.2.2]; exact hl.getD _)]
    exact Nat.mod_lt _ (by decide)

set_option maxRecDepth 100000 in
set_option maxHeartbeats 2000000 in
theorem int_any (w : World) (A1 : Option Addr) (n1 c1 : Nat) (l1 : List Nat) (h1 : Rd w w.heap.size A1 n1 c1 l1) (hn1 : n1 ≤ 1048576) :
    Calls Tryz.prog 53 #[.slice A1 n1 c1] w (RetI w (tv l1)) := by
  refine (callsIn_wide (n := 9)).1 ?_
  refine callsIn_of_wp_marks Tryz.func53 rfl trivial ?_ rfl
  simp only [Tryz.ntmps53, List.size_toArray, List.length_cons, List.length_nil, Nat.reduceAdd, Nat.reduceSub, Array.replicate_succ, Array.replicate_zero, List.push_toArray, List.append_toArray, List.nil_append, List.cons_append]
  refine wpIn_wide.2 ?_
  go_wp2_with fail
  refine (taken_any _ _ A1 n1 c1 l1 h1 hn1).mono ?_
  rintro e w' ⟨⟨P1, m1, d1, rfl, hm1, q1⟩, rfl⟩
  obtain ⟨X, hX⟩ : ∃ X, tv l1 = X := ⟨_, rfl⟩
  rw [hX] at q1
  have HX := Lib.hid hX
  have HQ := Lib.hid q1
  have hm1 : m1 ≤ 1048576 := by omega
  clear hX h1 q1 hn1
  go_wp2_with fail
  obtain ⟨w1, hw1⟩ : ∃ w1, w1 = w.alloc (.cells #[.int .u64 0] 32) := ⟨_, rfl⟩
  rw [← hw1]
  have hb1 : Below w.heap.size w w1 := by rw [hw1]; exact (Below.refl _ _).alloc (Nat.le_refl _) _
  have bN : Boxed w1 w.heap.size 32 (.int .u64 0) := by rw [hw1]; exact Boxed.new w _ _
  have hz1 : w.heap.size + 1 ≤ w1.heap.size := by rw [hw1]; simp
  clear hw1
  refine (back_any _ P1 m1 d1).mono ?_
  rintro e w2 ⟨rfl, rfl⟩
  go_wp2_with fail
  refine (wpIn_wide (n := 9)).1 ?_
  have bS : Boxed (w1.alloc (.cells #[.slice P1 m1 d1] 22)) w1.heap.size 22 (.slice P1 m1 d1) := Boxed.new _ _ _
  have hb2 : Below w.heap.size w (w1.alloc (.cells #[.slice P1 m1 d1] 22)) := hb1.alloc (by omega) _
  refine wpIn_rangeFunc_ownG rfl (by omega) (gf := 70) (lb := #[.pointer (some ⟨w1.heap.size, 0, none⟩)]) rfl trivial (enters_of Tryz.func70 (by kernel_rfl) rfl)
    (back_stops 8 (by omega) w1.heap.size w.heap.size P1 m1 d1 (digs X) hm1 _ (by simp) (by simp; omega) bS.cell (HQ.out.below hb2)) (fun h k => h.trans k) (KpB.putObj (by simp; omega) (by simp)) (Below.refl _ _) (fun _ => rfl)
    (fun pre W => Boxed W w.heap.size 32 (.int .u64 (ifold (l := digs X) pre : Nat)) ∧ Below w.heap.size w W)
    (fun _ _ _ => False)
    (OwnFrom.and (Own.from (fun s A B row hs hg hr => boxed_own w.heap.size 32 (fun s => Value.int .u64 (ifold (l := digs X) s : Nat)) s A B row hs hg hr) _) (ownFrom_below (Nat.le_refl _) (by simp; omega)))
    (fun _ _ _ _ _ hs _ _ => hs)
    ⟨bN.alloc _, hb2⟩
    (fun x => { tmps := #[.slice P1 m1 d1, undef, .int .i64 0, .bool false, .pointer (some ⟨w.heap.size, 0, none⟩), undef, .int .u32 (x.1.2 : Int), .slice A1 n1 c1, .slice P1 m1 d1, .slice P1 m1 d1,
      .func (.func 70) #[] #[.pointer (some ⟨w1.heap.size, 0, none⟩)], .int .i64 (x.1.1 : Int), .int .u32 (x.1.2 : Int), undef, undef, undef, undef, undef, undef, undef, undef, undef, undef, undef, undef, undef, undef], defers := [] }) ?assign ?body ?done ?stop
  case assign =>
    intro l x W K hK
    simp only [encB]
    gi_wp2
    exact hK
  case stop =>
    rintro D c pre W _ _ h _
    exact h.elim
  case body =>
    rintro lp pre x W ⟨hbx, hB⟩ _
    have hd : x.1.2 < 4294967296 := by rw [x.2.2]; exact (dig_digs X).getD _
    have hs := ifold_lt (dig_digs X) pre
    have hsn := ifold_snoc pre x
    generalize ifold pre = s at *
    obtain ⟨d, hde⟩ : ∃ d, x.1.2 = d := ⟨_, rfl⟩
    obtain ⟨k, hke⟩ : ∃ k, x.1.1 = k := ⟨_, rfl⟩
    simp only [hde, hke]
    rw [hde] at hd hsn
    have HSN := Lib.hid hsn
    have HBX := Lib.hid (And.intro hbx hB)
    have hc := hbx.cell
    have hf := hbx.frozen
    clear hsn hbx hB hde hke
    gi_wp2
    have ho : bits BinOp.or IntKind.u64 (IntKind.u64.wrap ((s : Int) * 4294967296)) (d : Int) = ((istep s d : Nat) : Int) := by
      have hw : IntKind.u64.wrap ((s : Int) * 4294967296) = ((s * 4294967296 % 18446744073709551616 : Nat) : Int) := by rw [show IntKind.u64.wrap ((s : Int) * 4294967296) = ((s : Int) * 4294967296) % 18446744073709551616 from by simp [IntKind.wrap, IntKind.signed, IntKind.bits]]; omega
      rw [hw, u64_or_nat _ _ (Nat.mod_lt _ (by decide)) (by omega), istep]
      congr 1
      have e : s * 4294967296 % 18446744073709551616 = 2 ^ 32 * (s % 4294967296) := by omega
      rw [e]
      exact (Nat.two_pow_add_eq_or_of_lt (i := 32) (b := d) (by omega) _).symm
    rw [ho]
    refine ⟨(KeepsOthers.setCell _ _ _).from _, ⟨(Below.refl _ _).setCell (p := ⟨w.heap.size, 0, none⟩) (Nat.le_refl _) _, World.cell?_setCell_other _ _ _ _ (by intro e; injection e; omega)⟩, ?_, HBX.out.2.setCell (p := ⟨w.heap.size, 0, none⟩) (Nat.le_refl _) _⟩
    rw [HSN.out]
    exact boxed_set HBX.out.1 _
  case done =>
    rintro D ys W hD rfl ⟨hbx, hB⟩ hK
    have hv := ifold_all (dig_digs X)
    rw [HQ.out.len, val_digs] at hv
    rw [hv] at hbx
    have hc := hbx.cell
    have hf := hbx.frozen
    have HF := Lib.hid (And.intro hbx (And.intro hB hK))
    clear hbx hB hK hv
    rcases Nat.lt_or_ge 2 m1 with h2 | h2
    · have hX := more_digs HQ.out.len h2
      have HG : Hid (∀ w' : World, Below w.heap.size w w' → RetI w (tv l1) (.returned (.tuple #[.int .i64 0, .bool false])) w') := Lib.hid (fun w' hb => ⟨by
        rw [HX.out, intV, intB, if_neg (by omega), decide_eq_false (by omega)]; rfl, hb⟩)
      have hlt : (2 : Int) < (m1 : Int) := by omega
      clear hX
      go_wp2_with fail
      refine ⟨by simp, .inl ⟨_, _, rfl, run_takeDeferred HF.out.2.2, ?_⟩⟩
      exact ⟨_, results_tmp2 (t := 2) (u := 3) rfl _ _ _, HG.out _ (HF.out.2.1.trans (belowK_b (w := w) (Nat.le_refl _) W D _ _ (by simp at hD; omega) HF.out.2.2 rfl rfl))⟩
    · have hX := two_digs HQ.out.len h2
      have hm : X % 18446744073709551616 = X := Nat.mod_eq_of_lt hX
      rw [hm] at hc HF
      have hlt : ¬ (2 : Int) < (m1 : Int) := by omega
      rcases Nat.lt_or_ge X 9223372036854775808 with h3 | h3
      · have HG : Hid (∀ w' : World, Below w.heap.size w w' → RetI w (tv l1) (.returned (.tuple #[.int .i64 (X : Int), .bool true])) w') := Lib.hid (fun w' hb => ⟨by
          rw [HX.out, intV, intB, if_pos h3, decide_eq_true h3], hb⟩)
        have hlt2 : ¬ (9223372036854775807 : Int) < (X : Int) := by omega
        clear hm
        go_wp2_with fail
        refine ⟨by simp, .inl ⟨_, _, rfl, run_takeDeferred HF.out.2.2, ?_⟩⟩
        exact ⟨_, results_tmp2 (t := 2) (u := 3) rfl _ _ _, HG.out _ (HF.out.2.1.trans (belowK_b (w := w) (Nat.le_refl _) W D _ _ (by simp at hD; omega) HF.out.2.2 rfl rfl))⟩
      · have HG : Hid (∀ w' : World, Below w.heap.size w w' → RetI w (tv l1) (.returned (.tuple #[.int .i64 0, .bool false])) w') := Lib.hid (fun w' hb => ⟨by
          rw [HX.out, intV, intB, if_neg (by omega), decide_eq_false (by omega)]; rfl, hb⟩)
        have hlt2 : (9223372036854775807 : Int) < (X : Int) := by omega
        clear hm
        go_wp2_with fail
        refine ⟨by simp, .inl ⟨_, _, rfl, run_takeDeferred HF.out.2.2, ?_⟩⟩
        exact ⟨_, results_tmp2 (t := 2) (u := 3) rfl _ _ _, HG.out _ (HF.out.2.1.trans (belowK_b (w := w) (Nat.le_refl _) W D _ _ (by simp at hD; omega) HF.out.2.2 rfl rfl))⟩

end Go.Proofs.YthkgeafidbihmaaGreatDoor
