/-
  A region that draws its order: its first n operations read, call and make memory (behind each the world meets S), all that follow wait for them; a region so walked may stand in a round of a range over a function, too.
-/
import Derived.Test.YthefgdehfgkhhaaGreatK01
import Derived.OrdersHeld
import Derived.OrdersIn
import Derived.StillTail
import Derived.Tactics
import Derived.RegionTactic
import Derived.RangeFuncCalls
import Derived.TacticsIn
import Derived.Test.YthefgdehfgkhhaaGreatK02
import Derived.Deep.DrawnRows
import Derived.Deep.RegionHeld3
import Derived.Laws.BitsAllLaws
import Derived.Laws.DeepBits32
namespace Go.Proofs.YthefgdehfgkhhaaGreat
set_option linter.unusedVariables false
set_option linter.unusedSimpArgs false
section
variable {P : Program} {ops : Array Oper} {Q : Exit → Act → World → Prop} {md : Region.Mode} {S : World → Prop} {n : Nat}
/-- Whatever order is picked from here on; behind each operation ahead of number n the world meets S. -/
def wpOrd (P : Program) (md : Region.Mode) (ops : Array Oper) (n : Nat) (Q : Exit → Act → World → Prop) (S : World → Prop) : Nat → Array Bool → Act → World → Prop
 | 0, listed, a, w => Region.ready md ops listed = [] ∧ Q .normal a w
 | fuel + 1, listed, a, w =>
  (Region.ready md ops listed = [] → Q .normal a w) ∧
  ∀ i ∈ Region.ready md ops listed, wpOp P ops Q i (fun a' w' => (i < n → S w') ∧ wpOrd P md ops n Q S fuel (listed.setIfInBounds i true) a' w') a w
theorem wpAny_of_ord : ∀ (fuel : Nat) (listed : Array Bool) (a : Act) (w : World), wpOrd P md ops n Q S fuel listed a w → wpAny P md ops Q fuel listed a w
 | 0, _, _, _, h => h
 | fuel + 1, _, _, _, h => ⟨h.1, fun i hi => wpOp_mono (fun a' w' h' => wpAny_of_ord fuel _ a' w' h'.2) (h.2 i hi)⟩
theorem ord_of_any : ∀ (fuel : Nat) (listed : Array Bool) (a : Act) (w : World), (∀ i, i < n → listed.getD i true = true) → wpAny P md ops Q fuel listed a w → wpOrd P md ops n Q S fuel listed a w
 | 0, _, _, _, _, h => h
 | fuel + 1, listed, _, _, hl, h => by
  refine ⟨h.1, fun i hi => wpOp_mono (fun a' w' h' => ?_) (h.2 i hi)⟩
  have h1 := (mem_ready.1 hi).1
  refine ⟨fun hin => ?_, ord_of_any fuel _ a' w' (fun k hk => ?_) h'⟩
  ·rw [hl i hin] at h1; cases h1
  ·by_cases e : i = k
   ·subst e; rw [hl i hk] at h1; cases h1
   ·rw [getD_set_ne true e]; exact hl k hk
/-- Each that follows waits for one that follows ahead of it. -/
def tailB (md : Region.Mode) (ops : Array Oper) (n : Nat) : Bool :=
 (List.range ops.size).all fun t => decide (t ≤ n) || (List.range t).any fun s => decide (n ≤ s) && Region.waitsFor md ops t s
theorem tail_waits' {n : Nat} {listed : Array Bool} (hs : Region.sinkB md ops n = true) (hc : tailB md ops n = true) (hn : n < ops.size) (inv : HeadInv md ops n listed) :
 ∀ (d i : Nat), n - i = d → i < n → listed.getD i true = false → ∀ t, n ≤ t → t ∉ Region.ready md ops listed := by
 intro d
 induction d using Nat.strongRecOn with
 | _ d ih =>
  intro i hd hi hun t ht hr
  obtain ⟨_, ot, hot, hall⟩ := mem_ready.1 hr
  have htlt : t < ops.size := (Array.getElem?_eq_some_iff.1 hot).1
  by_cases htn : t = n
  ·subst htn
   have h1 := List.all_eq_true.1 hs i (List.mem_range.2 hi)
   obtain ⟨j, hj, hj2⟩ := List.any_eq_true.1 h1
   simp only [Bool.and_eq_true, decide_eq_true_eq] at hj2
   obtain ⟨oj, hoj, e, he, hb, hon⟩ := Region.waitsFor_spec hj2.2
   have hjle : j ≤ t := by have := List.mem_range.1 hj; omega
   by_cases hjt : j = t
   ·subst hjt
    have : oj = ot := Option.some.inj (hoj.symm.trans hot)
    subst this
    have h2 := hall e he hb
    rw [hon, getD_both hun] at h2
    cases h2
   ·cases hl : listed.getD j false with
    | true =>
     have h2 := inv.closed j oj hoj hl e he hb
     rw [hon, getD_both hun] at h2
     cases h2
    | false =>
     have hjs : j < listed.size := by rw [inv.size]; omega
     exact ih (t - j) (by omega) j rfl (by omega) (getD_in hjs hl) t (Nat.le_refl _) hr
  ·have h1 := List.all_eq_true.1 hc t (List.mem_range.2 htlt)
   simp only [Bool.or_eq_true, decide_eq_true_eq] at h1
   rcases h1 with h1 | h1
   ·omega
   ·obtain ⟨s, hs1, hs2⟩ := List.any_eq_true.1 h1
    simp only [Bool.and_eq_true, decide_eq_true_eq] at hs2
    obtain ⟨o', ho', e, he, hb, hon⟩ := Region.waitsFor_spec hs2.2
    have : o' = ot := Option.some.inj (ho'.symm.trans hot)
    subst this
    have h2 := hall e he hb
    have hst := List.mem_range.1 hs1
    rw [hon, getD_both (inv.tail s hs2.1 (by omega))] at h2
    cases h2
/-- One that yields in each world that meets S may be taken first. -/
theorem wpOrd_first {i : Nat} {oi : Oper} {v : Value} (hi : ops[i]? = some oi) (hsel : ∀ (j : Nat) (o : Oper) cs b, ops[j]? = some o → o.op ≠ .select cs b)
 (hs : Region.sinkB md ops n = true) (hc : tailB md ops n = true) (hn : n < ops.size) (hin : i < n)
 (hQ : ∀ c a w, Q (.panic c) (a.put oi.dst v) w → Q (.panic c) a w) :
 ∀ (fuel : Nat) (listed : Array Bool) (a : Act) (w : World), HeadInv md ops n listed →
  (∀ j oj, ops[j]? = some oj → j ≠ i → listed.getD j true = false → (∀ e ∈ oj.after, Region.binds md e = true → e.on ≠ i) → oi.apart ops oj = true) →
  i ∈ Region.ready md ops listed → YieldsIf P ops S oi v a → S w →
  wpOrd P md ops n Q S fuel (listed.setIfInBounds i true) (a.put oi.dst v) w → wpOrd P md ops n Q S (fuel + 1) listed a w := by
 intro fuel
 induction fuel with
 | zero =>
  intro L a w _ _ hr hy hI H
  refine ⟨fun h => (by rw [h] at hr; cases hr), fun j hj => ?_⟩
  by_cases e : j = i
  ·subst e; exact hy.wpOp hi hI ⟨fun _ => hI, H⟩
  ·have h0 := ready_mono hj e
   rw [H.1] at h0
   cases h0
 | succ fuel ih =>
  intro L a w inv hfree hr hy hI H
  have hun : L.getD i true = false := (mem_ready.1 hr).1
  refine ⟨fun h => (by rw [h] at hr; cases hr), fun j hj => ?_⟩
  have hjn : j < n := by
   rcases Nat.lt_or_ge j n with h | h
   ·exact h
   ·exact absurd hj (tail_waits' hs hc hn inv _ i rfl hin hun j h)
  by_cases e : j = i
  ·subst e; exact hy.wpOp hi hI ⟨fun _ => hI, H⟩
  ·have hstep := H.2 j (ready_mono hj e)
   obtain ⟨hjun, oj, hoj, hall⟩ := mem_ready.1 hj
   have hnot : ∀ d ∈ oj.after, Region.binds md d = true → d.on ≠ i := fun d hd hb heq => by
    have h1 := hall d hd hb
    rw [heq, getD_both hun] at h1
    cases h1
   have hput := wpOp_putIf hoj (hfree j oj hoj e hjun hnot) (fun cs b => hsel i oi cs b hi) (fun cs b => hsel j oj cs b hoj) hQ hy hstep
   refine wpOp_mono (fun a' w' hk => ?_) hput
   obtain ⟨hy', hS', hrest⟩ := hk
   refine ⟨hS', ih (L.setIfInBounds j true) a' w' (inv.set hj hjn) (fun k ok hk hki hkun hno => ?_) (ready_mono hr (Ne.symm e)) hy' (hS' hjn) ?_⟩
   ·refine hfree k ok hk hki ?_ hno
    by_cases hjk : j = k
    ·subst hjk; exact hjun
    ·rw [getD_set_ne true hjk] at hkun; exact hkun
   ·rw [Array.setIfInBounds_comm _ _ e]
    exact hrest
/-- A place in such a region: what is left of it. -/
def Ord (P : Program) (ops : Array Oper) (n : Nat) (Q : Exit → Act → World → Prop) (S : World → Prop) (fuel : Nat) (listed : Array Bool) (a : Act) (w : World) : Prop :=
 HeadInv .any ops n listed → wpOrd P .any ops n Q S fuel listed a w
/-- What is asked of the region's own shape. -/
def ordB (ops : Array Oper) (n : Nat) : Bool := Region.noSelect ops && decide (n < ops.size) && Region.sinkB .any ops n && tailB .any ops n
theorem ord_any {a : Act} {w : World} {l : List Oper} (n : Nat) (S : World → Prop)
 (h : Ord P l.toArray n Q S l.length (Array.replicate l.length false) a w.drew) : wpAny P .any l.toArray Q l.toArray.size (Array.replicate l.toArray.size false) a { w with drawn := w.drawn + 1 } := by
 refine wpAny_of_ord (n := n) (S := S) _ _ _ _ ?_
 have e : l.toArray.size = l.length := by simp
 rw [e]
 exact h ⟨by simp, fun j oj _ hl => (by rw [getD_replicate_false] at hl; cases hl), fun t _ ht => getD_in (by simpa using ht) (getD_replicate_false _ _)⟩
theorem ord_begin {id : Nat} {a : Act} {w : World} {l : List Oper} (n : Nat) (S : World → Prop) (hm : P.follows .mixedOrders = true)
 (h : Ord P l.toArray n Q S l.length (Array.replicate l.length false) a w.drew) : (Code.region id l.toArray true).wp P Q a w :=
 wp_region_any hm (ord_any n S h)
/-- Take number i first. -/
theorem ord_take {i : Nat} {oi : Oper} {v : Value} {fuel : Nat} {listed : Array Bool} {a : Act} {w : World} (hB : ordB ops n = true) (hi : ops[i]? = some oi) (hin : i < n)
 (hf : Region.free .any ops listed i = true) (hr : (Region.ready .any ops listed).contains i = true)
 (hQ : ∀ c a w, Q (.panic c) (a.put oi.dst v) w → Q (.panic c) a w) (hy : YieldsIf P ops S oi v a) (hS : S w)
 (h : Ord P ops n Q S fuel (listed.setIfInBounds i true) (a.put oi.dst v) w) : Ord P ops n Q S (fuel + 1) listed a w := fun inv => by
 simp only [ordB, Bool.and_eq_true, decide_eq_true_eq] at hB
 obtain ⟨⟨⟨hsel, hn⟩, hs⟩, hc⟩ := hB
 have hr' : i ∈ Region.ready .any ops listed := by simpa using hr
 exact wpOrd_first hi (Region.noSelect_spec hsel) hs hc hn hin hQ fuel listed a w inv (Region.free_spec hi hf) hr' hy hS (h (inv.set hr' hin))
/-- Number i alone may come up, and is carried out. -/
theorem ord_step {i : Nat} {oi : Oper} {fuel : Nat} {listed : Array Bool} {a : Act} {w : World} (hi : ops[i]? = some oi) (hin : i < n) (hr : Region.ready .any ops listed = [i])
 (hw : Region.wanted oi (yielded ops a.tmps) = true)
 (h : ∀ K : Act → World → Prop, (∀ a' w', S w' → Ord P ops n Q S fuel (listed.setIfInBounds i true) a' w' → K a' w') → Oper.wp P oi a w K Q) : Ord P ops n Q S (fuel + 1) listed a w := fun inv => by
 refine ⟨fun h0 => (by rw [hr] at h0; cases h0), fun j hj => ?_⟩
 have hji : j = i := by rw [hr] at hj; simpa using hj
 subst hji
 refine wpOp_step hi (fun K' hK => ?_)
 rw [if_pos hw]
 exact h K' (fun a' w' hS hO => hK a' w' ⟨fun _ => hS, hO (inv.set hj hin)⟩)
/-- The first n have come up. -/
theorem ord_rest {fuel : Nat} {listed : Array Bool} {a : Act} {w : World} (hl : (List.range n).all (fun i => listed.getD i true) = true) (h : wpAny P .any ops Q fuel listed a w) : Ord P ops n Q S fuel listed a w := fun _ =>
 ord_of_any fuel listed a w (fun i hi => List.all_eq_true.1 hl i (List.mem_range.2 hi)) h
/-- Number i alone may come up. -/
theorem any_step {i : Nat} {oi : Oper} {fuel : Nat} {listed : Array Bool} {a : Act} {w : World} (hi : ops[i]? = some oi) (hr : Region.ready .any ops listed = [i])
 (hw : Region.wanted oi (yielded ops a.tmps) = true)
 (h : ∀ K : Act → World → Prop, (∀ a' w', wpAny P .any ops Q fuel (listed.setIfInBounds i true) a' w' → K a' w') → Oper.wp P oi a w K Q) : wpAny P .any ops Q (fuel + 1) listed a w := by
 refine ⟨fun h0 => (by rw [hr] at h0; cases h0), fun j hj => ?_⟩
 have hji : j = i := by rw [hr] at hj; simpa using hj
 subst hji
 refine wpOp_step hi (fun K' hK => ?_)
 rw [if_pos hw]
 exact h K' hK
/-! In a round of a range over a function. -/
/-- No operation is put off. -/
def noDefer (ops : Array Oper) : Bool := ops.all fun o => match o.op with | .defer _ => false | _ => true
theorem noDefer_spec (h : noDefer ops = true) {j : Nat} {o : Oper} (ho : ops[j]? = some o) : ∀ c, o.op ≠ .defer c := by
 intro c heq
 have := Array.all_eq_true_iff_forall_mem.1 h o (Array.mem_of_getElem? ho)
 simp [heq] at this
theorem wpIn_of_wp {l m : Nat} {o : Oper} {a : Act} {w : World} {K : Act → World → Prop} (hd : ∀ c, o.op ≠ .defer c) (h : o.wp P a w K Q) : o.wpIn (Fence.wide.inRound l) m P a w K Q := by
 unfold Oper.wp at h
 refine ⟨fun f _ => trivial, ?_⟩
 have e : o.semAt (Fence.wide.inRound l).round a.eval = execOp a.eval o := Oper.semAt_some l _ _ hd
 rw [e]
 generalize (execOp a.eval o).run P w = r at *
 cases r with
 | ok x w' =>
  cases x <;> simp only [Oper.upon] at h <;> simp only [Oper.uponIn]
  case value v => exact h
  case skip => exact h
  case defer d => exact h
  case enter f args => exact ⟨fun hh => by simp [Fence.wide, Fence.inRound] at hh, (callsIn_wide.2 h).inRound l⟩
  case row row args =>
   refine ⟨fun hh => by simp [Fence.wide, Fence.inRound] at hh, fun c cs _ => ?_⟩
   obtain ⟨v, w'', hR, hs⟩ := h c cs
   exact ⟨v, w'', hR, stepsIn_wide.2 hs⟩
 | halt x w' => cases x <;> simp only [Oper.upon] at h <;> simp only [Oper.uponIn] <;> exact h
theorem anyIn_of_any {l m : Nat} (hd : noDefer ops = true) (hq : ¬ LetsOut Q) : ∀ (fuel : Nat) (listed : Array Bool) (a : Act) (w : World),
 wpAny P md ops Q fuel listed a w → wpAnyIn (Fence.wide.inRound l) m P md ops Q fuel listed a w
 | 0, _, _, _, h => h
 | fuel + 1, listed, a, w, h => ⟨h.1, fun i hi => by
  have h1 := wpOp_mono (fun a' w' h' => anyIn_of_any (l := l) (m := m) hd hq fuel _ a' w' h') (h.2 i hi)
  unfold wpOp at h1
  unfold wpOpIn
  split
  ·rename_i ho; simp only [ho] at h1; exact h1
  ·rename_i o ho
   simp only [ho] at h1
   split
   ·rename_i hw
    simp only [hw, if_true] at h1
    rcases h1 with h1 | h1
    ·exact wpIn_of_wp (noDefer_spec hd ho) h1
    ·exact absurd h1.2 hq
   ·rename_i hw
    simp only [hw] at h1
    exact ⟨fun f _ => trivial, h1⟩⟩
theorem ord_begin_round {k m id : Nat} {a : Act} {w : World} {l : List Oper} (n : Nat) (S : World → Prop) (hm : P.follows .mixedOrders = true) (hd : noDefer l.toArray = true) (hq : ¬ LetsOut Q)
 (h : Ord P l.toArray n Q S l.length (Array.replicate l.length false) a w.drew) : (Code.region id l.toArray true).wpIn (Fence.wide.inRound k) m P Q a w :=
 wpIn_region_any hm (anyIn_of_any hd hq _ _ _ _ (ord_any n S h))
end
end Go.Proofs.YthefgdehfgkhhaaGreat
namespace Go.Proofs.YthefgdehfgkhhaaGreat
open Go.RowKit Go.Shelf
set_option linter.unusedVariables false
set_option linter.unusedSimpArgs false
attribute [local go_sem] Oper.semAt_some
attribute [local go_sem ↓] Go.wp_at_zero Go.wp_at_succ
/-- What has come after k rounds: each place among the upper k, with its digit. -/
theorem mem_bkf {l : List Nat} : ∀ {k i : Nat} (hi : i < l.length), l.length - k ≤ i → k ≤ l.length → ∃ h, (⟨(i, l.getD i 0), h⟩ : Ix l) ∈ bkf l k
 | 0, i, hi, hk, _ => by omega
 | k + 1, i, hi, hk, hl => by
  rw [bkf_succ (by omega)]
  by_cases h : l.length - k ≤ i
  ·obtain ⟨h1, h2⟩ := mem_bkf hi h (by omega)
   exact ⟨h1, List.mem_append_left _ h2⟩
  ·have e : i = l.length - 1 - k := by omega
   subst e
   exact ⟨⟨hi, rfl⟩, List.mem_append_right _ (by simp)⟩
theorem bkf_last {l : List Nat} {k : Nat} {ini : List (Ix l)} {last : Ix l} (h : bkf l k = ini ++ [last]) : ∃ k', k' < k ∧ ini = bkf l k' ∧ last.1.1 = l.length - 1 - k' ∧ last.1.2 = l.getD last.1.1 0 := by
 induction k with
 | zero => simp [bkf] at h
 | succ k ih =>
  by_cases hk : k < l.length
  ·rw [bkf_succ hk] at h
   obtain ⟨h1, h2⟩ := List.append_inj' h rfl
   simp only [List.cons.injEq, and_true] at h2
   refine ⟨k, by omega, h1.symm, by rw [← h2], last.2.2⟩
  ·rw [bkf, dif_neg hk] at h
   obtain ⟨k', a, b, c, d⟩ := ih h
   exact ⟨k', by omega, b, c, d⟩
theorem cmpI_nat (x y : Nat) : cmpI (x : Int) (y : Int) = if x < y then -1 else if y < x then 1 else 0 := by
 unfold cmpI
 simp only [Int.ofNat_lt]
theorem cmp_len {X Y m n : Nat} (hm : (digs X).length = m) (hn : (digs Y).length = n) (h : m ≠ n) : cmpI (X : Int) (Y : Int) = cmpI (m : Int) (n : Int) := by
 rw [cmpI_nat, cmpI_nat]
 by_cases h1 : m < n
 ·have := digs_len_lt (m := X) (n := Y) (by omega)
  rw [if_pos this, if_pos h1]
 ·have := digs_len_lt (m := Y) (n := X) (by omega)
  rw [if_neg (by omega), if_pos this, if_neg h1, if_pos (by omega)]
theorem drop_eq {a b : List Nat} (hl : a.length = b.length) (i : Nat) (h : ∀ j, i ≤ j → j < a.length → b.getD j 0 = a.getD j 0) : a.drop i = b.drop i := by
 apply List.ext_getElem
 ·simp [hl]
 ·intro k h1 h2
  rw [List.length_drop] at h1 h2
  have := h (i + k) (by omega) (by omega)
  simp only [List.getD_eq_getElem?_getD, List.getElem?_eq_getElem (show i + k < a.length by omega), List.getElem?_eq_getElem (show i + k < b.length by omega), Option.getD_some] at this
  rw [List.getElem_drop, List.getElem_drop, this]
theorem cmp_top {X Y i : Nat} (hl : (digs X).length = (digs Y).length) (h : ∀ j, i + 1 ≤ j → j < (digs X).length → (digs Y).getD j 0 = (digs X).getD j 0) (hne : (digs X).getD i 0 ≠ (digs Y).getD i 0) :
 cmpI (X : Int) (Y : Int) = cmpI ((digs X).getD i 0 : Nat) ((digs Y).getD i 0 : Nat) := by
 have hd := drop_eq hl (i + 1) h
 rw [cmpI_nat, cmpI_nat]
 by_cases h1 : (digs X).getD i 0 < (digs Y).getD i 0
 ·have := val_lt_of_top (dig_digs X) i hd h1
  rw [val_digs, val_digs] at this
  rw [if_pos this, if_pos h1]
 ·have := val_lt_of_top (dig_digs Y) i hd.symm (by omega)
  rw [val_digs, val_digs] at this
  rw [if_neg (by omega), if_pos this, if_neg h1, if_pos (by omega)]
theorem cmp_same {X Y : Nat} (hl : (digs X).length = (digs Y).length) (h : ∀ j, j < (digs X).length → (digs Y).getD j 0 = (digs X).getD j 0) : cmpI (X : Int) (Y : Int) = 0 := by
 have := drop_eq hl 0 (fun j _ hj => h j hj)
 rw [List.drop_zero, List.drop_zero] at this
 have e := digs_inj this
 subst e
 rw [cmpI_nat, if_neg (Nat.lt_irrefl _), if_neg (Nat.lt_irrefl _)]
theorem boxed_set {W : World} {B : Nat} {t : TypeId} {v : Value} (h : Boxed W B t v) (u : Value) : Boxed (W.setCell ⟨B, 0, none⟩ u) B t u := Blk.set_ (w := W) (g := B) (t := t) (cs := #[v]) h 0 u
set_option maxRecDepth 100000 in
set_option maxHeartbeats 2000000 in
theorem cmp_any (w : World) (A1 A2 : Option Addr) (n1 c1 n2 c2 : Nat) (l1 l2 : List Nat) (h1 : Rd w w.heap.size A1 n1 c1 l1) (h2 : Rd w w.heap.size A2 n2 c2 l2) (hn1 : n1 ≤ 1048576) (hn2 : n2 ≤ 1048576) :
 Calls Tryz.prog 40 #[.slice A1 n1 c1, .slice A2 n2 c2] w fun e w' => e = .returned (.int .i64 (cmpI (tv l1) (tv l2))) ∧ Below w.heap.size w w' := by
 refine (callsIn_wide (n := 9)).1 ?_
 refine callsIn_of_wp_marks Tryz.func40 rfl trivial ?_ rfl
 simp only [Tryz.ntmps40, List.size_toArray, List.length_cons, List.length_nil, Nat.reduceAdd, Nat.reduceSub, Array.replicate_succ, Array.replicate_zero, List.push_toArray, List.append_toArray, List.nil_append, List.cons_append]
 refine wpIn_wide.2 ?_
 go_wp2_with fail
 obtain ⟨w0, hw0⟩ : ∃ w0, w0 = (w.alloc (.cells #[.slice A2 n2 c2] 32)).alloc (.cells #[.int .i64 0] 3) := ⟨_, rfl⟩
 rw [← hw0]
 have hb0 : Below w.heap.size w w0 := by rw [hw0]; exact ((Below.refl _ _).alloc (Nat.le_refl _) _).alloc (by simp) _
 have bB : Boxed w0 w.heap.size 32 (.slice A2 n2 c2) := by rw [hw0]; exact (Boxed.new w _ _).alloc _
 have bR : Boxed w0 (w.heap.size + 1) 3 (.int .i64 0) := by
  rw [hw0]
  have := Boxed.new (w.alloc (.cells #[.slice A2 n2 c2] 32)) 3 (.int .i64 0)
  rw [World.size_alloc] at this
  exact this
 have hz0 : w.heap.size + 2 ≤ w0.heap.size := by rw [hw0]; simp
 have r1 := h1.below hb0
 have r2 := h2.below hb0
 clear hw0 h1 h2
 have hc0 := bB.cell
 have hf0 := bB.frozen
 have hS : w0.drew.cell? ⟨w.heap.size, 0, none⟩ = some (.slice A2 n2 c2) := hc0
 refine wp_region_noPanic ?_
 refine ord_begin 5 (fun wx => wx.cell? ⟨w.heap.size, 0, none⟩ = some (.slice A2 n2 c2)) (by kernel_rfl) ?_
 refine ord_take (i := 0) (v := ?_) (by kernel_rfl) rfl (by decide) (by kernel_rfl) (by kernel_rfl) (fun _ _ _ h => h) (Or.inl ⟨by rfl, ?_⟩) hS ?_
 rotate_left
 ·intro wz hz; (try dsimp only at hz); (try go_split_ands); go_simp; (try with_reducible rfl)
 try simp only [Act.put, List.setIfInBounds_toArray, List.set_cons_zero, List.set_cons_succ]
 refine ord_take (i := 2) (v := ?_) (by kernel_rfl) rfl (by decide) (by kernel_rfl) (by kernel_rfl) (fun _ _ _ h => h) (Or.inl ⟨by rfl, ?_⟩) hS ?_
 rotate_left
 ·intro wz hz; (try dsimp only at hz); (try go_split_ands); go_simp; (try with_reducible rfl)
 try simp only [Act.put, List.setIfInBounds_toArray, List.set_cons_zero, List.set_cons_succ]
 refine ord_step (i := 1) rfl (by decide) (by kernel_rfl) (by rfl) (fun K hK => ?_)
 go_simp
 refine (taken_any _ _ A1 n1 c1 l1 r1.drew hn1).mono ?_
 rintro e w' ⟨⟨P1, m1, d1, rfl, hm1, q1⟩, rfl⟩
 refine hK _ _ hS ?_
 clear hK K
 try simp only [Act.put, List.setIfInBounds_toArray, List.set_cons_zero, List.set_cons_succ]
 refine ord_step (i := 3) rfl (by decide) (by kernel_rfl) (by rfl) (fun K hK => ?_)
 go_simp
 refine (taken_any _ _ A2 n2 c2 l2 r2.drew hn2).mono ?_
 rintro e w' ⟨⟨P2, m2, d2, rfl, hm2, q2⟩, rfl⟩
 refine hK _ _ hS ?_
 clear hK K
 try simp only [Act.put, List.setIfInBounds_toArray, List.set_cons_zero, List.set_cons_succ]
 refine ord_take (i := 4) (v := ?_) (by kernel_rfl) rfl (by decide) (by kernel_rfl) (by kernel_rfl) (fun _ _ _ h => h) (Or.inl ⟨by rfl, ?_⟩) hS ?_
 rotate_left
 ·intro wz hz; (try dsimp only at hz); (try go_split_ands); go_simp; (try with_reducible rfl)
 try simp only [Act.put, List.setIfInBounds_toArray, List.set_cons_zero, List.set_cons_succ]
 refine ord_rest (by kernel_rfl) ?_
 refine any_step (i := 5) rfl (by kernel_rfl) (by rfl) (fun K hK => ?_)
 go_simp
 refine hK _ _ ?_
 clear hK K
 try simp only [Act.put, List.setIfInBounds_toArray, List.set_cons_zero, List.set_cons_succ]
 refine wpAny_done (by kernel_rfl) ?_ _
 refine NoPanic.normal ?_
 have hb1 : Below w.heap.size w (w0.setCell ⟨w.heap.size, 0, none⟩ (.slice P2 m2 d2)).drew := (hb0.setCell (p := ⟨w.heap.size, 0, none⟩) (Nat.le_refl _) _).drew
 have bB1 : Boxed (w0.setCell ⟨w.heap.size, 0, none⟩ (.slice P2 m2 d2)).drew w.heap.size 32 (.slice P2 m2 d2) := boxed_set bB _
 have bR1 : Boxed (w0.setCell ⟨w.heap.size, 0, none⟩ (.slice P2 m2 d2)).drew (w.heap.size + 1) 3 (.int .i64 0) := bR.other (by omega) _
 have hz1 : w.heap.size + 2 ≤ (w0.setCell ⟨w.heap.size, 0, none⟩ (.slice P2 m2 d2)).drew.heap.size := by simpa [World.drew] using hz0
 have Q1 : Rd w w.heap.size P1 m1 d1 (digs (tv l1)) := q1.keep (fun p hp => (hb0.cell hp).symm) (Nat.le_refl _)
 have Q2 : Rd w w.heap.size P2 m2 d2 (digs (tv l2)) := q2.keep (fun p hp => (hb0.cell hp).symm) (Nat.le_refl _)
 generalize (w0.setCell ⟨w.heap.size, 0, none⟩ (.slice P2 m2 d2)).drew = w1 at *
 obtain ⟨X1, hX1⟩ : ∃ X, tv l1 = X := ⟨_, rfl⟩
 obtain ⟨X2, hX2⟩ : ∃ X, tv l2 = X := ⟨_, rfl⟩
 rw [hX1] at Q1
 rw [hX2] at Q2
 have HX12 := Lib.hid (And.intro hX1 hX2)
 clear hX1 hX2 hb0 bB bR hz0 hS hc0 hf0 r1 r2 q1 q2
 have hm1 : m1 ≤ 1048576 := by omega
 have hm2 : m2 ≤ 1048576 := by omega
 have hcB := bB1.cell
 have hcR := bR1.cell
 have hfR := bR1.frozen
 by_cases hne : m1 = m2
 ·subst hne
  have ht : ((m1 : Int) != (m1 : Int)) = false := by simp
  have HQ := Lib.hid (And.intro Q1 Q2)
  have HB := Lib.hid (And.intro bB1 bR1)
  have hll : (digs X1).length = (digs X2).length := by rw [Q1.len, Q2.len]
  have hl2 := Q2.len
  have hl1 := Q1.len
  have HL := Lib.hid (And.intro hll (And.intro hl1 hl2))
  clear Q1 Q2 bB1 bR1 hll hl1 hl2
  go_wp2_with fail
  refine (back_any _ P1 m1 d1).mono ?_
  rintro e w2 ⟨rfl, rfl⟩
  go_wp2_with fail
  clear hcB hcR hfR ht
  refine (wpIn_wide (n := 9)).1 ?_
  have bS : Boxed (w1.alloc (.cells #[.slice P1 m1 d1] 32)) w1.heap.size 32 (.slice P1 m1 d1) := Boxed.new _ _ _
  have hb2 : Below w.heap.size w (w1.alloc (.cells #[.slice P1 m1 d1] 32)) := hb1.alloc (by omega) _
  refine wpIn_rangeFunc_ownG rfl (by omega) (gf := 107) (lb := #[.pointer (some ⟨w1.heap.size, 0, none⟩)]) rfl trivial (enters_of Tryz.func107 (by kernel_rfl) rfl)
   (back_stops 8 (by omega) w1.heap.size w.heap.size P1 m1 d1 (digs X1) hm1 _ (by simp) (by simp; omega) bS.cell (HQ.out.1.below hb2)) (fun h k => h.trans k) (KpB.putObj (by simp; omega) (by simp)) (Below.refl _ _) (fun _ => rfl)
   (fun pre W => ((∀ p ∈ pre, (digs X2).getD p.1.1 0 = p.1.2) ∧ Boxed W w.heap.size 32 (.slice P2 m1 d2) ∧ Boxed W (w.heap.size + 1) 3 (.int .i64 0)) ∧ Below w.heap.size w W)
   (fun c pre W => (c = .ret ∧ ∃ ini last, pre = ini ++ [last] ∧ (∀ p ∈ ini, (digs X2).getD p.1.1 0 = p.1.2) ∧ (digs X2).getD last.1.1 0 ≠ last.1.2 ∧ Boxed W (w.heap.size + 1) 3 (.int .i64 (cmpI (last.1.2 : Int) ((digs X2).getD last.1.1 0 : Nat)))) ∧ Below w.heap.size w W)
   (OwnFrom.and (Own.from (fun s A B row hs hg hr => ⟨hs.1, boxed_own w.heap.size 32 (fun _ : Unit => Value.slice P2 m1 d2) () A B row hs.2.1 hg hr, boxed_own (w.heap.size + 1) 3 (fun _ : Unit => Value.int .i64 0) () A B row hs.2.2 hg hr⟩) _) (ownFrom_below (Nat.le_refl _) (by simp; omega)))
   (fun c => OwnFrom.and (Own.from (fun s A B row hs hg hr => by
    obtain ⟨hc, ini, last, e1, e2, e3, e4⟩ := hs
    exact ⟨hc, ini, last, e1, e2, e3, boxed_own (w.heap.size + 1) 3 (fun _ : Unit => Value.int .i64 (cmpI (last.1.2 : Int) ((digs X2).getD last.1.1 0 : Nat))) () A B row e4 hg hr⟩) _) (ownFrom_below (Nat.le_refl _) (by simp; omega)))
   ⟨⟨by simp, HB.out.1.alloc _, HB.out.2.alloc _⟩, hb2⟩
   (fun x => { tmps := #[.slice P1 m1 d1, .slice A2 n2 c2, undef, .pointer (some ⟨w.heap.size, 0, none⟩), .pointer (some ⟨w.heap.size + 1, 0, none⟩), .int .i64 (x.1.1 : Int), .int .u32 (x.1.2 : Int), .slice A1 n1 c1, .slice P1 m1 d1, .slice A2 n2 c2, .slice P2 m1 d2, .slice P1 m1 d1, .int .i64 (m1 : Int), .slice P2 m1 d2, .int .i64 (m1 : Int), .bool false, undef, undef, undef, undef, undef, .slice P1 m1 d1,
    .func (.func 107) #[] #[.pointer (some ⟨w1.heap.size, 0, none⟩)], .int .i64 (x.1.1 : Int), .int .u32 (x.1.2 : Int), undef, undef, undef, undef, undef, undef, undef, undef, undef, undef, undef, undef], defers := [] }) ?assign ?body ?done ?stop
  case assign =>
   intro l x W K hK
   simp only [encB]
   gi_wp2
   exact hK
  case body =>
   rintro l pre x W ⟨⟨hp, hbx, hrs⟩, hB⟩ _
   have hi := x.2.1
   have hdx := x.2.2
   have hq := HQ.out.2.below hB
   have hl1 := HL.out.2.1
   obtain ⟨bb, bo, hP, hbb, hcell⟩ := hq.at_ (by omega)
   have hcy := hcell x.1.1 (by omega)
   have hcB := hbx.cell
   have hcR := hrs.cell
   have hfR := hrs.frozen
   have HBX := Lib.hid (And.intro hbx (And.intro hrs (And.intro hp hB)))
   have hi1 : (x.1.1 : Int) < (m1 : Int) := by omega
   have hi0 : (0 : Int) ≤ (x.1.1 : Int) := by omega
   have HXD := Lib.hid hdx
   clear hbx hrs hp hB hq hl1 hcell hdx hi
   subst hP
   obtain ⟨i, hieq⟩ : ∃ i, x.1.1 = i := ⟨_, rfl⟩
   obtain ⟨d, hdeq⟩ : ∃ d, x.1.2 = d := ⟨_, rfl⟩
   obtain ⟨y, hy⟩ : ∃ y, (digs X2).getD x.1.1 0 = y := ⟨_, rfl⟩
   rw [hy] at hcy
   rw [hieq] at hcy hi1 hi0
   have HE := Lib.hid (And.intro hieq (And.intro hdeq hy))
   simp only [hieq, hdeq]
   clear hieq hdeq hy
   by_cases hdy : d = y
   ·subst hdy
    have ht : ((d : Int) != (d : Int)) = false := by simp
    gi_wp2
    refine ⟨KeepsFrom.refl _ _, KpB.refl _ _ _, ⟨fun p hp' => ?_, HBX.out.1, HBX.out.2.1⟩, HBX.out.2.2.2⟩
    rcases List.mem_append.1 hp' with h | h
    ·exact HBX.out.2.2.1 p h
    ·rw [List.mem_singleton.1 h, HE.out.2.2, HE.out.2.1]
   ·have ht : ((d : Int) != (y : Int)) = true := by simp; omega
    gi_wp2_with (refine ⟨trivial, ?_⟩; gi_at_call 78; refine (CallsIn.inRound l (callsIn_wide.2 (compare_u32 _ _ _))).mono ?_; rintro e w' ⟨rfl, rfl⟩)
    refine ⟨(KeepsOthers.setCell _ _ _).from _, ⟨rfl, pre, x, rfl, HBX.out.2.2.1, ?_, ?_⟩, HBX.out.2.2.2.setCell (p := ⟨w.heap.size + 1, 0, none⟩) (by simp) _⟩
    ·rw [HE.out.2.2, HE.out.2.1]; exact fun h => hdy h.symm
    ·rw [HE.out.2.2, HE.out.2.1]; exact boxed_set HBX.out.2.1 _
  case done =>
   rintro D ys W hD rfl ⟨⟨hp, hbx, hrs⟩, hB⟩ hK
   have hcR := hrs.cell
   have hfR := hrs.frozen
   have hz : cmpI (X1 : Int) (X2 : Int) = 0 := cmp_same HL.out.1 (fun j hj => by
    obtain ⟨hh, hm⟩ := mem_bkf (l := digs X1) (k := m1) hj (by rw [HL.out.2.1]; omega) (by rw [HL.out.2.1]; exact Nat.le_refl _)
    exact hp _ hm)
   have HZ := Lib.hid hz
   have HF := Lib.hid (And.intro hrs (And.intro hB hK))
   clear hz hrs hB hK hp hbx
   go_wp2_with fail
   have hK' := (KeepsOthers.setCell W ⟨w.heap.size + 1, 0, none⟩ (.int .i64 0)).same D _ HF.out.2.2 rfl
   refine ⟨by simp, .inl ⟨_, _, rfl, run_takeDeferred hK', ?_⟩⟩
   have hc5 := cell_kept (boxed_set HF.out.1 (.int .i64 0)).cell (grownBy_putObj' _ D (.deferred none)) (fun r e => by cases e; exact ⟨_, hK', rfl⟩)
   refine ⟨.int .i64 0, ?_, ?_, (HF.out.2.1.setCell (p := ⟨w.heap.size + 1, 0, none⟩) (by simp) _).trans (belowK_b (w := w) (Nat.le_refl _) _ D _ _ (by simp at hD; omega) hK' rfl rfl)⟩
   ·simp [results, Tryz.f40, go_sem, hc5]
   ·rw [HX12.out.1, HX12.out.2, HZ.out]
  case stop =>
   rintro D c pre W hD ⟨k, hk, rfl⟩ ⟨⟨rfl, ini, last, e1, e2, e3, hrs⟩, hB⟩ hK
   refine wpIn_wide.2 ?_
   have HF := Lib.hid (And.intro hrs (And.intro hB hK))
   have HE := Lib.hid (And.intro e1 (And.intro e2 e3))
   clear hrs hB hK e1 e2 e3
   go_wp2_with fail
   have hK' := HF.out.2.2
   refine ⟨by simp, .inl ⟨_, _, rfl, run_takeDeferred hK', ?_⟩⟩
   have hc5 := cell_kept HF.out.1.cell (grownBy_putObj' _ D (.deferred none)) (fun r e => by cases e; exact ⟨_, hK', rfl⟩)
   refine ⟨.int .i64 (cmpI (last.1.2 : Int) ((digs X2).getD last.1.1 0 : Nat)), ?_, ?_, HF.out.2.1.trans (belowK_b (w := w) (Nat.le_refl _) _ D _ _ (by simp at hD; omega) hK' rfl rfl)⟩
   ·simp [results, Tryz.f40, go_sem, hc5]
   ·obtain ⟨h1, h2, h3⟩ := HE.out
    obtain ⟨k', hk', hini, hl1, hl2⟩ := bkf_last h1
    subst hini
    rw [HX12.out.1, HX12.out.2, hl2]
    refine congrArg (fun z => Ending.returned (.int .i64 z)) (cmp_top HL.out.1 (fun j hj1 hj2 => ?_) (fun h => h3 (by rw [hl2, h]))).symm
    obtain ⟨hh, hm⟩ := mem_bkf (l := digs X1) (k := k') hj2 (by omega) (by rw [HL.out.2.1]; omega)
    exact h2 _ hm
 ·have ht : ((m1 : Int) != (m2 : Int)) = true := by simp; omega
  have HX : Hid (cmpI (X1 : Int) (X2 : Int) = cmpI (m1 : Int) (m2 : Int)) := Lib.hid (cmp_len Q1.len Q2.len hne)
  have HB := Lib.hid bR1
  clear Q1 Q2 bB1 bR1
  go_wp2_with fail
  refine (compare_int _ _ _).mono ?_
  rintro e w2 ⟨rfl, rfl⟩
  go_wp2_with fail
  have hc5 := (boxed_set HB.out (.int .i64 (cmpI (m1 : Int) (m2 : Int)))).cell
  refine ⟨.int .i64 (cmpI (m1 : Int) (m2 : Int)), ?_, ?_, hb1.setCell (p := ⟨w.heap.size + 1, 0, none⟩) (by simp) _⟩
  ·simp [results, Tryz.f40, go_sem, hc5]
  ·rw [HX12.out.1, HX12.out.2, HX.out]
end Go.Proofs.YthefgdehfgkhhaaGreat
namespace Go.Proofs.YthefgdehfgkhhaaGreat
open Go.RowKit
set_option linter.unusedVariables false
set_option linter.unusedSimpArgs false
/-- One digit more of a difference. -/
theorem sub_step {k : Nat} {os a b : List Nat} {br : Nat} (ho : os.length = k) (h : val os + val (b.take k) = val (a.take k) + 4294967296 ^ k * br) (hx : a.getD k 0 < 4294967296) (hy : b.getD k 0 < 4294967296) (hb : br ≤ 1) :
 val (os ++ [subD (a.getD k 0) (b.getD k 0) br]) + val (b.take (k + 1)) = val (a.take (k + 1)) + 4294967296 ^ (k + 1) * subB (a.getD k 0) (b.getD k 0) br := by
 have hs := sub_eq _ _ _ hx hy hb
 rw [val_snoc, val_take_succ, val_take_succ, ho, Nat.pow_succ, Nat.mul_assoc]
 generalize subD (a.getD k 0) (b.getD k 0) br = d at *
 generalize subB (a.getD k 0) (b.getD k 0) br = q at *
 generalize a.getD k 0 = x at *
 generalize b.getD k 0 = y at *
 have e : 4294967296 ^ k * (d + y + br) = 4294967296 ^ k * (x + 4294967296 * q) := by rw [hs]
 rw [Nat.mul_add, Nat.mul_add, Nat.mul_add] at e
 omega
theorem sub_end {n : Nat} {os a b : List Nat} {br : Nat} (ho : os.length = n) (hd : Dig os) (ha : a.length = n) (hb : b.length ≤ n) (hle : val b ≤ val a) (h : val os + val (b.take n) = val (a.take n) + 4294967296 ^ n * br) : val os = val a - val b := by
 rw [List.take_of_length_le (by omega), List.take_of_length_le (by omega)] at h
 have h1 := val_lt hd
 rw [ho] at h1
 rcases Nat.eq_zero_or_pos br with h0 | h0
 ·subst h0; omega
 ·have := Nat.mul_le_mul_left (4294967296 ^ n) h0
  omega
/-- A difference is handed back, and whether there is one. -/
def RetS (w : World) (X1 X2 : Nat) (e : Ending) (w' : World) : Prop :=
 ∃ A n c, e = .returned (.tuple #[.slice A n c, .bool (decide (X2 ≤ X1))]) ∧ Rd w' w'.heap.size A n c (digs (X1 - X2)) ∧ Below w.heap.size w w'
set_option maxRecDepth 100000 in
set_option maxHeartbeats 1000000 in
theorem sub_any (w : World) (A1 A2 : Option Addr) (n1 c1 n2 c2 : Nat) (l1 l2 : List Nat) (h1 : Rd w w.heap.size A1 n1 c1 l1) (h2 : Rd w w.heap.size A2 n2 c2 l2) (hn1 : n1 ≤ 65536) (hn2 : n2 ≤ 65536) :
 Calls Tryz.prog 94 #[.slice A1 n1 c1, .slice A2 n2 c2] w (RetS w (tv l1) (tv l2)) := by
 go_enter Tryz.func94, Tryz.ntmps94
 go_wp2_with fail
 refine (taken_any _ _ A1 n1 c1 l1 h1 (by omega)).mono ?_
 rintro e w' ⟨⟨P1, m1, d1, rfl, hm1, r1⟩, rfl⟩
 go_wp2_with fail
 refine (taken_any _ _ A2 n2 c2 l2 h2 (by omega)).mono ?_
 rintro e w' ⟨⟨P2, m2, d2, rfl, hm2, r2⟩, rfl⟩
 have hm1 : m1 ≤ 65536 := by omega
 have hm2 : m2 ≤ 65536 := by omega
 clear h1 h2
 generalize tv l1 = X1 at *
 generalize tv l2 = X2 at *
 have HC : Hid (cmpI (X1 : Int) (X2 : Int) = if X1 < X2 then -1 else if X2 < X1 then 1 else 0) := Lib.hid (cmpI_nat X1 X2)
 go_wp2_with fail
 refine (cmp_any _ P1 P2 m1 d1 m2 d2 _ _ r1 r2 (by omega) (by omega)).mono ?_
 rintro e w1 ⟨rfl, hb1⟩
 rw [tv_digs, tv_digs]
 generalize cmpI (X1 : Int) (X2 : Int) = r at *
 by_cases hlt : X1 < X2
 ·have hr : r < 0 := by have := HC.out; rw [if_pos hlt] at this; omega
  have hf : RetS w X1 X2 (.returned (.tuple #[.slice none 0 0, .bool false])) w1 := by
   refine ⟨none, 0, 0, ?_, ?_, hb1⟩
   ·rw [decide_eq_false (by omega)]
   ·rw [show X1 - X2 = 0 by omega, digs_zero]; exact Rd.nil _ _
  have HF := Lib.hid hf
  clear hf r1 r2 hlt
  go_wp2_with fail
  go_ret2
  exact HF.out
 ·have hr : ¬ r < 0 := by
   have := HC.out
   rw [if_neg hlt] at this
   split at this <;> omega
  have R1 := r1.below hb1
  have R2 := r2.below hb1
  have hlen : m2 ≤ m1 := by
   have := digs_len_mono (m := X2) (n := X1) (by omega)
   rw [r1.len, r2.len] at this
   exact this
  have hfin : ∀ (wr : World) (os : List Nat) (br : Nat), os.length = m1 → Dig os → val os + val ((digs X2).take m1) = val ((digs X1).take m1) + 4294967296 ^ m1 * br → ∀ (A : Option Addr) (n c : Nat) (w2 : World), Rd w2 w2.heap.size A n c (digs (val os)) → Below w.heap.size w w2 → RetS w X1 X2 (.returned (.tuple #[.slice A n c, .bool true])) w2 := by
   intro wr os br ho hd hv A n c w2 hh hb
   have := sub_end ho hd R1.len (by rw [R2.len]; exact hlen) (by rw [val_digs, val_digs]; omega) hv
   rw [val_digs, val_digs] at this
   rw [this] at hh
   exact ⟨A, n, c, by rw [decide_eq_true (by omega)], hh, hb⟩
  have HF := Lib.hid hfin
  have HS : Hid (∀ k, m2 ≤ k → (digs X2).getD k 0 = 0) := Lib.hid (fun k hk => getD_zero_of_ge (by rw [r2.len]; exact hk))
  have HR := Lib.hid (And.intro R1.at_ (And.intro R2.at_ (And.intro (dig_digs X1) (dig_digs X2))))
  clear hfin r1 r2 R1 R2 hn1 hn2 HC
  generalize digs X1 = lL at *
  generalize digs X2 = lS at *
  have hmk := make_u32 (m1 : Int) m1 (by omega) (by omega)
  have hsz1 := hb1.size
  go_wp2_with fail
  go_loopw [7, 23] (fun cv iv wr => ∃ (k : Nat) (os : List Nat) (br : Nat), k ≤ m1 ∧ iv = .int .i64 k ∧ cv = .int .u32 (br : Int) ∧ br ≤ 1 ∧ Hid (os.length = k) ∧ Dig os ∧
   Hid (val os + val (lS.take k) = val (lL.take k) + 4294967296 ^ k * br) ∧ Hid (Blk wr w1.heap.size 132 (cells (os ++ List.replicate (m1 - k) 0))) ∧ Below w.heap.size w wr) (fun _ iv _ => m1 - (intOf iv).toNat)
  case atStart => exact ⟨0, [], 0, Nat.zero_le _, rfl, rfl, Nat.zero_le _, rfl, Dig.nil, by simp [Hid, val], Lib.hid (by rw [List.nil_append]; exact Blk.new _ _ _), hb1.alloc hsz1 _⟩
  case round =>
   obtain ⟨k, os, br, hk, rfl, rfl, hbr, HO, hdo, HV, HB, hbel⟩ := hrel
   by_cases hkl : k < m1
   ·obtain ⟨b, off, rfl, hbb, hcell⟩ := HR.out.1 (by omega)
    have hbw : Below w.heap.size w1 wr := ⟨hbel.os.trans hb1.os.symm, hbel.tape.trans hb1.tape.symm, hbel.output.trans hb1.output.symm, by
     have := HB.out.lt; omega, fun j hj => (hbel.block j hj).trans (hb1.block j hj).symm⟩
    have hcL := (hbw.cell (p := ⟨b, off + k, none⟩) hbb).trans (hcell k hkl)
    have hxL := HR.out.2.2.1.getD k
    have hxS := HR.out.2.2.2.getD k
    have hV2 := sub_step HO.out HV.out hxL hxS hbr
    obtain ⟨x, hx⟩ : ∃ x, lL.getD k 0 = x := ⟨_, rfl⟩
    obtain ⟨y, hy⟩ : ∃ y, lS.getD k 0 = y := ⟨_, rfl⟩
    have HXY := Lib.hid (And.intro hx hy)
    rw [hx] at hcL hxL hV2
    rw [hy] at hxS hV2
    have HV2 := Lib.hid hV2
    have hb0 : wr.cell? ⟨w1.heap.size, k, none⟩ = some (.int .u32 ((os ++ List.replicate (m1 - k) 0).getD k 0 : Nat)) := by
     rw [HB.out.cell, cells_in _ _ _ (by rw [HO.out]; omega)]
    have hf0 := HB.out.frozen k
    have HB2 : Hid (Blk (wr.setCell ⟨w1.heap.size, k, none⟩ (.int .u32 (subD x y br : Nat))) w1.heap.size 132 (cells ((os ++ [subD x y br]) ++ List.replicate (m1 - (k + 1)) 0))) := by
     have := HB.out.set_ k (.int .u32 (subD x y br : Nat))
     rw [show m1 - k = (m1 - (k + 1)) + 1 by omega] at this
     have e := cells_step os (m1 - (k + 1)) (subD x y br)
     rw [HO.out] at e
     rw [e] at this
     exact this
    have hbel2 := hbel.setCell (p := ⟨w1.heap.size, k, none⟩) hsz1 (.int .u32 (subD x y br : Nat))
    have hq := subB_le x y br
    have hdl := subD_lt x y br
    clear hx hy hcell hV2
    generalize (os ++ List.replicate (m1 - k) 0).getD k 0 = old at *
    by_cases hks : k < m2
    ·obtain ⟨b2, off2, rfl, hbb2, hcell2⟩ := HR.out.2.1 (by omega)
     have hcS := (hbw.cell (p := ⟨b2, off2 + k, none⟩) hbb2).trans (hcell2 k hks)
     rw [HXY.out.2] at hcS
     clear hcell2 hbw
     go_wp2_with fail
     refine (sub32_any x y br _ hxL hxS hbr).mono ?_
     rintro e w2 ⟨rfl, rfl⟩
     go_wp2_with fail
     go_roundw
     case rel => exact ⟨k + 1, _, subB x y br, by omega, by go_num, rfl, hq, Lib.hid (by rw [List.length_append, HO.out]; rfl), hdo.append (Dig.cons hdl Dig.nil), HV2, HB2, hbel2⟩
     case measure => simp [intOf]; omega
    ·have hy0 : y = 0 := by rw [← HXY.out.2]; exact HS.out k (by omega)
     subst hy0
     clear hbw
     go_wp2_with fail
     refine (sub32_any x 0 br _ hxL hxS hbr).mono ?_
     rintro e w2 ⟨rfl, rfl⟩
     go_wp2_with fail
     go_roundw
     case rel => exact ⟨k + 1, _, subB x 0 br, by omega, by go_num, rfl, hq, Lib.hid (by rw [List.length_append, HO.out]; rfl), hdo.append (Dig.cons hdl Dig.nil), HV2, HB2, hbel2⟩
     case measure => simp [intOf]; omega
   ·obtain rfl : k = m1 := by omega
    have hB2 : Blk wr w1.heap.size 132 (cells os) := by
     have := HB.out
     rw [Nat.sub_self, List.replicate_zero, List.append_nil] at this
     exact this
    have hr := Rd.of_blk hB2 hdo
    rw [HO.out] at hr
    have HG := Lib.hid (HF.out wr os br HO.out hdo HV.out)
    have HRR := Lib.hid hr
    clear hr hB2
    go_wp2_with fail
    refine (low_any _ _ _ _ _ _ HRR.out (by omega)).mono ?_
    rintro e w2 ⟨⟨P, mm, dd, rfl, hmm, rr⟩, rfl⟩
    go_wp2_with fail
    go_ret2
    exact HG.out _ _ _ _ rr hbel
end Go.Proofs.YthefgdehfgkhhaaGreat
namespace Go.Proofs.YthefgdehfgkhhaaGreat
open Go.RowKit
set_option linter.unusedVariables false
set_option linter.unusedSimpArgs false
theorem val_set {L : List Nat} {k : Nat} (d : Nat) (h : k < L.length) : val (L.set k d) + 4294967296 ^ k * L.getD k 0 = val L + 4294967296 ^ k * d := by
 induction L generalizing k with
 | nil => simp at h
 | cons x L ih =>
  cases k with
  | zero => simp [val]; omega
  | succ k =>
   have := ih (k := k) (by simpa using h)
   simp only [List.set_cons_succ, val, List.getD_cons_succ, Nat.pow_succ]
   have e1 : 4294967296 ^ k * 4294967296 * L.getD k 0 = 4294967296 * (4294967296 ^ k * L.getD k 0) := by
    rw [Nat.mul_comm (4294967296 ^ k) 4294967296, Nat.mul_assoc]
   have e2 : 4294967296 ^ k * 4294967296 * d = 4294967296 * (4294967296 ^ k * d) := by
    rw [Nat.mul_comm (4294967296 ^ k) 4294967296, Nat.mul_assoc]
   rw [e1, e2]
   omega
theorem mul_in {L b : List Nat} {i k cr V0 x : Nat} (hl : i + k < L.length) (h : val L + 4294967296 ^ (i + k) * cr = V0 + x * (4294967296 ^ i * val (b.take k))) (s : Nat) (hs : s = x * b.getD k 0 + L.getD (i + k) 0 + cr) :
 val (L.set (i + k) (s % 4294967296)) + 4294967296 ^ (i + (k + 1)) * (s / 4294967296) = V0 + x * (4294967296 ^ i * val (b.take (k + 1))) := by
 have h1 := val_set (s % 4294967296) hl
 have e : s = s % 4294967296 + 4294967296 * (s / 4294967296) := by omega
 have e2 : 4294967296 ^ (i + k) * s = 4294967296 ^ (i + k) * (s % 4294967296) + 4294967296 ^ (i + (k + 1)) * (s / 4294967296) := by
  rw [show i + (k + 1) = (i + k) + 1 by omega, Nat.pow_succ, Nat.mul_assoc, ← Nat.mul_add, ← e]
 rw [hs, Nat.mul_add, Nat.mul_add] at e2
 rw [← hs] at e2
 rw [val_take_succ, Nat.mul_add, Nat.mul_add]
 have e3 : x * (4294967296 ^ i * (4294967296 ^ k * b.getD k 0)) = 4294967296 ^ (i + k) * (x * b.getD k 0) := by
  rw [Nat.pow_add]; grind
 rw [e3]
 omega
theorem mul_out {L a b : List Nat} {i nb cr x : Nat} (hb : b.length = nb) (hl : i + nb < L.length) (hz : L.getD (i + nb) 0 = 0) (hx : x = a.getD i 0)
 (h : val L + 4294967296 ^ (i + nb) * cr = val (a.take i) * val b + x * (4294967296 ^ i * val (b.take nb))) : val (L.set (i + nb) cr) = val (a.take (i + 1)) * val b := by
 have h1 := val_set cr hl
 rw [hz] at h1
 have hb' : b.take nb = b := List.take_of_length_le (by omega)
 rw [hb'] at h
 rw [val_take_succ, ← hx, Nat.add_mul]
 have e : 4294967296 ^ i * x * val b = x * (4294967296 ^ i * val b) := by rw [Nat.mul_comm (4294967296 ^ i) x, Nat.mul_assoc]
 rw [e]
 omega
theorem getD_set {L : List Nat} {k j d : Nat} (h : j ≠ k) : (L.set k d).getD j 0 = L.getD j 0 := by
 simp [List.getD_eq_getElem?_getD, List.getElem?_set, Ne.symm h]
theorem Dig.set {L : List Nat} (h : Dig L) (k : Nat) {d : Nat} (hd : d < 4294967296) : Dig (L.set k d) := fun x hx => by
 rcases List.mem_or_eq_of_mem_set hx with hx | hx
 ·exact h x hx
 ·omega
theorem Dig.zeros (n : Nat) : Dig (List.replicate n 0) := fun x hx => by
 have := (List.mem_replicate.1 hx).2
 omega
theorem prod_lt {x y : Nat} (hx : x < 4294967296) (hy : y < 4294967296) : x * y ≤ 18446744065119617025 := by
 have := Nat.mul_le_mul (show x ≤ 4294967295 by omega) (show y ≤ 4294967295 by omega)
 omega
set_option maxRecDepth 100000 in
set_option maxHeartbeats 1000000 in
theorem mul_any (w : World) (A1 A2 : Option Addr) (n1 c1 n2 c2 : Nat) (l1 l2 : List Nat) (h1 : Rd w w.heap.size A1 n1 c1 l1) (h2 : Rd w w.heap.size A2 n2 c2 l2) (hn1 : n1 ≤ 65536) (hn2 : n2 ≤ 65536) :
 Calls Tryz.prog 74 #[.slice A1 n1 c1, .slice A2 n2 c2] w (RetN w (tv l1 * tv l2)) := by
 go_enter Tryz.func74, Tryz.ntmps74
 go_wp2_with fail
 refine (taken_any _ _ A1 n1 c1 l1 h1 (by omega)).mono ?_
 rintro e w' ⟨⟨P1, m1, d1, rfl, hm1, r1⟩, rfl⟩
 go_wp2_with fail
 refine (taken_any _ _ A2 n2 c2 l2 h2 (by omega)).mono ?_
 rintro e w' ⟨⟨P2, m2, d2, rfl, hm2, r2⟩, rfl⟩
 have hm1 : m1 ≤ 65536 := by omega
 have hm2 : m2 ≤ 65536 := by omega
 clear h1 h2
 generalize tv l1 = X1 at *
 generalize tv l2 = X2 at *
 have hfin : ∀ (L : List Nat), val L = val ((digs X1).take m1) * val (digs X2) → ∀ (e : Ending) (w1 : World), HasD w1 w1.heap.size (m1 + m2) (val L) e → Below w.heap.size w w1 → RetN w (X1 * X2) e w1 := by
  intro L hv e w1 hh hb
  rw [List.take_of_length_le (by rw [r1.len]; exact Nat.le_refl _), val_digs, val_digs] at hv
  rw [hv] at hh
  exact hh.ret hb
 have HF := Lib.hid hfin
 have HR := Lib.hid (And.intro r1.at_ (And.intro r2.at_ (And.intro (dig_digs X1) (And.intro (dig_digs X2) r2.len))))
 clear hfin r1 r2 hn1 hn2
 generalize digs X1 = a at *
 generalize digs X2 = b at *
 have hmk := make_u32 ((m1 : Int) + (m2 : Int)) (m1 + m2) (by omega) (by omega)
 go_wp2_with fail
 go_loopw [24] (fun iv wr => ∃ (i : Nat) (L : List Nat), i ≤ m1 ∧ iv = .int .i64 i ∧ Hid (L.length = m1 + m2) ∧ Hid (Dig L) ∧ Hid (val L = val (a.take i) * val b) ∧ Hid (∀ j, i + m2 ≤ j → L.getD j 0 = 0) ∧
  Hid (Blk wr w.heap.size 132 (cells L)) ∧ Below w.heap.size w wr) (fun iv _ => m1 - (intOf iv).toNat)
 case atStart => exact ⟨0, List.replicate (m1 + m2) 0, Nat.zero_le _, rfl, by simp [Hid], Dig.zeros _, by simp [Hid, val, val_zeros], Lib.hid (fun j _ => by simp [List.getD_eq_getElem?_getD, List.getElem?_replicate]; split <;> rfl), Blk.new _ _ _, (Below.refl _ _).alloc (Nat.le_refl _) _⟩
 case round =>
  obtain ⟨i, L, hi, rfl, HL, HD, HV, HZ, HB, hbel⟩ := hrel
  by_cases hlt : i < m1
  ·obtain ⟨ab, ao, rfl, hab, hac⟩ := HR.out.1 (by omega)
   have hcx := (hbel.cell (p := ⟨ab, ao + i, none⟩) hab).trans (hac i hlt)
   obtain ⟨x, hx⟩ : ∃ x, a.getD i 0 = x := ⟨_, rfl⟩
   have hxl : x < 4294967296 := by rw [← hx]; exact HR.out.2.2.1.getD i
   rw [hx] at hcx
   have HX := Lib.hid hx
   clear hx hac
   obtain ⟨wo, rfl⟩ : ∃ wo : World, wo = wr := ⟨_, rfl⟩
   go_wp2_with fail
   go_loopw [8, 31] (fun cv kv wr => ∃ (k cr : Nat) (M : List Nat), k ≤ m2 ∧ kv = .int .i64 k ∧ cv = .int .u64 (cr : Int) ∧ cr < 4294967296 ∧ Hid (M.length = m1 + m2) ∧ Hid (Dig M) ∧
    Hid (val M + 4294967296 ^ (i + k) * cr = val (a.take i) * val b + x * (4294967296 ^ i * val (b.take k))) ∧ Hid (∀ j, i + m2 ≤ j → M.getD j 0 = 0) ∧ Hid (Blk wr w.heap.size 132 (cells M)) ∧ Below w.heap.size w wr) (fun _ kv _ => m2 - (intOf kv).toNat)
   case atStart => exact ⟨0, 0, L, Nat.zero_le _, rfl, rfl, by decide, HL, HD, by simpa [Hid, val] using HV.out, HZ, HB, hbel⟩
   case round =>
    obtain ⟨k, cr, M, hk, rfl, rfl, hcr, HL, HD, HV2, HZ, HB, hbel⟩ := hrel
    by_cases hkt : k < m2
    ·obtain ⟨bb, bo, rfl, hbb, hbc⟩ := HR.out.2.1 (by omega)
     have hcy := (hbel.cell (p := ⟨bb, bo + k, none⟩) hbb).trans (hbc k hkt)
     obtain ⟨y, hy⟩ : ∃ y, b.getD k 0 = y := ⟨_, rfl⟩
     have hyl : y < 4294967296 := by rw [← hy]; exact HR.out.2.2.2.1.getD k
     rw [hy] at hcy
     have hb0 : wr.cell? ⟨w.heap.size, i + k, none⟩ = some (.int .u32 (M.getD (i + k) 0 : Nat)) := by
      rw [HB.out.cell, cells_at _ (by rw [HL.out]; omega)]
     have hf0 := HB.out.frozen (i + k)
     obtain ⟨o, ho⟩ : ∃ o, M.getD (i + k) 0 = o := ⟨_, rfl⟩
     have hol : o < 4294967296 := by rw [← ho]; exact HD.out.getD _
     rw [ho] at hb0
     obtain ⟨p, hp⟩ : ∃ p, p = x * y := ⟨_, rfl⟩
     have hpl : p ≤ 18446744065119617025 := by rw [hp]; exact prod_lt hxl hyl
     have hxy : (x : Int) * (y : Int) = (p : Int) := by rw [hp, Int.natCast_mul]
     have HV3 := Lib.hid (mul_in (b := b) (by rw [HL.out]; omega) HV2.out (p + o + cr) (by rw [hy, ho, hp]))
     have HB2 : Hid (Blk (wr.setCell ⟨w.heap.size, i + k, none⟩ (.int .u32 (((p : Int) + (o : Int) + (cr : Int)) % 4294967296))) w.heap.size 132 (cells (M.set (i + k) ((p + o + cr) % 4294967296)))) := by
      have := HB.out.set_ (i + k) (.int .u32 (((p + o + cr) % 4294967296 : Nat) : Int))
      rw [cells_set] at this
      rw [show (((p : Int) + (o : Int) + (cr : Int)) % 4294967296) = (((p + o + cr) % 4294967296 : Nat) : Int) by omega]
      exact this
     have hbel2 := hbel.setCell (p := ⟨w.heap.size, i + k, none⟩) (Nat.le_refl _) (.int .u32 (((p : Int) + (o : Int) + (cr : Int)) % 4294967296))
     have hq : (p + o + cr) / 4294967296 < 4294967296 := by omega
     clear hy hbc ho hp
     go_wp2_with fail
     go_roundw
     case rel => exact ⟨k + 1, (p + o + cr) / 4294967296, _, by omega, by go_num, by go_num, hq, Lib.hid (by rw [List.length_set]; exact HL.out), Lib.hid (HD.out.set _ (Nat.mod_lt _ (by decide))), HV3, Lib.hid (fun j hj => by rw [getD_set (by omega)]; exact HZ.out j hj), HB2, hbel2⟩
     case measure => simp [intOf]; omega
    ·obtain rfl : k = m2 := by omega
     have hb0 : wr.cell? ⟨w.heap.size, i + k, none⟩ = some (.int .u32 (M.getD (i + k) 0 : Nat)) := by
      rw [HB.out.cell, cells_at _ (by rw [HL.out]; omega)]
     rw [HZ.out _ (Nat.le_refl _)] at hb0
     have hf0 := HB.out.frozen (i + k)
     have HV3 := Lib.hid (mul_out HR.out.2.2.2.2 (by rw [HL.out]; omega) (HZ.out _ (Nat.le_refl _)) HX.out.symm HV2.out)
     have HB2 : Hid (Blk (wr.setCell ⟨w.heap.size, i + k, none⟩ (.int .u32 (cr : Int))) w.heap.size 132 (cells (M.set (i + k) cr))) := by
      have := HB.out.set_ (i + k) (.int .u32 (cr : Int))
      rw [cells_set] at this
      exact this
     have hbel2 := hbel.setCell (p := ⟨w.heap.size, i + k, none⟩) (Nat.le_refl _) (.int .u32 (cr : Int))
     go_wp2_with fail
     go_roundw
     case rel => exact ⟨i + 1, _, by omega, by go_num, Lib.hid (by rw [List.length_set]; exact HL.out), Lib.hid (HD.out.set _ hcr), HV3, Lib.hid (fun j hj => by rw [getD_set (by omega)]; exact HZ.out j (by omega)), HB2, hbel2⟩
     case measure => simp [intOf]; omega
  ·obtain rfl : i = m1 := by omega
   have hr := Rd.of_blk HB.out HD.out
   rw [HL.out] at hr
   have HRR := Lib.hid hr
   have HG := Lib.hid (HF.out L HV.out)
   clear hr
   go_wp2_with fail
   refine (low_any _ _ _ _ _ _ HRR.out (by omega)).mono ?_
   rintro e w1 ⟨⟨P, mm, dd, rfl, hmm, rr⟩, rfl⟩
   go_wp2_with fail
   go_ret
   exact HG.out _ _ ⟨_, _, _, rfl, hmm, rr⟩ hbel
end Go.Proofs.YthefgdehfgkhhaaGreat
namespace Go.Proofs.YthefgdehfgkhhaaGreat
open Go.RowKit
set_option linter.unusedVariables false
set_option linter.unusedSimpArgs false
attribute [local go_sem ↓] Go.wp_at_zero Go.wp_at_succ
theorem or_add (d b i : Nat) (hb : b = 2 ^ i) (h : d % (2 * b) = 0) : d ||| b = d + b := by
 subst hb
 have e : d = 2 ^ (i + 1) * (d / 2 ^ (i + 1)) := by
  have := Nat.div_add_mod d (2 ^ (i + 1))
  rw [Nat.pow_succ, Nat.mul_comm (2 ^ i) 2] at this
  rw [Nat.pow_succ, Nat.mul_comm (2 ^ i) 2]
  omega
 rw [e]
 exact (Nat.two_pow_add_eq_or_of_lt (i := i + 1) (b := 2 ^ i) (by rw [Nat.pow_succ]; have := Nat.two_pow_pos i; omega) _).symm
theorem great_step {Y R d b : Nat} (hb : 0 < b) (h1 : d % (2 * b) = 0) : d % b = 0 ∧ (d + b) % b = 0 := by
 have : d % b = 0 := by
  have h := Nat.mod_mul_left_mod d 2 b
  rw [h1] at h
  simpa using h.symm
 exact ⟨this, by rw [Nat.add_mod_right]; exact this⟩
theorem tv_single {d : Nat} : tv [d] = d := by
 unfold tv tk rightB
 rcases Nat.eq_zero_or_pos d with h | h
 ·subst h; rfl
 ·have : (d != 0) = true := by simp; omega
  simp [this, val]
set_option maxRecDepth 100000 in
set_option maxHeartbeats 1000000 in
/-- What DivMod asks of a digit: is the divisor, so many times, no more than what is left? -/
theorem holds_any (w : World) (bB rB : Nat) (A1 A2 : Option Addr) (n1 c1 n2 c2 Y R d : Nat) (hbB : Boxed w bB 32 (.slice A1 n1 c1)) (hrB : Boxed w rB 32 (.slice A2 n2 c2)) (r1 : Rd w w.heap.size A1 n1 c1 (digs Y)) (r2 : Rd w w.heap.size A2 n2 c2 (digs R))
 (hn1 : n1 ≤ 65536) (hn2 : n2 ≤ 65536) (hd : d < 4294967296) :
 Calls Tryz.prog 93 #[.int .u32 (d : Int), .pointer (some ⟨bB, 0, none⟩), .pointer (some ⟨rB, 0, none⟩)] w fun e w' => e = .returned (.bool (decide (Y * d ≤ R))) ∧ Below w.heap.size w w' := by
 have HD : Hid (decide (cmpI ((Y : Int) * (d : Int)) (R : Int) ≤ 0) = decide (Y * d ≤ R)) := Lib.hid (by
  rw [← Int.natCast_mul, cmpI_nat]
  by_cases h : Y * d ≤ R
  ·rw [decide_eq_true h, decide_eq_true (by split <;> (try split) <;> omega)]
  ·rw [decide_eq_false h, decide_eq_false (by rw [if_neg (by omega), if_pos (by omega)]; omega)])
 obtain ⟨res, hres⟩ : ∃ b, decide (Y * d ≤ R) = b := ⟨_, rfl⟩
 rw [hres] at HD ⊢
 clear hres
 go_enter Tryz.func93, Tryz.ntmps93
 go_wp2_with fail
 have hcb := hbB.cell
 have hcr := hrB.cell
 have hlb := hbB.lt
 have hlr := hrB.lt
 have hS : w.drew.cell? ⟨bB, 0, none⟩ = some (.slice A1 n1 c1) ∧ w.drew.cell? ⟨rB, 0, none⟩ = some (.slice A2 n2 c2) := ⟨hcb, hcr⟩
 have hb1 : Below w.heap.size w (w.alloc (.cells #[.int .u32 (d : Int)] 132)).drew := ((Below.refl _ _).alloc (Nat.le_refl _) _).drew
 have hS1 : (w.alloc (.cells #[.int .u32 (d : Int)] 132)).drew.cell? ⟨bB, 0, none⟩ = some (.slice A1 n1 c1) ∧ (w.alloc (.cells #[.int .u32 (d : Int)] 132)).drew.cell? ⟨rB, 0, none⟩ = some (.slice A2 n2 c2) :=
  ⟨(hb1.cell (p := ⟨bB, 0, none⟩) hlb).trans hcb, (hb1.cell (p := ⟨rB, 0, none⟩) hlr).trans hcr⟩
 have q1 : Rd (w.alloc (.cells #[.int .u32 (d : Int)] 132)).drew (w.alloc (.cells #[.int .u32 (d : Int)] 132)).drew.heap.size A1 n1 c1 (digs Y) := r1.on hb1
 have q3 : Rd (w.alloc (.cells #[.int .u32 (d : Int)] 132)).drew (w.alloc (.cells #[.int .u32 (d : Int)] 132)).drew.heap.size (some ⟨w.heap.size, 0, none⟩) 1 1 [d] :=
  Rd.of_blk (t := 132) (l := [d]) (Blk.drew (Blk.new w _ _)) (Dig.cons hd Dig.nil)
 have HQ := Lib.hid (And.intro q1 (And.intro q3 r2))
 clear q1 q3 r1 r2 hbB hrB
 refine ord_begin 7 (fun wx => wx.cell? ⟨bB, 0, none⟩ = some (.slice A1 n1 c1) ∧ wx.cell? ⟨rB, 0, none⟩ = some (.slice A2 n2 c2)) (by kernel_rfl) ?_
 refine ord_take (i := 0) (v := ?_) (by kernel_rfl) rfl (by decide) (by kernel_rfl) (by kernel_rfl) (fun _ _ _ h => h) (Or.inl ⟨by rfl, ?_⟩) hS ?_
 rotate_left
 ·intro wz hz; (try dsimp only at hz); (try go_split_ands); go_simp; (try with_reducible rfl)
 try simp only [Act.put, pu]
 refine ord_take (i := 1) (v := ?_) (by kernel_rfl) rfl (by decide) (by kernel_rfl) (by kernel_rfl) (fun _ _ _ h => h) (Or.inl ⟨by rfl, ?_⟩) hS ?_
 rotate_left
 ·intro wz hz; (try dsimp only at hz); (try go_split_ands); go_simp; (try with_reducible rfl)
 try simp only [Act.put, pu]
 refine ord_take (i := 4) (v := ?_) (by kernel_rfl) rfl (by decide) (by kernel_rfl) (by kernel_rfl) (fun _ _ _ h => h) (Or.inl ⟨by rfl, ?_⟩) hS ?_
 rotate_left
 ·intro wz hz; (try dsimp only at hz); (try go_split_ands); go_simp; (try with_reducible rfl)
 try simp only [Act.put, pu]
 refine ord_step (i := 2) rfl (by decide) (by kernel_rfl) (by rfl) (fun K hK => ?_)
 go_simp
 refine hK _ _ hS1 ?_
 clear hK K
 try simp only [Act.put, pu]
 refine ord_step (i := 3) rfl (by decide) (by kernel_rfl) (by rfl) (fun K hK => ?_)
 go_simp
 refine (mul_any _ A1 _ n1 c1 1 1 _ _ HQ.out.1 HQ.out.2.1 hn1 (by omega)).mono ?_
 rintro e w1 ⟨A3, n3, c3, rfl, q3, hb2⟩
 rw [tv_digs, tv_single] at q3
 have hb3 : Below w.heap.size w w1 := bltB hb1 (by simp [World.drew]) hb2
 have hS2 : w1.cell? ⟨bB, 0, none⟩ = some (.slice A1 n1 c1) ∧ w1.cell? ⟨rB, 0, none⟩ = some (.slice A2 n2 c2) := ⟨(hb3.cell (p := ⟨bB, 0, none⟩) hlb).trans hcb, (hb3.cell (p := ⟨rB, 0, none⟩) hlr).trans hcr⟩
 refine hK _ _ hS2 ?_
 clear hK K
 try simp only [Act.put, pu]
 have hn3 : n3 ≤ 1048576 := by rw [← q3.len]; exact digs_mul_len HQ.out.1.len hn1 hd
 refine ord_step (i := 5) rfl (by decide) (by kernel_rfl) (by rfl) (fun K hK => ?_)
 go_simp
 refine (cmp_any w1 A3 A2 n3 c3 n2 c2 _ _ q3 (HQ.out.2.2.on hb3) hn3 (by omega)).mono ?_
 rintro e w2 ⟨rfl, hb4⟩
 rw [tv_digs, tv_digs]
 have hb5 : Below w.heap.size w w2 := bltB hb3 hb3.size hb4
 have hS3 : w2.cell? ⟨bB, 0, none⟩ = some (.slice A1 n1 c1) ∧ w2.cell? ⟨rB, 0, none⟩ = some (.slice A2 n2 c2) := ⟨(hb5.cell (p := ⟨bB, 0, none⟩) hlb).trans hcb, (hb5.cell (p := ⟨rB, 0, none⟩) hlr).trans hcr⟩
 refine hK _ _ hS3 ?_
 clear hK K
 try simp only [Act.put, pu]
 refine ord_take (i := 6) (v := ?_) (by kernel_rfl) rfl (by decide) (by kernel_rfl) (by kernel_rfl) (fun _ _ _ h => h) (Or.inl ⟨by rfl, ?_⟩) hS3 ?_
 rotate_left
 ·intro wz hz; (try dsimp only at hz); (try go_split_ands); go_simp; (try with_reducible rfl)
 try simp only [Act.put, pu]
 refine ord_rest (by kernel_rfl) ?_
 refine wpAny_take (i := 7) (v := ?_) rfl (by kernel_rfl) (by kernel_rfl) (by kernel_rfl) (fun _ _ _ h => h) (Or.inl ⟨by rfl, ?_⟩) ?_
 rotate_left
 ·intro wz; go_simp; (try with_reducible rfl)
 try simp only [Act.put, pu]
 refine wpAny_done (by kernel_rfl) ?_ _
 go_wp2_with fail
 go_ret
 exact ⟨by rw [← HD.out]; rfl, hb5⟩
set_option maxRecDepth 100000 in
set_option maxHeartbeats 1000000 in
theorem great_any (w : World) (p1 p2 : Value) (Y R : Nat) (hY : 0 < Y) (hR : R < Y * 4294967296)
 (hcl : ∀ (d : Nat) (W : World), d < 4294967296 → Below w.heap.size w W → Calls Tryz.prog 93 #[.int .u32 (d : Int), p1, p2] W fun e W' => e = .returned (.bool (decide (Y * d ≤ R))) ∧ Below W.heap.size W W') :
 Calls Tryz.prog 92 #[.func (.func 93) #[] #[p1, p2]] w fun e w' => e = .returned (.int .u32 ((R / Y : Nat) : Int)) ∧ Below w.heap.size w w' := by
 have HC := Lib.hid hcl
 clear hcl
 go_enter Tryz.func92, Tryz.ntmps92
 go_wp2_with fail
 go_loopw [3, 6] (fun dv iv wr => ∃ (i d : Nat), i ≤ 32 ∧ iv = .int .i64 i ∧ dv = .int .u32 (d : Int) ∧ Hid (d + 2 ^ (32 - i) ≤ 4294967296) ∧ Hid (d % 2 ^ (32 - i) = 0) ∧ Hid (Y * d ≤ R) ∧ Hid (R < Y * (d + 2 ^ (32 - i))) ∧ Below w.heap.size w wr) (fun _ iv _ => 32 - (intOf iv).toNat)
 case atStart => exact ⟨0, 0, by omega, rfl, rfl, by simp [Hid], by simp [Hid], by simp [Hid], by simpa [Hid] using hR, Below.refl _ _⟩
 case round =>
  obtain ⟨i, d, hi, rfl, rfl, H0, H1, H2, H3, hbel⟩ := hrel
  by_cases hlt : i < 32
  ·obtain ⟨b, hb⟩ : ∃ b, b = 2 ^ (31 - i) := ⟨_, rfl⟩
   have hbp : 0 < b := by rw [hb]; exact Nat.two_pow_pos _
   have h2b : 2 ^ (32 - i) = 2 * b := by rw [hb, show 32 - i = (31 - i) + 1 by omega, Nat.pow_succ, Nat.mul_comm]
   have h0 := H0.out
   have h1 := H1.out
   have h3 := H3.out
   rw [h2b] at h0 h1 h3
   have hbit : (2 : Int) ^ (31 - i) % 4294967296 = (b : Int) := by
    have : ((2 ^ (31 - i) : Nat) : Int) = (2 : Int) ^ (31 - i) := by simp
    rw [← this, ← hb]
    omega
   have hdb : d + b < 4294967296 := by omega
   have hor : bits .or .u32 (d : Int) (b : Int) = ((d + b : Nat) : Int) := by
    rw [u32_or_nat d b (by omega) (by omega), or_add d b _ hb h1]
   obtain ⟨s1, s2⟩ := great_step (Y := Y) (R := R) hbp h1
   obtain ⟨db, hdbe⟩ : ∃ n, d + b = n := ⟨_, rfl⟩
   rw [hdbe] at hor hdb s2
   have HB := Lib.hid (And.intro hb hdbe)
   have HF := Lib.hid (And.intro h0 (And.intro h3 (And.intro s1 s2)))
   clear hb hdbe h0 h1 h2b h3 s1 s2
   have HA : Hid (Y * db ≤ R ∨ R < Y * db) := Lib.hid (by omega)
   go_wp2_with fail
   refine (HC.out db _ hdb hbel).mono ?_
   rintro e w1 ⟨rfl, hb1⟩
   have hbel1 := bltB hbel hbel.size hb1
   have e31 : 2 ^ (32 - (i + 1)) = b := by rw [HB.out.1, show 32 - (i + 1) = 31 - i by omega]
   have HE := Lib.hid e31
   clear e31
   by_cases hh : Y * db ≤ R
   ·have HH := Lib.hid hh
    rw [decide_eq_true hh]
    clear hh
    go_wp2_with fail
    go_roundw
    case rel => exact ⟨i + 1, db, by omega, by go_num, rfl, by rw [HE.out]; have := HF.out.1; have := HB.out.2; simp only [Hid]; omega, by rw [HE.out]; exact HF.out.2.2.2, HH, by rw [HE.out]; have := HF.out.2.1; rw [show d + 2 * b = db + b by have := HB.out.2; omega] at this; exact this, hbel1⟩
    case measure => simp [intOf]; omega
   ·have HH := Lib.hid hh
    rw [decide_eq_false hh]
    clear hh
    go_wp2_with fail
    go_roundw
    case rel => exact ⟨i + 1, d, by omega, by go_num, rfl, by rw [HE.out]; have := HF.out.1; simp only [Hid]; omega, by rw [HE.out]; exact HF.out.2.2.1, H2, by rw [HE.out, HB.out.2]; have := HH.out; simp only [Hid]; omega, hbel1⟩
    case measure => simp [intOf]; omega
  ·obtain rfl : i = 32 := by omega
   have hq : R / Y = d := by
    have h2 := H2.out
    have h3 := H3.out
    simp only [Nat.sub_self, Nat.pow_zero] at h3
    exact Nat.div_eq_of_lt_le (by rw [Nat.mul_comm]; exact h2) (by rw [Nat.mul_comm]; exact h3)
   have HQ := Lib.hid hq
   clear hq
   go_wp2_with fail
   go_ret
   exact ⟨by rw [HQ.out]; rfl, hbel⟩
end Go.Proofs.YthefgdehfgkhhaaGreat
