/-
  A region that draws its order: its first n operations read, call and make memory (behind each the world meets S), all that follow wait for them; a region so walked may stand in a round of a range over a function, too.
-/
import Derived.OrdersHeld
import Derived.OrdersIn
import Derived.StillTail
import Derived.Tactics
import Derived.RegionTactic
import Derived.RangeFuncCalls
import Derived.TacticsIn
namespace Go.Proofs.YthkgeafidbihmaaGreatDoor
set_option linter.unusedVariables false
set_option linter.unusedSimpArgs false

section
variable {P : Program} {ops : Array Oper} {Q : Exit → Act → World → Prop} {md : Region.Mode} {S : World → Prop} {n : Nat}

/-- Whatever order is picked from here on; behind each operation ahead of number n the world meets S. -/
def wpOrd (P : Program) (md : Region.Mode) (ops : Array Oper) (n : Nat) (Q : Exit → Act → World → Prop) (S : World → Prop) : Nat → Array Bool → Act → World → Prop
  | 0, listed, a, w => Region.ready md ops listed = [] ∧ Q .normal a w
  | fuel + 1, listed, a, w =>
    (Region.ready md ops listed = [] → Q .normal a w) ∧
    ∀ i ∈ Region.ready md ops listed, wpOp P ops Q i (fun a' w' => (i < n → S w') ∧ wpOrd P md ops n Q S fuel (listed.setIfInBounds i true) a' w') a w

theorem wpAny_of_ord : ∀ (fuel : Nat) (listed : Array Bool) (a : Act) (w : World), wpOrd P md ops n Q S fuel listed a w → wpAny P md ops Q fuel listed a w
  | 0, _, _, _, h => h
  | fuel + 1, _, _, _, h => ⟨h.1, fun i hi => wpOp_mono (fun a' w' h' => wpAny_of_ord fuel _ a' w' h'.2) (h.2 i hi)⟩

theorem ord_of_any : ∀ (fuel : Nat) (listed : Array Bool) (a : Act) (w : World), (∀ i, i < n → listed.getD i true = true) → wpAny P md ops Q fuel listed a w → wpOrd P md ops n Q S fuel listed a w
  | 0, _, _, _, _, h => h
  | fuel + 1, listed, _, _, hl, h => by
    refine ⟨h.1, fun i hi => wpOp_mono (fun a' w' h' => ?_) (h.2 i hi)⟩
    have h1 := (mem_ready.1 hi).1
    refine ⟨fun hin => ?_, ord_of_any fuel _ a' w' (fun k hk => ?_) h'⟩
    · rw [hl i hin] at h1; cases h1
    · by_cases e : i = k
      · subst e; rw [hl i hk] at h1; cases h1
      · rw [getD_set_ne true e]; exact hl k hk

/-- Each that follows waits for one that follows ahead of it. -/
def tailB (md : Region.Mode) (ops : Array Oper) (n : Nat) : Bool :=
  (List.range ops.size).all fun t => decide (t ≤ n) || (List.range t).any fun s => decide (n ≤ s) && Region.waitsFor md ops t s

theorem tail_waits' {n : Nat} {listed : Array Bool} (hs : Region.sinkB md ops n = true) (hc : tailB md ops n = true) (hn : n < ops.size) (inv : HeadInv md ops n listed) :
    ∀ (d i : Nat), n - i = d → i < n → listed.getD i true = false → ∀ t, n ≤ t → t ∉ Region.ready md ops listed := by
  intro d
  induction d using Nat.strongRecOn with
  | _ d ih =>
    intro i hd hi hun t ht hr
    obtain ⟨_, ot, hot, hall⟩ := mem_ready.1 hr
    have htlt : t < ops.size := (Array.getElem?_eq_some_iff.1 hot).1
    by_cases htn : t = n
    · subst htn
      have h1 := List.all_eq_true.1 hs i (List.mem_range.2 hi)
      obtain ⟨j, hj, hj2⟩ := List.any_eq_true.1 h1
      simp only [Bool.and_eq_true, decide_eq_true_eq] at hj2
      obtain ⟨oj, hoj, e, he, hb, hon⟩ := Region.waitsFor_spec hj2.2
      have hjle : j ≤ t := by have := List.mem_range.1 hj; omega
      by_cases hjt : j = t
      · subst hjt
        have : oj = ot := Option.some.inj (hoj.symm.trans hot)
        subst this
        have h2 := hall e he hb
        rw [hon, getD_both hun] at h2
        cases h2
      · cases hl : listed.getD j false with
        | true =>
          have h2 := inv.closed j oj hoj hl e he hb
          rw [hon, getD_both hun] at h2
          cases h2
        | false =>
          have hjs : j < listed.size := by rw [inv.size]; omega
          exact ih (t - j) (by omega) j rfl (by omega) (getD_in hjs hl) t (Nat.le_refl _) hr
    · have h1 := List.all_eq_true.1 hc t (List.mem_range.2 htlt)
      simp only [Bool.or_eq_true, decide_eq_true_eq] at h1
      rcases h1 with h1 | h1
      · omega
      · obtain ⟨s, hs1, hs2⟩ := List.any_eq_true.1 h1
        simp only [Bool.and_eq_true, decide_eq_true_eq] at hs2
        obtain ⟨o', ho', e, he, hb, hon⟩ := Region.waitsFor_spec hs2.2
        have : o' = ot := Option.some.inj (ho'.symm.trans hot)
        subst this
        have h2 := hall e he hb
        have hst := List.mem_range.1 hs1
        rw [hon, getD_both (inv.tail s hs2.1 (by omega))] at h2
        cases h2

/-- One that yields in each world that meets S may be taken first. -/
theorem wpOrd_first {i : Nat} {oi : Oper} {v : Value} (hi : ops[i]? = some oi) (hsel : ∀ (j : Nat) (o : Oper) cs b, ops[j]? = some o → o.op ≠ .select cs b)
    (hs : Region.sinkB md ops n = true) (hc : tailB md ops n = true) (hn : n < ops.size) (hin : i < n)
    (hQ : ∀ c a w, Q (.panic c) (a.put oi.dst v) w → Q (.panic c) a w) :
    ∀ (fuel : Nat) (listed : Array Bool) (a : Act) (w : World), HeadInv md ops n listed →
      (∀ j oj, ops[j]? = some oj → j ≠ i → listed.getD j true = false → (∀ e ∈ oj.after, Region.binds md e = true → e.on ≠ i) → oi.apart ops oj = true) →
      i ∈ Region.ready md ops listed → YieldsIf P ops S oi v a → S w →
      wpOrd P md ops n Q S fuel (listed.setIfInBounds i true) (a.put oi.dst v) w → wpOrd P md ops n Q S (fuel + 1) listed a w := by
  intro fuel
  induction fuel with
  | zero =>
    intro L a w _ _ hr hy hI H
    refine ⟨fun h => (by rw [h] at hr; cases hr), fun j hj => ?_⟩
    by_cases e : j = i
    · subst e; exact hy.wpOp hi hI ⟨fun _ => hI, H⟩
    · have h0 := ready_mono hj e
      rw [H.1] at h0
      cases h0
  | succ fuel ih =>
    intro L a w inv hfree hr hy hI H
    have hun : L.getD i true = false := (mem_ready.1 hr).1
    refine ⟨fun h => (by rw [h] at hr; cases hr), fun j hj => ?_⟩
    have hjn : j < n := by
      rcases Nat.lt_or_ge j n with h | h
      · exact h
      · exact absurd hj (tail_waits' hs hc hn inv _ i rfl hin hun j h)
    by_cases e : j = i
    · subst e; exact hy.wpOp hi hI ⟨fun _ => hI, H⟩
    · have hstep := H.2 j (ready_mono hj e)
      obtain ⟨hjun, oj, hoj, hall⟩ := mem_ready.1 hj
      have hnot : ∀ d ∈ oj.after, Region.binds md d = true → d.on ≠ i := fun d hd hb heq => by
        have h1 := hall d hd hb
        rw [heq, getD_both hun] at h1
        cases h1
      have hput := wpOp_putIf hoj (hfree j oj hoj e hjun hnot) (fun cs b => hsel i oi cs b hi) (fun cs b => hsel j oj cs b hoj) hQ hy hstep
      refine wpOp_mono (fun a' w' hk => ?_) hput
      obtain ⟨hy', hS', hrest⟩ := hk
      refine ⟨hS', ih (L.setIfInBounds j true) a' w' (inv.set hj hjn) (fun k ok hk hki hkun hno => ?_) (ready_mono hr (Ne.symm e)) hy' (hS' hjn) ?_⟩
      · refine hfree k ok hk hki ?_ hno
        by_cases hjk : j = k
        · subst hjk; exact hjun
        · rw [getD_set_ne true hjk] at hkun; exact hkun
      · rw [Array.setIfInBounds_comm _ _ e]
        exact hrest

/-- A place in such a region: what is left of it. -/
def Ord (P : Program) (ops : Array Oper) (n : Nat) (Q : Exit → Act → World → Prop) (S : World → Prop) (fuel : Nat) (listed : Array Bool) (a : Act) (w : World) : Prop :=
  HeadInv .any ops n listed → wpOrd P .any ops n Q S fuel listed a w

/-- What is asked of the region's own shape. -/
def ordB (ops : Array Oper) (n : Nat) : Bool := Region.noSelect ops && decide (n < ops.size) && Region.sinkB .any ops n && tailB .any ops n

theorem ord_any {a : Act} {w : World} {l : List Oper} (n : Nat) (S : World → Prop)
    (h : Ord P l.toArray n Q S l.length (Array.replicate l.length false) a w.drew) : wpAny P .any l.toArray Q l.toArray.size (Array.replicate l.toArray.size false) a { w with drawn := w.drawn + 1 } := by
  refine wpAny_of_ord (n := n) (S := S) _ _ _ _ ?_
  have e : l.toArray.size = l.length := by simp
  rw [e]
  exact h ⟨by simp, fun j oj _ hl => (by rw [getD_replicate_false] at hl; cases hl), fun t _ ht => getD_in (by simpa using ht) (getD_replicate_false _ _)⟩

theorem ord_begin {id : Nat} {a : Act} {w : World} {l : List Oper} (n : Nat) (S : World → Prop) (hm : P.follows .mixedOrders = true)
    (h : Ord P l.toArray n Q S l.length (Array.replicate l.length false) a w.drew) : (Code.region id l.toArray true).wp P Q a w :=
  wp_region_any hm (ord_any n S h)

/-- Take number i first. -/
theorem ord_take {i : Nat} {oi : Oper} {v : Value} {fuel : Nat} {listed : Array Bool} {a : Act} {w : World} (hB : ordB ops n = true) (hi : ops[i]? = some oi) (hin : i < n)
    (hf : Region.free .any ops listed i = true) (hr : (Region.ready .any ops listed).contains i = true)
    (hQ : ∀ c a w, Q (.panic c) (a.put oi.dst v) w → Q (.panic c) a w) (hy : YieldsIf P ops S oi v a) (hS : S w)
    (h : Ord P ops n Q S fuel (listed.setIfInBounds i true) (a.put oi.dst v) w) : Ord P ops n Q S (fuel + 1) listed a w := fun inv => by
  simp only [ordB, Bool.and_eq_true, decide_eq_true_eq] at hB
  obtain ⟨⟨⟨hsel, hn⟩, hs⟩, hc⟩ := hB
  have hr' : i ∈ Region.ready .any ops listed := by simpa using hr
  exact wpOrd_first hi (Region.noSelect_spec hsel) hs hc hn hin hQ fuel listed a w inv (Region.free_spec hi hf) hr' hy hS (h (inv.set hr' hin))

/-- Number i alone may come up, and is carried out. -/
theorem ord_step {i : Nat} {oi : Oper} {fuel : Nat} {listed : Array Bool} {a : Act} {w : World} (hi : ops[i]? = some oi) (hin : i < n) (hr : Region.ready .any ops listed = [i])
    (hw : Region.wanted oi (yielded ops a.tmps) = true)
    (h : ∀ K : Act → World → Prop, (∀ a' w', S w' → Ord P ops n Q S fuel (listed.setIfInBounds i true) a' w' → K a' w') → Oper.wp P oi a w K Q) : Ord P ops n Q S (fuel + 1) listed a w := fun inv => by
  refine ⟨fun h0 => (by rw [hr] at h0; cases h0), fun j hj => ?_⟩
  have hji : j = i := by rw [hr] at hj; simpa using hj
  subst hji
  refine wpOp_step hi (fun K' hK => ?_)
  rw [if_pos hw]
  exact h K' (fun a' w' hS hO => hK a' w' ⟨fun _ => hS, hO (inv.set hj hin)⟩)

/-- The first n have come up. -/
theorem ord_rest {fuel : Nat} {listed : Array Bool} {a : Act} {w : World} (hl : (List.range n).all (fun i => listed.getD i true) = true) (h : wpAny P .any ops Q fuel listed a w) : Ord P ops n Q S fuel listed a w := fun _ =>
  ord_of_any fuel listed a w (fun i hi => List.all_eq_true.1 hl i (List.mem_range.2 hi)) h

/-- Number i alone may come up. -/
theorem any_step {i : Nat} {oi : Oper} {fuel : Nat} {listed : Array Bool} {a : Act} {w : World} (hi : ops[i]? = some oi) (hr : Region.ready .any ops listed = [i])
    (hw : Region.wanted oi (yielded ops a.tmps) = true)
    (h : ∀ K : Act → World → Prop, (∀ a' w', wpAny P .any ops Q fuel (listed.setIfInBounds i true) a' w' → K a' w') → Oper.wp P oi a w K Q) : wpAny P .any ops Q (fuel + 1) listed a w := by
  refine ⟨fun h0 => (by rw [hr] at h0; cases h0), fun j hj => ?_⟩
  have hji : j = i := by rw [hr] at hj; simpa using hj
  subst hji
  refine wpOp_step hi (fun K' hK => ?_)
  rw [if_pos hw]
  exact h K' hK

/-! In a round of a range over a function. -/

/-- No operation is put off. -/
def noDefer (ops : Array Oper) : Bool := ops.all fun o => match o.op with | .defer _ => false | _ => true

theorem noDefer_spec (h : noDefer ops = true) {j : Nat} {o : Oper} (ho : ops[j]? = some o) : ∀ c, o.op ≠ .defer c := by
  intro c heq
  have := Array.all_eq_true_iff_forall_mem.1 h o (Array.mem_of_getElem? ho)
  simp [heq] at this

theorem wpIn_of_wp {l m : Nat} {o : Oper} {a : Act} {w : World} {K : Act → World → Prop} (hd : ∀ c, o.op ≠ .defer c) (h : o.wp P a w K Q) : o.wpIn (Fence.wide.inRound l) m P a w K Q := by
  unfold Oper.wp at h
  refine ⟨fun f _ => trivial, ?_⟩
  have e : o.semAt (Fence.wide.inRound l).round a.eval = execOp a.eval o := Oper.semAt_some l _ _ hd
  rw [e]
  generalize (execOp a.eval o).run P w = r at *
  cases r with
  | ok x w' =>
    cases x <;> simp only [Oper.upon] at h <;> simp only [Oper.uponIn]
    case value v => exact h
    case skip => exact h
    case defer d => exact h
    case enter f args => exact ⟨fun hh => by simp [Fence.wide, Fence.inRound] at hh, (callsIn_wide.2 h).inRound l⟩
    case row row args =>
      refine ⟨fun hh => by simp [Fence.wide, Fence.inRound] at hh, fun c cs _ => ?_⟩
      obtain ⟨v, w'', hR, hs⟩ := h c cs
      exact ⟨v, w'', hR, stepsIn_wide.2 hs⟩
  | halt x w' => cases x <;> simp only [Oper.upon] at h <;> simp only [Oper.uponIn] <;> exact h

theorem anyIn_of_any {l m : Nat} (hd : noDefer ops = true) (hq : ¬ LetsOut Q) : ∀ (fuel : Nat) (listed : Array Bool) (a : Act) (w : World),
    wpAny P md ops Q fuel listed a w → wpAnyIn (Fence.wide.inRound l) m P md ops Q fuel listed a w
  | 0, _, _, _, h => h
  | fuel + 1, listed, a, w, h => ⟨h.1, fun i hi => by
      have h1 := wpOp_mono (fun a' w' h' => anyIn_of_any (l := l) (m := m) hd hq fuel _ a' w' h') (h.2 i hi)
      unfold wpOp at h1
      unfold wpOpIn
      split
      · rename_i ho; simp only [ho] at h1; exact h1
      · rename_i o ho
        simp only [ho] at h1
        split
        · rename_i hw
          simp only [hw, if_true] at h1
          rcases h1 with h1 | h1
          · exact wpIn_of_wp (noDefer_spec hd ho) h1
          · exact absurd h1.2 hq
        · rename_i hw
          simp only [hw] at h1
          exact ⟨fun f _ => trivial, h1⟩⟩

theorem ord_begin_round {k m id : Nat} {a : Act} {w : World} {l : List Oper} (n : Nat) (S : World → Prop) (hm : P.follows .mixedOrders = true) (hd : noDefer l.toArray = true) (hq : ¬ LetsOut Q)
    (h : Ord P l.toArray n Q S l.length (Array.replicate l.length false) a w.drew) : (Code.region id l.toArray true).wpIn (Fence.wide.inRound k) m P Q a w :=
  wpIn_region_any hm (anyIn_of_any hd hq _ _ _ _ (ord_any n S h))

end
end Go.Proofs.YthkgeafidbihmaaGreatDoor
