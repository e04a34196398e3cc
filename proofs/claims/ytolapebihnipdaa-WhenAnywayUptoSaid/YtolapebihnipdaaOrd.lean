/-
  A region that draws its order and ends in one operation that all others go ahead of: what its loads read need hold only ahead of that last one, so a store that ends the region may hit a cell that was loaded.
-/
import Derived.OrdersHeld
import Derived.StillTail
import Derived.Tactics
import Derived.RegionTactic
namespace Go.Proofs.Ytolapebihnipdaa

section
variable {P : Program} {ops : Array Oper} {Q : Exit → Act → World → Prop} {md : Region.Mode} {S : World → Prop} {n : Nat}

/-- Whatever order is picked from here on; behind each operation ahead of number n the world meets S. -/
def wpOrd (P : Program) (md : Region.Mode) (ops : Array Oper) (n : Nat) (Q : Exit → Act → World → Prop) (S : World → Prop) : Nat → Array Bool → Act → World → Prop
  | 0, listed, a, w => Region.ready md ops listed = [] ∧ Q .normal a w
  | fuel + 1, listed, a, w =>
    (Region.ready md ops listed = [] → Q .normal a w) ∧
    ∀ i ∈ Region.ready md ops listed, wpOp P ops Q i (fun a' w' => (i < n → S w') ∧ wpOrd P md ops n Q S fuel (listed.setIfInBounds i true) a' w') a w

theorem wpAny_of_ord : ∀ (fuel : Nat) (listed : Array Bool) (a : Act) (w : World), wpOrd P md ops n Q S fuel listed a w → wpAny P md ops Q fuel listed a w
  | 0, _, _, _, h => h
  | fuel + 1, _, _, _, h => ⟨h.1, fun i hi => wpOp_mono (fun a' w' h' => wpAny_of_ord fuel _ a' w' h'.2) (h.2 i hi)⟩

/-- One that yields in each world that meets S may be taken first. -/
theorem wpOrd_first {i : Nat} {oi : Oper} {v : Value} (hi : ops[i]? = some oi) (hsel : ∀ (j : Nat) (o : Oper) cs b, ops[j]? = some o → o.op ≠ .select cs b)
    (hs : Region.sinkB md ops n = true) (hc : Region.chainB md ops n = true) (hn : n < ops.size) (hin : i < n)
    (hQ : ∀ c a w, Q (.panic c) (a.put oi.dst v) w → Q (.panic c) a w) :
    ∀ (fuel : Nat) (listed : Array Bool) (a : Act) (w : World), HeadInv md ops n listed →
      (∀ j oj, ops[j]? = some oj → j ≠ i → listed.getD j true = false → (∀ e ∈ oj.after, Region.binds md e = true → e.on ≠ i) → oi.apart ops oj = true) →
      i ∈ Region.ready md ops listed → YieldsIf P ops S oi v a → S w →
      wpOrd P md ops n Q S fuel (listed.setIfInBounds i true) (a.put oi.dst v) w → wpOrd P md ops n Q S (fuel + 1) listed a w := by
  intro fuel
  induction fuel with
  | zero =>
    intro L a w _ _ hr hy hI H
    refine ⟨fun h => (by rw [h] at hr; cases hr), fun j hj => ?_⟩
    by_cases e : j = i
    · subst e; exact hy.wpOp hi hI ⟨fun _ => hI, H⟩
    · have h0 := ready_mono hj e
      rw [H.1] at h0
      cases h0
  | succ fuel ih =>
    intro L a w inv hfree hr hy hI H
    have hun : L.getD i true = false := (mem_ready.1 hr).1
    refine ⟨fun h => (by rw [h] at hr; cases hr), fun j hj => ?_⟩
    have hjn : j < n := by
      rcases Nat.lt_or_ge j n with h | h
      · exact h
      · exact absurd hj (tail_waits hs hc hn inv _ i rfl hin hun j h)
    by_cases e : j = i
    · subst e; exact hy.wpOp hi hI ⟨fun _ => hI, H⟩
    · have hstep := H.2 j (ready_mono hj e)
      obtain ⟨hjun, oj, hoj, hall⟩ := mem_ready.1 hj
      have hnot : ∀ d ∈ oj.after, Region.binds md d = true → d.on ≠ i := fun d hd hb heq => by
        have h1 := hall d hd hb
        rw [heq, getD_both hun] at h1
        cases h1
      have hput := wpOp_putIf hoj (hfree j oj hoj e hjun hnot) (fun cs b => hsel i oi cs b hi) (fun cs b => hsel j oj cs b hoj) hQ hy hstep
      refine wpOp_mono (fun a' w' hk => ?_) hput
      obtain ⟨hy', hS', hrest⟩ := hk
      refine ⟨hS', ih (L.setIfInBounds j true) a' w' (inv.set hj hjn) (fun k ok hk hki hkun hno => ?_) (ready_mono hr (Ne.symm e)) hy' (hS' hjn) ?_⟩
      · refine hfree k ok hk hki ?_ hno
        by_cases hjk : j = k
        · subst hjk; exact hjun
        · rw [getD_set_ne true hjk] at hkun; exact hkun
      · rw [Array.setIfInBounds_comm _ _ e]
        exact hrest

/-- A place in such a region: what is left of it. -/
def Ord (P : Program) (ops : Array Oper) (n : Nat) (Q : Exit → Act → World → Prop) (S : World → Prop) (fuel : Nat) (listed : Array Bool) (a : Act) (w : World) : Prop :=
  HeadInv .any ops n listed → wpOrd P .any ops n Q S fuel listed a w

/-- What is asked of the region's own shape. -/
def Region.ordB (ops : Array Oper) (n : Nat) : Bool := Region.noSelect ops && decide (n < ops.size) && Region.sinkB .any ops n && Region.chainB .any ops n

theorem ord_begin {id : Nat} {a : Act} {w : World} {l : List Oper} (n : Nat) (S : World → Prop) (hm : P.follows .mixedOrders = true)
    (h : Ord P l.toArray n Q S l.length (Array.replicate l.length false) a w.drew) : (Code.region id l.toArray true).wp P Q a w := by
  refine wp_region_any hm (wpAny_of_ord (n := n) (S := S) _ _ _ _ ?_)
  have e : l.toArray.size = l.length := by simp
  rw [e]
  exact h ⟨by simp, fun j oj _ hl => (by rw [getD_replicate_false] at hl; cases hl), fun t _ ht => getD_in (by simpa using ht) (getD_replicate_false _ _)⟩

/-- Take number i first. -/
theorem ord_take {i : Nat} {oi : Oper} {v : Value} {fuel : Nat} {listed : Array Bool} {a : Act} {w : World} (hB : Region.ordB ops n = true) (hi : ops[i]? = some oi) (hin : i < n)
    (hf : Region.free .any ops listed i = true) (hr : (Region.ready .any ops listed).contains i = true)
    (hQ : ∀ c a w, Q (.panic c) (a.put oi.dst v) w → Q (.panic c) a w) (hy : YieldsIf P ops S oi v a) (hS : S w)
    (h : Ord P ops n Q S fuel (listed.setIfInBounds i true) (a.put oi.dst v) w) : Ord P ops n Q S (fuel + 1) listed a w := fun inv => by
  simp only [Region.ordB, Bool.and_eq_true, decide_eq_true_eq] at hB
  obtain ⟨⟨⟨hsel, hn⟩, hs⟩, hc⟩ := hB
  have hr' : i ∈ Region.ready .any ops listed := by simpa using hr
  exact wpOrd_first hi (Region.noSelect_spec hsel) hs hc hn hin hQ fuel listed a w inv (Region.free_spec hi hf) hr' hy hS (h (inv.set hr' hin))

/-- Number i alone may come up, and is carried out. -/
theorem ord_step {i : Nat} {oi : Oper} {fuel : Nat} {listed : Array Bool} {a : Act} {w : World} (hi : ops[i]? = some oi) (hin : i < n) (hr : Region.ready .any ops listed = [i])
    (hw : Region.wanted oi (yielded ops a.tmps) = true)
    (h : ∀ K : Act → World → Prop, (∀ a' w', S w' → Ord P ops n Q S fuel (listed.setIfInBounds i true) a' w' → K a' w') → Oper.wp P oi a w K Q) : Ord P ops n Q S (fuel + 1) listed a w := fun inv => by
  refine ⟨fun h0 => (by rw [hr] at h0; cases h0), fun j hj => ?_⟩
  have hji : j = i := by rw [hr] at hj; simpa using hj
  subst hji
  refine wpOp_step hi (fun K' hK => ?_)
  rw [if_pos hw]
  exact h K' (fun a' w' hS hO => hK a' w' ⟨fun _ => hS, hO (inv.set hj hin)⟩)

/-- The last one. -/
theorem ord_last {oi : Oper} {listed : Array Bool} {a : Act} {w : World} (hi : ops[n]? = some oi) (hr : Region.ready .any ops listed = [n]) (hd : Region.ready .any ops (listed.setIfInBounds n true) = [])
    (hw : Region.wanted oi (yielded ops a.tmps) = true)
    (h : ∀ K : Act → World → Prop, (∀ a' w', Q .normal a' w' → K a' w') → Oper.wp P oi a w K Q) : Ord P ops n Q S 1 listed a w := fun inv => by
  refine ⟨fun h0 => (by rw [hr] at h0; cases h0), fun j hj => ?_⟩
  have hji : j = n := by rw [hr] at hj; simpa using hj
  subst hji
  refine wpOp_step hi (fun K' hK => ?_)
  rw [if_pos hw]
  exact h K' (fun a' w' hq => hK a' w' ⟨fun hlt => absurd hlt (Nat.lt_irrefl _), hd, hq⟩)

end
end Go.Proofs.Ytolapebihnipdaa
