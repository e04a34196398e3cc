/-
  A region that draws its order: two operations may come up; all orders end in one state.
-/
import Derived.Test.YthkgeafidbihmaaGreatDoorOrd
namespace Go.Proofs.YthkgeafidbihmaaGreatDoor
set_option linter.unusedVariables false
set_option linter.unusedSimpArgs false

section
variable {P : Program} {ops : Array Oper} {Q : Exit → Act → World → Prop} {S : World → Prop} {n : Nat}

/-- Number i or number k comes up. -/
theorem ord_step2 {i k : Nat} {oi ok : Oper} {fuel : Nat} {listed : Array Bool} {a : Act} {w : World} (hi : ops[i]? = some oi) (hk : ops[k]? = some ok) (hin : i < n) (hkn : k < n) (hr : Region.ready .any ops listed = [i, k])
    (hwi : Region.wanted oi (yielded ops a.tmps) = true) (hwk : Region.wanted ok (yielded ops a.tmps) = true)
    (h1 : ∀ K : Act → World → Prop, (∀ a' w', S w' → Ord P ops n Q S fuel (listed.setIfInBounds i true) a' w' → K a' w') → Oper.wp P oi a w K Q)
    (h2 : ∀ K : Act → World → Prop, (∀ a' w', S w' → Ord P ops n Q S fuel (listed.setIfInBounds k true) a' w' → K a' w') → Oper.wp P ok a w K Q) : Ord P ops n Q S (fuel + 1) listed a w := fun inv => by
  refine ⟨fun h0 => (by rw [hr] at h0; cases h0), fun j hj => ?_⟩
  have hjr := hj
  rw [hr] at hj
  simp only [List.mem_cons, List.not_mem_nil, or_false] at hj
  rcases hj with rfl | rfl
  · refine wpOp_step hi (fun K' hK => ?_)
    rw [if_pos hwi]
    exact h1 K' (fun a' w' hS hO => hK a' w' ⟨fun _ => hS, hO (inv.set hjr hin)⟩)
  · refine wpOp_step hk (fun K' hK => ?_)
    rw [if_pos hwk]
    exact h2 K' (fun a' w' hS hO => hK a' w' ⟨fun _ => hS, hO (inv.set hjr hkn)⟩)

/-- Number i, k or m comes up. -/
theorem ord_step3 {i k m : Nat} {oi ok om : Oper} {fuel : Nat} {listed : Array Bool} {a : Act} {w : World} (hi : ops[i]? = some oi) (hk : ops[k]? = some ok) (hm : ops[m]? = some om) (hin : i < n) (hkn : k < n) (hmn : m < n) (hr : Region.ready .any ops listed = [i, k, m])
    (hwi : Region.wanted oi (yielded ops a.tmps) = true) (hwk : Region.wanted ok (yielded ops a.tmps) = true) (hwm : Region.wanted om (yielded ops a.tmps) = true)
    (h1 : ∀ K : Act → World → Prop, (∀ a' w', S w' → Ord P ops n Q S fuel (listed.setIfInBounds i true) a' w' → K a' w') → Oper.wp P oi a w K Q)
    (h2 : ∀ K : Act → World → Prop, (∀ a' w', S w' → Ord P ops n Q S fuel (listed.setIfInBounds k true) a' w' → K a' w') → Oper.wp P ok a w K Q)
    (h3 : ∀ K : Act → World → Prop, (∀ a' w', S w' → Ord P ops n Q S fuel (listed.setIfInBounds m true) a' w' → K a' w') → Oper.wp P om a w K Q) : Ord P ops n Q S (fuel + 1) listed a w := fun inv => by
  refine ⟨fun h0 => (by rw [hr] at h0; cases h0), fun j hj => ?_⟩
  have hjr := hj
  rw [hr] at hj
  simp only [List.mem_cons, List.not_mem_nil, or_false] at hj
  rcases hj with rfl | rfl | rfl
  · refine wpOp_step hi (fun K' hK => ?_)
    rw [if_pos hwi]
    exact h1 K' (fun a' w' hS hO => hK a' w' ⟨fun _ => hS, hO (inv.set hjr hin)⟩)
  · refine wpOp_step hk (fun K' hK => ?_)
    rw [if_pos hwk]
    exact h2 K' (fun a' w' hS hO => hK a' w' ⟨fun _ => hS, hO (inv.set hjr hkn)⟩)
  · refine wpOp_step hm (fun K' hK => ?_)
    rw [if_pos hwm]
    exact h3 K' (fun a' w' hS hO => hK a' w' ⟨fun _ => hS, hO (inv.set hjr hmn)⟩)

theorem ord_relist {fuel : Nat} {listed : Array Bool} (listed' : Array Bool) {a : Act} {w : World} (e : listed = listed') (h : Ord P ops n Q S fuel listed' a w) : Ord P ops n Q S fuel listed a w := e ▸ h

/-- All orders end alike: what is left is walked once. -/
theorem ord_funnel {F : Nat → Act} {fuel k : Nat} {listed : Array Bool} {a : Act} {w : World} (listed' : Array Bool) (R : Nat → World → Prop)
    (g : (∀ x W, R x W → Ord P ops n Q S k listed' (F x) W) → Ord P ops n Q S fuel listed a w)
    (h : ∀ x W, R x W → Ord P ops n Q S k listed' (F x) W) : Ord P ops n Q S fuel listed a w := g h

theorem ord_funnel2 {F : Nat → Nat → Act} {fuel k : Nat} {listed : Array Bool} {a : Act} {w : World} (listed' : Array Bool) (R : Nat → Nat → World → Prop)
    (g : (∀ x y W, R x y W → Ord P ops n Q S k listed' (F x y) W) → Ord P ops n Q S fuel listed a w)
    (h : ∀ x y W, R x y W → Ord P ops n Q S k listed' (F x y) W) : Ord P ops n Q S fuel listed a w := g h

end
end Go.Proofs.YthkgeafidbihmaaGreatDoor
