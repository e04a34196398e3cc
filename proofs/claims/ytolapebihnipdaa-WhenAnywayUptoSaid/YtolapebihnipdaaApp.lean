/-
  An append whose run is known, as a rule of the walk at the operation itself: so a region that draws its order is walked as if it held none.
-/
import Derived.Test.YtolapebihnipdaaSame
namespace Go.Proofs.Ytolapebihnipdaa
open Go.RowKit

/-- The append of these two values runs to an end in this world. -/
def AppOk (P : Program) (t ty : TypeId) (s x : Value) (w : World) : Prop := ∃ v' w', (Builtin.append_ #[t, t] ty #[s, x]).run P w = .ok v' w'
/-- What it tells, and the world behind it. -/
def appV (P : Program) (t ty : TypeId) (s x : Value) (w : World) : Value := match (Builtin.append_ #[t, t] ty #[s, x]).run P w with | .ok v _ => v | .halt _ _ => undef
def appW (P : Program) (t ty : TypeId) (s x : Value) (w : World) : World := match (Builtin.append_ #[t, t] ty #[s, x]).run P w with | .ok _ w' => w' | .halt _ w' => w'

theorem app_of_run {P : Program} {t ty : TypeId} {s x : Value} {w : World} {v' : Value} {w' : World} (h : (Builtin.append_ #[t, t] ty #[s, x]).run P w = .ok v' w') :
    AppOk P t ty s x w ∧ appV P t ty s x w = v' ∧ appW P t ty s x w = w' := ⟨⟨v', w', h⟩, by simp [appV, h], by simp [appW, h]⟩

theorem wp_append_ok {P : Program} {dst : Option Tmp} {s x : Operand} {t ty : TypeId} {pos : String} {after : Array Edge} {guard : Option (Nat × Bool)} {a : Act} {w : World} {K : Act → World → Prop} {Q : Exit → Act → World → Prop}
    (h : AppOk P t ty (a.eval s) (a.eval x) w) :
    Oper.wp P { dst := dst, op := .call { callee := .builtin .append, args := #[s, x], argTypes := #[t, t] }, type := ty, pos := pos, after := after, guard := guard } a w K Q =
      K (a.put dst (appV P t ty (a.eval s) (a.eval x) w)) (appW P t ty (a.eval s) (a.eval x) w) := by
  obtain ⟨v', w', hr⟩ := h
  obtain ⟨_, h2, h3⟩ := app_of_run hr
  rw [h2, h3]
  unfold Oper.wp execOp
  simp only [resolve, invoke, builtin, Sem.run_bind, Sem.run_pure, Result.andThen_ok, List.map_toArray, List.map_cons, List.map_nil, hr]
  rfl

end Go.Proofs.Ytolapebihnipdaa
