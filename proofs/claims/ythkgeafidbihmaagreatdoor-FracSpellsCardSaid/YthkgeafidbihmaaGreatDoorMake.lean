/-
  Digits laid anew: make, a literal's cells; a slice of digits handed back.
-/
import Derived.Test.YthkgeafidbihmaaGreatDoorArith
import Derived.OwnWalk
namespace Go.Proofs.YthkgeafidbihmaaGreatDoor
open Go.RowKit
set_option linter.unusedVariables false
set_option linter.unusedSimpArgs false

theorem infoD : (Tryz.prog.info? 38).map (fun i => (i.zero, i.size, i.bytes)) = some (some (.int .u32 0), 1, 4) := by kernel_rfl

/-- make([]uint32, n). -/
theorem make_u32 (z : Int) (n : Nat) (hz : z = n) (hn : n ≤ 4194304) : ∀ u : World, (Instr.makeSlice 22 (.int .i64 z) (.int .i64 z)).run Tryz.prog u =
    .ok (.slice (some ⟨u.heap.size, 0, none⟩) n n) (u.alloc (.cells (cells (List.replicate n 0)) 38)) := fun u => by
  obtain ⟨i0, hi, hz0, hz1, hz2⟩ := info_parts infoD
  subst hz
  have h := run_make (P := Tryz.prog) u 22 38 i0 (.int .u32 0) Tryz.underlying22 hi hz0 .i64 .i64 (n : Int) (n : Int) (by omega) (Int.le_refl _) (by rw [hz2]; omega) (by omega)
  rw [Int.toNat_natCast, hz1, Nat.mul_one, cells_zeros] at h
  exact h

/-- A row's digits so far, and noughts behind them. -/
theorem cells_step (os : List Nat) (m d : Nat) : (cells (os ++ List.replicate (m + 1) 0)).setIfInBounds os.length (.int .u32 (d : Int)) = cells ((os ++ [d]) ++ List.replicate m 0) := by
  rw [cells_set]
  congr 1
  rw [List.replicate_succ, List.set_append_right _ _ (Nat.le_refl _), Nat.sub_self]
  simp

theorem cells_in (os : List Nat) (m k : Nat) (h : k < os.length + m) : (cells (os ++ List.replicate m 0))[k]? = some (.int .u32 ((os ++ List.replicate m 0).getD k 0 : Nat)) :=
  cells_at _ (by simpa using h)

theorem HasD.ret {w w1 : World} {n x : Nat} {e : Ending} (h : HasD w1 w1.heap.size n x e) (hb : Below w.heap.size w w1) : RetN w x e w1 := by
  obtain ⟨A, n', c, rfl, _, r⟩ := h
  exact ⟨A, n', c, rfl, r, hb⟩

end Go.Proofs.YthkgeafidbihmaaGreatDoor
