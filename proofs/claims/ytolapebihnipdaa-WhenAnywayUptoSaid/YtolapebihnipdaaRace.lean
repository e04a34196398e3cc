/-
  What a race of the program's own tells: the parts of it.
-/
import Derived.Test.YtolapebihnipdaaSame
import Derived.StillTailTactics
import Derived.RegionTactic
namespace Go.Proofs.Ytolapebihnipdaa
open Go.RowKit
set_option linter.unusedVariables false
attribute [local go_sem ↓] Go.wp_at_zero Go.wp_at_succ

/-- A block that is a race. -/
def Rc (w : World) (g : Nat) (fr op : Int) (hv : Value) (kn : Bool) : Prop := w.heap[g]? = some (.cells #[.int .i64 fr, .int .i64 op, hv, .bool kn] 47 (0, 0))

theorem blk_lt {w : World} {g : Nat} {o : Obj} (h : w.heap[g]? = some o) : g < w.heap.size := by
  rcases Nat.lt_or_ge g w.heap.size with h' | h'
  · exact h'
  · rw [Array.getElem?_eq_none h'] at h; cases h
theorem blk_cell {w : World} {g : Nat} {cs : Array Value} {t : TypeId} {fr : Nat × Nat} (h : w.heap[g]? = some (.cells cs t fr)) (i : Nat) : w.cell? ⟨g, i, none⟩ = cs[i]? := by simp [World.cell?, h]
theorem blk_free {w : World} {g : Nat} {cs : Array Value} {t : TypeId} (h : w.heap[g]? = some (.cells cs t (0, 0))) (i : Nat) : w.frozen? ⟨g, i, none⟩ = false := by simp [World.frozen?, h]
theorem blk_set {w : World} {g : Nat} {cs : Array Value} {t : TypeId} {fr : Nat × Nat} (h : w.heap[g]? = some (.cells cs t fr)) (i : Nat) (u : Value) : (w.setCell ⟨g, i, none⟩ u).heap[g]? = some (.cells (cs.setIfInBounds i u) t fr) := by
  simp [World.setCell, Array.getElem?_modify, h]

/-- The blocks of a chain: which of them has it. -/
def marks (fr at_ : Int) (m : Nat) : List Bool := (List.range m).map fun i : Nat => decide (fr + i + 1 = at_)

theorem marks_at (fr at_ : Int) (m k : Nat) (h : k < m) : (marks fr at_ m)[k]? = some (decide (fr + k + 1 = at_)) := by
  simp [marks, h]
theorem marks_len (fr at_ : Int) (m : Nat) : (marks fr at_ m).length = m := by simp [marks]

/-- 'has' of a race, as it lies. -/
structure Has (w : World) (base : Nat) (fr at_ : Int) (A : Option Addr) (m c : Nat) : Prop where
  own : w.ownsRow base 4 1 (.slice A m c) m ((marks fr at_ m).map Value.bool)
  ok : at_ = 0 ∨ (fr < at_ ∧ at_ ≤ fr + m)

theorem Has.cell {w : World} {base : Nat} {fr at_ : Int} {A : Option Addr} {m c : Nat} (h : Has w base fr at_ A m c) (hm : 0 < m) :
    ∃ b, A = some ⟨b, 0, none⟩ ∧ base ≤ b ∧ ∀ k, k < m → w.cell? ⟨b, k, none⟩ = some (.bool (decide (fr + k + 1 = at_))) := by
  obtain ⟨b, cap, hv, hb, _⟩ := h.own.form hm
  have hA : A = some ⟨b, 0, none⟩ ∧ c = cap := by simpa using hv
  obtain ⟨rfl, rfl⟩ := hA
  refine ⟨b, rfl, hb, fun k hk => ?_⟩
  rw [h.own.cellAt k (by omega)]
  simp [marks_at, hk]

theorem grown_set (w : World) (g i : Nat) (u : Value) : w.grownBy (w.setCell ⟨g, i, none⟩ u).drew (some g) :=
  ⟨rfl, rfl, rfl, by simp [World.setCell], fun k hk hne => Below.heap_setCell w ⟨g, i, none⟩ u k (fun e => hne (by rw [e]))⟩

theorem rc_know {w : World} {g : Nat} {fr op : Int} {hv : Value} {kn : Bool} (h : Rc w g fr op hv kn) (b : Bool) : Rc (w.setCell ⟨g, 3, none⟩ (.bool b)).drew g fr op hv b := by
  have := blk_set h 3 (.bool b)
  show (w.setCell ⟨g, 3, none⟩ (.bool b)).heap[g]? = _
  simpa using this
theorem rc_has {w : World} {g : Nat} {fr op : Int} {hv : Value} {kn : Bool} (h : Rc w g fr op hv kn) (u : Value) : Rc (w.setCell ⟨g, 2, none⟩ u) g fr op u kn := by
  have := blk_set h 2 u
  show (w.setCell ⟨g, 2, none⟩ u).heap[g]? = _
  simpa using this

theorem wake_any (w : World) (g : Nat) (fr op : Int) (A : Option Addr) (m c : Nat) (kn : Bool) (hr : Rc w g fr op (.slice A m c) kn) (h0 : 0 ≤ fr) (h1 : fr ≤ 2097152) (hm : m ≤ 10000000) :
    Calls Try.prog 29 #[.pointer (some ⟨g, 0, none⟩)] w fun e w' => e = .returned (.tuple #[]) ∧ Rc w' g fr op (.slice A m c) (kn || decide (op ≤ fr + m + 1)) ∧ w.grownBy w' (some g) := by
  have c0 := blk_cell hr 0
  have c1 := blk_cell hr 1
  have c2 := blk_cell hr 2
  have c3 := blk_cell hr 3
  have f3 := blk_free hr 3
  simp at c0 c1 c2 c3
  have HR := Lib.hid hr
  clear hr
  cases kn with
  | true =>
    go_enter Try.func29, Try.ntmps29
    go_region
    go_end0
    exact ⟨rfl, by simpa using rc_know HR.out true, grown_set _ _ _ _⟩
  | false =>
    by_cases h : op ≤ fr + m + 1
    · go_enter Try.func29, Try.ntmps29
      go_region
      go_end0
      exact ⟨rfl, by simpa [h] using rc_know HR.out true, grown_set _ _ _ _⟩
    · go_enter Try.func29, Try.ntmps29
      go_region
      go_end0
      exact ⟨rfl, by simpa [h] using rc_know HR.out false, grown_set _ _ _ _⟩

theorem where_any (w : World) (base g : Nat) (fr op at_ : Int) (A : Option Addr) (m c : Nat) (kn : Bool) (hr : Rc w g fr op (.slice A m c) kn) (hh : Has w base fr at_ A m c) (h0 : 0 ≤ fr) (h1 : fr ≤ 2097152) (hm : m ≤ 10000000) :
    Calls Try.prog 30 #[.pointer (some ⟨g, 0, none⟩)] w fun e w' => e = .returned (.int .i64 at_) ∧ w = w' := by
  have c0 := blk_cell hr 0
  have c2 := blk_cell hr 2
  simp at c0 c2
  have hok := hh.ok
  have HC : Hid (0 < m → ∃ b, A = some ⟨b, 0, none⟩ ∧ base ≤ b ∧ ∀ k, k < m → w.cell? ⟨b, k, none⟩ = some (.bool (decide (fr + k + 1 = at_)))) := hh.cell
  clear hh hr
  go_enter Try.func30, Try.ntmps30
  go_wp2
  go_loop [10] (fun i => ∃ k : Nat, k ≤ m ∧ i = .int .i64 k ∧ (at_ = 0 ∨ fr + k < at_)) (fun i => m - (intOf i).toNat)
  case atStart => exact ⟨0, Nat.zero_le _, rfl, by omega⟩
  case round =>
    obtain ⟨k, hk, rfl, hat⟩ := hrel
    by_cases hlt : k < m
    · obtain ⟨b, hA, hb, hc⟩ := HC.out (by omega)
      have hck := hc k hlt
      clear hc
      subst hA
      by_cases he : fr + k + 1 = at_
      · have hd : decide (fr + (k : Int) + 1 = at_) = true := by simpa using he
        rw [hd] at hck
        have HE := Lib.hid he
        clear he hd
        go_wp2
        go_ret
        exact ⟨ret_int HE.out, rfl⟩
      · have hd : decide (fr + (k : Int) + 1 = at_) = false := by simpa using he
        rw [hd] at hck
        clear hd
        go_wp2
        go_round
        case rel => exact ⟨k + 1, by omega, by go_num, by omega⟩
        case measure => simp [intOf]; omega
    · have HE : Hid (at_ = 0) := by have : at_ = 0 := by omega
                                    exact this
      go_wp2
      go_ret
      exact ⟨ret_int HE.out.symm, rfl⟩

end Go.Proofs.Ytolapebihnipdaa
