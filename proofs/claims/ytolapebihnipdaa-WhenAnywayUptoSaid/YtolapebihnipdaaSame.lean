/-
  'same' lays the same steps in memory of its own.
-/
import Derived.Test.YtolapebihnipdaaFew
import Derived.Deep.AppendLies
import Derived.Deep.DrawnRows
import Derived.BigRegion
namespace Go.Proofs.Ytolapebihnipdaa
open Go.RowKit
set_option linter.unusedVariables false
attribute [local go_sem ↓] Go.wp_at_zero Go.wp_at_succ

theorem info49 : (Try.prog.info? 49).map (fun i => (i.zero, i.size, i.bytes)) = some (some (.agg #[.int .i64 0, .slice none 0 0, .bool false]), 3, 40) := by kernel_rfl

/-- What bools of a slice read as stays under new memory. -/
theorem Bools.keep {w w' : World} {B B' : Nat} {A : Option Addr} {n : Nat} {l : List Bool} (h : Bools w B A n l) (hk : ∀ p : Addr, p.block < B → w'.cell? p = w.cell? p) (hB : B ≤ B') : Bools w' B' A n l :=
  ⟨h.len, h.small, fun hn => by
    obtain ⟨b, off, e, hb, hc⟩ := h.at_ hn
    exact ⟨b, off, e, by omega, fun k x hx => (hk ⟨b, off + k, none⟩ hb).trans (hc k x hx)⟩⟩
theorem StepAt.keep {w w' : World} {B B' b off : Nat} {x : St} (h : StepAt w B b off x) (hb : b < B) (hk : ∀ p : Addr, p.block < B → w'.cell? p = w.cell? p) (hB : B ≤ B') : StepAt w' B' b off x :=
  ⟨h.lo, h.hi, (hk ⟨b, off, none⟩ hb).trans h.take, (hk ⟨b, off + 2, none⟩ hb).trans h.awake, by
    obtain ⟨A, n, c, hc, hs⟩ := h.keeps
    exact ⟨A, n, c, (hk ⟨b, off + 1, none⟩ hb).trans hc, hs.keep hk hB⟩⟩
theorem Steps.keep {w w' : World} {B B' : Nat} {A : Option Addr} {n : Nat} {l : List St} (h : Steps w B A n l) (hk : ∀ p : Addr, p.block < B → w'.cell? p = w.cell? p) (hB : B ≤ B') : Steps w' B' A n l :=
  ⟨h.len, h.small, fun hn => by
    obtain ⟨b, off, e, hb, hc⟩ := h.at_ hn
    exact ⟨b, off, e, by omega, fun k x hx => (hc k x hx).keep hb hk hB⟩⟩
theorem Steps.below {w w' : World} {A : Option Addr} {n : Nat} {l : List St} (h : Steps w w.heap.size A n l) (hb : Below w.heap.size w w') : Steps w' w'.heap.size A n l :=
  h.keep (fun _ hp => hb.cell hp) hb.size

/-- The cells of the first k steps. -/
def rowTo (l : List St) (V : Nat → Value) : Nat → List Value
  | 0 => []
  | k + 1 => rowTo l V k ++ (match l[k]? with | some x => [.int .i64 x.take, V k, .bool x.awake] | none => [])

theorem rowTo_succ {l : List St} {V : Nat → Value} {k : Nat} {x : St} (h : l[k]? = some x) : rowTo l V (k + 1) = rowTo l V k ++ [.int .i64 x.take, V k, .bool x.awake] := by
  simp [rowTo, h]

theorem rowTo_len (l : List St) (V : Nat → Value) : ∀ k, k ≤ l.length → (rowTo l V k).length = k * 3
  | 0, _ => by simp [rowTo]
  | k + 1, h => by
    rw [rowTo_succ (List.getElem?_eq_getElem (show k < l.length by omega)), List.length_append, rowTo_len l V k (by omega)]
    simp; omega

theorem rowTo_at (l : List St) (V : Nat → Value) : ∀ k, k ≤ l.length → ∀ i x, i < k → l[i]? = some x →
    (rowTo l V k)[i * 3]? = some (.int .i64 x.take) ∧ (rowTo l V k)[i * 3 + 1]? = some (V i) ∧ (rowTo l V k)[i * 3 + 2]? = some (.bool x.awake)
  | 0, _, i, x, hi, _ => by omega
  | k + 1, h, i, x, hi, hx => by
    obtain ⟨y, hy⟩ : ∃ y, l[k]? = some y := ⟨_, List.getElem?_eq_getElem (show k < l.length by omega)⟩
    rw [rowTo_succ hy]
    have hl := rowTo_len l V k (by omega)
    by_cases hik : i < k
    · have ih := rowTo_at l V k (by omega) i x hik hx
      rw [List.getElem?_append_left (by omega), List.getElem?_append_left (by omega), List.getElem?_append_left (by omega)]
      exact ih
    · obtain rfl : i = k := by omega
      rw [hy] at hx; injection hx with hx; subst hx
      rw [List.getElem?_append_right (by omega), List.getElem?_append_right (by omega), List.getElem?_append_right (by omega), hl]
      simp [show i * 3 + 1 - i * 3 = 1 by omega, show i * 3 + 2 - i * 3 = 2 by omega]

def SameOut (w : World) (n : Nat) (l : List St) (e : Ending) (w' : World) : Prop :=
  ∃ A c, e = .returned (.slice A n c) ∧ Below w.heap.size w w' ∧ Steps w' w'.heap.size A n l

/-- What owns all the cells reads as the steps. -/
theorem steps_of_own {w w' : World} {v : Value} {n : Nat} {l : List St} {V : Nat → Value} (hl : l.length = n) (hs : n ≤ 140737488355328)
    (hV : ∀ k, k < n → ∀ x, l[k]? = some x → -9223372036854775808 ≤ x.take ∧ x.take ≤ 9223372036854775807 ∧ ∃ A m c, V k = .slice A m c ∧ Bools w w.heap.size A m x.keeps)
    (hown : w'.ownsRow w.heap.size 49 3 v n (rowTo l V n)) (hb : Below w.heap.size w w') : SameOut w n l (.returned v) w' := by
  rcases hown.2 with ⟨rfl, rfl⟩ | ⟨g, cap, cur, rfl, hg, hh, _⟩
  · exact ⟨none, 0, rfl, hb, hl, by omega, fun h => by omega⟩
  · refine ⟨some ⟨g, 0, none⟩, cap, rfl, hb, hl, hs, fun hn => ⟨g, 0, rfl, ?_, fun k x hx => ?_⟩⟩
    · rcases Nat.lt_or_ge g w'.heap.size with h | h
      · exact h
      · rw [Array.getElem?_eq_none h] at hh; cases hh
    · have hk : k < n := by
        rw [← hl]
        exact (List.getElem?_eq_some_iff.1 hx).1
      obtain ⟨h1, h2, h3⟩ := rowTo_at l V n (by omega) k x hk hx
      obtain ⟨v1, v2, A, m, c, hVk, hbo⟩ := hV k hk x hx
      refine ⟨v1, v2, ?_, ?_, A, m, c, ?_, hbo.keep (fun _ hp => hb.cell hp) hb.size⟩
      · rw [Nat.zero_add, hown.cellAt _ (by omega), h1]
      · rw [Nat.zero_add, hown.cellAt _ (by omega), h3]
      · rw [Nat.zero_add, hown.cellAt _ (by omega), h2, hVk]

set_option maxHeartbeats 800000 in
theorem same_any (w : World) (A : Option Addr) (n c : Nat) (l : List St) (hs : Steps w w.heap.size A n l) (h11 : n ≤ 1100) :
    Calls Try.prog 24 #[.slice A n c] w (SameOut w n l) := by
  rcases Nat.eq_zero_or_pos n with h0 | hpos
  · subst h0
    have hf : SameOut w 0 l (.returned (.slice none 0 0)) w := ⟨none, 0, rfl, Below.refl _ _, hs.len, by omega, fun h => by omega⟩
    go_enter Try.func24, Try.ntmps24
    go_wp2
    go_loop [3, 4] (fun t i => i = .int .i64 0 ∧ t = .slice none 0 0) (fun _ i => 0)
    case atStart => exact ⟨rfl, rfl⟩
    case round =>
      obtain ⟨rfl, rfl⟩ := hrel
      go_wp2
      go_ret
      exact hf
  · obtain ⟨hlen, hsm, hat⟩ := hs
    obtain ⟨b, off, hA, hbB, hst⟩ := hat hpos
    subst hA
    obtain ⟨V, hV⟩ : ∃ V : Nat → Value, ∀ k, k < n → ∀ x, l[k]? = some x → w.cell? ⟨b, off + k * 3 + 1, none⟩ = some (V k) ∧ ∃ A m c, V k = .slice A m c ∧ Bools w w.heap.size A m x.keeps := by
      have hch : ∀ k, k < n → ∃ v : Value, ∀ x, l[k]? = some x → w.cell? ⟨b, off + k * 3 + 1, none⟩ = some v ∧ ∃ A m c, v = .slice A m c ∧ Bools w w.heap.size A m x.keeps := by
        intro k hk
        have hx : l[k]? = some (l[k]'(by omega)) := List.getElem?_eq_getElem _
        obtain ⟨A, m, c, hc, hbo⟩ := (hst k _ hx).keeps
        refine ⟨.slice A m c, fun x hx' => ?_⟩
        rw [hx] at hx'; injection hx' with hx'; subst hx'
        exact ⟨hc, A, m, c, rfl, hbo⟩
      classical
      refine ⟨fun k => if hk : k < n then Classical.choose (hch k hk) else undef, fun k hk x hx => ?_⟩
      simp only [dif_pos hk]
      exact Classical.choose_spec (hch k hk) x hx
    have HL := Lib.hid hlen
    have HV := Lib.hid hV
    have HST := Lib.hid hst
    have HFIN : Hid (∀ (v : Value) (w' : World), w'.ownsRow w.heap.size 49 3 v n (rowTo l V n) → Below w.heap.size w w' → SameOut w n l (.returned v) w') :=
      fun v w' h1 h2 => steps_of_own hlen hsm (fun k hk x hx => ⟨(hst k x hx).lo, (hst k x hx).hi, (hV k hk x hx).2⟩) h1 h2
    clear hlen hst hat hV
    obtain ⟨i0, hi, hz0, hz1, hz2⟩ := info_parts info49
    have HI := Lib.hid (And.intro hi (And.intro hz0 (And.intro hz1 hz2)))
    clear hi hz0 hz1 hz2
    go_enter Try.func24, Try.ntmps24
    go_wp2
    go_loopw [3, 4] (fun t i wr => ∃ k : Nat, k ≤ n ∧ i = .int .i64 k ∧ wr.ownsRow w.heap.size 49 3 t k (rowTo l V k) ∧ Below w.heap.size w wr) (fun _ i _ => n - (intOf i).toNat)
    case atStart => exact ⟨0, Nat.zero_le _, rfl, World.ownsRow_nil _ _ _ _, Below.refl _ _⟩
    case round =>
      obtain ⟨k, hk, rfl, hown, hbel⟩ := hrel
      by_cases hlt : k < n
      · obtain ⟨x, hx⟩ : ∃ x, l[k]? = some x := ⟨_, List.getElem?_eq_getElem (by rw [HL.out]; exact hlt)⟩
        have hsk := HST.out k x hx
        obtain ⟨hvc, A', m', c', hVk, hbo⟩ := HV.out k hlt x hx
        have e0 : wr.cell? ⟨b, off + k * 3, none⟩ = some (.int .i64 x.take) := (hbel.cell (p := ⟨b, off + k * 3, none⟩) hbB).trans hsk.take
        have e1 : wr.cell? ⟨b, off + k * 3 + 1, none⟩ = some (.slice A' m' c') := ((hbel.cell (p := ⟨b, off + k * 3 + 1, none⟩) hbB).trans hvc).trans (by rw [hVk])
        have e2 : wr.cell? ⟨b, off + k * 3 + 2, none⟩ = some (.bool x.awake) := (hbel.cell (p := ⟨b, off + k * 3 + 2, none⟩) hbB).trans hsk.awake
        have HX : Hid (rowTo l V (k + 1) = rowTo l V k ++ [.int .i64 x.take, .slice A' m' c', .bool x.awake]) := by rw [rowTo_succ hx, hVk]; rfl
        have k0 : (0 : Int) ≤ (k : Int) := Int.natCast_nonneg _
        have k1 : (k : Int) < (n : Int) := by omega
        have hsz := hbel.size
        have hob : u3.ownBlock ≠ some b := fun e => by have := (hown.lt _ e).1; omega
        have HO := Lib.hid hown
        have HBL := Lib.hid hbel
        clear hsk hbo hVk hvc hx hown hbel
        generalize x.take = xt at *
        generalize x.awake = xa at *
        go_wp2_with fail
        go_region_held3 (fun w' => w'.cell? ⟨b, off + k * 3, none⟩ = some (.int .i64 xt) ∧ w'.cell? ⟨b, off + k * 3 + 1, none⟩ = some (.slice A' m' c') ∧ w'.cell? ⟨b, off + k * 3 + 2, none⟩ = some (.bool xa))
          (first
            | go_keep
            | (go_split_ands
               refine ⟨?_, ?_, ?_⟩
               · (rw [hgrow.cell_far _ (by simp; omega) (Ne.symm hob)]; assumption)
               · (rw [hgrow.cell_far _ (by simp; omega) (Ne.symm hob)]; assumption)
               · (rw [hgrow.cell_far _ (by simp; omega) (Ne.symm hob)]; assumption)))
          ((refine step_append_lies _ (by rfl) _ _ _ (by rfl) w.heap.size 49 i0 _ 3 40 Try.underlying34 HI.out.1 HI.out.2.1 HI.out.2.2.1 HI.out.2.2.2 rfl (by omega) u3 k (rowTo l V k) (by rfl) ((HO.out.alloc _).drew)
              ⟨wr.heap.size, 0, none⟩ 1 1 [.int .i64 xt, .slice A' m' c', .bool xa] (by rfl) (by rfl) (World.news_of_block (cs := #[.int .i64 xt, .slice A' m' c', .bool xa]) (t := 49) (fr := (0, 0)) (heap_alloc_new wr _)) (by simp [Value.oneCell'])
              (by omega) (by unfold maxLen; omega) (by omega) (by simp; omega) (wr.heap.size + 1) (by simp) ?_; intro gg cap w1 hown1 hgrow hat hlt1))
        rw [← HX.out] at hown1
        go_wp2
        go_roundw
        case rel => exact ⟨k + 1, by omega, by go_num, hown1, ((HBL.out.alloc hsz _).drew).grown hgrow (by simp; omega) (fun g hg => (HO.out.lt g hg).1)⟩
        case measure => simp [intOf]; omega
      · obtain rfl : n = k := by omega
        have HF := Lib.hid (HFIN.out _ _ hown hbel)
        clear hown hbel HFIN
        go_wp2
        go_ret
        exact HF.out

end Go.Proofs.Ytolapebihnipdaa
