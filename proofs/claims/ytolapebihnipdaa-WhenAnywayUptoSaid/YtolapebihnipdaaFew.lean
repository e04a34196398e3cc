/-
  How steps lie in memory, and what 'few' and 'same' tell of them.
-/
import Derived.Test.YtolapebihnipdaaSmall
namespace Go.Proofs.Ytolapebihnipdaa
open Go.RowKit

/-- A slice of bools that reads as a list. -/
structure Bools (w : World) (B : Nat) (A : Option Addr) (n : Nat) (l : List Bool) : Prop where
  len : l.length = n
  small : n ≤ 140737488355328
  at_ : 0 < n → ∃ b off, A = some ⟨b, off, none⟩ ∧ b < B ∧ ∀ k x, l[k]? = some x → w.cell? ⟨b, off + k, none⟩ = some (.bool x)

/-- One step's three cells, from a place on. -/
structure StepAt (w : World) (B b off : Nat) (x : St) : Prop where
  lo : -9223372036854775808 ≤ x.take
  hi : x.take ≤ 9223372036854775807
  take : w.cell? ⟨b, off, none⟩ = some (.int .i64 x.take)
  awake : w.cell? ⟨b, off + 2, none⟩ = some (.bool x.awake)
  keeps : ∃ A n c, w.cell? ⟨b, off + 1, none⟩ = some (.slice A n c) ∧ Bools w B A n x.keeps

/-- A slice of steps that reads as a list. -/
structure Steps (w : World) (B : Nat) (A : Option Addr) (n : Nat) (l : List St) : Prop where
  len : l.length = n
  small : n ≤ 140737488355328
  at_ : 0 < n → ∃ b off, A = some ⟨b, off, none⟩ ∧ b < B ∧ ∀ k x, l[k]? = some x → StepAt w B b (off + k * 3) x

def total (l : List St) : Nat := (l.map fun x => x.keeps.length).sum
def fewB (l : List St) : Bool := decide (total l ≤ 2000 ∧ l.length ≤ 1100)

theorem total_take (l : List St) (k : Nat) (x : St) (h : l[k]? = some x) : total (l.take (k + 1)) = total (l.take k) + x.keeps.length := by
  unfold total
  rw [List.take_add_one, h]
  simp

theorem total_bd (l : List St) (h : ∀ x ∈ l, x.keeps.length ≤ 140737488355328) : total l ≤ l.length * 140737488355328 := by
  unfold total
  induction l with
  | nil => simp
  | cons x r ih =>
    have h1 := h x (by simp)
    have h2 := ih fun y hy => h y (by simp [hy])
    simp only [List.map_cons, List.sum_cons, List.length_cons]
    omega

theorem total_take_bd (l : List St) (k : Nat) (h : ∀ x ∈ l, x.keeps.length ≤ 140737488355328) (hk : k ≤ 1100) : total (l.take k) ≤ 154811237190860800 := by
  have h1 := total_bd (l.take k) (fun x hx => h x (List.mem_of_mem_take hx))
  have h2 : (l.take k).length ≤ k := List.length_take_le _ _
  have h3 : (l.take k).length * 140737488355328 ≤ 1100 * 140737488355328 := Nat.mul_le_mul_right _ (by omega)
  omega

set_option maxHeartbeats 400000 in
theorem few_small (w : World) (A : Option Addr) (n c : Nat) (l : List St) (hs : Steps w w.heap.size A n l) (h11 : n ≤ 1100) :
    Calls Try.prog 21 #[.slice A n c] w fun e w' => e = .returned (.bool (decide (total l ≤ 2000))) ∧ w = w' := by
  obtain ⟨hlen, hsm, hat⟩ := hs
  have HL := Lib.hid hlen
  have HB : Hid (∀ k ≤ n, total (l.take k) ≤ 154811237190860800) := by
    intro k hk
    refine total_take_bd l k (fun x hx => ?_) (by omega)
    obtain ⟨i, hi, rfl⟩ := List.mem_iff_getElem.1 hx
    obtain ⟨b, off, _, _, h⟩ := hat (by omega)
    obtain ⟨A', n', c', _, hb⟩ := (h i l[i] (List.getElem?_eq_getElem hi)).keeps
    rw [hb.len]; exact hb.small
  clear hlen
  have HAT := Lib.hid hat
  clear hat
  go_enter Try.func21, Try.ntmps21
  go_wp2
  go_loop [3, 4] (fun t i => ∃ k : Nat, k ≤ n ∧ i = .int .i64 k ∧ t = .int .i64 (total (l.take k) : Nat)) (fun _ i => n - (intOf i).toNat)
  case atStart => exact ⟨0, Nat.zero_le _, rfl, rfl⟩
  case round =>
    obtain ⟨k, hk, rfl, rfl⟩ := hrel
    have hb := HB.out k hk
    by_cases hlt : k < n
    · obtain ⟨b, off, hA, hbB, hst⟩ := HAT.out (by omega)
      subst hA
      have hx : l[k]? = some (l[k]'(by rw [HL.out]; exact hlt)) := List.getElem?_eq_getElem _
      generalize l[k]'(by rw [HL.out]; exact hlt) = x at hx
      have hsk := hst k x hx
      obtain ⟨A', n', c', hck, hbo⟩ := hsk.keeps
      have h1 := hbo.small
      have HT : Hid (total (l.take (k + 1)) = total (l.take k) + n') := by rw [total_take l k x hx, hbo.len]; rfl
      clear hst hbo hsk hx
      generalize total (l.take k) = s at *
      go_wp2
      go_round
      case rel => exact ⟨k + 1, by omega, by go_num, by rw [HT.out]; go_num⟩
      case measure => simp [intOf]; omega
    · have HE : Hid (total (l.take k) = total l) := by rw [List.take_of_length_le (by rw [HL.out]; omega)]; rfl
      by_cases h2 : total (l.take k) ≤ 2000
      · have H2 : Hid (decide (total l ≤ 2000) = true) := decide_eq_true (by rw [← HE.out]; exact h2)
        clear HB HL HAT HE
        generalize total (l.take k) = s at *
        go_wp2
        go_ret
        refine ⟨ret_bool ?_, rfl⟩; rw [H2.out]; simp; omega
      · have H2 : Hid (decide (total l ≤ 2000) = false) := decide_eq_false (by rw [← HE.out]; exact h2)
        clear HB HL HAT HE
        generalize total (l.take k) = s at *
        go_wp2
        go_ret
        rw [H2.out]; exact ⟨rfl, rfl⟩

set_option maxHeartbeats 400000 in
theorem few_big (w : World) (A : Option Addr) (n c : Nat) (l : List St) (hs : Steps w w.heap.size A n l) (h11 : 1100 < n) :
    Calls Try.prog 21 #[.slice A n c] w fun e w' => e = .returned (.bool false) ∧ w = w' := by
  obtain ⟨hlen, hsm, hat⟩ := hs
  have HL := Lib.hid hlen
  clear hlen
  obtain ⟨b, off, hA, hbB, hst⟩ := hat (by omega)
  subst hA
  clear hat
  have HAT := Lib.hid hst
  clear hst
  go_enter Try.func21, Try.ntmps21
  go_wp2
  go_loop [3, 4] (fun t i => ∃ (k : Nat) (s : Int), k ≤ n ∧ i = .int .i64 k ∧ t = .int .i64 s) (fun _ i => n - (intOf i).toNat)
  case atStart => exact ⟨0, 0, Nat.zero_le _, rfl, rfl⟩
  case round =>
    obtain ⟨k, s, hk, rfl, rfl⟩ := hrel
    by_cases hlt : k < n
    · have hx : l[k]? = some (l[k]'(by rw [HL.out]; exact hlt)) := List.getElem?_eq_getElem _
      generalize l[k]'(by rw [HL.out]; exact hlt) = x at hx
      have hsk := HAT.out k x hx
      obtain ⟨A', n', c', hck, hbo⟩ := hsk.keeps
      have h1 := hbo.small
      clear hbo hsk hx
      go_wp2
      go_round
      case rel => exact ⟨k + 1, _, by omega, by go_num, rfl⟩
      case measure => simp [intOf]; omega
    · go_wp2
      all_goals (go_ret; refine ⟨ret_bool ?_, rfl⟩; first | rfl | (simp; omega))

theorem few_any (w : World) (A : Option Addr) (n c : Nat) (l : List St) (hs : Steps w w.heap.size A n l) :
    Calls Try.prog 21 #[.slice A n c] w fun e w' => e = .returned (.bool (fewB l)) ∧ w = w' := by
  have hl := hs.len
  by_cases h : n ≤ 1100
  · refine (few_small w A n c l hs h).mono ?_
    rintro e w' ⟨rfl, rfl⟩
    exact ⟨ret_bool (by rw [Bool.eq_iff_iff]; simp [fewB]; omega), rfl⟩
  · refine (few_big w A n c l hs (by omega)).mono ?_
    rintro e w' ⟨rfl, rfl⟩
    exact ⟨ret_bool (by rw [Bool.eq_iff_iff]; simp [fewB]; omega), rfl⟩

end Go.Proofs.Ytolapebihnipdaa
