/-
  num.Parse's closure: whether a text's digits are fine.
-/
import Derived.Test.YtoblhbeeimboaaaDoorRtext
import Derived.Lib.OthersKept
import Derived.Laws.RangeAny
import Derived.Laws.Strings3
namespace Go.Proofs.YtoblhbeeimboaaaDoor
open Go.RowKit Go.Shelf
set_option linter.unusedVariables false
set_option linter.unusedSimpArgs false

def digB (b : UInt8) : Bool := decide (48 ≤ b.toNat) && decide (b.toNat ≤ 57)
def fineB (l s : List UInt8) : Bool := l.all digB && (!l.isEmpty && (!((l.headD 0).toNat == 48) || s == [48]))

theorem fine_bad {l s : List UInt8} {i : Nat} (hi : i < l.length) (h : digB l[i] = false) : fineB l s = false := by
  have : l.all digB = false := by
    rw [List.all_eq_false]
    exact ⟨l[i], List.getElem_mem hi, by simp [h]⟩
  unfold fineB
  rw [this, Bool.false_and]
theorem digB_no {b : UInt8} (h : digB b = false) : b.toNat < 48 ∨ 57 < b.toNat := by
  unfold digB at h
  simp at h
  omega
theorem digB_yes {b : UInt8} (h : digB b = true) : 48 ≤ b.toNat ∧ b.toNat ≤ 57 := by
  unfold digB at h
  simpa using h
theorem bytes_at (l : List UInt8) (k : Nat) (h : k < l.length) : (⟨l.toArray⟩ : ByteArray)[k]'h = l[k] := rfl

set_option maxRecDepth 100000 in
theorem fine_any (w : World) (gd gs : Nat) (l s : List UInt8) (hd : w.cell? ⟨gd, 0, none⟩ = some (.string ⟨l.toArray⟩)) (hs : w.cell? ⟨gs, 0, none⟩ = some (.string ⟨s.toArray⟩)) (hgd : gd < w.heap.size) (hgs : gs < w.heap.size) (hl : l.length ≤ 200) :
    Calls Tryd.prog 25 #[.pointer (some ⟨gd, 0, none⟩), .pointer (some ⟨gs, 0, none⟩)] w fun e w' => e = .returned (.bool (fineB l s)) ∧ Below w.heap.size w w' := by
  have hk0 : (w.iter ⟨l.toArray⟩ 0).heap[w.heap.size]? = some (.stringIter ⟨l.toArray⟩ 0) := World.iter_heap w _ 0
  have hb0 : Below w.heap.size w (w.iter ⟨l.toArray⟩ 0) := (Below.refl _ w).alloc (Nat.le_refl _) _
  have hsz : (⟨l.toArray⟩ : ByteArray).size = l.length := rfl
  go_enter Tryd.func25, Tryd.ntmps25
  go_wp2_with fail
  go_loopw [4] (fun _ wr => ∃ pos : Nat, pos ≤ l.length ∧ wr.heap[w.heap.size]? = some (.stringIter ⟨l.toArray⟩ pos) ∧ Hid (∀ i (hi : i < l.length), i < pos → digB l[i] = true) ∧ Below w.heap.size w wr) (fun _ wr => l.length - wr.iterPos w.heap.size)
  case atStart => exact ⟨0, Nat.zero_le _, hk0, Lib.hid (fun i hi h => by omega), hb0⟩
  case round =>
    obtain ⟨pos, hps, hk, hall, hnx⟩ := hrel
    clear hk0 hb0
    by_cases hp : pos < l.length
    · rcases hdg : digB l[pos] with _ | _
      · have HF := Lib.hid (fine_bad (s := s) hp hdg)
        have hc : (Utf8.decode ⟨l.toArray⟩ pos).1 < 48 ∨ 57 < (Utf8.decode ⟨l.toArray⟩ pos).1 := by
          rcases Nat.lt_or_ge (l[pos]).toNat 128 with h | h
          · rw [decode_ascii ⟨l.toArray⟩ pos hp h]
            have h2 := digB_no hdg
            rw [bytes_at l pos hp]
            omega
          · have := (decode_high ⟨l.toArray⟩ pos hp h).1
            omega
        have hnext : ∀ ty, (Instr.next (.pointer (some ⟨w.heap.size, 0, none⟩)) true ty).run Tryd.prog wr = _ := fun ty => Lib.run_next_any_at wr w.heap.size ⟨l.toArray⟩ pos ty hk hp
        obtain ⟨c, hcc⟩ : ∃ c, (Utf8.decode ⟨l.toArray⟩ pos).1 = c := ⟨_, rfl⟩
        obtain ⟨z, hz⟩ : ∃ z, pos + (Utf8.decode ⟨l.toArray⟩ pos).2 = z := ⟨_, rfl⟩
        rw [hcc, hz] at hnext
        rw [hcc] at hc
        clear hcc hz
        have hb1 : Below w.heap.size w (wr.iterAt w.heap.size ⟨l.toArray⟩ z) := Lib.below_iterAt hnx (by omega) _ z
        have HB := Lib.hid hb1
        clear hdg hb1
        rcases hc with hc | hc
        · have g1 : (c : Int) < 48 := by omega
          clear hc
          go_wp2_with fail
          go_ret
          exact ⟨by rw [HF.out]; rfl, HB.out⟩
        · have g1 : ¬ (c : Int) < 48 := by omega
          have g2 : (57 : Int) < (c : Int) := by omega
          clear hc
          go_wp2_with fail
          go_ret
          exact ⟨by rw [HF.out]; rfl, HB.out⟩
      · have h2 := digB_yes hdg
        have hnext : ∀ ty, (Instr.next (.pointer (some ⟨w.heap.size, 0, none⟩)) true ty).run Tryd.prog wr = _ := fun ty => Lib.run_next_ascii_at wr w.heap.size ⟨l.toArray⟩ pos ty hk hp (by rw [bytes_at l pos hp]; omega)
        have hk1 := Lib.iterAt_heap wr w.heap.size ⟨l.toArray⟩ pos (pos + 1) hk
        have hnx1 : Below w.heap.size w (wr.iterAt w.heap.size ⟨l.toArray⟩ (pos + 1)) := Lib.below_iterAt hnx (by omega) _ (pos + 1)
        have hmu : wr.iterPos w.heap.size = pos := by simp [World.iterPos, hk]
        generalize wr.iterAt w.heap.size ⟨l.toArray⟩ (pos + 1) = W1 at hnext hk1 hnx1
        have e5 : (⟨l.toArray⟩ : ByteArray)[pos]'hp = l[pos] := rfl
        simp only [e5] at hnext
        obtain ⟨c, hcc⟩ : ∃ c, (l[pos]).toNat = c := ⟨_, rfl⟩
        rw [hcc] at hnext h2
        have g1 : ¬ (c : Int) < 48 := by omega
        have g2 : ¬ (57 : Int) < (c : Int) := by omega
        have HA : Hid (∀ i (hi : i < l.length), i < pos + 1 → digB l[i] = true) := Lib.hid (fun i hi h => by
          rcases Nat.lt_or_eq_of_le (Nat.le_of_lt_succ h) with h | h
          · exact hall.out i hi h
          · subst h; exact hdg)
        clear e5 hcc h2 hdg hall
        go_wp2_with fail
        go_roundw
        case rel => exact ⟨pos + 1, by omega, hk1, HA, hnx1⟩
        case measure =>
          have hmu2 : W1.iterPos w.heap.size = pos + 1 := by simp [World.iterPos, hk1]
          rw [hmu, hmu2]
          omega
    · have hnext : ∀ ty, (Instr.next (.pointer (some ⟨w.heap.size, 0, none⟩)) true ty).run Tryd.prog wr = _ := fun ty => Lib.run_next_end_at wr w.heap.size ⟨l.toArray⟩ pos ty hk (by rw [hsz]; exact hp)
      have HA : Hid (l.all digB = true) := Lib.hid (by
        rw [List.all_eq_true]
        intro b hb
        obtain ⟨i, hi, rfl⟩ := List.getElem_of_mem hb
        exact hall.out i hi (by omega))
      have hdw : wr.cell? ⟨gd, 0, none⟩ = some (.string ⟨l.toArray⟩) := (hnx.cell (p := ⟨gd, 0, none⟩) hgd).trans hd
      have hsw : wr.cell? ⟨gs, 0, none⟩ = some (.string ⟨s.toArray⟩) := (hnx.cell (p := ⟨gs, 0, none⟩) hgs).trans hs
      have HB := Lib.hid hnx
      clear hall hnx hd hs hp hps
      cases l with
      | nil =>
        go_wp2_with fail
        go_ret
        exact ⟨rfl, HB.out⟩
      | cons b t =>
        have e0 : ∀ h, (⟨(b :: t).toArray⟩ : ByteArray)[0]'h = b := fun _ => rfl
        rcases hb : b.toNat == 48 with _ | _
        · have HF : Hid (fineB (b :: t) s = true) := Lib.hid (by unfold fineB; rw [HA.out]; simp only [List.headD_cons, hb]; rfl)
          have hb1 : b.toNat ≠ 48 := by simpa using hb
          have gz : ((b.toNat : Int) == 48) = false := by simp; omega
          have gz2 : ((b.toNat : Int) != 48) = true := by simp; omega
          clear hb hb1
          go_wp2_with fail
          go_ret
          exact ⟨by rw [HF.out]; rfl, HB.out⟩
        · have HF : Hid (fineB (b :: t) s = (s == [48])) := Lib.hid (by unfold fineB; rw [HA.out]; simp only [List.headD_cons, hb]; simp)
          have hb1 : b.toNat = 48 := by simpa using hb
          have gz : ((b.toNat : Int) == 48) = true := by simp; omega
          have gz2 : ((b.toNat : Int) != 48) = false := by simp; omega
          clear hb hb1
          go_wp2_with fail
          go_ret
          exact ⟨by rw [HF.out]; rfl, HB.out⟩

end Go.Proofs.YtoblhbeeimboaaaDoor
