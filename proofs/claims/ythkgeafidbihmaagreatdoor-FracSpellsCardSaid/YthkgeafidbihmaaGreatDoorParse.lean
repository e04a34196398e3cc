/-
  Parse: a text's number, if it is one.
-/
import Derived.Test.YthkgeafidbihmaaGreatDoorText
import Derived.Test.YthkgeafidbihmaaGreatDoorAdd
namespace Go.Proofs.YthkgeafidbihmaaGreatDoor
open Go.RowKit Go.Shelf
set_option linter.unusedVariables false
set_option linter.unusedSimpArgs false

def digB (b : UInt8) : Bool := decide (48 ≤ b.toNat) && decide (b.toNat ≤ 57)
def pstep (n : Nat) (b : UInt8) : Nat := n * 10 + (b.toNat - 48)
def pval (l : List UInt8) : Nat := l.foldl pstep 0
def pok (l : List UInt8) : Bool := !l.isEmpty && !(decide (1 < l.length) && (l.headD 0).toNat == 48) && l.all digB

/-- The number that a text spells, if it does. -/
def RetP (w : World) (l : List UInt8) (e : Ending) (w' : World) : Prop :=
  ∃ A n c, e = .returned (.tuple #[.slice A n c, .bool (pok l)]) ∧ Rd w' w'.heap.size A n c (if pok l then digs (pval l) else []) ∧ Below w.heap.size w w'

theorem RetP.bad {w w' : World} {l : List UInt8} (h : pok l = false) (hb : Below w.heap.size w w') : RetP w l (.returned (.tuple #[.slice none 0 0, .bool false])) w' :=
  ⟨none, 0, 0, by rw [h], by rw [h]; exact Rd.nil _ _, hb⟩

theorem pok_bad_at {l : List UInt8} {i : Nat} (hi : i < l.length) (h : digB l[i] = false) : pok l = false := by
  have : l.all digB = false := by
    rw [List.all_eq_false]
    exact ⟨l[i], List.getElem_mem hi, by simp [h]⟩
  unfold pok
  rw [this, Bool.and_false]

theorem pok_good {l : List UInt8} (h0 : l.isEmpty = false) (h1 : (decide (1 < l.length) && (l.headD 0).toNat == 48) = false) (h : ∀ i (hi : i < l.length), digB l[i] = true) : pok l = true := by
  have : l.all digB = true := by
    rw [List.all_eq_true]
    intro b hb
    obtain ⟨i, hi, rfl⟩ := List.getElem_of_mem hb
    exact h i hi
  unfold pok
  rw [this, h0, h1]
  rfl

theorem pval_take {l : List UInt8} {i : Nat} (hi : i < l.length) : pval (l.take (i + 1)) = pval (l.take i) * 10 + (l[i].toNat - 48) := by
  rw [List.take_succ_eq_append_getElem hi, pval, List.foldl_append]
  rfl

theorem pval_lt {l : List UInt8} : ∀ i, i ≤ l.length → (∀ j (hj : j < l.length), j < i → digB l[j] = true) → pval (l.take i) < 4294967296 ^ i
  | 0, _, _ => by simp [pval]
  | i + 1, hi, h => by
    rw [pval_take (by omega)]
    have h1 := pval_lt i (by omega) (fun j hj hji => h j hj (by omega))
    have h2 := h i (by omega) (by omega)
    simp only [digB, Bool.and_eq_true, decide_eq_true_eq] at h2
    rw [Nat.pow_succ]
    omega

theorem rd_one {w : World} {d : Nat} (hd : d < 4294967296) : Rd (w.alloc (.cells #[.int .u32 (d : Int)] 38)) (w.alloc (.cells #[.int .u32 (d : Int)] 38)).heap.size (some ⟨w.heap.size, 0, none⟩) 1 1 [d] :=
  Rd.of_blk (t := 38) (l := [d]) (Blk.new w _ _) (Dig.cons hd Dig.nil)

set_option maxRecDepth 100000 in
set_option maxHeartbeats 1000000 in
theorem parse_any (w : World) (s : ByteArray) (hs : s.size ≤ 4096) : Calls Tryz.prog 21 #[.string s] w (RetP w s.data.toList) := by
  obtain ⟨l, hl⟩ : ∃ l : List UInt8, s = ⟨l.toArray⟩ := ⟨s.data.toList, by cases s; simp⟩
  subst hl
  have hsz : (⟨l.toArray⟩ : ByteArray).size = l.length := rfl
  rw [hsz] at hs
  have e : (⟨l.toArray⟩ : ByteArray).data.toList = l := by simp
  rw [e]
  clear hsz e
  rcases l with _ | ⟨b, l'⟩
  · have HF : Hid (RetP w [] (.returned (.tuple #[.slice none 0 0, .bool false])) w) := Lib.hid (RetP.bad rfl (Below.refl _ _))
    go_enter Tryz.func21, Tryz.ntmps21
    go_wp2_with fail
    go_ret2
    exact HF.out
  · obtain ⟨l, hl⟩ : ∃ l, l = b :: l' := ⟨_, rfl⟩
    rw [← hl] at hs ⊢
    have hl0 : l.isEmpty = false := by rw [hl]; rfl
    have hln : 0 < l.length := by rw [hl]; simp
    have hb0 : l[0] = b := by simp only [hl, List.getElem_cons_zero]
    have hhd : l.headD 0 = b := by rw [hl]; rfl
    clear hl
    by_cases h1 : 1 < l.length ∧ b.toNat = 48
    · have HF : Hid (RetP w l (.returned (.tuple #[.slice none 0 0, .bool false])) w) := Lib.hid (RetP.bad (by unfold pok; rw [hhd, h1.2, decide_eq_true h1.1]; simp) (Below.refl _ _))
      obtain ⟨h1a, h1b⟩ := h1
      have hg0 : ∀ h, (⟨l.toArray⟩ : ByteArray)[0]'h = b := fun h => hb0
      have hbz : ((b.toNat : Int) == 48) = true := by rw [h1b]; rfl
      have hli : (1 : Int) < (l.length : Int) := by omega
      clear hb0 hhd
      go_enter Tryz.func21, Tryz.ntmps21
      go_wp2_with fail
      go_ret2
      exact HF.out
    · have HOK : Hid ((decide (1 < l.length) && (l.headD 0).toNat == 48) = false) := Lib.hid (by
        rw [hhd]
        by_cases h2 : 1 < l.length
        · have : b.toNat ≠ 48 := fun e => h1 ⟨h2, e⟩
          simp [this]
        · simp [h2])
      have hg0 : ∀ h, (⟨l.toArray⟩ : ByteArray)[0]'h = b := fun h => hb0
      have HA : Hid (1 < l.length → b.toNat ≠ 48) := Lib.hid (fun h2 e => h1 ⟨h2, e⟩)
      clear hb0 hhd h1
      by_cases h2 : 1 < l.length
      · have hbz : ((b.toNat : Int) == 48) = false := by have := HA.out h2; simp; omega
        have hli : (1 : Int) < (l.length : Int) := by omega
        go_enter Tryz.func21, Tryz.ntmps21
        go_wp2_with fail
        go_loopw [4, 20] (fun ov iv wr => ∃ (i : Nat) (A : Option Addr) (n c : Nat), i ≤ l.length ∧ iv = .int .i64 i ∧ ov = .slice A n c ∧ n ≤ i ∧ Hid (Rd wr wr.heap.size A n c (digs (pval (l.take i)))) ∧ Hid (∀ j (hj : j < l.length), j < i → digB l[j] = true) ∧ Hid (Below w.heap.size w wr)) (fun _ iv _ => l.length - (intOf iv).toNat)
        case atStart => exact ⟨0, none, 0, 0, Nat.zero_le _, rfl, rfl, Nat.le_refl _, Lib.hid (by simp [pval, digs_zero]; exact Rd.nil _ _), Lib.hid (fun j hj h => by omega), Lib.hid (Below.refl _ _)⟩
        case round =>
          obtain ⟨i, A, n, c, hi, rfl, rfl, hn, HR, HD, HB⟩ := hrel
          by_cases hlt : i < l.length
          · have hli2 : (i : Int) < (l.length : Int) := by omega
            obtain ⟨d, hd⟩ : ∃ d, l[i] = d := ⟨_, rfl⟩
            have hgi : ∀ h, (⟨l.toArray⟩ : ByteArray)[i]'h = d := fun h => hd
            have hgi' : ∀ h, l[i]'h = d := fun h => hd
            have hdl : d.toNat < 256 := d.toNat_lt
            by_cases hdd : digB d = true
            · have HN := Lib.hid (pval_take hlt)
              have HD2 : Hid (∀ j (hj : j < l.length), j < i + 1 → digB l[j] = true) := Lib.hid (fun j hj hji => by
                rcases Nat.lt_or_eq_of_le (Nat.le_of_lt_succ hji) with h | h
                · exact HD.out j hj h
                · subst h; rw [hd]; exact hdd)
              have h48 : ¬ (d.toNat : Int) < 48 := by simp only [digB, Bool.and_eq_true, decide_eq_true_eq] at hdd; omega
              have h57 : ¬ (57 : Int) < (d.toNat : Int) := by simp only [digB, Bool.and_eq_true, decide_eq_true_eq] at hdd; omega
              obtain ⟨v, hv⟩ : ∃ v, d.toNat - 48 = v := ⟨_, rfl⟩
              have hvl : v ≤ 9 := by omega
              have hsub : (d.toNat : Int) - 48 = (v : Int) := by omega
              have hw8 : IntKind.u8.wrap (v : Int) = (v : Int) := by simp [IntKind.wrap, IntKind.signed, IntKind.bits]; omega
              have hw64 : IntKind.u64.wrap (v : Int) = (v : Int) := by simp [IntKind.wrap, IntKind.signed, IntKind.bits]; omega
              rw [hd, hv] at HN
              clear hd hdd hv
              go_wp2_with fail
              refine wp_region_noPanic ?_
              refine ord_begin 9 (fun _ => True) (by kernel_rfl) ?_
              have hS : True := trivial
              refine ord_take (i := 0) (v := ?_) (by kernel_rfl) rfl (by decide) (by kernel_rfl) (by kernel_rfl) (fun _ _ _ h => h) (Or.inl ⟨by rfl, ?_⟩) hS ?_
              rotate_left
              · intro wz hz; (try dsimp only at hz); (try go_split_ands); go_simp; (try with_reducible rfl)
              try simp only [Act.put, List.getElem_toArray, List.getElem_cons_zero, List.getElem_cons_succ, List.setIfInBounds_toArray, List.set_cons_zero, List.set_cons_succ]
              refine ord_take (i := 3) (v := ?_) (by kernel_rfl) rfl (by decide) (by kernel_rfl) (by kernel_rfl) (fun _ _ _ h => h) (Or.inl ⟨by rfl, ?_⟩) hS ?_
              rotate_left
              · intro wz hz; (try dsimp only at hz); (try go_split_ands); go_simp; (try with_reducible rfl)
              try simp only [Act.put, List.getElem_toArray, List.getElem_cons_zero, List.getElem_cons_succ, List.setIfInBounds_toArray, List.set_cons_zero, List.set_cons_succ]
              refine ord_take (i := 4) (v := ?_) (by kernel_rfl) rfl (by decide) (by kernel_rfl) (by kernel_rfl) (fun _ _ _ h => h) (Or.inl ⟨by rfl, ?_⟩) hS ?_
              rotate_left
              · intro wz hz; (try dsimp only at hz); (try go_split_ands); go_simp; (try with_reducible rfl)
              try simp only [Act.put, List.getElem_toArray, List.getElem_cons_zero, List.getElem_cons_succ, List.setIfInBounds_toArray, List.set_cons_zero, List.set_cons_succ]
              refine ord_take (i := 5) (v := ?_) (by kernel_rfl) rfl (by decide) (by kernel_rfl) (by kernel_rfl) (fun _ _ _ h => h) (Or.inl ⟨by rfl, ?_⟩) hS ?_
              rotate_left
              · intro wz hz; (try dsimp only at hz); (try go_split_ands); go_simp; (try with_reducible rfl)
              try simp only [Act.put, List.getElem_toArray, List.getElem_cons_zero, List.getElem_cons_succ, List.setIfInBounds_toArray, List.set_cons_zero, List.set_cons_succ]
              refine ord_take (i := 6) (v := ?_) (by kernel_rfl) rfl (by decide) (by kernel_rfl) (by kernel_rfl) (fun _ _ _ h => h) (Or.inl ⟨by rfl, ?_⟩) hS ?_
              rotate_left
              · intro wz hz; (try dsimp only at hz); (try go_split_ands); go_simp; (try with_reducible rfl)
              try simp only [Act.put, List.getElem_toArray, List.getElem_cons_zero, List.getElem_cons_succ, List.setIfInBounds_toArray, List.set_cons_zero, List.set_cons_succ]
              refine ord_take (i := 7) (v := ?_) (by kernel_rfl) rfl (by decide) (by kernel_rfl) (by kernel_rfl) (fun _ _ _ h => h) (Or.inl ⟨by rfl, ?_⟩) hS ?_
              rotate_left
              · intro wz hz; (try dsimp only at hz); (try go_split_ands); go_simp; (try with_reducible rfl)
              try simp only [Act.put, List.getElem_toArray, List.getElem_cons_zero, List.getElem_cons_succ, List.setIfInBounds_toArray, List.set_cons_zero, List.set_cons_succ]
              refine ord_step (i := 1) rfl (by decide) (by kernel_rfl) (by rfl) (fun K hK => ?_)
              go_simp
              have r10 := Lib.hid (rd_one (w := wr.drew) (d := 10) (by decide))
              have hbA : Below wr.heap.size wr (wr.drew.alloc (.cells #[.int .u32 10] 38)) := ((Below.refl _ _).drew).alloc (Nat.le_refl _) _
              have R1 := Lib.hid (HR.out.on hbA)
              have HBA := Lib.hid (bltB HB.out HB.out.size hbA)
              clear hbA
              refine hK _ _ hS ?_
              clear hK K
              try simp only [Act.put, List.getElem_toArray, List.getElem_cons_zero, List.getElem_cons_succ, List.setIfInBounds_toArray, List.set_cons_zero, List.set_cons_succ]
              refine ord_step (i := 2) rfl (by decide) (by kernel_rfl) (by rfl) (fun K hK => ?_)
              go_simp
              refine (mul_any _ A _ n c 1 1 _ _ R1.out r10.out (by omega) (by omega)).mono ?_
              rintro e W4 ⟨A4, n4, c4, rfl, q4, hb4⟩
              rw [tv_digs, tv_single] at q4
              have Q4 := Lib.hid q4
              have HB4 := Lib.hid (bltB HBA.out HBA.out.size hb4)
              clear q4 hb4 r10 R1 HBA
              refine hK _ _ hS ?_
              clear hK K
              try simp only [Act.put, List.getElem_toArray, List.getElem_cons_zero, List.getElem_cons_succ, List.setIfInBounds_toArray, List.set_cons_zero, List.set_cons_succ]
              refine ord_step (i := 8) rfl (by decide) (by kernel_rfl) (by rfl) (fun K hK => ?_)
              go_simp
              refine (of_any W4 v (by omega)).mono ?_
              rintro e W5 ⟨A5, n5, c5, rfl, q5, hb5⟩
              have Q4' := Lib.hid (Q4.out.on hb5)
              have Q5 := Lib.hid q5
              have HB5 := Lib.hid (bltB HB4.out HB4.out.size hb5)
              clear q5 hb5 Q4 HB4
              refine hK _ _ hS ?_
              clear hK K
              try simp only [Act.put, List.getElem_toArray, List.getElem_cons_zero, List.getElem_cons_succ, List.setIfInBounds_toArray, List.set_cons_zero, List.set_cons_succ]
              refine ord_rest (by kernel_rfl) ?_
              refine any_step (i := 9) rfl (by kernel_rfl) (by rfl) (fun K hK => ?_)
              go_simp
              have hn4 : n4 ≤ 65535 := by
                have h1 := pval_lt (l := l) i hi HD.out
                have h2 := digs_len_le (n := pval (l.take i) * 10) (k := i + 1) (by rw [Nat.pow_succ]; omega)
                have h3 := Q4'.out.len
                omega
              have hn5 : n5 ≤ 65535 := by
                have h2 := digs_len_le (n := v) (k := 1) (by omega)
                have h3 := Q5.out.len
                omega
              refine (add_any W5 A4 A5 n4 c4 n5 c5 _ _ Q4'.out Q5.out (by omega) (by omega)).mono ?_
              rintro e W6 ⟨A6, n6, c6, rfl, q6, hb6⟩
              rw [tv_digs, tv_digs] at q6
              refine hK _ _ ?_
              clear hK K
              try simp only [Act.put, List.getElem_toArray, List.getElem_cons_zero, List.getElem_cons_succ, List.setIfInBounds_toArray, List.set_cons_zero, List.set_cons_succ]
              refine wpAny_take (i := 10) (v := ?_) rfl (by kernel_rfl) (by kernel_rfl) (by kernel_rfl) (fun _ _ _ h => h) (Or.inl ⟨by rfl, ?_⟩) ?_
              rotate_left
              · intro wz; go_simp; (try with_reducible rfl)
              try simp only [Act.put, List.getElem_toArray, List.getElem_cons_zero, List.getElem_cons_succ, List.setIfInBounds_toArray, List.set_cons_zero, List.set_cons_succ]
              refine wpAny_done (by kernel_rfl) ?_ _
              refine NoPanic.normal ?_
              have hn6 : n6 ≤ i + 1 := by
                have h1 := pval_lt (l := l) (i + 1) (by omega) HD2.out
                rw [HN.out] at h1
                have h2 := digs_len_le h1
                have h3 := q6.len
                omega
              have Q6 : Hid (Rd W6 W6.heap.size A6 n6 c6 (digs (pval (l.take (i + 1))))) := Lib.hid (by rw [HN.out]; exact q6)
              have HB6 := Lib.hid (bltB HB5.out HB5.out.size hb6)
              clear q6 hb6 Q4' Q5 HB5 HR
              go_wp2_with fail
              go_roundw
              case rel => exact ⟨i + 1, A6, n6, c6, by omega, by go_num, rfl, hn6, Q6, HD2, HB6⟩
              case measure => simp [intOf]; omega
            · have HF : Hid (RetP w l (.returned (.tuple #[.slice none 0 0, .bool false])) wr) := Lib.hid (RetP.bad (pok_bad_at hlt (by rw [hd]; simpa using hdd)) HB.out)
              by_cases h48 : d.toNat < 48
              · have h48' : (d.toNat : Int) < 48 := by omega
                clear hd hdd
                go_wp2_with fail
                go_ret2
                exact HF.out
              · have h48' : ¬ (d.toNat : Int) < 48 := by omega
                have h57' : (57 : Int) < (d.toNat : Int) := by simp only [digB, Bool.and_eq_true, decide_eq_true_eq] at hdd; omega
                clear hd hdd
                go_wp2_with fail
                go_ret2
                exact HF.out
          · obtain rfl : i = l.length := by omega
            have hok := pok_good hl0 HOK.out (fun j hj => HD.out j hj hj)
            have HF : Hid (RetP w l (.returned (.tuple #[.slice A n c, .bool true])) wr) := Lib.hid ⟨A, n, c, by rw [hok], by rw [if_pos hok]; have := HR.out; rwa [List.take_length] at this, HB.out⟩
            clear hok
            go_wp2_with fail
            go_ret2
            exact HF.out
      · have hli : ¬ (1 : Int) < (l.length : Int) := by omega
        go_enter Tryz.func21, Tryz.ntmps21
        go_wp2_with fail
        go_loopw [4, 20] (fun ov iv wr => ∃ (i : Nat) (A : Option Addr) (n c : Nat), i ≤ l.length ∧ iv = .int .i64 i ∧ ov = .slice A n c ∧ n ≤ i ∧ Hid (Rd wr wr.heap.size A n c (digs (pval (l.take i)))) ∧ Hid (∀ j (hj : j < l.length), j < i → digB l[j] = true) ∧ Hid (Below w.heap.size w wr)) (fun _ iv _ => l.length - (intOf iv).toNat)
        case atStart => exact ⟨0, none, 0, 0, Nat.zero_le _, rfl, rfl, Nat.le_refl _, Lib.hid (by simp [pval, digs_zero]; exact Rd.nil _ _), Lib.hid (fun j hj h => by omega), Lib.hid (Below.refl _ _)⟩
        case round =>
          obtain ⟨i, A, n, c, hi, rfl, rfl, hn, HR, HD, HB⟩ := hrel
          by_cases hlt : i < l.length
          · have hli2 : (i : Int) < (l.length : Int) := by omega
            obtain ⟨d, hd⟩ : ∃ d, l[i] = d := ⟨_, rfl⟩
            have hgi : ∀ h, (⟨l.toArray⟩ : ByteArray)[i]'h = d := fun h => hd
            have hgi' : ∀ h, l[i]'h = d := fun h => hd
            have hdl : d.toNat < 256 := d.toNat_lt
            by_cases hdd : digB d = true
            · have HN := Lib.hid (pval_take hlt)
              have HD2 : Hid (∀ j (hj : j < l.length), j < i + 1 → digB l[j] = true) := Lib.hid (fun j hj hji => by
                rcases Nat.lt_or_eq_of_le (Nat.le_of_lt_succ hji) with h | h
                · exact HD.out j hj h
                · subst h; rw [hd]; exact hdd)
              have h48 : ¬ (d.toNat : Int) < 48 := by simp only [digB, Bool.and_eq_true, decide_eq_true_eq] at hdd; omega
              have h57 : ¬ (57 : Int) < (d.toNat : Int) := by simp only [digB, Bool.and_eq_true, decide_eq_true_eq] at hdd; omega
              obtain ⟨v, hv⟩ : ∃ v, d.toNat - 48 = v := ⟨_, rfl⟩
              have hvl : v ≤ 9 := by omega
              have hsub : (d.toNat : Int) - 48 = (v : Int) := by omega
              have hw8 : IntKind.u8.wrap (v : Int) = (v : Int) := by simp [IntKind.wrap, IntKind.signed, IntKind.bits]; omega
              have hw64 : IntKind.u64.wrap (v : Int) = (v : Int) := by simp [IntKind.wrap, IntKind.signed, IntKind.bits]; omega
              rw [hd, hv] at HN
              clear hd hdd hv
              go_wp2_with fail
              refine wp_region_noPanic ?_
              refine ord_begin 9 (fun _ => True) (by kernel_rfl) ?_
              have hS : True := trivial
              refine ord_take (i := 0) (v := ?_) (by kernel_rfl) rfl (by decide) (by kernel_rfl) (by kernel_rfl) (fun _ _ _ h => h) (Or.inl ⟨by rfl, ?_⟩) hS ?_
              rotate_left
              · intro wz hz; (try dsimp only at hz); (try go_split_ands); go_simp; (try with_reducible rfl)
              try simp only [Act.put, List.getElem_toArray, List.getElem_cons_zero, List.getElem_cons_succ, List.setIfInBounds_toArray, List.set_cons_zero, List.set_cons_succ]
              refine ord_take (i := 3) (v := ?_) (by kernel_rfl) rfl (by decide) (by kernel_rfl) (by kernel_rfl) (fun _ _ _ h => h) (Or.inl ⟨by rfl, ?_⟩) hS ?_
              rotate_left
              · intro wz hz; (try dsimp only at hz); (try go_split_ands); go_simp; (try with_reducible rfl)
              try simp only [Act.put, List.getElem_toArray, List.getElem_cons_zero, List.getElem_cons_succ, List.setIfInBounds_toArray, List.set_cons_zero, List.set_cons_succ]
              refine ord_take (i := 4) (v := ?_) (by kernel_rfl) rfl (by decide) (by kernel_rfl) (by kernel_rfl) (fun _ _ _ h => h) (Or.inl ⟨by rfl, ?_⟩) hS ?_
              rotate_left
              · intro wz hz; (try dsimp only at hz); (try go_split_ands); go_simp; (try with_reducible rfl)
              try simp only [Act.put, List.getElem_toArray, List.getElem_cons_zero, List.getElem_cons_succ, List.setIfInBounds_toArray, List.set_cons_zero, List.set_cons_succ]
              refine ord_take (i := 5) (v := ?_) (by kernel_rfl) rfl (by decide) (by kernel_rfl) (by kernel_rfl) (fun _ _ _ h => h) (Or.inl ⟨by rfl, ?_⟩) hS ?_
              rotate_left
              · intro wz hz; (try dsimp only at hz); (try go_split_ands); go_simp; (try with_reducible rfl)
              try simp only [Act.put, List.getElem_toArray, List.getElem_cons_zero, List.getElem_cons_succ, List.setIfInBounds_toArray, List.set_cons_zero, List.set_cons_succ]
              refine ord_take (i := 6) (v := ?_) (by kernel_rfl) rfl (by decide) (by kernel_rfl) (by kernel_rfl) (fun _ _ _ h => h) (Or.inl ⟨by rfl, ?_⟩) hS ?_
              rotate_left
              · intro wz hz; (try dsimp only at hz); (try go_split_ands); go_simp; (try with_reducible rfl)
              try simp only [Act.put, List.getElem_toArray, List.getElem_cons_zero, List.getElem_cons_succ, List.setIfInBounds_toArray, List.set_cons_zero, List.set_cons_succ]
              refine ord_take (i := 7) (v := ?_) (by kernel_rfl) rfl (by decide) (by kernel_rfl) (by kernel_rfl) (fun _ _ _ h => h) (Or.inl ⟨by rfl, ?_⟩) hS ?_
              rotate_left
              · intro wz hz; (try dsimp only at hz); (try go_split_ands); go_simp; (try with_reducible rfl)
              try simp only [Act.put, List.getElem_toArray, List.getElem_cons_zero, List.getElem_cons_succ, List.setIfInBounds_toArray, List.set_cons_zero, List.set_cons_succ]
              refine ord_step (i := 1) rfl (by decide) (by kernel_rfl) (by rfl) (fun K hK => ?_)
              go_simp
              have r10 := Lib.hid (rd_one (w := wr.drew) (d := 10) (by decide))
              have hbA : Below wr.heap.size wr (wr.drew.alloc (.cells #[.int .u32 10] 38)) := ((Below.refl _ _).drew).alloc (Nat.le_refl _) _
              have R1 := Lib.hid (HR.out.on hbA)
              have HBA := Lib.hid (bltB HB.out HB.out.size hbA)
              clear hbA
              refine hK _ _ hS ?_
              clear hK K
              try simp only [Act.put, List.getElem_toArray, List.getElem_cons_zero, List.getElem_cons_succ, List.setIfInBounds_toArray, List.set_cons_zero, List.set_cons_succ]
              refine ord_step (i := 2) rfl (by decide) (by kernel_rfl) (by rfl) (fun K hK => ?_)
              go_simp
              refine (mul_any _ A _ n c 1 1 _ _ R1.out r10.out (by omega) (by omega)).mono ?_
              rintro e W4 ⟨A4, n4, c4, rfl, q4, hb4⟩
              rw [tv_digs, tv_single] at q4
              have Q4 := Lib.hid q4
              have HB4 := Lib.hid (bltB HBA.out HBA.out.size hb4)
              clear q4 hb4 r10 R1 HBA
              refine hK _ _ hS ?_
              clear hK K
              try simp only [Act.put, List.getElem_toArray, List.getElem_cons_zero, List.getElem_cons_succ, List.setIfInBounds_toArray, List.set_cons_zero, List.set_cons_succ]
              refine ord_step (i := 8) rfl (by decide) (by kernel_rfl) (by rfl) (fun K hK => ?_)
              go_simp
              refine (of_any W4 v (by omega)).mono ?_
              rintro e W5 ⟨A5, n5, c5, rfl, q5, hb5⟩
              have Q4' := Lib.hid (Q4.out.on hb5)
              have Q5 := Lib.hid q5
              have HB5 := Lib.hid (bltB HB4.out HB4.out.size hb5)
              clear q5 hb5 Q4 HB4
              refine hK _ _ hS ?_
              clear hK K
              try simp only [Act.put, List.getElem_toArray, List.getElem_cons_zero, List.getElem_cons_succ, List.setIfInBounds_toArray, List.set_cons_zero, List.set_cons_succ]
              refine ord_rest (by kernel_rfl) ?_
              refine any_step (i := 9) rfl (by kernel_rfl) (by rfl) (fun K hK => ?_)
              go_simp
              have hn4 : n4 ≤ 65535 := by
                have h1 := pval_lt (l := l) i hi HD.out
                have h2 := digs_len_le (n := pval (l.take i) * 10) (k := i + 1) (by rw [Nat.pow_succ]; omega)
                have h3 := Q4'.out.len
                omega
              have hn5 : n5 ≤ 65535 := by
                have h2 := digs_len_le (n := v) (k := 1) (by omega)
                have h3 := Q5.out.len
                omega
              refine (add_any W5 A4 A5 n4 c4 n5 c5 _ _ Q4'.out Q5.out (by omega) (by omega)).mono ?_
              rintro e W6 ⟨A6, n6, c6, rfl, q6, hb6⟩
              rw [tv_digs, tv_digs] at q6
              refine hK _ _ ?_
              clear hK K
              try simp only [Act.put, List.getElem_toArray, List.getElem_cons_zero, List.getElem_cons_succ, List.setIfInBounds_toArray, List.set_cons_zero, List.set_cons_succ]
              refine wpAny_take (i := 10) (v := ?_) rfl (by kernel_rfl) (by kernel_rfl) (by kernel_rfl) (fun _ _ _ h => h) (Or.inl ⟨by rfl, ?_⟩) ?_
              rotate_left
              · intro wz; go_simp; (try with_reducible rfl)
              try simp only [Act.put, List.getElem_toArray, List.getElem_cons_zero, List.getElem_cons_succ, List.setIfInBounds_toArray, List.set_cons_zero, List.set_cons_succ]
              refine wpAny_done (by kernel_rfl) ?_ _
              refine NoPanic.normal ?_
              have hn6 : n6 ≤ i + 1 := by
                have h1 := pval_lt (l := l) (i + 1) (by omega) HD2.out
                rw [HN.out] at h1
                have h2 := digs_len_le h1
                have h3 := q6.len
                omega
              have Q6 : Hid (Rd W6 W6.heap.size A6 n6 c6 (digs (pval (l.take (i + 1))))) := Lib.hid (by rw [HN.out]; exact q6)
              have HB6 := Lib.hid (bltB HB5.out HB5.out.size hb6)
              clear q6 hb6 Q4' Q5 HB5 HR
              go_wp2_with fail
              go_roundw
              case rel => exact ⟨i + 1, A6, n6, c6, by omega, by go_num, rfl, hn6, Q6, HD2, HB6⟩
              case measure => simp [intOf]; omega
            · have HF : Hid (RetP w l (.returned (.tuple #[.slice none 0 0, .bool false])) wr) := Lib.hid (RetP.bad (pok_bad_at hlt (by rw [hd]; simpa using hdd)) HB.out)
              by_cases h48 : d.toNat < 48
              · have h48' : (d.toNat : Int) < 48 := by omega
                clear hd hdd
                go_wp2_with fail
                go_ret2
                exact HF.out
              · have h48' : ¬ (d.toNat : Int) < 48 := by omega
                have h57' : (57 : Int) < (d.toNat : Int) := by simp only [digB, Bool.and_eq_true, decide_eq_true_eq] at hdd; omega
                clear hd hdd
                go_wp2_with fail
                go_ret2
                exact HF.out
          · obtain rfl : i = l.length := by omega
            have hok := pok_good hl0 HOK.out (fun j hj => HD.out j hj hj)
            have HF : Hid (RetP w l (.returned (.tuple #[.slice A n c, .bool true])) wr) := Lib.hid ⟨A, n, c, by rw [hok], by rw [if_pos hok]; have := HR.out; rwa [List.take_length] at this, HB.out⟩
            clear hok
            go_wp2_with fail
            go_ret2
            exact HF.out
end Go.Proofs.YthkgeafidbihmaaGreatDoor
