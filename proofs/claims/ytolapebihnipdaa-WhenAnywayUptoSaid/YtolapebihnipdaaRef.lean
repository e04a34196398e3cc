/-
  What a race tells by the document's own text.
-/
import Derived.Test.YtolapebihnipdaaFew
namespace Go.Proofs.Ytolapebihnipdaa
open Go.RowKit
set_option linter.unusedVariables false

theorem drop_cons {α : Type} {l : List α} {k : Nat} {x : α} (h : l[k]? = some x) : l.drop k = x :: l.drop (k + 1) := by
  obtain ⟨hk, rfl⟩ := List.getElem?_eq_some_iff.1 h
  exact List.drop_eq_getElem_cons hk
theorem total_split (l : List St) (k : Nat) : total l = total (l.take k) + total (l.drop k) := by
  unfold total
  rw [← List.sum_append, ← List.map_append, List.take_append_drop]
theorem keeps_tot {l : List St} {k : Nat} {x : St} (h : l[k]? = some x) : total (l.take (k + 1)) = total (l.take k) + x.keeps.length ∧ total (l.take (k + 1)) ≤ total l := by
  have h1 := total_take l k x h
  have h2 := total_split l (k + 1)
  omega

/-- Where a race stands: what is left of it gives what it gives. -/
structure At (fr op : Int) (l : List St) (R : Int × Int) (k : Nat) (tip at_ : Int) (kn : Bool) : Prop where
  lo : fr ≤ tip
  hi : tip ≤ fr + total (l.take k)
  eq : race fr op (l.drop k) tip at_ kn = R

theorem at_bad {fr op : Int} {l : List St} {R : Int × Int} {k : Nat} {tip at_ : Int} {kn : Bool} {x : St} (h : At fr op l R k tip at_ kn) (hx : l[k]? = some x) (hb : x.take < 0 ∨ tip - fr < x.take) : R = (0, 0) := by
  rw [← h.eq, drop_cons hx]
  simp only [race]
  rw [if_pos hb]

/-- Blocks that come. -/
structure In (op : Int) (l : List Bool) (P : Int × Int) (T : Int) (j : Nat) (tip at_ : Int) (kn : Bool) : Prop where
  at' : tip = T + j
  eq : blocks op kn (l.drop j) tip at_ = P

theorem in_step {op : Int} {l : List Bool} {P : Int × Int} {T : Int} {j : Nat} {tip at_ : Int} {kn kp : Bool} (h : In op l P T j tip at_ kn) (hk : l[j]? = some kp) :
    In op l P T (j + 1) (tip + 1) (if at_ = 0 ∧ kn = true ∧ kp = false ∧ op ≤ tip + 1 then tip + 1 else at_) kn := by
  refine ⟨by have := h.at'; omega, ?_⟩
  have h1 := h.eq
  rw [drop_cons hk] at h1
  exact h1

theorem in_end {op : Int} {l : List Bool} {P : Int × Int} {T : Int} {tip at_ : Int} {kn : Bool} (h : In op l P T l.length tip at_ kn) : P = (tip, at_) := by
  have h1 := h.eq
  rw [List.drop_length] at h1
  exact h1.symm

theorem at_next {fr op : Int} {l : List St} {R : Int × Int} {k : Nat} {tip at_ tip' at' : Int} {kn : Bool} {x : St} (h : At fr op l R k tip at_ kn) (hx : l[k]? = some x) (h0 : 0 ≤ x.take) (h1 : x.take ≤ tip - fr)
    (hP : blocks op kn x.keeps (tip - x.take) (if tip - x.take < at_ then 0 else at_) = (tip', at')) (ht : tip' = tip - x.take + x.keeps.length) :
    At fr op l R (k + 1) tip' at' (kn || (x.awake && decide (op ≤ tip' + 1))) := by
  refine ⟨by have := h.lo; omega, ?_, ?_⟩
  · have h2 := h.hi
    have h3 := (keeps_tot hx).1
    omega
  · have h2 := h.eq
    rw [drop_cons hx] at h2
    simp only [race] at h2
    rw [if_neg (by omega), hP] at h2
    exact h2

theorem ret_pair {a b c d : Int} (h : (a, b) = (c, d)) : Ending.returned (.tuple #[.int .i64 a, .int .i64 b]) = Ending.returned (.tuple #[.int .i64 c, .int .i64 d]) := by
  injection h with h1 h2; rw [h1, h2]

set_option maxRecDepth 100000 in
set_option maxHeartbeats 4000000 in
theorem race_ref (w : World) (fr op : Int) (A : Option Addr) (n c : Nat) (l : List St) (hs : Steps w w.heap.size A n l) (ht : total l ≤ 1000000)
    (hf0 : 0 ≤ fr) (hf1 : fr ≤ 2097152) (hop : op ≤ 2097152) (hop1 : -9223372036854775808 ≤ op) (R : Int × Int) (hR : race fr op l fr 0 (decide (op ≤ fr + 1)) = R) :
    Calls Try.prog 23 #[.int .i64 fr, .int .i64 op, .slice A n c] w fun e w' => e = .returned (.tuple #[.int .i64 R.1, .int .i64 R.2]) ∧ w = w' := by
  obtain ⟨hlen, hsm, hat⟩ := hs
  have HL := Lib.hid hlen
  have HAT := Lib.hid hat
  have HR := Lib.hid hR
  clear hlen hat hR
  go_enter Try.func23, Try.ntmps23
  go_wp2_with fail
  go_loop [8, 9, 10, 11] (fun a b c i => ∃ (k : Nat) (tip at_ : Int) (kn : Bool), k ≤ n ∧ i = .int .i64 k ∧ a = .int .i64 tip ∧ b = .int .i64 at_ ∧ c = .bool kn ∧ At fr op l R k tip at_ kn) (fun _ _ _ i => n - (intOf i).toNat)
  case atStart => exact ⟨0, fr, 0, decide (op ≤ fr + 1), Nat.zero_le _, rfl, rfl, rfl, rfl, ⟨by omega, by simp [total], HR.out⟩⟩
  case round =>
    obtain ⟨k, tip, at_, kn, hk, rfl, rfl, rfl, rfl, hA⟩ := hrel
    by_cases hlt : k < n
    · obtain ⟨x, hx⟩ : ∃ x, l[k]? = some x := ⟨_, List.getElem?_eq_getElem (by rw [HL.out]; exact hlt)⟩
      obtain ⟨b, off, hA1, hbB, hst⟩ := HAT.out (by omega)
      have hsk := hst k x hx
      obtain ⟨A2, m2, c2, e1, hbo⟩ := hsk.keeps
      have e0 := hsk.take
      have e2 := hsk.awake
      clear hst
      subst hA1
      have hlo := hsk.lo
      have hhi := hsk.hi
      have htl := hA.lo
      have hth := hA.hi
      have htt := (keeps_tot hx).2
      have httq := (keeps_tot hx).1
      have hml := hbo.len
      have hth2 : tip ≤ 3097152 := by omega
      have hm2 : m2 ≤ 1000000 := by omega
      have HA := Lib.hid hA
      have HX := Lib.hid hx
      have HBO := Lib.hid hbo
      clear hA hx hbo hsk hth htt httq hml
      by_cases hneg : x.take < 0
      · have H0 := Lib.hid (at_bad HA.out HX.out (Or.inl hneg))
        generalize x.take = xt at *
        generalize x.awake = xa at *
        go_wp2_with fail
        all_goals (go_ret2; rw [H0.out]; exact ⟨rfl, rfl⟩)
      · by_cases hgt : tip - fr < x.take
        · have H0 := Lib.hid (at_bad HA.out HX.out (Or.inr hgt))
          generalize x.take = xt at *
          generalize x.awake = xa at *
          go_wp2_with fail
          all_goals (go_ret2; rw [H0.out]; exact ⟨rfl, rfl⟩)
        · obtain ⟨a1, ha1⟩ : ∃ a1 : Int, a1 = if tip - x.take < at_ then 0 else at_ := ⟨_, rfl⟩
          have HNX : Hid (∀ tip' at', blocks op kn x.keeps (tip - x.take) a1 = (tip', at') → tip' = tip - x.take + m2 → At fr op l R (k + 1) tip' at' (kn || (x.awake && decide (op ≤ tip' + 1)))) := by
            intro tip' at' h1 h2
            exact at_next HA.out HX.out (by omega) (by omega) (by rw [← ha1]; exact h1) (by rw [HBO.out.len]; exact h2)
          have htop : tip - x.take ≤ 3097152 := by omega
          have htlo : fr ≤ tip - x.take := by omega
          have hd1 : decide (x.take < 0) = false := decide_eq_false hneg
          have hd2 : decide (tip - fr < x.take) = false := decide_eq_false hgt
          by_cases hcut : tip - x.take < at_
          · rw [if_pos hcut] at ha1
            subst ha1
            generalize x.take = xt at *
            generalize x.awake = xa at *
            go_wp2_with fail
            go_loop [8, 9, 12] (fun a b i => ∃ (j : Nat) (tip2 at2 : Int), j ≤ m2 ∧ i = .int .i64 j ∧ a = .int .i64 tip2 ∧ b = .int .i64 at2 ∧ In op x.keeps (blocks op kn x.keeps (tip - xt) 0) (tip - xt) j tip2 at2 kn) (fun _ _ i => m2 - (intOf i).toNat)
            case atStart => exact ⟨0, tip - xt, _, Nat.zero_le _, rfl, rfl, rfl, ⟨by omega, rfl⟩⟩
            case round =>
              obtain ⟨j, tip2, at2, hj, rfl, rfl, rfl, hI⟩ := hrel
              have ht2 := hI.at'
              have ht3 : tip2 ≤ 5000000 := by omega
              have ht4 : fr ≤ tip2 := by omega
              clear ht2
              by_cases hlj : j < m2
              · obtain ⟨kp, hkp⟩ : ∃ kp, x.keeps[j]? = some kp := ⟨_, List.getElem?_eq_getElem (by rw [HBO.out.len]; exact hlj)⟩
                obtain ⟨kb, ko, hA2, hkB, hkc⟩ := HBO.out.at_ (by omega)
                subst hA2
                have q0 := hkc j kp hkp
                clear hkc
                have HS := Lib.hid (in_step hI hkp)
                clear hI hkp
                by_cases hcall : at2 = 0 ∧ kn = true ∧ kp = false ∧ op ≤ tip2 + 1
                · have HS2 : Hid (In op x.keeps (blocks op kn x.keeps (tip - xt) 0) (tip - xt) (j + 1) (tip2 + 1) (tip2 + 1) kn) := by
                    have := HS.out
                    rw [if_pos hcall] at this
                    exact this
                  clear HS
                  obtain ⟨h1, h2, h3, h4⟩ := hcall
                  subst h1; subst h2; subst h3
                  go_wp2_with fail
                  go_round
                  case rel => exact ⟨j + 1, _, _, by omega, by go_num, rfl, rfl, HS2.out⟩
                  case measure => simp [intOf]; omega
                · have HS2 : Hid (In op x.keeps (blocks op kn x.keeps (tip - xt) 0) (tip - xt) (j + 1) (tip2 + 1) at2 kn) := by
                    have := HS.out
                    rw [if_neg hcall] at this
                    exact this
                  clear HS
                  have hcs : at2 ≠ 0 ∨ (at2 = 0 ∧ kn = false) ∨ (at2 = 0 ∧ kn = true ∧ kp = true) ∨ (at2 = 0 ∧ kn = true ∧ kp = false ∧ tip2 + 1 < op) := by
                    cases kn <;> cases kp <;> simp_all <;> omega
                  clear hcall
                  rcases hcs with h1 | ⟨h1, h2⟩ | ⟨h1, h2, h3⟩ | ⟨h1, h2, h3, h4⟩
                  · have hb1 : (at2 == 0) = false := by simpa using h1
                    go_wp2_with fail
                    go_round
                    case rel => exact ⟨j + 1, _, _, by omega, by go_num, rfl, rfl, HS2.out⟩
                    case measure => simp [intOf]; omega
                  · subst h1; subst h2
                    go_wp2_with fail
                    go_round
                    case rel => exact ⟨j + 1, _, _, by omega, by go_num, rfl, rfl, HS2.out⟩
                    case measure => simp [intOf]; omega
                  · subst h1; subst h2; subst h3
                    go_wp2_with fail
                    go_round
                    case rel => exact ⟨j + 1, _, _, by omega, by go_num, rfl, rfl, HS2.out⟩
                    case measure => simp [intOf]; omega
                  · subst h1; subst h2; subst h3
                    go_wp2_with fail
                    go_round
                    case rel => exact ⟨j + 1, _, _, by omega, by go_num, rfl, rfl, HS2.out⟩
                    case measure => simp [intOf]; omega
              · have hjm : j = m2 := by omega
                subst hjm
                have hE : blocks op kn x.keeps (tip - xt) 0 = (tip2, at2) := by
                  have h1 := HBO.out.len
                  rw [← h1] at hI
                  exact in_end hI
                have HN := Lib.hid (HNX.out tip2 at2 hE hI.at')
                clear hI hE
                rcases kn with _ | _
                · rcases xa with _ | _
                  · go_wp2_with fail
                    go_round
                    case rel => exact ⟨k + 1, tip2, at2, _, by omega, by go_num, rfl, rfl, rfl, HN.out⟩
                    case measure => simp [intOf]; omega
                  · go_wp2_with fail
                    go_round
                    case rel => exact ⟨k + 1, tip2, at2, _, by omega, by go_num, rfl, rfl, by simp, HN.out⟩
                    case measure => simp [intOf]; omega
                · go_wp2_with fail
                  go_round
                  case rel => exact ⟨k + 1, tip2, at2, _, by omega, by go_num, rfl, rfl, by simp, HN.out⟩
                  case measure => simp [intOf]; omega
          · rw [if_neg hcut] at ha1
            subst ha1
            generalize x.take = xt at *
            generalize x.awake = xa at *
            go_wp2_with fail
            go_loop [8, 9, 12] (fun a b i => ∃ (j : Nat) (tip2 at2 : Int), j ≤ m2 ∧ i = .int .i64 j ∧ a = .int .i64 tip2 ∧ b = .int .i64 at2 ∧ In op x.keeps (blocks op kn x.keeps (tip - xt) a1) (tip - xt) j tip2 at2 kn) (fun _ _ i => m2 - (intOf i).toNat)
            case atStart => exact ⟨0, tip - xt, _, Nat.zero_le _, rfl, rfl, rfl, ⟨by omega, rfl⟩⟩
            case round =>
              obtain ⟨j, tip2, at2, hj, rfl, rfl, rfl, hI⟩ := hrel
              have ht2 := hI.at'
              have ht3 : tip2 ≤ 5000000 := by omega
              have ht4 : fr ≤ tip2 := by omega
              clear ht2
              by_cases hlj : j < m2
              · obtain ⟨kp, hkp⟩ : ∃ kp, x.keeps[j]? = some kp := ⟨_, List.getElem?_eq_getElem (by rw [HBO.out.len]; exact hlj)⟩
                obtain ⟨kb, ko, hA2, hkB, hkc⟩ := HBO.out.at_ (by omega)
                subst hA2
                have q0 := hkc j kp hkp
                clear hkc
                have HS := Lib.hid (in_step hI hkp)
                clear hI hkp
                by_cases hcall : at2 = 0 ∧ kn = true ∧ kp = false ∧ op ≤ tip2 + 1
                · have HS2 : Hid (In op x.keeps (blocks op kn x.keeps (tip - xt) a1) (tip - xt) (j + 1) (tip2 + 1) (tip2 + 1) kn) := by
                    have := HS.out
                    rw [if_pos hcall] at this
                    exact this
                  clear HS
                  obtain ⟨h1, h2, h3, h4⟩ := hcall
                  subst h1; subst h2; subst h3
                  go_wp2_with fail
                  go_round
                  case rel => exact ⟨j + 1, _, _, by omega, by go_num, rfl, rfl, HS2.out⟩
                  case measure => simp [intOf]; omega
                · have HS2 : Hid (In op x.keeps (blocks op kn x.keeps (tip - xt) a1) (tip - xt) (j + 1) (tip2 + 1) at2 kn) := by
                    have := HS.out
                    rw [if_neg hcall] at this
                    exact this
                  clear HS
                  have hcs : at2 ≠ 0 ∨ (at2 = 0 ∧ kn = false) ∨ (at2 = 0 ∧ kn = true ∧ kp = true) ∨ (at2 = 0 ∧ kn = true ∧ kp = false ∧ tip2 + 1 < op) := by
                    cases kn <;> cases kp <;> simp_all <;> omega
                  clear hcall
                  rcases hcs with h1 | ⟨h1, h2⟩ | ⟨h1, h2, h3⟩ | ⟨h1, h2, h3, h4⟩
                  · have hb1 : (at2 == 0) = false := by simpa using h1
                    go_wp2_with fail
                    go_round
                    case rel => exact ⟨j + 1, _, _, by omega, by go_num, rfl, rfl, HS2.out⟩
                    case measure => simp [intOf]; omega
                  · subst h1; subst h2
                    go_wp2_with fail
                    go_round
                    case rel => exact ⟨j + 1, _, _, by omega, by go_num, rfl, rfl, HS2.out⟩
                    case measure => simp [intOf]; omega
                  · subst h1; subst h2; subst h3
                    go_wp2_with fail
                    go_round
                    case rel => exact ⟨j + 1, _, _, by omega, by go_num, rfl, rfl, HS2.out⟩
                    case measure => simp [intOf]; omega
                  · subst h1; subst h2; subst h3
                    go_wp2_with fail
                    go_round
                    case rel => exact ⟨j + 1, _, _, by omega, by go_num, rfl, rfl, HS2.out⟩
                    case measure => simp [intOf]; omega
              · have hjm : j = m2 := by omega
                subst hjm
                have hE : blocks op kn x.keeps (tip - xt) a1 = (tip2, at2) := by
                  have h1 := HBO.out.len
                  rw [← h1] at hI
                  exact in_end hI
                have HN := Lib.hid (HNX.out tip2 at2 hE hI.at')
                clear hI hE
                rcases kn with _ | _
                · rcases xa with _ | _
                  · go_wp2_with fail
                    go_round
                    case rel => exact ⟨k + 1, tip2, at2, _, by omega, by go_num, rfl, rfl, rfl, HN.out⟩
                    case measure => simp [intOf]; omega
                  · go_wp2_with fail
                    go_round
                    case rel => exact ⟨k + 1, tip2, at2, _, by omega, by go_num, rfl, rfl, by simp, HN.out⟩
                    case measure => simp [intOf]; omega
                · go_wp2_with fail
                  go_round
                  case rel => exact ⟨k + 1, tip2, at2, _, by omega, by go_num, rfl, rfl, by simp, HN.out⟩
                  case measure => simp [intOf]; omega
    · have hkn : n = k := by omega
      subst hkn
      have HF : Hid ((tip, at_) = R) := by
        have := hA.eq
        rw [List.drop_of_length_le (by rw [HL.out]; exact Nat.le_refl _)] at this
        exact this
      clear hA
      go_wp2_with fail
      go_ret2
      exact ⟨ret_pair HF.out, rfl⟩

end Go.Proofs.Ytolapebihnipdaa
