/-
  The document's Parse.
-/
import Derived.Test.YtoblhbeeimboaaaDoorNcanon
namespace Go.Proofs.YtoblhbeeimboaaaDoor
open Go.RowKit Go.Shelf
set_option linter.unusedVariables false
set_option linter.unusedSimpArgs false

theorem nB_no {l : List UInt8} {low high : Int} (h : fineB (nD l) l = false ∨ nfit l = false) : nB l low high = false := by
  unfold nB
  rcases h with h | h
  · rw [h]; rfl
  · rw [h]; cases fineB (nD l) l <;> rfl
theorem nB_canon {l : List UInt8} {low high : Int} (h : (nD l).all digB = true) (hf : nfit l = true) : nB l low high = (Lib.itoa (nval l) == l && (decide (low ≤ nval l) && decide (nval l ≤ high))) := by
  unfold nB
  rw [hf]
  have : fineB (nD l) l = (Lib.itoa (nval l) == l) := by
    rw [Bool.eq_iff_iff, fine_canon h]
    simp
  rw [this]
  rfl
theorem nfit_big {l : List UInt8} (h : 9223372036854775808 < pval (nD l)) : nfit l = false := by
  unfold nfit nval
  cases nNeg l
  · simp; omega
  · simp; omega
theorem nfit_top {l : List UInt8} (h : pval (nD l) = 9223372036854775808) (hn : nNeg l = false) : nfit l = false := by
  unfold nfit nval
  rw [hn]
  simp
  omega
theorem nfit_ok {l : List UInt8} (h : pval (nD l) ≤ 9223372036854775808) (hn : nNeg l = true ∨ pval (nD l) ≠ 9223372036854775808) : nfit l = true := by
  unfold nfit nval
  rcases hb : nNeg l with _ | _
  · have := hn.resolve_left (by rw [hb]; decide)
    simp
    omega
  · simp
    omega
theorem all_take {l : List UInt8} (h : ∀ j (hj : j < l.length), digB l[j] = true) : l.all digB = true := by
  rw [List.all_eq_true]
  intro b hb
  obtain ⟨i, hi, rfl⟩ := List.getElem_of_mem hb
  exact h i hi

set_option maxRecDepth 100000 in
set_option maxHeartbeats 1000000 in
theorem rparse_neg (w : World) (D : List UInt8) (low high : Int) (hl : (45 :: D).length ≤ 200) (hD : nD (45 :: D) = D) (hN : nNeg (45 :: D) = true) :
    Calls Tryd.prog 17 #[.string ⟨(45 :: D).toArray⟩, .int .i64 low, .int .i64 high] w (RetB w (nB (45 :: D) low high) (nval (45 :: D))) := by
  obtain ⟨n, hn⟩ : ∃ n, D.length = n := ⟨_, rfl⟩
  have hn200 : n ≤ 200 := by rw [← hn]; simp at hl; omega
  have HX := Lib.hid (And.intro hD (And.intro hN hn))
  have he : (⟨(45 :: D).toArray⟩ : ByteArray).extract 1 (n + 1) = ⟨D.toArray⟩ := by
    apply ByteArray.ext
    simp [ByteArray.data_extract, ← hn]
  have e0 : ∀ h, (⟨(45 :: D).toArray⟩ : ByteArray)[0]'h = 45 := fun _ => rfl
  clear hD hN hl
  go_enter Tryd.func17, Tryd.ntmps17
  go_wp2_with fail
  go_loopw [10, 11] (fun nv iv wr => ∃ i P : Nat, i ≤ n ∧ nv = .int .i64 (-(P : Int)) ∧ iv = .int .i64 i ∧ Hid (P = pval (D.take i) ∧ P ≤ 9223372036854775808 ∧ ∀ j (hj : j < D.length), j < i → digB D[j] = true) ∧ wr = w) (fun _ iv _ => n - (intOf iv).toNat)
  case atStart => exact ⟨0, 0, Nat.zero_le _, rfl, rfl, Lib.hid ⟨rfl, by omega, fun j hj h => by omega⟩, rfl⟩
  case round =>
    obtain ⟨i, P, hin, rfl, rfl, hI, rfl⟩ := hrel
    by_cases hi : i < n
    · have hiD : i < D.length := by rw [HX.out.2.2]; exact hi
      obtain ⟨u, hu⟩ : ∃ u, (D[i]'hiD).toNat = u := ⟨_, rfl⟩
      have e1 : ∀ h, ((⟨D.toArray⟩ : ByteArray)[i]'h).toNat = u := fun _ => hu
      have hu256 : u < 256 := by rw [← hu]; exact UInt8.toNat_lt _
      rcases hdg : digB (D[i]'hiD) with _ | _
      · have HF : Hid (nB (45 :: D) low high = false) := Lib.hid (nB_no (Or.inl (by rw [HX.out.1]; exact fine_bad hiD hdg)))
        have h2 := digB_no hdg
        rw [hu] at h2
        have wc : IntKind.i64.wrap ((u : Int) - 48) = (u : Int) - 48 := IntWalk.i64_in _ (by omega)
        clear hdg hu
        rcases h2 with h2 | h2
        · have g1 : (u : Int) - 48 < 0 := by omega
          clear h2
          go_wp2_with fail
          go_ret2
          exact ⟨by rw [HF.out]; rfl, Below.refl _ _⟩
        · have g1 : ¬ (u : Int) - 48 < 0 := by omega
          have g2 : (9 : Int) < (u : Int) - 48 := by omega
          clear h2
          go_wp2_with fail
          go_ret2
          exact ⟨by rw [HF.out]; rfl, Below.refl _ _⟩
      · have h2 := digB_yes hdg
        rw [hu] at h2
        obtain ⟨c, hc⟩ : ∃ c, u - 48 = c := ⟨_, rfl⟩
        have hc9 : c ≤ 9 := by omega
        have wc : IntKind.i64.wrap ((u : Int) - 48) = (c : Int) := by rw [show (u : Int) - 48 = (c : Int) by omega]; exact IntWalk.i64_in _ (by omega)
        have g1 : ¬ (c : Int) < 0 := by omega
        have g2 : ¬ (9 : Int) < (c : Int) := by omega
        have hpt := pval_take hiD
        rw [hu, hc] at hpt
        obtain ⟨M, hM⟩ : ∃ M, 9223372036854775808 - c = M := ⟨_, rfl⟩
        obtain ⟨K, hK⟩ : ∃ K, M / 10 = K := ⟨_, rfl⟩
        have w2 : IntKind.i64.wrap (-9223372036854775808 + (c : Int)) = -(M : Int) := by rw [show -9223372036854775808 + (c : Int) = -(M : Int) by omega]; exact IntWalk.i64_in _ (by omega)
        have w3 : (-(M : Int)).tdiv 10 = -(K : Int) := by rw [Int.neg_tdiv, Int.tdiv_eq_ediv_of_nonneg (by omega)]; omega
        have w3' : IntKind.i64.wrap (-(K : Int)) = -(K : Int) := IntWalk.i64_in _ (by omega)
        by_cases hk : K < P
        · have gk : -(P : Int) < -(K : Int) := by omega
          have HF : Hid (nB (45 :: D) low high = false) := Lib.hid (nB_no (Or.inr (nfit_big (by
            rw [HX.out.1]
            have h3 := fold_take_le D (i + 1)
            rw [hpt, ← hI.out.1] at h3
            omega))))
          clear hK hM hk h2 hdg hu hc hpt
          go_wp2_with fail
          go_ret2
          exact ⟨by rw [HF.out]; rfl, Below.refl _ _⟩
        · have gk : ¬ -(P : Int) < -(K : Int) := by omega
          obtain ⟨T, hT⟩ : ∃ T, 10 * P = T := ⟨_, rfl⟩
          obtain ⟨P2, hP2⟩ : ∃ P2, T + c = P2 := ⟨_, rfl⟩
          have w4 : IntKind.i64.wrap (10 * -(P : Int)) = -(T : Int) := by rw [show 10 * -(P : Int) = -(T : Int) by omega]; exact IntWalk.i64_in _ (by omega)
          have w4' : IntKind.i64.wrap (-(10 * (P : Int))) = -(T : Int) := by rw [show -(10 * (P : Int)) = -(T : Int) by omega]; exact IntWalk.i64_in _ (by omega)
          have w5 : IntKind.i64.wrap (-(T : Int) - (c : Int)) = -(P2 : Int) := by rw [show -(T : Int) - (c : Int) = -(P2 : Int) by omega]; exact IntWalk.i64_in _ (by omega)
          have HA : Hid (P2 = pval (D.take (i + 1)) ∧ P2 ≤ 9223372036854775808 ∧ ∀ j (hj : j < D.length), j < i + 1 → digB D[j] = true) := Lib.hid ⟨by rw [hpt, ← hI.out.1]; omega, by omega, fun j hj h => by
            rcases Nat.lt_or_eq_of_le (Nat.le_of_lt_succ h) with h | h
            · exact hI.out.2.2 j hj h
            · subst h; exact hdg⟩
          clear hK hM hk h2 hdg hu hc hpt hT hP2 hI
          go_wp2_with fail
          go_roundw
          case rel => exact ⟨i + 1, P2, by omega, rfl, by simp, HA, by first | trivial | rfl⟩
          case measure => simp only [intOf]; omega
    · obtain rfl : i = n := by omega
      have hA : D.all digB = true := all_take (fun j hj => hI.out.2.2 j hj (by rw [← HX.out.2.2]; exact hj))
      have hPD : pval (nD (45 :: D)) = P := by rw [HX.out.1, hI.out.1, List.take_of_length_le (by rw [HX.out.2.2]; exact Nat.le_refl _)]
      have hP := hI.out.2.1
      have hval : nval (45 :: D) = -(P : Int) := by unfold nval; rw [HX.out.2.1, if_pos rfl, hPD]
      have hfit : nfit (45 :: D) = true := nfit_ok (by rw [hPD]; exact hP) (Or.inl HX.out.2.1)
      obtain ⟨v, hv⟩ : ∃ v, nval (45 :: D) = v := ⟨_, rfl⟩
      have hvr : -9223372036854775808 ≤ v ∧ v ≤ 9223372036854775807 := by
        rw [← hv]
        have := hfit
        unfold nfit at this
        simpa using this
      have HR := Lib.hid (hvr)
      have HO := Lib.hid (nB_canon (low := low) (high := high) (by rw [HX.out.1]; exact hA) hfit)
      rw [hv] at HO
      have HV := Lib.hid hv
      have hPv : -(P : Int) = v := hval.symm.trans hv
      rw [hPv]
      clear hPv
      clear hfit hvr hval hv hA hPD hP hI
      go_wp2_with fail
      refine (rtext_any _ v HR.out.1 HR.out.2).mono ?_
      rintro e w2 ⟨rfl, hb⟩
      have hb2 := Lib.hid hb
      clear hb
      by_cases hz : Lib.itoa v = (45 :: D)
      · by_cases h1 : v < low
        · have HF : Hid (nB (45 :: D) low high = false) := Lib.hid (by rw [HO.out, beq_iff_eq.2 hz, decide_eq_false (by omega : ¬ low ≤ v)]; rfl)
          clear HO
          go_wp2_with fail
          go_ret2
          exact ⟨by rw [HF.out]; rfl, hb2.out⟩
        · by_cases h2 : high < v
          · have HF : Hid (nB (45 :: D) low high = false) := Lib.hid (by rw [HO.out, beq_iff_eq.2 hz, decide_eq_false (by omega : ¬ v ≤ high)]; simp)
            clear HO
            go_wp2_with fail
            go_ret2
            exact ⟨by rw [HF.out]; rfl, hb2.out⟩
          · have HF : Hid (nB (45 :: D) low high = true) := Lib.hid (by rw [HO.out, beq_iff_eq.2 hz, decide_eq_true (by omega : low ≤ v), decide_eq_true (by omega : v ≤ high)]; rfl)
            clear HO
            go_wp2_with fail
            go_ret2
            exact ⟨by rw [HF.out, HV.out]; rfl, hb2.out⟩
      · have HF : Hid (nB (45 :: D) low high = false) := Lib.hid (by rw [HO.out, beq_eq_false_iff_ne.2 hz]; rfl)
        clear HO
        go_wp2_with fail
        go_ret2
        exact ⟨by rw [HF.out]; rfl, hb2.out⟩

set_option maxRecDepth 100000 in
set_option maxHeartbeats 1000000 in
theorem rparse_nil (w : World) (D : List UInt8) (h0 : D.length = 0) (low high : Int) (hl : D.length ≤ 200) (hD : nD D = D) (hN : nNeg D = false) :
    Calls Tryd.prog 17 #[.string ⟨D.toArray⟩, .int .i64 low, .int .i64 high] w (RetB w (nB D low high) (nval D)) := by
  obtain ⟨n, hn⟩ : ∃ n, D.length = n := ⟨_, rfl⟩
  have hn200 : n ≤ 200 := by rw [← hn]; exact hl
  have HX := Lib.hid (And.intro hD (And.intro hN hn))
  have gn : ¬ 0 < n := by omega
  clear hD hN hl h0
  go_enter Tryd.func17, Tryd.ntmps17
  go_wp2_with fail
  go_loopw [10, 11] (fun nv iv wr => ∃ i P : Nat, i ≤ n ∧ nv = .int .i64 (-(P : Int)) ∧ iv = .int .i64 i ∧ Hid (P = pval (D.take i) ∧ P ≤ 9223372036854775808 ∧ ∀ j (hj : j < D.length), j < i → digB D[j] = true) ∧ wr = w) (fun _ iv _ => n - (intOf iv).toNat)
  case atStart => exact ⟨0, 0, Nat.zero_le _, rfl, rfl, Lib.hid ⟨rfl, by omega, fun j hj h => by omega⟩, rfl⟩
  case round =>
    obtain ⟨i, P, hin, rfl, rfl, hI, rfl⟩ := hrel
    by_cases hi : i < n
    · have hiD : i < D.length := by rw [HX.out.2.2]; exact hi
      obtain ⟨u, hu⟩ : ∃ u, (D[i]'hiD).toNat = u := ⟨_, rfl⟩
      have e1 : ∀ h, ((⟨D.toArray⟩ : ByteArray)[i]'h).toNat = u := fun _ => hu
      have hu256 : u < 256 := by rw [← hu]; exact UInt8.toNat_lt _
      rcases hdg : digB (D[i]'hiD) with _ | _
      · have HF : Hid (nB D low high = false) := Lib.hid (nB_no (Or.inl (by rw [HX.out.1]; exact fine_bad hiD hdg)))
        have h2 := digB_no hdg
        rw [hu] at h2
        have wc : IntKind.i64.wrap ((u : Int) - 48) = (u : Int) - 48 := IntWalk.i64_in _ (by omega)
        clear hdg hu
        rcases h2 with h2 | h2
        · have g1 : (u : Int) - 48 < 0 := by omega
          clear h2
          go_wp2_with fail
          go_ret2
          exact ⟨by rw [HF.out]; rfl, Below.refl _ _⟩
        · have g1 : ¬ (u : Int) - 48 < 0 := by omega
          have g2 : (9 : Int) < (u : Int) - 48 := by omega
          clear h2
          go_wp2_with fail
          go_ret2
          exact ⟨by rw [HF.out]; rfl, Below.refl _ _⟩
      · have h2 := digB_yes hdg
        rw [hu] at h2
        obtain ⟨c, hc⟩ : ∃ c, u - 48 = c := ⟨_, rfl⟩
        have hc9 : c ≤ 9 := by omega
        have wc : IntKind.i64.wrap ((u : Int) - 48) = (c : Int) := by rw [show (u : Int) - 48 = (c : Int) by omega]; exact IntWalk.i64_in _ (by omega)
        have g1 : ¬ (c : Int) < 0 := by omega
        have g2 : ¬ (9 : Int) < (c : Int) := by omega
        have hpt := pval_take hiD
        rw [hu, hc] at hpt
        obtain ⟨M, hM⟩ : ∃ M, 9223372036854775808 - c = M := ⟨_, rfl⟩
        obtain ⟨K, hK⟩ : ∃ K, M / 10 = K := ⟨_, rfl⟩
        have w2 : IntKind.i64.wrap (-9223372036854775808 + (c : Int)) = -(M : Int) := by rw [show -9223372036854775808 + (c : Int) = -(M : Int) by omega]; exact IntWalk.i64_in _ (by omega)
        have w3 : (-(M : Int)).tdiv 10 = -(K : Int) := by rw [Int.neg_tdiv, Int.tdiv_eq_ediv_of_nonneg (by omega)]; omega
        have w3' : IntKind.i64.wrap (-(K : Int)) = -(K : Int) := IntWalk.i64_in _ (by omega)
        by_cases hk : K < P
        · have gk : -(P : Int) < -(K : Int) := by omega
          have HF : Hid (nB D low high = false) := Lib.hid (nB_no (Or.inr (nfit_big (by
            rw [HX.out.1]
            have h3 := fold_take_le D (i + 1)
            rw [hpt, ← hI.out.1] at h3
            omega))))
          clear hK hM hk h2 hdg hu hc hpt
          go_wp2_with fail
          go_ret2
          exact ⟨by rw [HF.out]; rfl, Below.refl _ _⟩
        · have gk : ¬ -(P : Int) < -(K : Int) := by omega
          obtain ⟨T, hT⟩ : ∃ T, 10 * P = T := ⟨_, rfl⟩
          obtain ⟨P2, hP2⟩ : ∃ P2, T + c = P2 := ⟨_, rfl⟩
          have w4 : IntKind.i64.wrap (10 * -(P : Int)) = -(T : Int) := by rw [show 10 * -(P : Int) = -(T : Int) by omega]; exact IntWalk.i64_in _ (by omega)
          have w4' : IntKind.i64.wrap (-(10 * (P : Int))) = -(T : Int) := by rw [show -(10 * (P : Int)) = -(T : Int) by omega]; exact IntWalk.i64_in _ (by omega)
          have w5 : IntKind.i64.wrap (-(T : Int) - (c : Int)) = -(P2 : Int) := by rw [show -(T : Int) - (c : Int) = -(P2 : Int) by omega]; exact IntWalk.i64_in _ (by omega)
          have HA : Hid (P2 = pval (D.take (i + 1)) ∧ P2 ≤ 9223372036854775808 ∧ ∀ j (hj : j < D.length), j < i + 1 → digB D[j] = true) := Lib.hid ⟨by rw [hpt, ← hI.out.1]; omega, by omega, fun j hj h => by
            rcases Nat.lt_or_eq_of_le (Nat.le_of_lt_succ h) with h | h
            · exact hI.out.2.2 j hj h
            · subst h; exact hdg⟩
          clear hK hM hk h2 hdg hu hc hpt hT hP2 hI
          go_wp2_with fail
          go_roundw
          case rel => exact ⟨i + 1, P2, by omega, rfl, by simp, HA, by first | trivial | rfl⟩
          case measure => simp only [intOf]; omega
    · obtain rfl : i = n := by omega
      have hA : D.all digB = true := all_take (fun j hj => hI.out.2.2 j hj (by rw [← HX.out.2.2]; exact hj))
      have hPD : pval (nD D) = P := by rw [HX.out.1, hI.out.1, List.take_of_length_le (by rw [HX.out.2.2]; exact Nat.le_refl _)]
      have hP := hI.out.2.1
      by_cases hp : P = 9223372036854775808
      · have HF : Hid (nB D low high = false) := Lib.hid (nB_no (Or.inr (nfit_top (hPD.trans hp) HX.out.2.1)))
        have ge : ((-(P : Int)) == -9223372036854775808) = true := by rw [hp]; rfl
        clear hA hPD hP hI hp
        go_wp2_with fail
        go_ret2
        exact ⟨by rw [HF.out]; rfl, Below.refl _ _⟩
      · have hval : nval D = (P : Int) := by unfold nval; rw [HX.out.2.1, if_neg (by decide), hPD]
        have hfit : nfit D = true := nfit_ok (by rw [hPD]; exact hP) (Or.inr (by rw [hPD]; exact hp))
        have ge : ((-(P : Int)) == -9223372036854775808) = false := by simp; omega
        have wp : IntKind.i64.wrap (P : Int) = (P : Int) := IntWalk.i64_in _ (by omega)
        obtain ⟨v, hv⟩ : ∃ v, nval D = v := ⟨_, rfl⟩
        have hvr : -9223372036854775808 ≤ v ∧ v ≤ 9223372036854775807 := by
          rw [← hv]
          have := hfit
          unfold nfit at this
          simpa using this
        have HR := Lib.hid (hvr)
        have HO := Lib.hid (nB_canon (low := low) (high := high) (by rw [HX.out.1]; exact hA) hfit)
        rw [hv] at HO
        have HV := Lib.hid hv
        have wp2 : IntKind.i64.wrap (P : Int) = v := wp.trans (hval.symm.trans hv)
        clear wp hp
        clear hfit hvr hval hv hA hPD hP hI
        go_wp2_with fail
        refine (rtext_any _ v HR.out.1 HR.out.2).mono ?_
        rintro e w2 ⟨rfl, hb⟩
        have hb2 := Lib.hid hb
        clear hb
        by_cases hz : Lib.itoa v = D
        · by_cases h1 : v < low
          · have HF : Hid (nB D low high = false) := Lib.hid (by rw [HO.out, beq_iff_eq.2 hz, decide_eq_false (by omega : ¬ low ≤ v)]; rfl)
            clear HO
            go_wp2_with fail
            go_ret2
            exact ⟨by rw [HF.out]; rfl, hb2.out⟩
          · by_cases h2 : high < v
            · have HF : Hid (nB D low high = false) := Lib.hid (by rw [HO.out, beq_iff_eq.2 hz, decide_eq_false (by omega : ¬ v ≤ high)]; simp)
              clear HO
              go_wp2_with fail
              go_ret2
              exact ⟨by rw [HF.out]; rfl, hb2.out⟩
            · have HF : Hid (nB D low high = true) := Lib.hid (by rw [HO.out, beq_iff_eq.2 hz, decide_eq_true (by omega : low ≤ v), decide_eq_true (by omega : v ≤ high)]; rfl)
              clear HO
              go_wp2_with fail
              go_ret2
              exact ⟨by rw [HF.out, HV.out]; rfl, hb2.out⟩
        · have HF : Hid (nB D low high = false) := Lib.hid (by rw [HO.out, beq_eq_false_iff_ne.2 hz]; rfl)
          clear HO
          go_wp2_with fail
          go_ret2
          exact ⟨by rw [HF.out]; rfl, hb2.out⟩

set_option maxRecDepth 100000 in
set_option maxHeartbeats 1000000 in
theorem rparse_cons (w : World) (D : List UInt8) (b : UInt8) (h0 : 0 < D.length) (e0 : ∀ h, (⟨D.toArray⟩ : ByteArray)[0]'h = b) (hb : b ≠ 45) (low high : Int) (hl : D.length ≤ 200) (hD : nD D = D) (hN : nNeg D = false) :
    Calls Tryd.prog 17 #[.string ⟨D.toArray⟩, .int .i64 low, .int .i64 high] w (RetB w (nB D low high) (nval D)) := by
  obtain ⟨n, hn⟩ : ∃ n, D.length = n := ⟨_, rfl⟩
  have hn200 : n ≤ 200 := by rw [← hn]; exact hl
  have HX := Lib.hid (And.intro hD (And.intro hN hn))
  have gn : 0 < n := by omega
  have gb : ((b.toNat : Int) == 45) = false := by
    have : b.toNat ≠ 45 := fun e => hb (UInt8.toNat_inj.1 e)
    simp
    omega
  clear hD hN hl h0
  go_enter Tryd.func17, Tryd.ntmps17
  go_wp2_with fail
  go_loopw [10, 11] (fun nv iv wr => ∃ i P : Nat, i ≤ n ∧ nv = .int .i64 (-(P : Int)) ∧ iv = .int .i64 i ∧ Hid (P = pval (D.take i) ∧ P ≤ 9223372036854775808 ∧ ∀ j (hj : j < D.length), j < i → digB D[j] = true) ∧ wr = w) (fun _ iv _ => n - (intOf iv).toNat)
  case atStart => exact ⟨0, 0, Nat.zero_le _, rfl, rfl, Lib.hid ⟨rfl, by omega, fun j hj h => by omega⟩, rfl⟩
  case round =>
    obtain ⟨i, P, hin, rfl, rfl, hI, rfl⟩ := hrel
    by_cases hi : i < n
    · have hiD : i < D.length := by rw [HX.out.2.2]; exact hi
      obtain ⟨u, hu⟩ : ∃ u, (D[i]'hiD).toNat = u := ⟨_, rfl⟩
      have e1 : ∀ h, ((⟨D.toArray⟩ : ByteArray)[i]'h).toNat = u := fun _ => hu
      have hu256 : u < 256 := by rw [← hu]; exact UInt8.toNat_lt _
      rcases hdg : digB (D[i]'hiD) with _ | _
      · have HF : Hid (nB D low high = false) := Lib.hid (nB_no (Or.inl (by rw [HX.out.1]; exact fine_bad hiD hdg)))
        have h2 := digB_no hdg
        rw [hu] at h2
        have wc : IntKind.i64.wrap ((u : Int) - 48) = (u : Int) - 48 := IntWalk.i64_in _ (by omega)
        clear hdg hu
        rcases h2 with h2 | h2
        · have g1 : (u : Int) - 48 < 0 := by omega
          clear h2
          go_wp2_with fail
          go_ret2
          exact ⟨by rw [HF.out]; rfl, Below.refl _ _⟩
        · have g1 : ¬ (u : Int) - 48 < 0 := by omega
          have g2 : (9 : Int) < (u : Int) - 48 := by omega
          clear h2
          go_wp2_with fail
          go_ret2
          exact ⟨by rw [HF.out]; rfl, Below.refl _ _⟩
      · have h2 := digB_yes hdg
        rw [hu] at h2
        obtain ⟨c, hc⟩ : ∃ c, u - 48 = c := ⟨_, rfl⟩
        have hc9 : c ≤ 9 := by omega
        have wc : IntKind.i64.wrap ((u : Int) - 48) = (c : Int) := by rw [show (u : Int) - 48 = (c : Int) by omega]; exact IntWalk.i64_in _ (by omega)
        have g1 : ¬ (c : Int) < 0 := by omega
        have g2 : ¬ (9 : Int) < (c : Int) := by omega
        have hpt := pval_take hiD
        rw [hu, hc] at hpt
        obtain ⟨M, hM⟩ : ∃ M, 9223372036854775808 - c = M := ⟨_, rfl⟩
        obtain ⟨K, hK⟩ : ∃ K, M / 10 = K := ⟨_, rfl⟩
        have w2 : IntKind.i64.wrap (-9223372036854775808 + (c : Int)) = -(M : Int) := by rw [show -9223372036854775808 + (c : Int) = -(M : Int) by omega]; exact IntWalk.i64_in _ (by omega)
        have w3 : (-(M : Int)).tdiv 10 = -(K : Int) := by rw [Int.neg_tdiv, Int.tdiv_eq_ediv_of_nonneg (by omega)]; omega
        have w3' : IntKind.i64.wrap (-(K : Int)) = -(K : Int) := IntWalk.i64_in _ (by omega)
        by_cases hk : K < P
        · have gk : -(P : Int) < -(K : Int) := by omega
          have HF : Hid (nB D low high = false) := Lib.hid (nB_no (Or.inr (nfit_big (by
            rw [HX.out.1]
            have h3 := fold_take_le D (i + 1)
            rw [hpt, ← hI.out.1] at h3
            omega))))
          clear hK hM hk h2 hdg hu hc hpt
          go_wp2_with fail
          go_ret2
          exact ⟨by rw [HF.out]; rfl, Below.refl _ _⟩
        · have gk : ¬ -(P : Int) < -(K : Int) := by omega
          obtain ⟨T, hT⟩ : ∃ T, 10 * P = T := ⟨_, rfl⟩
          obtain ⟨P2, hP2⟩ : ∃ P2, T + c = P2 := ⟨_, rfl⟩
          have w4 : IntKind.i64.wrap (10 * -(P : Int)) = -(T : Int) := by rw [show 10 * -(P : Int) = -(T : Int) by omega]; exact IntWalk.i64_in _ (by omega)
          have w4' : IntKind.i64.wrap (-(10 * (P : Int))) = -(T : Int) := by rw [show -(10 * (P : Int)) = -(T : Int) by omega]; exact IntWalk.i64_in _ (by omega)
          have w5 : IntKind.i64.wrap (-(T : Int) - (c : Int)) = -(P2 : Int) := by rw [show -(T : Int) - (c : Int) = -(P2 : Int) by omega]; exact IntWalk.i64_in _ (by omega)
          have HA : Hid (P2 = pval (D.take (i + 1)) ∧ P2 ≤ 9223372036854775808 ∧ ∀ j (hj : j < D.length), j < i + 1 → digB D[j] = true) := Lib.hid ⟨by rw [hpt, ← hI.out.1]; omega, by omega, fun j hj h => by
            rcases Nat.lt_or_eq_of_le (Nat.le_of_lt_succ h) with h | h
            · exact hI.out.2.2 j hj h
            · subst h; exact hdg⟩
          clear hK hM hk h2 hdg hu hc hpt hT hP2 hI
          go_wp2_with fail
          go_roundw
          case rel => exact ⟨i + 1, P2, by omega, rfl, by simp, HA, by first | trivial | rfl⟩
          case measure => simp only [intOf]; omega
    · obtain rfl : i = n := by omega
      have hA : D.all digB = true := all_take (fun j hj => hI.out.2.2 j hj (by rw [← HX.out.2.2]; exact hj))
      have hPD : pval (nD D) = P := by rw [HX.out.1, hI.out.1, List.take_of_length_le (by rw [HX.out.2.2]; exact Nat.le_refl _)]
      have hP := hI.out.2.1
      by_cases hp : P = 9223372036854775808
      · have HF : Hid (nB D low high = false) := Lib.hid (nB_no (Or.inr (nfit_top (hPD.trans hp) HX.out.2.1)))
        have ge : ((-(P : Int)) == -9223372036854775808) = true := by rw [hp]; rfl
        clear hA hPD hP hI hp
        go_wp2_with fail
        go_ret2
        exact ⟨by rw [HF.out]; rfl, Below.refl _ _⟩
      · have hval : nval D = (P : Int) := by unfold nval; rw [HX.out.2.1, if_neg (by decide), hPD]
        have hfit : nfit D = true := nfit_ok (by rw [hPD]; exact hP) (Or.inr (by rw [hPD]; exact hp))
        have ge : ((-(P : Int)) == -9223372036854775808) = false := by simp; omega
        have wp : IntKind.i64.wrap (P : Int) = (P : Int) := IntWalk.i64_in _ (by omega)
        obtain ⟨v, hv⟩ : ∃ v, nval D = v := ⟨_, rfl⟩
        have hvr : -9223372036854775808 ≤ v ∧ v ≤ 9223372036854775807 := by
          rw [← hv]
          have := hfit
          unfold nfit at this
          simpa using this
        have HR := Lib.hid (hvr)
        have HO := Lib.hid (nB_canon (low := low) (high := high) (by rw [HX.out.1]; exact hA) hfit)
        rw [hv] at HO
        have HV := Lib.hid hv
        have wp2 : IntKind.i64.wrap (P : Int) = v := wp.trans (hval.symm.trans hv)
        clear wp hp
        clear hfit hvr hval hv hA hPD hP hI
        go_wp2_with fail
        refine (rtext_any _ v HR.out.1 HR.out.2).mono ?_
        rintro e w2 ⟨rfl, hb⟩
        have hb2 := Lib.hid hb
        clear hb
        by_cases hz : Lib.itoa v = D
        · by_cases h1 : v < low
          · have HF : Hid (nB D low high = false) := Lib.hid (by rw [HO.out, beq_iff_eq.2 hz, decide_eq_false (by omega : ¬ low ≤ v)]; rfl)
            clear HO
            go_wp2_with fail
            go_ret2
            exact ⟨by rw [HF.out]; rfl, hb2.out⟩
          · by_cases h2 : high < v
            · have HF : Hid (nB D low high = false) := Lib.hid (by rw [HO.out, beq_iff_eq.2 hz, decide_eq_false (by omega : ¬ v ≤ high)]; simp)
              clear HO
              go_wp2_with fail
              go_ret2
              exact ⟨by rw [HF.out]; rfl, hb2.out⟩
            · have HF : Hid (nB D low high = true) := Lib.hid (by rw [HO.out, beq_iff_eq.2 hz, decide_eq_true (by omega : low ≤ v), decide_eq_true (by omega : v ≤ high)]; rfl)
              clear HO
              go_wp2_with fail
              go_ret2
              exact ⟨by rw [HF.out, HV.out]; rfl, hb2.out⟩
        · have HF : Hid (nB D low high = false) := Lib.hid (by rw [HO.out, beq_eq_false_iff_ne.2 hz]; rfl)
          clear HO
          go_wp2_with fail
          go_ret2
          exact ⟨by rw [HF.out]; rfl, hb2.out⟩

theorem rparse_any (w : World) (l : List UInt8) (low high : Int) (hl : l.length ≤ 200) :
    Calls Tryd.prog 17 #[.string ⟨l.toArray⟩, .int .i64 low, .int .i64 high] w (RetB w (nB l low high) (nval l)) := by
  cases l with
  | nil => exact rparse_nil w [] rfl low high hl rfl rfl
  | cons b t =>
    obtain ⟨h1, h2⟩ := nD_cons b t
    by_cases hb : b = 45
    · subst hb
      exact rparse_neg w t low high hl h2 h1
    · have e : (b == 45) = false := beq_eq_false_iff_ne.2 hb
      rw [e] at h1 h2
      exact rparse_cons w (b :: t) b (by simp) (fun _ => rfl) hb low high hl h2 h1

end Go.Proofs.YtoblhbeeimboaaaDoor
