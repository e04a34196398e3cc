/-
  What 'Within' tells, by the program's text and by the document's.
-/
import Derived.Test.YtolapebihnipdaaRef
namespace Go.Proofs.Ytolapebihnipdaa
open Go.RowKit
set_option linter.unusedVariables false

structure WAt (nap kb fr : Int) (l : List St) (R : Bool) (k : Nat) (tip woke kp : Int) : Prop where
  lo : fr ≤ tip
  hi : tip ≤ fr + 100 * k
  wlo : fr ≤ woke
  whi : woke ≤ fr + 100 * k
  klo : 0 ≤ kp
  khi : kp ≤ 100 * k
  eq : within nap kb fr (l.drop k) tip woke kp = R

theorem wat_bad {nap kb fr : Int} {l : List St} {R : Bool} {k : Nat} {tip woke kp : Int} {x : St} (h : WAt nap kb fr l R k tip woke kp) (hx : l[k]? = some x)
    (hb : x.take < 0 ∨ 6 < x.take ∨ tip - x.take < fr ∨ (x.keeps.length : Int) ≤ x.take ∨ 100 < (x.keeps.length : Int)) : R = false := by
  rw [← h.eq, drop_cons hx]
  simp only [within]
  rw [if_pos hb]

theorem wat_out {nap kb fr : Int} {l : List St} {R : Bool} {k : Nat} {tip woke kp : Int} {x : St} (h : WAt nap kb fr l R k tip woke kp) (hx : l[k]? = some x)
    (hb : ¬ (x.take < 0 ∨ 6 < x.take ∨ tip - x.take < fr ∨ (x.keeps.length : Int) ≤ x.take ∨ 100 < (x.keeps.length : Int)))
    (ho : nap < tip - x.take + x.keeps.length - woke ∨ kb < kp + kept x.keeps) : R = false := by
  rw [← h.eq, drop_cons hx]
  simp only [within]
  rw [if_neg hb, if_pos ho]

theorem kept_le (l : List Bool) : 0 ≤ kept l ∧ kept l ≤ l.length := by
  unfold kept
  have := List.length_filter_le id l
  omega

theorem wat_next {nap kb fr : Int} {l : List St} {R : Bool} {k : Nat} {tip woke kp : Int} {x : St} (h : WAt nap kb fr l R k tip woke kp) (hx : l[k]? = some x)
    (hb : ¬ (x.take < 0 ∨ 6 < x.take ∨ tip - x.take < fr ∨ (x.keeps.length : Int) ≤ x.take ∨ 100 < (x.keeps.length : Int)))
    (ho : ¬ (nap < tip - x.take + x.keeps.length - woke ∨ kb < kp + kept x.keeps)) :
    WAt nap kb fr l R (k + 1) (tip - x.take + x.keeps.length) (if x.awake then tip - x.take + x.keeps.length else woke) (kp + kept x.keeps) := by
  have h1 := kept_le x.keeps
  have h2 := h.lo
  have h3 := h.hi
  have h4 := h.wlo
  have h5 := h.whi
  have h6 := h.klo
  have h7 := h.khi
  refine ⟨by omega, by omega, by split <;> omega, by split <;> omega, by omega, by omega, ?_⟩
  have h8 := h.eq
  rw [drop_cons hx] at h8
  simp only [within] at h8
  rw [if_neg hb, if_neg ho] at h8
  exact h8

/-- Blocks that are counted. -/
structure Cnt (l : List Bool) (K : Int) (j : Nat) (q : Int) : Prop where
  eq : q + kept (l.drop j) = K

theorem cnt_step {l : List Bool} {K : Int} {j : Nat} {q : Int} {b : Bool} (h : Cnt l K j q) (hb : l[j]? = some b) : Cnt l K (j + 1) (if b = true then q + 1 else q) := by
  refine ⟨?_⟩
  have h1 := h.eq
  rw [drop_cons hb, kept_cons] at h1
  cases b <;> simp at h1 ⊢ <;> omega

theorem cnt_end {l : List Bool} {K : Int} {q : Int} (h : Cnt l K l.length q) : q = K := by
  have h1 := h.eq
  rw [List.drop_length] at h1
  simpa [kept] using h1

theorem within_no {j b n fr : Int} {l : List St} (h : rightB j b n = false ∨ heightB fr = false ∨ 1000 < l.length) : withinAll j b n fr l = false := by
  unfold withinAll
  rcases h with h | h | h
  · simp [h]
  · simp [h]
  · have : decide (l.length ≤ 1000) = false := by simpa using h
    simp [this]

theorem withinAll_yes {j b n fr : Int} {l : List St} (h1 : rightB j b n = true) (h2 : heightB fr = true) (h3 : l.length ≤ 1000) : within n (j + b) fr l fr fr 0 = withinAll j b n fr l := by
  unfold withinAll
  simp [h1, h2, h3]

set_option maxRecDepth 100000 in
set_option maxHeartbeats 4000000 in
theorem within_any_no (w : World) (j b n fr : Int) (A : Option Addr) (m c : Nat) (l : List St) (hl : l.length = m) (hm : m ≤ 140737488355328) (h : rightB j b n = false ∨ heightB fr = false ∨ 1000 < l.length) :
    Calls Try.prog 25 #[.agg #[.int .i64 j, .int .i64 b, .int .i64 n], .int .i64 fr, .slice A m c] w fun e w' => e = .returned (.bool (withinAll j b n fr l)) ∧ Below w.heap.size w w' := by
  have HW := Lib.hid (within_no h)
  rcases Bool.eq_false_or_eq_true (rightB j b n) with h1 | h1
  · rcases Bool.eq_false_or_eq_true (heightB fr) with h2 | h2
    · have h3 : 1000 < m := by simp [h1, h2] at h; omega
      clear h hl
      go_enter Try.func25, Try.ntmps25
      go_wp2_with (first | (go_at_call 9; refine (right_any _ _ _ _).mono ?_; rintro e w1 ⟨rfl, hb⟩; obtain ⟨hc, hf⟩ := bcell hb) | (go_at_call 27; refine (height_any _ _).mono ?_; rintro e w' ⟨rfl, rfl⟩))
      go_ret
      exact ⟨ret_bool HW.out.symm, blt (bla (Below.refl _ _) _) (by assumption)⟩
    · clear h hl
      go_enter Try.func25, Try.ntmps25
      go_wp2_with (first | (go_at_call 9; refine (right_any _ _ _ _).mono ?_; rintro e w1 ⟨rfl, hb⟩; obtain ⟨hc, hf⟩ := bcell hb) | (go_at_call 27; refine (height_any _ _).mono ?_; rintro e w' ⟨rfl, rfl⟩))
      go_ret
      exact ⟨ret_bool HW.out.symm, blt (bla (Below.refl _ _) _) (by assumption)⟩
  · clear h hl
    go_enter Try.func25, Try.ntmps25
    go_wp2_with (first | (go_at_call 9; refine (right_any _ _ _ _).mono ?_; rintro e w1 ⟨rfl, hb⟩; obtain ⟨hc, hf⟩ := bcell hb) | (go_at_call 27; refine (height_any _ _).mono ?_; rintro e w' ⟨rfl, rfl⟩))
    go_ret
    exact ⟨ret_bool HW.out.symm, blt (bla (Below.refl _ _) _) (by assumption)⟩

set_option maxRecDepth 100000 in
set_option maxHeartbeats 4000000 in
theorem within_any_yes (w : World) (j b n fr : Int) (A : Option Addr) (m c : Nat) (l : List St) (hs : Steps w w.heap.size A m l) (h1 : rightB j b n = true) (h2 : heightB fr = true) (h3 : m ≤ 1000) :
    Calls Try.prog 25 #[.agg #[.int .i64 j, .int .i64 b, .int .i64 n], .int .i64 fr, .slice A m c] w fun e w' => e = .returned (.bool (withinAll j b n fr l)) ∧ Below w.heap.size w w' := by
  obtain ⟨hlen, hsm, hat⟩ := hs
  obtain ⟨R, hR⟩ : ∃ R, R = withinAll j b n fr l := ⟨_, rfl⟩
  rw [← hR]
  have HE : Hid (within n (j + b) fr l fr fr 0 = R) := by rw [hR]; exact withinAll_yes h1 h2 (by omega)
  have HL := Lib.hid hlen
  have HAT := Lib.hid hat
  obtain ⟨a1, a2, a3, a4, a5, a6⟩ := right_bds h1
  obtain ⟨b1, b2⟩ := height_bds h2
  clear hlen hat hR
  go_enter Try.func25, Try.ntmps25
  go_wp2_with (first | (go_at_call 9; refine (right_any _ _ _ _).mono ?_; rintro e w1 ⟨rfl, hb⟩; obtain ⟨hc, hf⟩ := bcell hb) | (go_at_call 27; refine (height_any _ _).mono ?_; rintro e w' ⟨rfl, rfl⟩))
  have hb0 : Below w.heap.size w w1 := blt (bla (Below.refl _ _) _) hb
  have g0 : w1.cell? ⟨w.heap.size, 0, none⟩ = some (.int .i64 j) := by rw [hc _ _ (by simp)]; simp
  have g1 : w1.cell? ⟨w.heap.size, 1, none⟩ = some (.int .i64 b) := by rw [hc _ _ (by simp)]; simp
  have g2 : w1.cell? ⟨w.heap.size, 2, none⟩ = some (.int .i64 n) := by rw [hc _ _ (by simp)]; simp
  have hbs : w.heap.size < w1.heap.size := by have := hb.size; simp at this; omega
  clear hc hf hb h1 h2

  go_loopw [7, 8, 9, 31] (fun t a q i wr => ∃ (k : Nat) (tip woke kp : Int), k ≤ m ∧ i = .int .i64 k ∧ t = .int .i64 tip ∧ a = .int .i64 woke ∧ q = .int .i64 kp ∧ WAt n (j + b) fr l R k tip woke kp ∧ Below w1.heap.size w1 wr) (fun _ _ _ i _ => m - (intOf i).toNat)
  case atStart => exact ⟨0, fr, fr, 0, Nat.zero_le _, rfl, rfl, rfl, rfl, ⟨by omega, by omega, by omega, by omega, by omega, by omega, HE.out⟩, Below.refl _ _⟩
  case round =>
    obtain ⟨k, tip, woke, kp, hk, rfl, rfl, rfl, rfl, hA, hbel⟩ := hrel
    have i0 : wr.cell? ⟨w.heap.size, 0, none⟩ = some (.int .i64 j) := (hbel.cell (p := ⟨w.heap.size, 0, none⟩) hbs).trans g0
    have i1 : wr.cell? ⟨w.heap.size, 1, none⟩ = some (.int .i64 b) := (hbel.cell (p := ⟨w.heap.size, 1, none⟩) hbs).trans g1
    have i2 : wr.cell? ⟨w.heap.size, 2, none⟩ = some (.int .i64 n) := (hbel.cell (p := ⟨w.heap.size, 2, none⟩) hbs).trans g2
    have hsz := hbel.size
    have hbw : Below w.heap.size w wr := hb0.trans (hbel.mono (by omega))
    by_cases hlt : k < m
    · obtain ⟨x, hx⟩ : ∃ x, l[k]? = some x := ⟨_, List.getElem?_eq_getElem (by rw [HL.out]; exact hlt)⟩
      obtain ⟨ab, off, hA1, hbB, hst⟩ := HAT.out (by omega)
      have hsk := hst k x hx
      obtain ⟨A2, m2, c2, e1', hbo⟩ := hsk.keeps
      have e0 : wr.cell? ⟨ab, off + k * 3, none⟩ = some (.int .i64 x.take) := (hbw.cell (p := ⟨ab, off + k * 3, none⟩) hbB).trans hsk.take
      have e1 : wr.cell? ⟨ab, off + k * 3 + 1, none⟩ = some (.slice A2 m2 c2) := (hbw.cell (p := ⟨ab, off + k * 3 + 1, none⟩) hbB).trans e1'
      have e2 : wr.cell? ⟨ab, off + k * 3 + 2, none⟩ = some (.bool x.awake) := (hbw.cell (p := ⟨ab, off + k * 3 + 2, none⟩) hbB).trans hsk.awake
      clear hst e1'
      subst hA1
      have t1 := hA.lo
      have t2 := hA.hi
      have t3 := hA.wlo
      have t4 := hA.whi
      have t5 := hA.klo
      have t6 := hA.khi
      have u1 : tip ≤ 2000000 := by omega
      have u2' : woke ≤ 2000000 := by omega
      have u3' : kp ≤ 2000000 := by omega
      have v1 := hsk.lo
      have v2 := hsk.hi
      have HML := Lib.hid hbo.len
      have HA := Lib.hid hA
      have HX := Lib.hid hx
      have HBO := Lib.hid hbo
      have HBW := Lib.hid hbw
      have HBEL := Lib.hid hbel
      have hm2s := hbo.small
      clear hA hx hbo hsk hbw hbel t2 t4 t6
      by_cases c1 : x.take < 0
      · have H0 := Lib.hid (wat_bad HA.out HX.out (Or.inl c1))
        generalize x.take = xt at *
        generalize x.awake = xa at *
        go_wp2_with fail
        all_goals (go_ret; exact ⟨ret_bool H0.out.symm, (HBW.out.alloc (by have := HBW.out.size; omega) _)⟩)
      · by_cases c2' : 6 < x.take
        · have H0 := Lib.hid (wat_bad HA.out HX.out (Or.inr (Or.inl c2')))
          generalize x.take = xt at *
          generalize x.awake = xa at *
          go_wp2_with fail
          all_goals (go_ret; exact ⟨ret_bool H0.out.symm, (HBW.out.alloc (by have := HBW.out.size; omega) _)⟩)
        · by_cases c3 : tip - x.take < fr
          · have H0 := Lib.hid (wat_bad HA.out HX.out (Or.inr (Or.inr (Or.inl c3))))
            generalize x.take = xt at *
            generalize x.awake = xa at *
            go_wp2_with fail
            all_goals (go_ret; exact ⟨ret_bool H0.out.symm, (HBW.out.alloc (by have := HBW.out.size; omega) _)⟩)
          · by_cases c4 : (m2 : Int) ≤ x.take
            · have H0 := Lib.hid (wat_bad HA.out HX.out (Or.inr (Or.inr (Or.inr (Or.inl (by rw [HML.out]; exact c4))))))
              generalize x.take = xt at *
              generalize x.awake = xa at *
              go_wp2_with fail
              all_goals (go_ret; exact ⟨ret_bool H0.out.symm, (HBW.out.alloc (by have := HBW.out.size; omega) _)⟩)
            · by_cases c5 : 100 < (m2 : Int)
              · have H0 := Lib.hid (wat_bad HA.out HX.out (Or.inr (Or.inr (Or.inr (Or.inr (by rw [HML.out]; exact c5))))))
                generalize x.take = xt at *
                generalize x.awake = xa at *
                go_wp2_with fail
                all_goals (go_ret; exact ⟨ret_bool H0.out.symm, (HBW.out.alloc (by have := HBW.out.size; omega) _)⟩)
              · have HNB : Hid (¬ (x.take < 0 ∨ 6 < x.take ∨ tip - x.take < fr ∨ (x.keeps.length : Int) ≤ x.take ∨ 100 < (x.keeps.length : Int))) := by
                  have := HML.out
                  show ¬ _
                  omega
                have HOUT : Hid (n < tip - x.take + m2 - woke ∨ j + b < kp + kept x.keeps → R = false) := fun h => wat_out HA.out HX.out HNB.out (by rw [HML.out]; exact h)
                have HNX : Hid (¬ (n < tip - x.take + m2 - woke ∨ j + b < kp + kept x.keeps) → WAt n (j + b) fr l R (k + 1) (tip - x.take + m2) (if x.awake then tip - x.take + m2 else woke) (kp + kept x.keeps)) := fun h => by
                  have h5 := wat_next HA.out HX.out HNB.out (by rw [HML.out]; exact h)
                  rw [HML.out] at h5
                  exact h5
                have hkle := kept_le x.keeps
                rw [HML.out] at hkle
                have hkl := hkle.1
                have hkh := hkle.2
                clear hkle
                obtain ⟨KK, hKK⟩ : ∃ KK, KK = kept x.keeps := ⟨_, rfl⟩
                rw [← hKK] at hkl hkh
                have HKK := Lib.hid hKK
                clear hKK
                generalize x.take = xt at *
                generalize x.awake = xa at *

                go_wp2_with fail

                obtain ⟨wo, rfl⟩ : ∃ wo : World, wo = wr := ⟨_, rfl⟩
                have HBWv := Lib.hid (HBW.out.alloc (by have := HBW.out.size; omega) (.cells #[.int .i64 xt, .slice A2 m2 c2, .bool xa] 43))
                have HBELv := Lib.hid (HBEL.out.alloc hsz (.cells #[.int .i64 xt, .slice A2 m2 c2, .bool xa] 43))
                have hbo1 : w.heap.size < wo.heap.size := by omega
                have z0 : (wo.alloc (.cells #[.int .i64 xt, .slice A2 m2 c2, .bool xa] 43)).cell? ⟨w.heap.size, 0, none⟩ = some (.int .i64 j) := (World.cell?_alloc_lt wo _ _ hbo1).trans i0
                have z1 : (wo.alloc (.cells #[.int .i64 xt, .slice A2 m2 c2, .bool xa] 43)).cell? ⟨w.heap.size, 1, none⟩ = some (.int .i64 b) := (World.cell?_alloc_lt wo _ _ hbo1).trans i1
                have z2 : (wo.alloc (.cells #[.int .i64 xt, .slice A2 m2 c2, .bool xa] 43)).cell? ⟨w.heap.size, 2, none⟩ = some (.int .i64 n) := (World.cell?_alloc_lt wo _ _ hbo1).trans i2
                have y2 : (wo.alloc (.cells #[.int .i64 xt, .slice A2 m2 c2, .bool xa] 43)).cell? ⟨wo.heap.size, 2, none⟩ = some (.bool xa) := World.cell?_alloc_new wo _ _ 2
                clear i0 i1 i2 e0 e1 e2 g0 g1 g2
                generalize wo.alloc (.cells #[.int .i64 xt, .slice A2 m2 c2, .bool xa] 43) = wv at *
                go_loopw [9, 76] (fun q i wi => ∃ (jj : Nat) (qq : Int), jj ≤ m2 ∧ i = .int .i64 jj ∧ q = .int .i64 qq ∧ Cnt x.keeps (kp + KK) jj qq ∧ kp ≤ qq ∧ qq ≤ kp + jj ∧ wv = wi) (fun _ i _ => m2 - (intOf i).toNat)
                case atStart => exact ⟨0, kp, Nat.zero_le _, rfl, rfl, ⟨by rw [HKK.out]; rfl⟩, by omega, by omega, rfl⟩
                case round =>
                  obtain ⟨jj, qq, hjj, rfl, rfl, hC, hq1, hq2, rfl⟩ := hrel
                  by_cases hlj : jj < m2
                  · obtain ⟨kb, hkb⟩ : ∃ kb, x.keeps[jj]? = some kb := ⟨_, List.getElem?_eq_getElem (by rw [HML.out]; exact hlj)⟩
                    obtain ⟨kbk, ko, hA2, hkB, hkc⟩ := HBO.out.at_ (by omega)
                    subst hA2
                    have q0 : wv.cell? ⟨kbk, ko + jj, none⟩ = some (.bool kb) := (HBWv.out.cell (p := ⟨kbk, ko + jj, none⟩) hkB).trans (hkc jj kb hkb)
                    clear hkc
                    have HS := Lib.hid (cnt_step hC hkb)
                    clear hC hkb
                    cases kb with
                    | true =>
                      go_wp2_with fail
                      go_roundw
                      case rel => exact ⟨jj + 1, qq + 1, by omega, by go_num, rfl, HS.out, by omega, by omega, by trivial⟩
                      case measure => simp [intOf]; omega
                    | false =>
                      go_wp2_with fail
                      go_roundw
                      case rel => exact ⟨jj + 1, qq, by omega, by go_num, rfl, HS.out, by omega, by omega, by trivial⟩
                      case measure => simp [intOf]; omega
                  · have hje : jj = m2 := by omega
                    subst hje
                    have hqe : qq = kp + KK := by
                      have h1 := HML.out
                      rw [← h1] at hC
                      exact cnt_end hC
                    subst hqe
                    clear hC
                    by_cases d1 : n < tip - xt + jj - woke
                    · have H0 : Hid (R = false) := HOUT.out (Or.inl d1)
                      go_wp2_with fail
                      all_goals (go_ret; exact ⟨ret_bool H0.out.symm, HBWv.out⟩)
                    · by_cases d2 : j + b < kp + KK
                      · have H0 : Hid (R = false) := HOUT.out (Or.inr (by rw [← HKK.out]; exact d2))
                        go_wp2_with fail
                        all_goals (go_ret; exact ⟨ret_bool H0.out.symm, HBWv.out⟩)
                      · have HN : Hid (WAt n (j + b) fr l R (k + 1) (tip - xt + jj) (if xa then tip - xt + jj else woke) (kp + KK)) := by
                          have h5 := HNX.out (by rw [← HKK.out]; omega)
                          rw [← HKK.out] at h5
                          exact h5
                        cases xa with
                        | true =>
                          go_wp2_with fail
                          go_roundw
                          case rel => exact ⟨k + 1, tip - xt + jj, tip - xt + jj, kp + KK, by omega, by go_num, by go_num, by go_num, rfl, HN.out, HBELv.out⟩
                          case measure => simp [intOf]; omega
                        | false =>
                          go_wp2_with fail
                          go_roundw
                          case rel => exact ⟨k + 1, tip - xt + jj, woke, kp + KK, by omega, by go_num, by go_num, rfl, rfl, HN.out, HBELv.out⟩
                          case measure => simp [intOf]; omega
    · have hkm : m = k := by omega
      subst hkm
      have HF : Hid (true = R) := by
        have := hA.eq
        rw [List.drop_of_length_le (by rw [HL.out]; exact Nat.le_refl _)] at this
        exact this
      clear hA
      go_wp2_with fail
      go_ret
      exact ⟨ret_bool HF.out, hbw⟩

theorem within_any (w : World) (j b n fr : Int) (A : Option Addr) (m c : Nat) (l : List St) (hs : Steps w w.heap.size A m l) :
    Calls Try.prog 25 #[.agg #[.int .i64 j, .int .i64 b, .int .i64 n], .int .i64 fr, .slice A m c] w fun e w' => e = .returned (.bool (withinAll j b n fr l)) ∧ Below w.heap.size w w' := by
  by_cases h : rightB j b n = true ∧ heightB fr = true ∧ m ≤ 1000
  · exact within_any_yes w j b n fr A m c l hs h.1 h.2.1 h.2.2
  · refine within_any_no w j b n fr A m c l hs.len hs.small ?_
    have := hs.len
    rcases Bool.eq_false_or_eq_true (rightB j b n) with h1 | h1
    · rcases Bool.eq_false_or_eq_true (heightB fr) with h2 | h2
      · exact Or.inr (Or.inr (by simp [h1, h2] at h; omega))
      · exact Or.inr (Or.inl h2)
    · exact Or.inl h1

set_option maxRecDepth 100000 in
set_option maxHeartbeats 4000000 in
theorem within_ref_no (w : World) (j b n fr : Int) (A : Option Addr) (m c : Nat) (l : List St) (hl : l.length = m) (hm : m ≤ 140737488355328) (h : rightB j b n = false ∨ heightB fr = false ∨ 1000 < l.length) :
    Calls Try.prog 26 #[.agg #[.int .i64 j, .int .i64 b, .int .i64 n], .int .i64 fr, .slice A m c] w fun e w' => e = .returned (.bool (withinAll j b n fr l)) ∧ Below w.heap.size w w' := by
  have HW := Lib.hid (within_no h)
  rcases Bool.eq_false_or_eq_true (rightB j b n) with h1 | h1
  · rcases Bool.eq_false_or_eq_true (heightB fr) with h2 | h2
    · have h3 : 1000 < m := by simp [h1, h2] at h; omega
      clear h hl
      go_enter Try.func26, Try.ntmps26
      go_wp2_with (first | (go_at_call 10; refine (right_ref _ _ _ _).mono ?_; rintro e w1 ⟨rfl, hb⟩; obtain ⟨hc, hf⟩ := bcell hb) | (go_at_call 28; refine (height_ref _ _).mono ?_; rintro e w' ⟨rfl, rfl⟩))
      go_ret
      exact ⟨ret_bool HW.out.symm, blt (bla (Below.refl _ _) _) (by assumption)⟩
    · clear h hl
      go_enter Try.func26, Try.ntmps26
      go_wp2_with (first | (go_at_call 10; refine (right_ref _ _ _ _).mono ?_; rintro e w1 ⟨rfl, hb⟩; obtain ⟨hc, hf⟩ := bcell hb) | (go_at_call 28; refine (height_ref _ _).mono ?_; rintro e w' ⟨rfl, rfl⟩))
      go_ret
      exact ⟨ret_bool HW.out.symm, blt (bla (Below.refl _ _) _) (by assumption)⟩
  · clear h hl
    go_enter Try.func26, Try.ntmps26
    go_wp2_with (first | (go_at_call 10; refine (right_ref _ _ _ _).mono ?_; rintro e w1 ⟨rfl, hb⟩; obtain ⟨hc, hf⟩ := bcell hb) | (go_at_call 28; refine (height_ref _ _).mono ?_; rintro e w' ⟨rfl, rfl⟩))
    go_ret
    exact ⟨ret_bool HW.out.symm, blt (bla (Below.refl _ _) _) (by assumption)⟩

set_option maxRecDepth 100000 in
set_option maxHeartbeats 4000000 in
theorem within_ref_yes (w : World) (j b n fr : Int) (A : Option Addr) (m c : Nat) (l : List St) (hs : Steps w w.heap.size A m l) (h1 : rightB j b n = true) (h2 : heightB fr = true) (h3 : m ≤ 1000) :
    Calls Try.prog 26 #[.agg #[.int .i64 j, .int .i64 b, .int .i64 n], .int .i64 fr, .slice A m c] w fun e w' => e = .returned (.bool (withinAll j b n fr l)) ∧ Below w.heap.size w w' := by
  obtain ⟨hlen, hsm, hat⟩ := hs
  obtain ⟨R, hR⟩ : ∃ R, R = withinAll j b n fr l := ⟨_, rfl⟩
  rw [← hR]
  have HE : Hid (within n (j + b) fr l fr fr 0 = R) := by rw [hR]; exact withinAll_yes h1 h2 (by omega)
  have HL := Lib.hid hlen
  have HAT := Lib.hid hat
  obtain ⟨a1, a2, a3, a4, a5, a6⟩ := right_bds h1
  obtain ⟨b1, b2⟩ := height_bds h2
  clear hlen hat hR
  go_enter Try.func26, Try.ntmps26
  go_wp2_with (first | (go_at_call 10; refine (right_ref _ _ _ _).mono ?_; rintro e w1 ⟨rfl, hb⟩; obtain ⟨hc, hf⟩ := bcell hb) | (go_at_call 28; refine (height_ref _ _).mono ?_; rintro e w' ⟨rfl, rfl⟩))
  have hb0 : Below w.heap.size w w1 := blt (bla (Below.refl _ _) _) hb
  have g0 : w1.cell? ⟨w.heap.size, 0, none⟩ = some (.int .i64 j) := by rw [hc _ _ (by simp)]; simp
  have g1 : w1.cell? ⟨w.heap.size, 1, none⟩ = some (.int .i64 b) := by rw [hc _ _ (by simp)]; simp
  have g2 : w1.cell? ⟨w.heap.size, 2, none⟩ = some (.int .i64 n) := by rw [hc _ _ (by simp)]; simp
  have hbs : w.heap.size < w1.heap.size := by have := hb.size; simp at this; omega
  clear hc hf hb h1 h2

  go_loopw [7, 8, 9, 10] (fun t a q i wr => ∃ (k : Nat) (tip woke kp : Int), k ≤ m ∧ i = .int .i64 k ∧ t = .int .i64 tip ∧ a = .int .i64 woke ∧ q = .int .i64 kp ∧ WAt n (j + b) fr l R k tip woke kp ∧ Below w1.heap.size w1 wr) (fun _ _ _ i _ => m - (intOf i).toNat)
  case atStart => exact ⟨0, fr, fr, 0, Nat.zero_le _, rfl, rfl, rfl, rfl, ⟨by omega, by omega, by omega, by omega, by omega, by omega, HE.out⟩, Below.refl _ _⟩
  case round =>
    obtain ⟨k, tip, woke, kp, hk, rfl, rfl, rfl, rfl, hA, hbel⟩ := hrel
    have i0 : wr.cell? ⟨w.heap.size, 0, none⟩ = some (.int .i64 j) := (hbel.cell (p := ⟨w.heap.size, 0, none⟩) hbs).trans g0
    have i1 : wr.cell? ⟨w.heap.size, 1, none⟩ = some (.int .i64 b) := (hbel.cell (p := ⟨w.heap.size, 1, none⟩) hbs).trans g1
    have i2 : wr.cell? ⟨w.heap.size, 2, none⟩ = some (.int .i64 n) := (hbel.cell (p := ⟨w.heap.size, 2, none⟩) hbs).trans g2
    have hsz := hbel.size
    have hbw : Below w.heap.size w wr := hb0.trans (hbel.mono (by omega))
    by_cases hlt : k < m
    · obtain ⟨x, hx⟩ : ∃ x, l[k]? = some x := ⟨_, List.getElem?_eq_getElem (by rw [HL.out]; exact hlt)⟩
      obtain ⟨ab, off, hA1, hbB, hst⟩ := HAT.out (by omega)
      have hsk := hst k x hx
      obtain ⟨A2, m2, c2, e1', hbo⟩ := hsk.keeps
      have e0 : wr.cell? ⟨ab, off + k * 3, none⟩ = some (.int .i64 x.take) := (hbw.cell (p := ⟨ab, off + k * 3, none⟩) hbB).trans hsk.take
      have e1 : wr.cell? ⟨ab, off + k * 3 + 1, none⟩ = some (.slice A2 m2 c2) := (hbw.cell (p := ⟨ab, off + k * 3 + 1, none⟩) hbB).trans e1'
      have e2 : wr.cell? ⟨ab, off + k * 3 + 2, none⟩ = some (.bool x.awake) := (hbw.cell (p := ⟨ab, off + k * 3 + 2, none⟩) hbB).trans hsk.awake
      clear hst e1'
      subst hA1
      have t1 := hA.lo
      have t2 := hA.hi
      have t3 := hA.wlo
      have t4 := hA.whi
      have t5 := hA.klo
      have t6 := hA.khi
      have u1 : tip ≤ 2000000 := by omega
      have u2' : woke ≤ 2000000 := by omega
      have u3' : kp ≤ 2000000 := by omega
      have v1 := hsk.lo
      have v2 := hsk.hi
      have HML := Lib.hid hbo.len
      have HA := Lib.hid hA
      have HX := Lib.hid hx
      have HBO := Lib.hid hbo
      have HBW := Lib.hid hbw
      have HBEL := Lib.hid hbel
      have hm2s := hbo.small
      clear hA hx hbo hsk hbw hbel t2 t4 t6
      by_cases c1 : x.take < 0
      · have H0 := Lib.hid (wat_bad HA.out HX.out (Or.inl c1))
        generalize x.take = xt at *
        generalize x.awake = xa at *
        go_wp2_with fail
        all_goals (go_ret; exact ⟨ret_bool H0.out.symm, HBW.out⟩)
      · by_cases c2' : 6 < x.take
        · have H0 := Lib.hid (wat_bad HA.out HX.out (Or.inr (Or.inl c2')))
          generalize x.take = xt at *
          generalize x.awake = xa at *
          go_wp2_with fail
          all_goals (go_ret; exact ⟨ret_bool H0.out.symm, HBW.out⟩)
        · by_cases c3 : tip - x.take < fr
          · have H0 := Lib.hid (wat_bad HA.out HX.out (Or.inr (Or.inr (Or.inl c3))))
            generalize x.take = xt at *
            generalize x.awake = xa at *
            go_wp2_with fail
            all_goals (go_ret; exact ⟨ret_bool H0.out.symm, HBW.out⟩)
          · by_cases c4 : (m2 : Int) ≤ x.take
            · have H0 := Lib.hid (wat_bad HA.out HX.out (Or.inr (Or.inr (Or.inr (Or.inl (by rw [HML.out]; exact c4))))))
              generalize x.take = xt at *
              generalize x.awake = xa at *
              go_wp2_with fail
              all_goals (go_ret; exact ⟨ret_bool H0.out.symm, HBW.out⟩)
            · by_cases c5 : 100 < (m2 : Int)
              · have H0 := Lib.hid (wat_bad HA.out HX.out (Or.inr (Or.inr (Or.inr (Or.inr (by rw [HML.out]; exact c5))))))
                generalize x.take = xt at *
                generalize x.awake = xa at *
                go_wp2_with fail
                all_goals (go_ret; exact ⟨ret_bool H0.out.symm, HBW.out⟩)
              · have HNB : Hid (¬ (x.take < 0 ∨ 6 < x.take ∨ tip - x.take < fr ∨ (x.keeps.length : Int) ≤ x.take ∨ 100 < (x.keeps.length : Int))) := by
                  have := HML.out
                  show ¬ _
                  omega
                have HOUT : Hid (n < tip - x.take + m2 - woke ∨ j + b < kp + kept x.keeps → R = false) := fun h => wat_out HA.out HX.out HNB.out (by rw [HML.out]; exact h)
                have HNX : Hid (¬ (n < tip - x.take + m2 - woke ∨ j + b < kp + kept x.keeps) → WAt n (j + b) fr l R (k + 1) (tip - x.take + m2) (if x.awake then tip - x.take + m2 else woke) (kp + kept x.keeps)) := fun h => by
                  have h5 := wat_next HA.out HX.out HNB.out (by rw [HML.out]; exact h)
                  rw [HML.out] at h5
                  exact h5
                have hkle := kept_le x.keeps
                rw [HML.out] at hkle
                have hkl := hkle.1
                have hkh := hkle.2
                clear hkle
                obtain ⟨KK, hKK⟩ : ∃ KK, KK = kept x.keeps := ⟨_, rfl⟩
                rw [← hKK] at hkl hkh
                have HKK := Lib.hid hKK
                clear hKK
                generalize x.take = xt at *
                generalize x.awake = xa at *

                go_wp2_with fail

                obtain ⟨wo, rfl⟩ : ∃ wo : World, wo = wr := ⟨_, rfl⟩
                have HBWv := Lib.hid HBW.out
                have HBELv := Lib.hid HBEL.out
                have z0 := i0
                have z1 := i1
                have z2 := i2
                obtain ⟨wv, rfl⟩ : ∃ wv : World, wv = wo := ⟨_, rfl⟩
                go_loopw [9, 12] (fun q i wi => ∃ (jj : Nat) (qq : Int), jj ≤ m2 ∧ i = .int .i64 jj ∧ q = .int .i64 qq ∧ Cnt x.keeps (kp + KK) jj qq ∧ kp ≤ qq ∧ qq ≤ kp + jj ∧ wv = wi) (fun _ i _ => m2 - (intOf i).toNat)
                case atStart => exact ⟨0, kp, Nat.zero_le _, rfl, rfl, ⟨by rw [HKK.out]; rfl⟩, by omega, by omega, rfl⟩
                case round =>
                  obtain ⟨jj, qq, hjj, rfl, rfl, hC, hq1, hq2, rfl⟩ := hrel
                  by_cases hlj : jj < m2
                  · obtain ⟨kb, hkb⟩ : ∃ kb, x.keeps[jj]? = some kb := ⟨_, List.getElem?_eq_getElem (by rw [HML.out]; exact hlj)⟩
                    obtain ⟨kbk, ko, hA2, hkB, hkc⟩ := HBO.out.at_ (by omega)
                    subst hA2
                    have q0 : wv.cell? ⟨kbk, ko + jj, none⟩ = some (.bool kb) := (HBWv.out.cell (p := ⟨kbk, ko + jj, none⟩) hkB).trans (hkc jj kb hkb)
                    clear hkc
                    have HS := Lib.hid (cnt_step hC hkb)
                    clear hC hkb
                    cases kb with
                    | true =>
                      go_wp2_with fail
                      go_roundw
                      case rel => exact ⟨jj + 1, qq + 1, by omega, by go_num, rfl, HS.out, by omega, by omega, by trivial⟩
                      case measure => simp [intOf]; omega
                    | false =>
                      go_wp2_with fail
                      go_roundw
                      case rel => exact ⟨jj + 1, qq, by omega, by go_num, rfl, HS.out, by omega, by omega, by trivial⟩
                      case measure => simp [intOf]; omega
                  · have hje : jj = m2 := by omega
                    subst hje
                    have hqe : qq = kp + KK := by
                      have h1 := HML.out
                      rw [← h1] at hC
                      exact cnt_end hC
                    subst hqe
                    clear hC
                    by_cases d1 : n < tip - xt + jj - woke
                    · have H0 : Hid (R = false) := HOUT.out (Or.inl d1)
                      go_wp2_with fail
                      all_goals (go_ret; exact ⟨ret_bool H0.out.symm, HBWv.out⟩)
                    · by_cases d2 : j + b < kp + KK
                      · have H0 : Hid (R = false) := HOUT.out (Or.inr (by rw [← HKK.out]; exact d2))
                        go_wp2_with fail
                        all_goals (go_ret; exact ⟨ret_bool H0.out.symm, HBWv.out⟩)
                      · have HN : Hid (WAt n (j + b) fr l R (k + 1) (tip - xt + jj) (if xa then tip - xt + jj else woke) (kp + KK)) := by
                          have h5 := HNX.out (by rw [← HKK.out]; omega)
                          rw [← HKK.out] at h5
                          exact h5
                        cases xa with
                        | true =>
                          go_wp2_with fail
                          go_roundw
                          case rel => exact ⟨k + 1, tip - xt + jj, tip - xt + jj, kp + KK, by omega, by go_num, by go_num, by go_num, rfl, HN.out, HBELv.out⟩
                          case measure => simp [intOf]; omega
                        | false =>
                          go_wp2_with fail
                          go_roundw
                          case rel => exact ⟨k + 1, tip - xt + jj, woke, kp + KK, by omega, by go_num, by go_num, rfl, rfl, HN.out, HBELv.out⟩
                          case measure => simp [intOf]; omega
    · have hkm : m = k := by omega
      subst hkm
      have HF : Hid (true = R) := by
        have := hA.eq
        rw [List.drop_of_length_le (by rw [HL.out]; exact Nat.le_refl _)] at this
        exact this
      clear hA
      go_wp2_with fail
      go_ret
      exact ⟨ret_bool HF.out, hbw⟩

theorem within_ref (w : World) (j b n fr : Int) (A : Option Addr) (m c : Nat) (l : List St) (hs : Steps w w.heap.size A m l) :
    Calls Try.prog 26 #[.agg #[.int .i64 j, .int .i64 b, .int .i64 n], .int .i64 fr, .slice A m c] w fun e w' => e = .returned (.bool (withinAll j b n fr l)) ∧ Below w.heap.size w w' := by
  by_cases h : rightB j b n = true ∧ heightB fr = true ∧ m ≤ 1000
  · exact within_ref_yes w j b n fr A m c l hs h.1 h.2.1 h.2.2
  · refine within_ref_no w j b n fr A m c l hs.len hs.small ?_
    have := hs.len
    rcases Bool.eq_false_or_eq_true (rightB j b n) with h1 | h1
    · rcases Bool.eq_false_or_eq_true (heightB fr) with h2 | h2
      · exact Or.inr (Or.inr (by simp [h1, h2] at h; omega))
      · exact Or.inr (Or.inl h2)
    · exact Or.inl h1

end Go.Proofs.Ytolapebihnipdaa
