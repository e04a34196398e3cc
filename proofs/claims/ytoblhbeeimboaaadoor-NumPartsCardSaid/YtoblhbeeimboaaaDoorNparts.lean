/-
  The law NumParts, walked.
-/
import Derived.Test.YtoblhbeeimboaaaDoorNfact
namespace Go.Proofs.YtoblhbeeimboaaaDoor
open Go.RowKit Go.Shelf
set_option linter.unusedVariables false
set_option linter.unusedSimpArgs false

theorem mul_range {a n : Int} (h0 : 0 ≤ a) (h1 : a ≤ 1073741824) (h2 : 0 ≤ n) (h3 : n ≤ 1073741824) : 0 ≤ a * n ∧ a * n ≤ 1152921504606846976 :=
  ⟨Int.mul_nonneg h0 h2, Int.le_trans (Int.mul_le_mul h1 h3 h2 (by decide)) (by decide)⟩

set_option maxRecDepth 100000 in
set_option maxHeartbeats 4000000 in
theorem nparts_any (w : World) (hE : Env w) (a n d more : Int) :
    Calls Tryd.prog 5 #[.int .i64 a, .int .i64 n, .int .i64 d, .int .i64 more] w fun e w' => e = .returned (.bool true) ∧ Below w.heap.size w w' := by
  have HE := Lib.hid hE
  clear hE
  have hB0 := Lib.hid (Below.refl w.heap.size w)
  go_enter Tryd.func5, Tryd.ntmps5
  go_wp2_with fail
  refine (small_any w (HE.out.on hB0.out)).mono ?_
  rintro y w1 ⟨rfl, hb⟩
  have hB1 := Lib.hid (bltB hB0.out hB0.out.size hb)
  clear hb hB0
  by_cases hc2 : a < 0
  · go_wp2_with fail
    go_ret
    exact ⟨by rfl, hB1.out⟩
  · skip
    by_cases hc4 : 1073741824 < a
    · go_wp2_with fail
      go_ret
      exact ⟨by rfl, hB1.out⟩
    · skip
      by_cases hc6 : n < 0
      · go_wp2_with fail
        go_ret
        exact ⟨by rfl, hB1.out⟩
      · skip
        by_cases hc8 : 1073741824 < n
        · go_wp2_with fail
          go_ret
          exact ⟨by rfl, hB1.out⟩
        · skip
          by_cases hc10 : d < 1
          · go_wp2_with fail
            go_ret
            exact ⟨by rfl, hB1.out⟩
          · skip
            by_cases hc12 : 1073741824 < d
            · go_wp2_with fail
              go_ret
              exact ⟨by rfl, hB1.out⟩
            · skip
              by_cases hc14 : more < 0
              · go_wp2_with fail
                go_ret
                exact ⟨by rfl, hB1.out⟩
              · skip
                by_cases hc16 : 1073741824 < more
                · go_wp2_with fail
                  go_ret
                  exact ⟨by rfl, hB1.out⟩
                · skip
                  have hXr := mul_range (by omega : 0 ≤ a) (by omega : a ≤ 1073741824) (by omega : 0 ≤ n) (by omega : n ≤ 1073741824)
                  obtain ⟨X, hX⟩ : ∃ X, a * n = X := ⟨_, rfl⟩
                  obtain ⟨Q, hQ⟩ : ∃ Q, a * n / d = Q := ⟨_, rfl⟩
                  obtain ⟨L, hL⟩ : ∃ L, a * n % d = L := ⟨_, rfl⟩
                  have hdm := Int.mul_ediv_add_emod (a * n) d
                  have hL0 := Int.emod_nonneg (a * n) (by omega : d ≠ 0)
                  have hLd := Int.emod_lt_of_pos (a * n) (by omega : 0 < d)
                  have hQ0 : 0 ≤ a * n / d := Int.ediv_nonneg (by omega) (by omega)
                  have hQX : a * n / d ≤ a * n := Int.ediv_le_self _ (by omega)
                  rw [hX] at hXr
                  rw [hQ, hL, hX] at hdm
                  rw [hL] at hL0 hLd
                  rw [hQ] at hQ0
                  rw [hQ, hX] at hQX
                  have f1 : IntKind.i64.wrap (a * n) = X := by rw [hX]; exact IntWalk.i64_in _ (by omega)
                  have f1t : X.tdiv d = Q := by rw [Int.tdiv_eq_ediv_of_nonneg (by omega), ← hX]; exact hQ
                  have f1q : IntKind.i64.wrap Q = Q := IntWalk.i64_in _ (by omega)
                  have gd : (d == 0) = false := by simp; omega
                  have hdQ : Q * d = X - L := by rw [Int.mul_comm Q d]; omega
                  have f2 : IntKind.i64.wrap (Q * d) = X - L := by rw [hdQ]; exact IntWalk.i64_in _ (by omega)
                  have f3 : IntKind.i64.wrap (X - (X - L)) = L := by rw [show X - (X - L) = L by omega]; exact IntWalk.i64_in _ (by omega)
                  have f4 : IntKind.i64.wrap (a + more) = a + more := IntWalk.i64_in _ (by omega)
                  have HD := Lib.hid (show n < 9223372036854775808 ∧ d < 9223372036854775808 by omega)
                  clear hdQ hdm hXr hQX hX
                  by_cases hov : 1125899906842624 < Q
                  · have hP : partB a n d = false := partB_over (by rw [hQ]; exact hov)
                    have hU := upB_no hP
                    go_wp2_with fail
                    refine (nPart_any w1 a n d HD.out.1 HD.out.2).mono ?_
                    rintro y w2 ⟨rfl, hb⟩
                    have hB2 := Lib.hid (bltB hB1.out hB1.out.size hb)
                    clear hb hB1
                    rw [hP, if_neg (by decide)]
                    go_wp2_with fail
                    refine (nUp_any w2 a n d HD.out.1 HD.out.2).mono ?_
                    rintro y w3 ⟨rfl, hb⟩
                    have hB3 := Lib.hid (bltB hB2.out hB2.out.size hb)
                    clear hb hB2
                    rw [hU, if_neg (by decide)]
                    clear hP hU
                    go_wp2_with fail
                    go_ret
                    exact ⟨by rfl, hB3.out⟩
                  · skip
                    have hP : partB a n d = true := partB_yes (by omega) (by omega) (by omega) (by omega) (by rw [hQ]; omega)
                    have gL0 : ¬ L < 0 := by omega
                    have gLd : ¬ d ≤ L := by omega
                    by_cases hz : L = 0
                    · have hU := upB_even hP (hL.trans hz)
                      rw [hQ] at hU
                      have gz : (L == 0) = true := by rw [hz]; rfl
                      have gp : ¬ 0 < L := by omega
                      go_wp2_with fail
                      refine (nPart_any w1 a n d HD.out.1 HD.out.2).mono ?_
                      rintro y w2 ⟨rfl, hb⟩
                      have hB2 := Lib.hid (bltB hB1.out hB1.out.size hb)
                      clear hb hB1
                      rw [hP, if_pos rfl, hQ]
                      go_wp2_with fail
                      refine (nUp_any w2 a n d HD.out.1 HD.out.2).mono ?_
                      rintro y w3 ⟨rfl, hb⟩
                      have hB3 := Lib.hid (bltB hB2.out hB2.out.size hb)
                      clear hb hB2
                      rw [hU.1, if_pos rfl, hU.2]
                      clear hP hU
                      have HM := Lib.hid (part_mono (a := a) (b := a + more) (n := n) (d := d) (by omega) (by omega) (by omega))
                      rw [hQ] at HM
                      go_wp2_with fail
                      refine (nPart_any w3 (a + more) n d HD.out.1 HD.out.2).mono ?_
                      rintro y w4 ⟨rfl, hb⟩
                      have hB4 := Lib.hid (bltB hB3.out hB3.out.size hb)
                      clear hb hB3
                      rcases hm : partB (a + more) n d with _ | _
                      · rw [if_neg (by decide)]
                        clear hm
                        go_wp2_with fail
                        go_ret
                        exact ⟨by rfl, hB4.out⟩
                      · rw [if_pos rfl]
                        obtain ⟨V, hV⟩ : ∃ V, (a + more) * n / d = V := ⟨_, rfl⟩
                        rw [hV] at HM
                        rw [hV]
                        clear hm hV
                        have gm : Q ≤ V := HM.out
                        go_wp2_with fail
                        go_ret
                        exact ⟨by rfl, hB4.out⟩
                    · skip
                      have gz : (L == 0) = false := by simpa using hz
                      have gp : 0 < L := by omega
                      by_cases ht : Q ≤ 1125899906842623
                      · have hU := upB_more hP (by rw [hL]; exact gp) (by rw [hQ]; exact ht)
                        rw [hQ] at hU
                        have gt : Q < 1125899906842624 := by omega
                        have w5 : IntKind.i64.wrap (Q + 1) = Q + 1 := IntWalk.i64_in _ (by omega)
                        go_wp2_with fail
                        refine (nPart_any w1 a n d HD.out.1 HD.out.2).mono ?_
                        rintro y w2 ⟨rfl, hb⟩
                        have hB2 := Lib.hid (bltB hB1.out hB1.out.size hb)
                        clear hb hB1
                        rw [hP, if_pos rfl, hQ]
                        go_wp2_with fail
                        refine (nUp_any w2 a n d HD.out.1 HD.out.2).mono ?_
                        rintro y w3 ⟨rfl, hb⟩
                        have hB3 := Lib.hid (bltB hB2.out hB2.out.size hb)
                        clear hb hB2
                        rw [hU.1, if_pos rfl, hU.2]
                        clear hP hU
                        have HM := Lib.hid (part_mono (a := a) (b := a + more) (n := n) (d := d) (by omega) (by omega) (by omega))
                        rw [hQ] at HM
                        go_wp2_with fail
                        refine (nPart_any w3 (a + more) n d HD.out.1 HD.out.2).mono ?_
                        rintro y w4 ⟨rfl, hb⟩
                        have hB4 := Lib.hid (bltB hB3.out hB3.out.size hb)
                        clear hb hB3
                        rcases hm : partB (a + more) n d with _ | _
                        · rw [if_neg (by decide)]
                          clear hm
                          go_wp2_with fail
                          go_ret
                          exact ⟨by rfl, hB4.out⟩
                        · rw [if_pos rfl]
                          obtain ⟨V, hV⟩ : ∃ V, (a + more) * n / d = V := ⟨_, rfl⟩
                          rw [hV] at HM
                          rw [hV]
                          clear hm hV
                          have gm : Q ≤ V := HM.out
                          go_wp2_with fail
                          go_ret
                          exact ⟨by rfl, hB4.out⟩
                      · have hU : upB a n d = false := upB_top (by rw [hL]; exact gp) (by rw [hQ]; omega)
                        have gt : ¬ Q < 1125899906842624 := by omega
                        go_wp2_with fail
                        refine (nPart_any w1 a n d HD.out.1 HD.out.2).mono ?_
                        rintro y w2 ⟨rfl, hb⟩
                        have hB2 := Lib.hid (bltB hB1.out hB1.out.size hb)
                        clear hb hB1
                        rw [hP, if_pos rfl, hQ]
                        go_wp2_with fail
                        refine (nUp_any w2 a n d HD.out.1 HD.out.2).mono ?_
                        rintro y w3 ⟨rfl, hb⟩
                        have hB3 := Lib.hid (bltB hB2.out hB2.out.size hb)
                        clear hb hB2
                        rw [hU, if_neg (by decide)]
                        clear hP hU
                        have HM := Lib.hid (part_mono (a := a) (b := a + more) (n := n) (d := d) (by omega) (by omega) (by omega))
                        rw [hQ] at HM
                        go_wp2_with fail
                        refine (nPart_any w3 (a + more) n d HD.out.1 HD.out.2).mono ?_
                        rintro y w4 ⟨rfl, hb⟩
                        have hB4 := Lib.hid (bltB hB3.out hB3.out.size hb)
                        clear hb hB3
                        rcases hm : partB (a + more) n d with _ | _
                        · rw [if_neg (by decide)]
                          clear hm
                          go_wp2_with fail
                          go_ret
                          exact ⟨by rfl, hB4.out⟩
                        · rw [if_pos rfl]
                          obtain ⟨V, hV⟩ : ∃ V, (a + more) * n / d = V := ⟨_, rfl⟩
                          rw [hV] at HM
                          rw [hV]
                          clear hm hV
                          have gm : Q ≤ V := HM.out
                          go_wp2_with fail
                          go_ret
                          exact ⟨by rfl, hB4.out⟩

end Go.Proofs.YtoblhbeeimboaaaDoor
