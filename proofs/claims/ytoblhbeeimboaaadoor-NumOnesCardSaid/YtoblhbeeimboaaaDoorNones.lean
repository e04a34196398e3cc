/-
  The law NumOnes, walked.
-/
import Derived.Test.YtoblhbeeimboaaaDoorNfact
namespace Go.Proofs.YtoblhbeeimboaaaDoor
open Go.RowKit Go.Shelf
set_option linter.unusedVariables false
set_option linter.unusedSimpArgs false

set_option maxRecDepth 100000 in
set_option maxHeartbeats 4000000 in
theorem nones_any (w : World) (hE : Env w) (a b n d : Int) :
    Calls Tryd.prog 6 #[.int .i64 a, .int .i64 b, .int .i64 n, .int .i64 d] w fun e w' => e = .returned (.bool true) ∧ Below w.heap.size w w' := by
  have HE := Lib.hid hE
  clear hE
  have hB0 := Lib.hid (Below.refl w.heap.size w)
  go_enter Tryd.func6, Tryd.ntmps6
  go_wp2_with fail
  refine (small_any w (HE.out.on hB0.out)).mono ?_
  rintro y w1 ⟨rfl, hb⟩
  have hB1 := Lib.hid (bltB hB0.out hB0.out.size hb)
  clear hb hB0
  by_cases hc2 : a < 0
  · go_wp2_with fail
    go_ret
    exact ⟨by rfl, hB1.out⟩
  · skip
    by_cases hc4 : 562949953421312 < a
    · go_wp2_with fail
      go_ret
      exact ⟨by rfl, hB1.out⟩
    · skip
      by_cases hc6 : b < 0
      · go_wp2_with fail
        go_ret
        exact ⟨by rfl, hB1.out⟩
      · skip
        by_cases hc8 : 562949953421312 < b
        · go_wp2_with fail
          go_ret
          exact ⟨by rfl, hB1.out⟩
        · skip
          by_cases hc10 : n < 0
          · go_wp2_with fail
            go_ret
            exact ⟨by rfl, hB1.out⟩
          · skip
            by_cases hc12 : 1099511627776 < n
            · go_wp2_with fail
              go_ret
              exact ⟨by rfl, hB1.out⟩
            · skip
              by_cases hc14 : d < 1
              · go_wp2_with fail
                go_ret
                exact ⟨by rfl, hB1.out⟩
              · skip
                by_cases hc16 : 1099511627776 < d
                · go_wp2_with fail
                  go_ret
                  exact ⟨by rfl, hB1.out⟩
                · skip
                  have f1 : IntKind.i64.wrap (2 * n) = 2 * n := IntWalk.i64_in _ (by omega)
                  have f2 : IntKind.i64.wrap (2 * d) = 2 * d := IntWalk.i64_in _ (by omega)
                  have f3 : IntKind.i64.wrap (a + b) = a + b := IntWalk.i64_in _ (by omega)
                  have hD := Lib.hid (show n < 9223372036854775808 ∧ d < 9223372036854775808 ∧ 2 * n < 9223372036854775808 ∧ 2 * d < 9223372036854775808 by omega)
                  have hP : partB a d d = true := partB_yes (by omega) (by omega) (by omega) (by omega) (by rw [part_self (by omega)]; omega)
                  have hs := part_self (a := a) (d := d) (by omega)
                  have h2 := Lib.hid (part_two a n d)
                  have h2b := Lib.hid (partB_two (a := a) (n := n) (d := d))
                  have hm1 := Lib.hid (part_mono (a := a) (b := a + b) (n := n) (d := d) (by omega) (by omega) (by omega))
                  have hm2 := Lib.hid (part_mono (a := b) (b := a + b) (n := n) (d := d) (by omega) (by omega) (by omega))
                  have hb := Lib.hid (part_both (a := a) (b := b) (n := n) (d := d) (by omega))
                  have hR := Lib.hid (show 0 ≤ a ∧ a ≤ 562949953421312 ∧ 0 ≤ b ∧ b ≤ 562949953421312 ∧ 0 ≤ n ∧ 1 ≤ d by omega)
                  have hq1 := Lib.hid (Int.ediv_nonneg (Int.mul_nonneg hR.out.1 hR.out.2.2.2.2.1) (by omega : 0 ≤ d))
                  have hq2 := Lib.hid (Int.ediv_nonneg (Int.mul_nonneg hR.out.2.2.1 hR.out.2.2.2.2.1) (by omega : 0 ≤ d))
                  go_wp2_with fail
                  refine (nPart_any w1 a d d hD.out.2.1 hD.out.2.1).mono ?_
                  rintro y w2 ⟨rfl, hb⟩
                  have hB2 := Lib.hid (bltB hB1.out hB1.out.size hb)
                  clear hb hB1
                  rw [hP, if_pos rfl, hs]
                  clear hP hs
                  go_wp2_with fail
                  refine (nPart_any w2 a n d hD.out.1 hD.out.2.1).mono ?_
                  rintro y w3 ⟨rfl, hb⟩
                  have hB3 := Lib.hid (bltB hB2.out hB2.out.size hb)
                  clear hb hB2
                  obtain ⟨y, hy⟩ : ∃ z, (if partB a n d = true then a * n / d else 0) = z := ⟨_, rfl⟩
                  obtain ⟨yb, hyb⟩ : ∃ z, partB a n d = z := ⟨_, rfl⟩
                  rw [hy, hyb]
                  have Hy := Lib.hid (And.intro hy hyb)
                  clear hy hyb
                  go_wp2_with fail
                  refine (nPart_any w3 a (2 * n) (2 * d) hD.out.2.2.1 hD.out.2.2.2).mono ?_
                  rintro y w4 ⟨rfl, hb⟩
                  have hB4 := Lib.hid (bltB hB3.out hB3.out.size hb)
                  clear hb hB3
                  rw [h2.out, h2b.out, Hy.out.1, Hy.out.2]
                  clear h2 h2b
                  go_wp2_with fail
                  refine (nPart_any w4 b n d hD.out.1 hD.out.2.1).mono ?_
                  rintro y w5 ⟨rfl, hb⟩
                  have hB5 := Lib.hid (bltB hB4.out hB4.out.size hb)
                  clear hb hB4
                  obtain ⟨u, hu⟩ : ∃ z, (if partB b n d = true then b * n / d else 0) = z := ⟨_, rfl⟩
                  obtain ⟨ub, hub⟩ : ∃ z, partB b n d = z := ⟨_, rfl⟩
                  rw [hu, hub]
                  have Hu := Lib.hid (And.intro hu hub)
                  clear hu hub
                  go_wp2_with fail
                  refine (nPart_any w5 (a + b) n d hD.out.1 hD.out.2.1).mono ?_
                  rintro y w6 ⟨rfl, hb⟩
                  have hB6 := Lib.hid (bltB hB5.out hB5.out.size hb)
                  clear hb hB5
                  rcases h5 : partB (a + b) n d with _ | _
                  · rw [if_neg (by decide)]
                    clear h5
                    go_wp2_with fail
                    go_ret
                    exact ⟨by rfl, hB6.out⟩
                  · have h6 := partB_le h5
                    have ha : partB a n d = true := partB_yes hR.out.1 (by have := hR.out.2.1; omega) hR.out.2.2.2.2.1 hR.out.2.2.2.2.2 (Int.le_trans hm1.out h6)
                    have hc : partB b n d = true := partB_yes hR.out.2.2.1 (by have := hR.out.2.2.2.1; omega) hR.out.2.2.2.2.1 hR.out.2.2.2.2.2 (Int.le_trans hm2.out h6)
                    obtain ⟨hy, hyb⟩ := Hy.out
                    obtain ⟨hu, hub⟩ := Hu.out
                    rw [ha, if_pos rfl] at hy
                    rw [hc, if_pos rfl] at hu
                    rw [ha] at hyb
                    rw [hc] at hub
                    subst hyb hub
                    rw [if_pos rfl]
                    clear Hy Hu
                    obtain ⟨v, hv⟩ : ∃ z, (a + b) * n / d = z := ⟨_, rfl⟩
                    rw [hy] at hm1 hb hq1
                    rw [hu] at hm2 hb hq2
                    rw [hv] at hm1 hm2 hb h6
                    rw [hv]
                    have g1 := hb.out
                    have g2 := hm1.out
                    have g3 := hm2.out
                    have g4 := hq1.out
                    have g5 := hq2.out
                    have f4 : IntKind.i64.wrap (y + u) = y + u := IntWalk.i64_in _ (by omega)
                    have f5 : IntKind.i64.wrap (y + u + 1) = y + u + 1 := IntWalk.i64_in _ (by omega)
                    have g6 := g1.1
                    have g7 := g1.2
                    clear ha hc hy hu hv h5 h6 g1 g2 g3 g4 g5 hm1 hm2 hb hq1 hq2
                    go_wp2_with fail
                    go_ret
                    exact ⟨by rfl, hB6.out⟩

end Go.Proofs.YtoblhbeeimboaaaDoor
