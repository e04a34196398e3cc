/-
  The document's parts of coins, of any numbers: parts, Part, Up.
-/
import Derived.Test.YtoblhbeeimboaaaDoorRefp
namespace Go.Proofs.YtoblhbeeimboaaaDoor
open Go.RowKit Go.Shelf
set_option linter.unusedVariables false
set_option linter.unusedSimpArgs false

theorem rparts_any (w : World) (a n d : Int) (hn : n < 9223372036854775808) (hd : d < 9223372036854775808) :
    Calls Tryd.prog 23 #[.int .i64 a, .int .i64 n, .int .i64 d] w (RetR3 w a n d) := by
  rcases h0 : coinB a with _ | _
  · have HF := Lib.hid (partB_no1 (n := n) (d := d) h0)
    go_enter Tryd.func23, Tryd.ntmps23
    go_wp2_with fail
    refine (rcoins_any _ _).mono ?_
    rintro e w' ⟨rfl, rfl⟩
    rw [h0]
    go_wp2_with fail
    go_ret3
    exact RetR3.no HF.out (Below.refl _ _)
  · by_cases h1 : n < 0
    · have HF := Lib.hid (partB_no2 (a := a) (d := d) h1)
      go_enter Tryd.func23, Tryd.ntmps23
      go_wp2_with fail
      refine (rcoins_any _ _).mono ?_
      rintro e w' ⟨rfl, rfl⟩
      rw [h0]
      go_wp2_with fail
      go_ret3
      exact RetR3.no HF.out (Below.refl _ _)
    · by_cases h2 : d < 1
      · have HF := Lib.hid (partB_no3 (a := a) (n := n) h2)
        go_enter Tryd.func23, Tryd.ntmps23
        go_wp2_with fail
        refine (rcoins_any _ _).mono ?_
        rintro e w' ⟨rfl, rfl⟩
        rw [h0]
        go_wp2_with fail
        go_ret3
        exact RetR3.no HF.out (Below.refl _ _)
      · have g0 := coinB_true.1 h0
        obtain ⟨x, rfl⟩ := Int.eq_ofNat_of_zero_le g0.1
        obtain ⟨m, rfl⟩ := Int.eq_ofNat_of_zero_le (show 0 ≤ n by omega)
        obtain ⟨k, rfl⟩ := Int.eq_ofNat_of_zero_le (show 0 ≤ d by omega)
        exact rparts_good w x m k (by omega) (by omega) (by omega) (by omega)

theorem rPart_any (w : World) (a n d : Int) (hn : n < 9223372036854775808) (hd : d < 9223372036854775808) :
    Calls Tryd.prog 13 #[.int .i64 a, .int .i64 n, .int .i64 d] w (RetB w (partB a n d) (a * n / d)) := by
  go_enter Tryd.func13, Tryd.ntmps13
  go_wp2_with fail
  refine (rparts_any w a n d hn hd).mono ?_
  rintro e w' ⟨rfl, hb⟩
  obtain ⟨v, hv⟩ : ∃ v, (if partB a n d then a * n / d else 0) = v := ⟨_, rfl⟩
  obtain ⟨l, hl⟩ : ∃ l, (if partB a n d then a * n % d else 0) = l := ⟨_, rfl⟩
  obtain ⟨o, ho⟩ : ∃ o, partB a n d = o := ⟨_, rfl⟩
  rw [hv, hl, ho]
  rw [ho] at hv
  have HV := Lib.hid (And.intro hv ho)
  clear hv hl ho
  go_wp2_with fail
  go_ret2
  exact ⟨by rw [HV.out.2, HV.out.1]; rfl, hb⟩

set_option maxRecDepth 100000 in
theorem rUp_any (w : World) (a n d : Int) (hn : n < 9223372036854775808) (hd : d < 9223372036854775808) :
    Calls Tryd.prog 15 #[.int .i64 a, .int .i64 n, .int .i64 d] w (RetB w (upB a n d) (upV a n d)) := by
  go_enter Tryd.func15, Tryd.ntmps15
  go_wp2_with fail
  refine (rparts_any w a n d hn hd).mono ?_
  rintro e w1 ⟨rfl, hb⟩
  rcases ho : partB a n d with _ | _
  · have HF : Hid (upB a n d = false) := Lib.hid (by unfold upB; rw [ho]; rfl)
    clear ho
    go_wp2_with fail
    go_ret2
    exact ⟨by rw [HF.out]; rfl, hb⟩
  · have hp := div_pos' ho
    rw [if_pos rfl, if_pos rfl]
    have hc : ∀ z : Int, 0 ≤ z → coinB z = decide (z ≤ 1125899906842624) := fun z h => by unfold coinB; rw [decide_eq_true h]; rfl
    by_cases hl : 0 < a * n % d
    · have hB : upB a n d = coinB (a * n / d + 1) := by
        unfold upB
        rw [ho, decide_eq_true hl, hc _ (by omega)]
        simp only [Bool.true_and, Bool.not_true, Bool.false_or]
        exact decide_eq_decide.2 (by omega)
      have hV : upV a n d = a * n / d + 1 := by unfold upV; rw [if_pos hl]
      obtain ⟨q, hq⟩ : ∃ q, a * n / d = q := ⟨_, rfl⟩
      obtain ⟨r, hr⟩ : ∃ r, a * n % d = r := ⟨_, rfl⟩
      rw [hq] at hB hV hp ⊢
      rw [hr] at hl ⊢
      have wq : IntKind.i64.wrap (q + 1) = q + 1 := IntWalk.i64_in _ (by omega)
      have HB := Lib.hid (And.intro hB hV)
      clear hB hV hq hr ho hp hc
      go_wp2_with fail
      refine (rcoins_any _ _).mono ?_
      rintro e w2 ⟨rfl, rfl⟩
      obtain ⟨o, ho⟩ : ∃ o, coinB (q + 1) = o := ⟨_, rfl⟩
      rw [ho]
      have HO := Lib.hid (HB.out.1.trans ho)
      clear ho
      rcases o with _ | _
      · go_wp2_with fail
        go_ret2
        exact ⟨by rw [HO.out]; rfl, hb⟩
      · go_wp2_with fail
        go_ret2
        exact ⟨by rw [HO.out, HB.out.2]; rfl, hb⟩
    · have hB : upB a n d = true := by unfold upB; rw [ho, decide_eq_false hl]; rfl
      have hV : upV a n d = a * n / d := by unfold upV; rw [if_neg hl]
      obtain ⟨q, hq⟩ : ∃ q, a * n / d = q := ⟨_, rfl⟩
      obtain ⟨r, hr⟩ : ∃ r, a * n % d = r := ⟨_, rfl⟩
      rw [hq] at hV hp ⊢
      rw [hr] at hl ⊢
      have hO : coinB q = true := coinB_true.2 hp
      have HB := Lib.hid (And.intro hB hV)
      have HO := Lib.hid hO
      clear hB hV hq hr ho hp hc hO
      go_wp2_with fail
      refine (rcoins_any _ _).mono ?_
      rintro e w2 ⟨rfl, rfl⟩
      rw [HO.out]
      go_wp2_with fail
      go_ret2
      exact ⟨by rw [HB.out.1, HB.out.2]; rfl, hb⟩

end Go.Proofs.YtoblhbeeimboaaaDoor
