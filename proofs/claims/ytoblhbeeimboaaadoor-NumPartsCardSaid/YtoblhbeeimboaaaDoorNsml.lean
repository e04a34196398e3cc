/-
  The laws' small case.
-/
import Derived.Test.YtoblhbeeimboaaaDoorRparse
namespace Go.Proofs.YtoblhbeeimboaaaDoor
open Go.RowKit Go.Shelf
set_option linter.unusedVariables false
set_option linter.unusedSimpArgs false

theorem dec_dig {n : Nat} (h : n < 10) : Lib.decDigits n = [UInt8.ofNat (48 + n)] := Lib.decDigits_one h
theorem itoa_0 : Lib.itoa 0 = [48] := by
  rw [show (0 : Int) = ((0 : Nat) : Int) from rfl, Lib.itoa_nonneg, dec_dig (by decide)]
  rfl
theorem itoa_305 : Lib.itoa (-305) = [45, 51, 48, 53] := by
  rw [show (-305 : Int) = -((305 : Nat) : Int) from rfl, Lib.itoa_neg _ (by decide), Lib.decDigits, dif_neg (by decide), show 305 / 10 = 30 by decide, Lib.decDigits, dif_neg (by decide), show 30 / 10 = 3 by decide, dec_dig (by decide)]
  rfl
theorem addB_bound {a b : Int} (h : addB a b = true) : 0 ≤ a ∧ 0 ≤ b ∧ a + b ≤ 1125899906842624 := by
  unfold addB coinB at h
  simp at h
  omega

set_option maxRecDepth 100000 in
set_option maxHeartbeats 4000000 in
theorem small_any (w : World) (hE : Env w) : Calls Tryd.prog 7 #[] w fun e w' => e = .returned (.bool true) ∧ Below w.heap.size w w' := by
  have HE := Lib.hid hE
  clear hE
  go_enter Tryd.func7, Tryd.ntmps7
  have hB0 := Below.refl w.heap.size w
  go_wp2_with fail
  refine (nadd_any w 3 4).mono ?_
  rintro y w' ⟨rfl, rfl⟩
  rw [show addB 3 4 = true by decide]
  simp only [if_true, Bool.false_eq_true, if_false]
  go_wp2_with fail
  refine (nadd_any w 1125899906842624 1).mono ?_
  rintro y w' ⟨rfl, rfl⟩
  rw [show addB 1125899906842624 1 = false by decide]
  simp only [if_true, Bool.false_eq_true, if_false]
  go_wp2_with fail
  refine (nsub_any w 7 4).mono ?_
  rintro y w' ⟨rfl, rfl⟩
  rw [show subB 7 4 = true by decide]
  simp only [if_true, Bool.false_eq_true, if_false]
  go_wp2_with fail
  refine (nsub_any w 4 7).mono ?_
  rintro y w' ⟨rfl, rfl⟩
  rw [show subB 4 7 = false by decide]
  simp only [if_true, Bool.false_eq_true, if_false]
  go_wp2_with fail
  refine (nPart_any w 10 2 3 (by decide) (by decide)).mono ?_
  rintro y w1 ⟨rfl, hb⟩
  have hB1 := bltB hB0 hB0.size hb
  clear hb hB0
  rw [show partB 10 2 3 = true by decide]
  rw [if_pos rfl, show (10 : Int) * 2 / 3 = 6 by decide]
  go_wp2_with fail
  refine (nUp_any w1 10 2 3 (by decide) (by decide)).mono ?_
  rintro y w2 ⟨rfl, hb⟩
  have hB2 := bltB hB1 hB1.size hb
  clear hb hB1
  rw [show upB 10 2 3 = true by decide]
  rw [if_pos rfl, show upV 10 2 3 = 7 by decide]
  go_wp2_with fail
  refine (nUp_any w2 9 2 3 (by decide) (by decide)).mono ?_
  rintro y w3 ⟨rfl, hb⟩
  have hB3 := bltB hB2 hB2.size hb
  clear hb hB2
  rw [show upB 9 2 3 = true by decide]
  rw [if_pos rfl, show upV 9 2 3 = 6 by decide]
  go_wp2_with fail
  refine (nPart_any w3 1125899906842624 2 1 (by decide) (by decide)).mono ?_
  rintro y w4 ⟨rfl, hb⟩
  have hB4 := bltB hB3 hB3.size hb
  clear hb hB3
  rw [show partB 1125899906842624 2 1 = false by decide]
  rw [if_neg (by decide)]
  go_wp2_with fail
  refine (nPart_any w4 1125899906842624 9223372036854775807 9223372036854775807 (by decide) (by decide)).mono ?_
  rintro y w5 ⟨rfl, hb⟩
  have hB5 := bltB hB4 hB4.size hb
  clear hb hB4
  rw [show partB 1125899906842624 9223372036854775807 9223372036854775807 = true by decide]
  rw [if_pos rfl, show (1125899906842624 : Int) * 9223372036854775807 / 9223372036854775807 = 1125899906842624 by decide]
  go_wp2_with fail
  refine (nparse_any w5 (HE.out.on hB5) [45, 51, 48, 53] (-305) 9 (by decide)).mono ?_
  rintro y w6 ⟨rfl, hb⟩
  have hB6 := bltB hB5 hB5.size hb
  clear hb hB5
  rw [show nB [45, 51, 48, 53] (-305) 9 = true by decide]
  rw [if_pos rfl, show nval [45, 51, 48, 53] = -305 by decide]
  go_wp2_with fail
  refine (nparse_any w6 (HE.out.on hB6) [48, 48, 55] 0 9 (by decide)).mono ?_
  rintro y w7 ⟨rfl, hb⟩
  have hB7 := bltB hB6 hB6.size hb
  clear hb hB6
  rw [show nB [48, 48, 55] 0 9 = false by decide]
  rw [if_neg (by decide)]
  go_wp2_with fail
  refine (nparse_any w7 (HE.out.on hB7) [49, 48] 0 9 (by decide)).mono ?_
  rintro y w8 ⟨rfl, hb⟩
  have hB8 := bltB hB7 hB7.size hb
  clear hb hB7
  rw [show nB [49, 48] 0 9 = false by decide]
  rw [if_neg (by decide)]
  go_wp2_with fail
  refine (ntext_any w8 (HE.out.on hB8) (-305) (by decide) (by decide)).mono ?_
  rintro y w9 ⟨rfl, hb⟩
  have hB9 := bltB hB8 hB8.size hb
  clear hb hB8
  rw [itoa_305]
  go_wp2_with fail
  refine (ntext_any w9 (HE.out.on hB9) 0 (by decide) (by decide)).mono ?_
  rintro y w10 ⟨rfl, hb⟩
  have hB10 := bltB hB9 hB9.size hb
  clear hb hB9
  rw [itoa_0]
  have HB := Lib.hid hB10
  clear hB10
  go_wp2_with fail
  go_ret
  exact ⟨rfl, HB.out⟩

end Go.Proofs.YtoblhbeeimboaaaDoor
