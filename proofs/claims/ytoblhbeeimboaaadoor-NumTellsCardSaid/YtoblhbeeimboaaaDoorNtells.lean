/-
  The law NumTells, walked.
-/
import Derived.Test.YtoblhbeeimboaaaDoorNfact
namespace Go.Proofs.YtoblhbeeimboaaaDoor
open Go.RowKit Go.Shelf
set_option linter.unusedVariables false
set_option linter.unusedSimpArgs false

set_option maxRecDepth 100000 in
set_option maxHeartbeats 4000000 in
theorem ntells_any (w : World) (hE : Env w) (a b c : Int) (s : List UInt8) (ha0 : -9223372036854775808 ≤ a) (ha1 : a ≤ 9223372036854775807) (hb1 : b ≤ 9223372036854775807) (hc1 : c ≤ 9223372036854775807) :
    Calls Tryd.prog 3 #[.int .i64 a, .int .i64 b, .int .i64 c, .string ⟨s.toArray⟩] w fun e w' => e = .returned (.bool true) ∧ Below w.heap.size w w' := by
  have HE := Lib.hid hE
  clear hE
  obtain ⟨n, hn⟩ : ∃ n, s.length = n := ⟨_, rfl⟩
  have hB0 := Lib.hid (Below.refl w.heap.size w)
  go_enter Tryd.func3, Tryd.ntmps3
  go_wp2_with fail
  refine (small_any w (HE.out.on hB0.out)).mono ?_
  rintro y w1 ⟨rfl, hb⟩
  have hB1 := Lib.hid (bltB hB0.out hB0.out.size hb)
  clear hb hB0
  by_cases hlong : 100 < n
  · go_wp2_with fail
    go_ret
    exact ⟨by rfl, hB1.out⟩
  · go_wp2_with fail
    refine (nadd_any w1 a b).mono ?_
    rintro y w_ ⟨rfl, rfl⟩
    obtain ⟨xa, hxa⟩ : ∃ z, (if addB a b = true then a + b else 0) = z := ⟨_, rfl⟩
    obtain ⟨xab, hxab⟩ : ∃ z, addB a b = z := ⟨_, rfl⟩
    rw [hxa, hxab]
    go_wp2_with fail
    refine (radd_any w1 a b).mono ?_
    rintro y w_ ⟨rfl, rfl⟩
    rw [hxa, hxab]
    clear hxa hxab
    go_wp2_with fail
    refine (nsub_any w1 a b).mono ?_
    rintro y w_ ⟨rfl, rfl⟩
    obtain ⟨xs, hxs⟩ : ∃ z, (if subB a b = true then a - b else 0) = z := ⟨_, rfl⟩
    obtain ⟨xsb, hxsb⟩ : ∃ z, subB a b = z := ⟨_, rfl⟩
    rw [hxs, hxsb]
    go_wp2_with fail
    refine (rsub_any w1 a b).mono ?_
    rintro y w_ ⟨rfl, rfl⟩
    rw [hxs, hxsb]
    clear hxs hxsb
    go_wp2_with fail
    refine (nPart_any w1 a b c (by omega) (by omega)).mono ?_
    rintro y w2 ⟨rfl, hb⟩
    have hB2 := Lib.hid (bltB hB1.out hB1.out.size hb)
    clear hb hB1
    obtain ⟨xp, hxp⟩ : ∃ z, (if partB a b c = true then a * b / c else 0) = z := ⟨_, rfl⟩
    obtain ⟨xpb, hxpb⟩ : ∃ z, partB a b c = z := ⟨_, rfl⟩
    rw [hxp, hxpb]
    go_wp2_with fail
    refine (rPart_any w2 a b c (by omega) (by omega)).mono ?_
    rintro y w3 ⟨rfl, hb⟩
    have hB3 := Lib.hid (bltB hB2.out hB2.out.size hb)
    clear hb hB2
    rw [hxp, hxpb]
    clear hxp hxpb
    go_wp2_with fail
    refine (nUp_any w3 a b c (by omega) (by omega)).mono ?_
    rintro y w4 ⟨rfl, hb⟩
    have hB4 := Lib.hid (bltB hB3.out hB3.out.size hb)
    clear hb hB3
    obtain ⟨xu, hxu⟩ : ∃ z, (if upB a b c = true then upV a b c else 0) = z := ⟨_, rfl⟩
    obtain ⟨xub, hxub⟩ : ∃ z, upB a b c = z := ⟨_, rfl⟩
    rw [hxu, hxub]
    go_wp2_with fail
    refine (rUp_any w4 a b c (by omega) (by omega)).mono ?_
    rintro y w5 ⟨rfl, hb⟩
    have hB5 := Lib.hid (bltB hB4.out hB4.out.size hb)
    clear hb hB4
    rw [hxu, hxub]
    clear hxu hxub
    go_wp2_with fail
    refine (nparse_any w5 (HE.out.on hB5.out) s b c (by omega)).mono ?_
    rintro y w6 ⟨rfl, hb⟩
    have hB6 := Lib.hid (bltB hB5.out hB5.out.size hb)
    clear hb hB5
    obtain ⟨xr, hxr⟩ : ∃ z, (if nB s b c = true then nval s else 0) = z := ⟨_, rfl⟩
    obtain ⟨xrb, hxrb⟩ : ∃ z, nB s b c = z := ⟨_, rfl⟩
    rw [hxr, hxrb]
    go_wp2_with fail
    refine (rparse_any w6 s b c (by omega)).mono ?_
    rintro y w7 ⟨rfl, hb⟩
    have hB7 := Lib.hid (bltB hB6.out hB6.out.size hb)
    clear hb hB6
    rw [hxr, hxrb]
    clear hxr hxrb
    go_wp2_with fail
    refine (ntext_any w7 (HE.out.on hB7.out) a (by omega) (by omega)).mono ?_
    rintro y w8 ⟨rfl, hb⟩
    have hB8 := Lib.hid (bltB hB7.out hB7.out.size hb)
    clear hb hB7
    go_wp2_with fail
    refine (rtext_any w8 a (by omega) (by omega)).mono ?_
    rintro y w9 ⟨rfl, hb⟩
    have hB9 := Lib.hid (bltB hB8.out hB8.out.size hb)
    clear hb hB8
    go_wp2_with fail
    go_ret
    exact ⟨by rfl, hB9.out⟩

end Go.Proofs.YtoblhbeeimboaaaDoor
