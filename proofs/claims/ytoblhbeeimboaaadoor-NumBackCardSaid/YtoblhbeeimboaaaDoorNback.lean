/-
  The law NumBack, walked.
-/
import Derived.Test.YtoblhbeeimboaaaDoorNfact
namespace Go.Proofs.YtoblhbeeimboaaaDoor
open Go.RowKit Go.Shelf
set_option linter.unusedVariables false
set_option linter.unusedSimpArgs false

set_option maxRecDepth 100000 in
set_option maxHeartbeats 4000000 in
theorem nback_any (w : World) (hE : Env w) (a b : Int) (s : List UInt8) (ha0 : -9223372036854775808 ≤ a) (ha1 : a ≤ 9223372036854775807) :
    Calls Tryd.prog 4 #[.int .i64 a, .int .i64 b, .string ⟨s.toArray⟩] w fun e w' => e = .returned (.bool true) ∧ Below w.heap.size w w' := by
  have HE := Lib.hid hE
  clear hE
  obtain ⟨n, hn⟩ : ∃ n, s.length = n := ⟨_, rfl⟩
  have hB0 := Lib.hid (Below.refl w.heap.size w)
  go_enter Tryd.func4, Tryd.ntmps4
  go_wp2_with fail
  refine (small_any w (HE.out.on hB0.out)).mono ?_
  rintro y w1 ⟨rfl, hb⟩
  have hB1 := Lib.hid (bltB hB0.out hB0.out.size hb)
  clear hb hB0
  by_cases hlong : 100 < n
  · go_wp2_with fail
    go_ret
    exact ⟨by rfl, hB1.out⟩
  · go_wp2_with fail
    refine (nadd_any w1 a b).mono ?_
    rintro y w_ ⟨rfl, rfl⟩
    rcases hh : addB a b with _ | _
    · rw [if_neg (by decide)]
      have h2 : addB b a = false := (addB_comm b a).trans hh
      clear hh
      go_wp2_with fail
      refine (nsub_any w1 0 b).mono ?_
      rintro y w_ ⟨rfl, rfl⟩
      generalize subB 0 b = z1
      generalize (if z1 = true then 0 - b else 0) = z2
      go_wp2_with fail
      refine (nadd_any w1 b a).mono ?_
      rintro y w_ ⟨rfl, rfl⟩
      rw [h2, if_neg (by decide)]
      clear h2
      go_wp2_with fail
      refine (ntext_any w1 (HE.out.on hB1.out) a (by omega) (by omega)).mono ?_
      rintro y w2 ⟨rfl, hb⟩
      have hB2 := Lib.hid (bltB hB1.out hB1.out.size hb)
      clear hb hB1
      go_wp2_with fail
      refine (nparse_any w2 (HE.out.on hB2.out) (Lib.itoa a) (-9223372036854775808) 9223372036854775807 (Nat.le_trans (Lib.itoa_length_le a ha0 ha1) (by decide))).mono ?_
      rintro y w3 ⟨rfl, hb⟩
      have hB3 := Lib.hid (bltB hB2.out hB2.out.size hb)
      clear hb hB2
      rw [nB_itoa ha0 ha1, if_pos rfl, (itoa_facts a).2]
      go_wp2_with fail
      refine (nparse_any w3 (HE.out.on hB3.out) s (-9223372036854775808) 9223372036854775807 (by omega)).mono ?_
      rintro y w4 ⟨rfl, hb⟩
      have hB4 := Lib.hid (bltB hB3.out hB3.out.size hb)
      clear hb hB3
      rcases hh : nB s (-9223372036854775808) 9223372036854775807 with _ | _
      · rw [if_neg (by decide)]
        go_wp2_with fail
        go_ret
        exact ⟨by rfl, hB4.out⟩
      · rw [if_pos rfl]
        have HT := Lib.hid (nB_text hh)
        have HR := Lib.hid (nB_range hh)
        obtain ⟨v, hv⟩ : ∃ v, nval s = v := ⟨_, rfl⟩
        rw [hv] at HT HR
        rw [hv]
        clear hv hh
        go_wp2_with fail
        refine (ntext_any w4 (HE.out.on hB4.out) v HR.out.1 HR.out.2).mono ?_
        rintro y w5 ⟨rfl, hb⟩
        have hB5 := Lib.hid (bltB hB4.out hB4.out.size hb)
        clear hb hB4
        rw [HT.out]
        go_wp2_with fail
        go_ret
        exact ⟨by rfl, hB5.out⟩
    · rw [if_pos rfl]
      have h2 : addB b a = true := (addB_comm b a).trans hh
      have h3 := subB_back hh
      have h4 := addB_bound hh
      obtain ⟨v, hv⟩ : ∃ v, a + b = v := ⟨_, rfl⟩
      have h5 : v - b = a := by omega
      have h6 : b + a = v := by omega
      rw [hv] at h3
      rw [hv]
      clear hh h4 hv
      go_wp2_with fail
      refine (nsub_any w1 v b).mono ?_
      rintro y w_ ⟨rfl, rfl⟩
      rw [h3, if_pos rfl, h5]
      clear h3 h5
      go_wp2_with fail
      refine (nadd_any w1 b a).mono ?_
      rintro y w_ ⟨rfl, rfl⟩
      rw [h2, if_pos rfl, h6]
      clear h2 h6
      go_wp2_with fail
      refine (ntext_any w1 (HE.out.on hB1.out) a (by omega) (by omega)).mono ?_
      rintro y w2 ⟨rfl, hb⟩
      have hB2 := Lib.hid (bltB hB1.out hB1.out.size hb)
      clear hb hB1
      go_wp2_with fail
      refine (nparse_any w2 (HE.out.on hB2.out) (Lib.itoa a) (-9223372036854775808) 9223372036854775807 (Nat.le_trans (Lib.itoa_length_le a ha0 ha1) (by decide))).mono ?_
      rintro y w3 ⟨rfl, hb⟩
      have hB3 := Lib.hid (bltB hB2.out hB2.out.size hb)
      clear hb hB2
      rw [nB_itoa ha0 ha1, if_pos rfl, (itoa_facts a).2]
      go_wp2_with fail
      refine (nparse_any w3 (HE.out.on hB3.out) s (-9223372036854775808) 9223372036854775807 (by omega)).mono ?_
      rintro y w4 ⟨rfl, hb⟩
      have hB4 := Lib.hid (bltB hB3.out hB3.out.size hb)
      clear hb hB3
      rcases hh : nB s (-9223372036854775808) 9223372036854775807 with _ | _
      · rw [if_neg (by decide)]
        go_wp2_with fail
        go_ret
        exact ⟨by rfl, hB4.out⟩
      · rw [if_pos rfl]
        have HT := Lib.hid (nB_text hh)
        have HR := Lib.hid (nB_range hh)
        obtain ⟨v, hv⟩ : ∃ v, nval s = v := ⟨_, rfl⟩
        rw [hv] at HT HR
        rw [hv]
        clear hv hh
        go_wp2_with fail
        refine (ntext_any w4 (HE.out.on hB4.out) v HR.out.1 HR.out.2).mono ?_
        rintro y w5 ⟨rfl, hb⟩
        have hB5 := Lib.hid (bltB hB4.out hB4.out.size hb)
        clear hb hB4
        rw [HT.out]
        go_wp2_with fail
        go_ret
        exact ⟨by rfl, hB5.out⟩

end Go.Proofs.YtoblhbeeimboaaaDoor
