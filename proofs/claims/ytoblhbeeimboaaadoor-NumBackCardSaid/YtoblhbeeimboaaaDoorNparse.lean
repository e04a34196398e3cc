/-
  num.Text, num.Parse.
-/
import Derived.Test.YtoblhbeeimboaaaDoorNplain
import Derived.Lib.AppendIntMem
import Derived.Lib.AtoiErrMem
namespace Go.Proofs.YtoblhbeeimboaaaDoor
open Go.RowKit Go.Shelf
set_option linter.unusedVariables false
set_option linter.unusedSimpArgs false

/-- What the library's variables hold that these laws read. -/
abbrev Tab (w : World) : Prop := Lib.TabBelow Tryd.prog w.heap.size w "internal/strconv.uint64pow10" .u64 Lib.pow10Tab
structure Env (w : World) : Prop where
  tab : Tab w
  err : ∃ te pe, w.cell? ⟨3, 0, none⟩ = some (.iface te pe)
theorem Env.on {w w' : World} (h : Env w) (hb : Below w.heap.size w w') : Env w' := by
  refine ⟨fun w2 h2 => h.tab w2 (hb.trans (h2.mono hb.size)), ?_⟩
  obtain ⟨te, pe, hc⟩ := h.err
  exact ⟨te, pe, (hb.cell (p := ⟨3, 0, none⟩) (World.block_lt_of_cell? w ⟨3, 0, none⟩ hc)).trans hc⟩

theorem itoa_any (w : World) (hE : Env w) (n : Int) (h0 : -9223372036854775808 ≤ n) (h1 : n ≤ 9223372036854775807) : Calls Tryd.prog 27 #[.int .i64 n] w fun e w' => e = .returned (.string ⟨(Lib.itoa n).toArray⟩) ∧ Below w.heap.size w w' :=
  (Tryd.strconv_Itoa n h0 h1 w hE.tab.here).mono fun e w' ⟨he, k, os, hw⟩ => ⟨he, by rw [hw]; exact Lib.below_grow _ _ (Nat.le_refl _) _ _⟩

theorem ntext_any (w : World) (hE : Env w) (n : Int) (h0 : -9223372036854775808 ≤ n) (h1 : n ≤ 9223372036854775807) : Calls Tryd.prog 18 #[.int .i64 n] w fun e w' => e = .returned (.string ⟨(Lib.itoa n).toArray⟩) ∧ Below w.heap.size w w' := by
  have HE := Lib.hid hE
  clear hE
  go_enter Tryd.func18, Tryd.ntmps18
  go_wp2_with fail
  refine (itoa_any w HE.out n h0 h1).mono ?_
  rintro e w' ⟨rfl, hb⟩
  go_wp2_with fail
  go_ret
  exact ⟨rfl, hb⟩

/-- Is a text a number's, from low to high? -/
def nB (l : List UInt8) (low high : Int) : Bool := fineB (nD l) l && (nfit l && (decide (low ≤ nval l) && decide (nval l ≤ high)))

set_option maxRecDepth 100000 in
theorem nparse_any (w : World) (hE : Env w) (l : List UInt8) (low high : Int) (hl : l.length ≤ 200) :
    Calls Tryd.prog 16 #[.string ⟨l.toArray⟩, .int .i64 low, .int .i64 high] w (RetB w (nB l low high) (nval l)) := by
  have HE := Lib.hid hE
  clear hE
  obtain ⟨D, hD⟩ : ∃ D, nD l = D := ⟨_, rfl⟩
  have hDl : D.length ≤ 200 := by
    rw [← hD]
    unfold nD Lib.trimPrefix
    split
    · simp; omega
    · exact hl
  go_enter Tryd.func16, Tryd.ntmps16
  go_wp2_with fail
  refine (Tryd.strings_TrimPrefix _ _ _).mono ?_
  rintro e w' ⟨rfl, rfl⟩
  rw [show (⟨l.toArray⟩ : ByteArray).data.toList = l by simp, show Lib.trimPrefix l (⟨#[45]⟩ : ByteArray).data.toList = D from hD]
  go_wp2_with fail
  obtain ⟨w2, hw2⟩ : ∃ W, W = (w.alloc (.cells #[.string ⟨l.toArray⟩] 9)).alloc (.cells #[.string ⟨D.toArray⟩] 9) := ⟨_, rfl⟩
  have hb2 : Below w.heap.size w w2 := by rw [hw2]; exact ((Below.refl _ _).alloc (Nat.le_refl _) _).alloc (by simp) _
  have kS : Blk w2 w.heap.size 9 #[.string ⟨l.toArray⟩] := by rw [hw2]; exact (Blk.new w _ _).alloc _
  have kD : Blk w2 (w.heap.size + 1) 9 #[.string ⟨D.toArray⟩] := by
    rw [hw2]
    have := Blk.new (w.alloc (.cells #[.string ⟨l.toArray⟩] 9)) 9 #[.string ⟨D.toArray⟩]
    rw [World.size_alloc] at this
    exact this
  rw [← hw2]
  clear hw2
  refine (fine_any w2 (w.heap.size + 1) w.heap.size D l (kD.cell 0) (kS.cell 0) kD.lt kS.lt hDl).mono ?_
  rintro e w3 ⟨rfl, hb⟩
  have hb3 := bltB hb2 hb2.size hb
  replace kS := kS.below hb kS.lt
  clear hb kD hb2
  rcases hf : fineB D l with _ | _
  · have HF : Hid (nB l low high = false) := Lib.hid (by unfold nB; rw [hD, hf]; rfl)
    clear hf
    go_wp2_with fail
    go_ret2
    exact ⟨by rw [HF.out]; rfl, hb3⟩
  · have hA := atoi_fine (l := l) (by rw [hD]; exact hf)
    have q0 := kS.cell 0
    have HO : Hid (nB l low high = (nfit l && (decide (low ≤ nval l) && decide (nval l ≤ high)))) := Lib.hid (by unfold nB; rw [hD, hf]; rfl)
    clear hf
    rcases hfit : nfit l with _ | _
    · rw [hfit, if_neg (by decide)] at hA
      have HA := Lib.hid hA
      have HF : Hid (nB l low high = false) := Lib.hid (by rw [HO.out, hfit]; rfl)
      clear hA hfit
      go_wp2_with fail
      obtain ⟨te, pe, hE⟩ := (HE.out.on hb3).err
      refine (Tryd.strconv_Atoi_range ⟨l.toArray⟩ (by show l.length ≤ _; omega) (by rw [show (⟨l.toArray⟩ : ByteArray).data.toList = l by simp]; exact HA.out) (.iface te pe) w3 hE (Or.inr ⟨te, pe, rfl⟩)).mono ?_
      rintro e w4 ⟨N, rfl, _, _, hb⟩
      have hb4 := Lib.hid (bltB hb3 hb3.size hb)
      clear hb hb3 q0
      go_wp2_with fail
      go_ret2
      exact ⟨by rw [HF.out]; rfl, hb4.out⟩
    · rw [hfit, if_pos rfl] at hA
      have HA := Lib.hid hA
      obtain ⟨v, hv⟩ : ∃ v, nval l = v := ⟨_, rfl⟩
      rw [hfit, hv] at HO
      have HV := Lib.hid hv
      clear hA hfit hv
      go_wp2_with fail
      refine (Tryd.strconv_Atoi_ok ⟨l.toArray⟩ (by show l.length ≤ _; omega) (nval l) (by rw [show (⟨l.toArray⟩ : ByteArray).data.toList = l by simp]; exact HA.out) w3).mono ?_
      rintro e w4 ⟨rfl, hor⟩
      have hb : Below w3.heap.size w3 w4 := by
        rcases hor with rfl | ⟨t, rfl⟩
        · exact Below.refl _ _
        · exact Lib.bytesWorld_below w3 _ t
      have hb4 := Lib.hid (bltB hb3 hb3.size hb)
      rw [HV.out]
      clear hb hb3 hor
      by_cases h1 : v < low
      · have HF : Hid (nB l low high = false) := Lib.hid (by rw [HO.out, decide_eq_false (by omega : ¬ low ≤ v)]; rfl)
        go_wp2_with fail
        go_ret2
        exact ⟨by rw [HF.out]; rfl, hb4.out⟩
      · by_cases h2 : high < v
        · have HF : Hid (nB l low high = false) := Lib.hid (by rw [HO.out, decide_eq_false (by omega : ¬ v ≤ high)]; simp)
          go_wp2_with fail
          go_ret2
          exact ⟨by rw [HF.out]; rfl, hb4.out⟩
        · have HF : Hid (nB l low high = true) := Lib.hid (by rw [HO.out, decide_eq_true (by omega : low ≤ v), decide_eq_true (by omega : v ≤ high)]; rfl)
          go_wp2_with fail
          go_ret2
          exact ⟨by rw [HF.out, HV.out]; rfl, hb4.out⟩

end Go.Proofs.YtoblhbeeimboaaaDoor
