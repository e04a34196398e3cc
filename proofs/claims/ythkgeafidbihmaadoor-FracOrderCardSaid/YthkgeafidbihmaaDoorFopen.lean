/-
  How the arguments of these laws read: a fraction's two rows of digits, texts, numbers; how they read behind the call; the table that the row lists.
  (post_of_below: after the guide's page of lemmas to copy.)
-/
import Derived.Test.YthkgeafidbihmaaDoorFtxt
import Derived.Test.YthkgeafidbihmaaDoorCards
import Derived.Test.YthkgeafidbihmaaDoorTie
import Derived.ProofKit
import Derived.Deep.Slices
import Derived.ChangeSame
import Derived.ChangeSlices
import Derived.SizedLaws
import Derived.Lib.SmallJoins
import Derived.Lib.LaidTab
import Derived.Deep.DeepHandedRow
import Derived.OpenShut
import Derived.LaidOnce
import Derived.LaidMore
namespace Go.Proofs.YthkgeafidbihmaaDoor
open Go.ChangeShapes Go.WideShapes Go.ChangeAt Go.RowKit Go.Deep
set_option linter.unusedVariables false
set_option linter.unusedSimpArgs false

theorem own : ownKnob Tryd.prog.godebug = none := by kernel_rfl
theorem laidOut : laidOutB Tryd.prog = true := by kernel_rfl
theorem cellsU : Tryd.prog.cellsOf 32 = 1 := by kernel_rfl

section
variable {H : Type} {enc : TypeId × Value → H} {P : Program}
theorem post_of_below {f : Func} {s : ChangeSpec} {apart fresh handsOn again : Bool} {W W' : World} {args : Array Value} {v : Value} {ds gs : List (DataW H)} {before pa pv : List MemPlace}
    (hW : DataW.Whole enc P f.params.toList s.vars apart W args.toList ds gs before)
    (hres : ∀ (b : Nat) (sp : Nat → Bool) (hd : Bool), DataW.TrodAll enc P W' b sp hd f.resultTypes.toList (v.resultList f.resultTypes.size) (s.fn H (ds ++ gs)).results [])
    (hargs : ∀ sp : Nat → Bool, (∀ p ∈ before, sp p.block = true) → DataW.TrodAll enc P W' 0 sp true f.params.toList args.toList (s.fn H (ds ++ gs)).args pa)
    (hvars : ∀ sp : Nat → Bool, (∀ p ∈ before, sp p.block = true) → DataW.TrodVars enc P W' sp s.vars (s.fn H (ds ++ gs)).vars pv)
    (hps : before = pa ++ pv) (hb : Below W.heap.size W W')
    (hok : ∀ (j : Nat) (t : TypeId) (r : Value), f.resultTypes[j]? = some t → (v.resultList f.resultTypes.size)[j]? = some r → Value.okWide P W' .any 0 t r) :
    s.post enc P f apart fresh handsOn again W args v W' := by
  have hlt : ∀ p ∈ before, p.block < W.heap.size := fun p hp => hW.lt p hp
  have hold : ∀ p ∈ before, (fun b => decide (b < W.heap.size)) p.block = true := fun p hp => by simpa using hlt p hp
  refine ⟨ds, gs, before, [], pa, pv, hW, hres _ _ _, hargs _ hold, hvars _ hold, World.keptBut_mono (fun p hp => ⟨hp, ?_⟩) (hb.frame (· ∈ before)), fun _ => ?_⟩
  · rw [hps, List.mem_append] at hp
    exact Or.inr hp
  · obtain ⟨_, _, _, _, _, hz, hn⟩ := hW
    refine ⟨hok, _, _, ([] ++ pa) ++ pv, ⟨[] ++ pa, pv, trodAll_append (hargs _ (fun _ _ => rfl)) (hres _ _ _), hvars _ (fun _ _ => rfl), rfl, ?_, ?_⟩, ?_⟩
    · intro b off hp
      have hin : MemPlace.cell b off ∈ before := by rw [hps]; simpa using hp
      rw [hb.frozen (hlt _ hin)]
      exact hz b off hin
    · intro ha
      have := hn ha
      rw [hps] at this
      simpa using this
    · intro p hp _
      rw [hps]
      simpa using hp
end

section
variable {H : Type} {enc : TypeId × Value → H}

theorem addr_plain {w : World} {a : Addr} {v : Value} (h : w.cell? (a.add 0) = some v) : ∃ b off, a = ⟨b, off, none⟩ ∧ b < w.heap.size := by
  obtain ⟨b, off, vw⟩ := a
  cases vw with
  | some q =>
    exfalso
    simp [Addr.add, World.cell?] at h
    split at h <;> simp at h
  | none =>
    refine ⟨b, off, rfl, ?_⟩
    exact World.block_lt_of_cell? w ⟨b, off, none⟩ (by simpa [Addr.add] using h)

/-- Digits, as they read. -/
theorem open_digsL {w : World} {fuel : Nat} {cs : List Value} {x : DataW H × List MemPlace} (hf : DataW.trod enc Tryd.prog w 0 (fun _ => true) true fuel 22 cs = some x) :
    ∃ A n c l, cs = [.slice A n c] ∧ Rd w w.heap.size A n c l ∧ n ≤ 9223372036854775807 := by
  rcases open_ints Tryd.underlying22 Tryd.underlying32 cellsU hf with ⟨hv, hx⟩ | ⟨a, len, cap, zs, hv, hb, hl, hm, hz, hx, hi, hw⟩
  · exact ⟨none, 0, 0, [], hv, Rd.nil _ _, by omega⟩
  · simp only [if_true] at hz
    have hbd : ∀ z ∈ zs, 0 ≤ z ∧ z < 4294967296 := fun z hz' => by
      have := hw z hz'
      simp [Lit.wf, IntKind.min, IntKind.max, IntKind.signed, IntKind.bits] at this
      omega
    refine ⟨some a, len, cap, (zs.take len).map Int.toNat, hv, ⟨by simp; omega, hl, ?_, fun h0 => ?_⟩, by simp only [maxLen] at hm; omega⟩
    · intro d hd
      obtain ⟨z, hz', rfl⟩ := List.mem_map.1 hd
      have := hbd z (List.mem_of_mem_take hz')
      omega
    · obtain ⟨b, off, rfl, hbl⟩ := addr_plain (hi 0 (by omega))
      refine ⟨b, off, rfl, hbl, fun k hk => ?_⟩
      have h1 := hi k (by omega)
      rw [addr_add] at h1
      rw [h1]
      have e : zs.getD k 0 = (((zs.take len).map Int.toNat).getD k 0 : Nat) := by
        have hzk : zs[k]? = some (zs.getD k 0) := by rw [List.getD_eq_getElem?_getD, List.getElem?_eq_getElem (by omega)]; rfl
        have h2 := hbd (zs.getD k 0) (List.mem_of_getElem? hzk)
        have h3 : ((zs.take len).map Int.toNat)[k]? = some (zs.getD k 0).toNat := by
          rw [List.getElem?_map, List.getElem?_take, if_pos hk, hzk]; rfl
        rw [List.getD_eq_getElem?_getD (l := (zs.take len).map Int.toNat), h3]
        simp only [Option.getD_some]
        omega
      rw [e]

set_option maxRecDepth 100000 in
/-- A fraction, as it reads. -/
theorem open_frac {r : Reach} {b0 : Nat} {w : World} {v : Value} {d : DataW H} {p : List MemPlace} (hv : Value.okWide Tryd.prog w r b0 24 v) (h : DataW.Trod enc Tryd.prog w 0 (fun _ => true) true 24 v d p) :
    ∃ A n c l B m e k, v = .agg #[.slice A n c, .slice B m e] ∧ Rd w w.heap.size A n c l ∧ Rd w w.heap.size B m e k ∧ n ≤ 9223372036854775807 ∧ m ≤ 9223372036854775807 := by
  obtain ⟨v0, v1, y0, y1, n, rfl, _, _, h0, h1⟩ := Go.Joins.open_agg2 Tryd.underlying24 (by kernel_rfl) (by kernel_rfl) hv h
  obtain ⟨A, n', c, l, e0, r0, g0⟩ := open_digsL h0
  obtain ⟨B, m', c', k, e1, r1, g1⟩ := open_digsL h1
  simp only [List.cons.injEq, and_true] at e0 e1
  subst e0 e1
  exact ⟨A, n', c, l, B, m', c', k, rfl, r0, r1, g0, g1⟩

section
variable {W W' : World} {v : Value} {d : DataW H} {ps : List MemPlace} {sp : Nat → Bool}
theorem stays_frac (h : DataW.Trod enc Tryd.prog W 0 (fun _ => true) true 24 v d ps) (hb : Below W.heap.size W W') (hlt : ∀ x ∈ ps, x.block < W.heap.size) (hsp : ∀ x ∈ ps, sp x.block = true) : DataW.Trod enc Tryd.prog W' 0 sp true 24 v d ps :=
  WideElems.Trod_stays laidOut (by kernel_rfl) (of_decide_eq_true (by kernel_rfl)) h (fun x hx => hb.same (hlt x hx)) hsp
theorem stays_u8 (h : DataW.Trod enc Tryd.prog W 0 (fun _ => true) true 5 v d ps) (hb : Below W.heap.size W W') (hlt : ∀ x ∈ ps, x.block < W.heap.size) (hsp : ∀ x ∈ ps, sp x.block = true) : DataW.Trod enc Tryd.prog W' 0 sp true 5 v d ps :=
  WideElems.Trod_stays laidOut (by kernel_rfl) (of_decide_eq_true (by kernel_rfl)) h (fun x hx => hb.same (hlt x hx)) hsp
theorem stays_u32 (h : DataW.Trod enc Tryd.prog W 0 (fun _ => true) true 32 v d ps) (hb : Below W.heap.size W W') (hlt : ∀ x ∈ ps, x.block < W.heap.size) (hsp : ∀ x ∈ ps, sp x.block = true) : DataW.Trod enc Tryd.prog W' 0 sp true 32 v d ps :=
  WideElems.Trod_stays laidOut (by kernel_rfl) (of_decide_eq_true (by kernel_rfl)) h (fun x hx => hb.same (hlt x hx)) hsp
theorem stays_str (h : DataW.Trod enc Tryd.prog W 0 (fun _ => true) true 9 v d ps) (hb : Below W.heap.size W W') (hlt : ∀ x ∈ ps, x.block < W.heap.size) (hsp : ∀ x ∈ ps, sp x.block = true) : DataW.Trod enc Tryd.prog W' 0 sp true 9 v d ps :=
  WideElems.Trod_stays laidOut (by kernel_rfl) (of_decide_eq_true (by kernel_rfl)) h (fun x hx => hb.same (hlt x hx)) hsp
end
end

abbrev laidL : List (String × DataW Unit) := [("math/bits.deBruijn32tab", Rows.laid_math_bits_deBruijn32tab), ("math/bits.deBruijn64tab", Rows.laid_math_bits_deBruijn64tab), ("internal/strconv.uint64pow10", Rows.laid_internal_strconv_uint64pow10)]

theorem gTab : Tryd.prog.globalNamed "internal/strconv.uint64pow10" = some 1 := by kernel_rfl
theorem gTabType : (Tryd.prog.globals[1]?).map (·.type) = some 113 := by kernel_rfl
theorem cells20 : Tryd.prog.cellsOf 113 = 20 := by kernel_rfl
theorem cells64 : Tryd.prog.cellsOf 34 = 1 := by kernel_rfl

theorem tab_of_laid {W : World} (h : laidMetH Tryd.prog laidL W) : Tab W := by
  have h1 := h.filter (fun x => x.1 == "internal/strconv.uint64pow10")
  have h2 : Lib.TabIs Tryd.prog W "internal/strconv.uint64pow10" .u64 Lib.pow10Tab := Lib.tabIs_of_head (rest := []) gTab gTabType Tryd.underlying113 Tryd.underlying34 cells64 cells20 h1
  exact Lib.tabBelow_of_tabIs h2

theorem door_met (os : Os) (args : Array Value) : laidMetH Tryd.prog laidL ((World.doorLaid Tryd.prog 24 os).forCall (fun _ _ => 0) ⟨#[], args, []⟩).memory :=
  laidMet_of_run' 8 (by kernel_rfl) (by kernel_rfl)

end Go.Proofs.YthkgeafidbihmaaDoor
