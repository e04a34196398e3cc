/-
  How the arguments of these laws read: texts, numbers; how they read behind the call; the table and the errors that the row lists.
  (post_of_below: after the guide's page of lemmas to copy.)
-/
import Derived.Test.YtoblhbeeimboaaaDoorNfact
import Derived.Test.YtoblhbeeimboaaaDoorCards
import Derived.Test.YtoblhbeeimboaaaDoorTie
import Derived.ProofKit
import Derived.Deep.Slices
import Derived.ChangeSame
import Derived.ChangeSlices
import Derived.SizedLaws
import Derived.Lib.SmallJoins
import Derived.Lib.LaidTab
import Derived.Deep.DeepHandedRow
import Derived.OpenShut
import Derived.LaidOnce
import Derived.LaidMore
import Derived.Stop.LaidErr
namespace Go.Proofs.YtoblhbeeimboaaaDoor
open Go.ChangeShapes Go.WideShapes Go.ChangeAt Go.RowKit Go.Deep
set_option linter.unusedVariables false
set_option linter.unusedSimpArgs false

theorem own : ownKnob Tryd.prog.godebug = none := by kernel_rfl
theorem laidOut : laidOutB Tryd.prog = true := by kernel_rfl

section
variable {H : Type} {enc : TypeId × Value → H} {P : Program}
theorem post_of_below {f : Func} {s : ChangeSpec} {apart fresh handsOn again : Bool} {W W' : World} {args : Array Value} {v : Value} {ds gs : List (DataW H)} {before pa pv : List MemPlace}
    (hW : DataW.Whole enc P f.params.toList s.vars apart W args.toList ds gs before)
    (hres : ∀ (b : Nat) (sp : Nat → Bool) (hd : Bool), DataW.TrodAll enc P W' b sp hd f.resultTypes.toList (v.resultList f.resultTypes.size) (s.fn H (ds ++ gs)).results [])
    (hargs : ∀ sp : Nat → Bool, (∀ p ∈ before, sp p.block = true) → DataW.TrodAll enc P W' 0 sp true f.params.toList args.toList (s.fn H (ds ++ gs)).args pa)
    (hvars : ∀ sp : Nat → Bool, (∀ p ∈ before, sp p.block = true) → DataW.TrodVars enc P W' sp s.vars (s.fn H (ds ++ gs)).vars pv)
    (hps : before = pa ++ pv) (hb : Below W.heap.size W W')
    (hok : ∀ (j : Nat) (t : TypeId) (r : Value), f.resultTypes[j]? = some t → (v.resultList f.resultTypes.size)[j]? = some r → Value.okWide P W' .any 0 t r) :
    s.post enc P f apart fresh handsOn again W args v W' := by
  have hlt : ∀ p ∈ before, p.block < W.heap.size := fun p hp => hW.lt p hp
  have hold : ∀ p ∈ before, (fun b => decide (b < W.heap.size)) p.block = true := fun p hp => by simpa using hlt p hp
  refine ⟨ds, gs, before, [], pa, pv, hW, hres _ _ _, hargs _ hold, hvars _ hold, World.keptBut_mono (fun p hp => ⟨hp, ?_⟩) (hb.frame (· ∈ before)), fun _ => ?_⟩
  · rw [hps, List.mem_append] at hp
    exact Or.inr hp
  · obtain ⟨_, _, _, _, _, hz, hn⟩ := hW
    refine ⟨hok, _, _, ([] ++ pa) ++ pv, ⟨[] ++ pa, pv, trodAll_append (hargs _ (fun _ _ => rfl)) (hres _ _ _), hvars _ (fun _ _ => rfl), rfl, ?_, ?_⟩, ?_⟩
    · intro b off hp
      have hin : MemPlace.cell b off ∈ before := by rw [hps]; simpa using hp
      rw [hb.frozen (hlt _ hin)]
      exact hz b off hin
    · intro ha
      have := hn ha
      rw [hps] at this
      simpa using this
    · intro p hp _
      rw [hps]
      simpa using hp
end

section
variable {H : Type} {enc : TypeId × Value → H} {W W' : World} {v : Value} {d : DataW H} {ps : List MemPlace} {sp : Nat → Bool}
theorem stays_int (h : DataW.Trod enc Tryd.prog W 0 (fun _ => true) true 3 v d ps) (hb : Below W.heap.size W W') (hlt : ∀ x ∈ ps, x.block < W.heap.size) (hsp : ∀ x ∈ ps, sp x.block = true) : DataW.Trod enc Tryd.prog W' 0 sp true 3 v d ps :=
  WideElems.Trod_stays laidOut (by kernel_rfl) (of_decide_eq_true (by kernel_rfl)) h (fun x hx => hb.same (hlt x hx)) hsp
theorem stays_str (h : DataW.Trod enc Tryd.prog W 0 (fun _ => true) true 9 v d ps) (hb : Below W.heap.size W W') (hlt : ∀ x ∈ ps, x.block < W.heap.size) (hsp : ∀ x ∈ ps, sp x.block = true) : DataW.Trod enc Tryd.prog W' 0 sp true 9 v d ps :=
  WideElems.Trod_stays laidOut (by kernel_rfl) (of_decide_eq_true (by kernel_rfl)) h (fun x hx => hb.same (hlt x hx)) hsp
end

abbrev laidL : List (String × DataW Unit) := [("math/bits.deBruijn32tab", Rows.laid_math_bits_deBruijn32tab), ("math/bits.deBruijn64tab", Rows.laid_math_bits_deBruijn64tab), ("internal/strconv.uint64pow10", Rows.laid_internal_strconv_uint64pow10), ("strconv.ErrRange", Rows.laid_strconv_ErrRange), ("strconv.ErrSyntax", Rows.laid_strconv_ErrSyntax)]

theorem nTab : Tryd.prog.globalNamed "internal/strconv.uint64pow10" = some 4 := by kernel_rfl
theorem gTabType : (Tryd.prog.globals[4]?).map (·.type) = some 75 := by kernel_rfl
theorem cells20 : Tryd.prog.cellsOf 75 = 20 := by kernel_rfl
theorem cells64 : Tryd.prog.cellsOf 42 = 1 := by kernel_rfl
theorem cellsE : Tryd.prog.cellsOf 72 = 1 := by kernel_rfl
theorem cellsS : Tryd.prog.cellsOf 9 = 1 := by kernel_rfl
theorem gErr : Tryd.prog.globalNamed "strconv.ErrRange" = some 3 := by kernel_rfl
theorem gErrType : (Tryd.prog.globals[3]?).map (·.type) = some 38 := by kernel_rfl
theorem star : "*" ++ "errors.errorString" = "*errors.errorString" := by decide
theorem rowE (u : TypeId) (h : Tryd.prog.typeName? 3 u = some "*errors.errorString") : u = 70 :=
  typeName_ptr_named (nm := "errors.errorString") (by rw [star]; kernel_rfl) (by kernel_rfl) (by decide) u (by rw [star]; exact h)

theorem env_of_laid {W : World} (h : laidMetH Tryd.prog laidL W) : Env W := by
  have h1 := h.filter (fun x => x.1 == "internal/strconv.uint64pow10")
  have h2 : Lib.TabIs Tryd.prog W "internal/strconv.uint64pow10" .u64 Lib.pow10Tab := Lib.tabIs_of_head (rest := []) nTab gTabType Tryd.underlying75 Tryd.underlying42 cells64 cells20 h1
  refine ⟨Lib.tabBelow_of_tabIs h2, ?_⟩
  have h3 := h.filter (fun x => x.1 == "strconv.ErrRange")
  obtain ⟨a0, s0, hv0, _, _, _⟩ := laid_sentinel (r := []) h3 gErr gErrType Tryd.underlying38 rowE Tryd.underlying70 Tryd.underlying72 rfl rfl Tryd.underlying9 cellsE cellsS
  exact ⟨_, _, by simpa using World.var?_cell gErr hv0 0⟩

theorem door_met (os : Os) (args : Array Value) : laidMetH Tryd.prog laidL ((World.doorLaid Tryd.prog 600 os).forCall (fun _ _ => 0) ⟨#[], args, []⟩).memory :=
  laidMet_of_run' 8 (by kernel_rfl) (by kernel_rfl)

end Go.Proofs.YtoblhbeeimboaaaDoor
