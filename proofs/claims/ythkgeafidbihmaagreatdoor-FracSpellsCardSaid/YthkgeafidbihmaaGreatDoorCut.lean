/-
  strings.Cut at a separator of one byte.
-/
import Derived.Test.YthkgeafidbihmaaGreatDoorShelf
import Derived.Test.YthkgeafidbihmaaGreatDoorMem
import Derived.Lib.CutLaws
namespace Go.Proofs.YthkgeafidbihmaaGreatDoor
open Go.RowKit Go.Shelf
set_option linter.unusedVariables false
set_option linter.unusedSimpArgs false

set_option maxRecDepth 100000 in
theorem cut_any (w : World) (s : ByteArray) (c : UInt8) (hs : s.size ≤ 4294967296) :
    Calls Tryz.prog 43 #[.string s, .string ⟨#[c]⟩] w fun e w' => e = .returned (.tuple #[.string ⟨(Lib.cut s.data.toList [c]).1.toArray⟩, .string ⟨(Lib.cut s.data.toList [c]).2.1.toArray⟩, .bool (Lib.cut s.data.toList [c]).2.2]) ∧ Below w.heap.size w w' := by
  rcases Lib.indexB_cases s ⟨#[c]⟩ with hix | ⟨i, hix, hroom⟩
  · obtain ⟨e1, e2, e3⟩ := Lib.cutB_miss s ⟨#[c]⟩ hix
    have e1 : (⟨(Lib.cut s.data.toList [c]).1.toArray⟩ : ByteArray) = s := e1
    have e2 : (⟨(Lib.cut s.data.toList [c]).2.1.toArray⟩ : ByteArray) = ByteArray.empty := e2
    have e3 : (Lib.cut s.data.toList [c]).2.2 = false := e3
    have hI : Lib.indexByte s.data.toList c = -1 := (Lib.index_one _ _).symm.trans hix
    rw [e1, e2, e3]
    clear hix e1 e2 e3
    go_enter Tryz.func43, Tryz.ntmps43
    go_wp2_with fail
    refine (Tryz.stringslite_Index_one _ _ _).mono ?_
    rintro e w' ⟨rfl, rfl⟩
    rw [hI]
    clear hI
    go_wp2_with fail
    go_ret3
    exact ⟨rfl, Below.refl _ _⟩
  · obtain ⟨e1, e2, e3⟩ := Lib.cutB_hit s ⟨#[c]⟩ i hix
    have e1 : (⟨(Lib.cut s.data.toList [c]).1.toArray⟩ : ByteArray) = s.extract 0 i := e1
    have e2 : (⟨(Lib.cut s.data.toList [c]).2.1.toArray⟩ : ByteArray) = s.extract (i + 1) s.size := e2
    have e3 : (Lib.cut s.data.toList [c]).2.2 = true := e3
    have hI : Lib.indexByte s.data.toList c = i := (Lib.index_one _ _).symm.trans hix
    have hroom : i + 1 ≤ s.size := hroom
    rw [e1, e2, e3]
    clear hix e1 e2 e3
    have c1 : (0 : Int) ≤ ↑i := by omega
    have c2 : (↑i : Int) ≤ ↑s.size := by omega
    have c3 : (0 : Int) ≤ ↑i + 1 := by omega
    have c4 : (↑i + 1 : Int) ≤ ↑s.size := by omega
    have c5 : ((i : Int) + 1).toNat = i + 1 := by omega
    have c6 : IntKind.i64.wrap ((i : Int) + 1) = (i : Int) + 1 := IntWalk.i64_in _ (by omega)
    go_enter Tryz.func43, Tryz.ntmps43
    go_wp2_with fail
    refine (Tryz.stringslite_Index_one _ _ _).mono ?_
    rintro e w' ⟨rfl, rfl⟩
    rw [hI]
    clear hI
    go_wp2_with fail
    go_region
    go_wp2_with fail
    go_ret3
    exact ⟨rfl, (Below.refl _ _).drew⟩

set_option maxRecDepth 100000 in
theorem scut_any (w : World) (s : ByteArray) (c : UInt8) (hs : s.size ≤ 4294967296) :
    Calls Tryz.prog 20 #[.string s, .string ⟨#[c]⟩] w fun e w' => e = .returned (.tuple #[.string ⟨(Lib.cut s.data.toList [c]).1.toArray⟩, .string ⟨(Lib.cut s.data.toList [c]).2.1.toArray⟩, .bool (Lib.cut s.data.toList [c]).2.2]) ∧ Below w.heap.size w w' := by
  go_enter Tryz.func20, Tryz.ntmps20
  go_wp2_with fail
  refine (cut_any _ _ _ hs).mono ?_
  rintro e w' ⟨rfl, hb⟩
  go_wp2_with fail
  go_ret3
  exact ⟨rfl, hb⟩

end Go.Proofs.YthkgeafidbihmaaGreatDoor
