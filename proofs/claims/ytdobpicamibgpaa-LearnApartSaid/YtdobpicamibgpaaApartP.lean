/-
  What the walk of LearnApart leans on.
-/
import Derived.Test.YtdobpicamibgpaaActs2
namespace Go.Proofs.Ytdobpicamibgpaa
open Go.RowKit Go.Maps Go.Shelf
set_option linter.unusedVariables false
set_option linter.unusedSimpArgs false

theorem and_one_i64 (c : Int) : bits BinOp.and IntKind.i64 c 1 = c % 2 := by
  show IntKind.i64.wrap ((BitVec.ofInt 64 c &&& BitVec.ofInt 64 1).toNat : Int) = _
  have h1 : (BitVec.ofInt 64 1).toNat = 1 := by decide
  rw [BitVec.toNat_and, h1, Nat.and_one_is_mod, BitVec.toNat_ofInt]
  have h2 : (((c % ((2 ^ 64 : Nat) : Int)).toNat % 2 : Nat) : Int) = c % 2 := by omega
  rw [h2]
  exact IntWalk.i64_in _ (by omega)

/-- The notes of the acts that are no fading. -/
def Fd (l : List Av) : Notes := (acs l).foldl doA []
theorem Fd_good (l : List Av) : Good (Fd l) := Good.nil.foldA _
theorem Fd_step (l : List Av) (k : Nat) (a : Av) (h : l[k]? = some a) : Fd (l.take (k + 1)) = doA (Fd (l.take k)) a.ac := by
  unfold Fd acs
  rw [List.take_add_one, h]
  simp

/-- Those of even channels, then those of odd ones. -/
def Fo (l : List Av) : Nat → Notes
  | 0 => []
  | j + 1 => (acs l).foldl (doO j) (Fo l j)
theorem Fo_good (l : List Av) : ∀ j, Good (Fo l j)
  | 0 => Good.nil
  | j + 1 => (Fo_good l j).foldO _ _
def Fi (l : List Av) (j k : Nat) : Notes := (acs (l.take k)).foldl (doO j) (Fo l j)
theorem Fi_good (l : List Av) (j k : Nat) : Good (Fi l j k) := (Fo_good l j).foldO _ _
theorem Fi_step (l : List Av) (j k : Nat) (a : Av) (h : l[k]? = some a) : Fi l j (k + 1) = doO j (Fi l j k) a.ac := by
  unfold Fi acs
  rw [List.take_add_one, h]
  simp
theorem Fi_zero (l : List Av) (j : Nat) : Fi l j 0 = Fo l j := by unfold Fi acs; simp
theorem Fi_all (l : List Av) (j : Nat) {n : Nat} (h : l.length = n) : Fi l j n = Fo l (j + 1) := by
  unfold Fi
  rw [List.take_of_length_le (by omega)]
  rfl

theorem Fo_cnt (l : List Av) (k : Int × Int) (r : Int) : cnt (Fo l 2) k r = cnt (Fd l) k r := (apart_cnt (acs l) k r).symm
theorem Fo_len (l : List Av) : (Fo l 2).length = (Fd l).length := (apart_len (acs l)).symm
theorem Fo_bnd (l : List Av) (e : E4) : bnd (Fo l 2) e = bnd (Fd l) e := by
  unfold bnd; rw [Fo_cnt]
theorem Fo_oN (l : List Av) (e : E4) (x : Int) : oN (Fo l 2) e x = oN (Fd l) e x := by
  unfold oN oddN; rw [Fo_cnt]
theorem Fo_oD (l : List Av) (e : E4) : oD (Fo l 2) e = oD (Fd l) e := by
  unfold oD oddD; rw [Fo_cnt]

theorem doA_in {L : Notes} {a : Ac} (h1 : 1 ≤ a.d) (h2 : a.d ≤ 3) : doA L a = doL L a := by
  unfold doA isAct; rw [if_pos (by simp [h1, h2])]
theorem doA_out {L : Notes} {a : Ac} (h : ¬ (1 ≤ a.d ∧ a.d ≤ 3)) : doA L a = L := by
  unfold doA isAct; rw [if_neg (by simpa using h)]
theorem doO_in {o : Int} {L : Notes} {a : Ac} (h1 : 1 ≤ a.d) (h2 : a.d ≤ 3) (h3 : a.e.c % 2 = o) : doO o L a = doL L a := by
  unfold doO isAct; rw [if_pos (by simp [h1, h2, h3])]
theorem doO_out {o : Int} {L : Notes} {a : Ac} (h : ¬ ((1 ≤ a.d ∧ a.d ≤ 3) ∧ a.e.c % 2 = o)) : doO o L a = L := by
  unfold doO isAct; rw [if_neg (by simpa using h)]

end Go.Proofs.Ytdobpicamibgpaa
