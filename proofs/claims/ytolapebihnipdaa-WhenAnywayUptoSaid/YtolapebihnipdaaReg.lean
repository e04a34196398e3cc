/-
  The region of a race in which a block comes: where its party looks for the transaction.
-/
import Derived.Test.YtolapebihnipdaaRace
import Derived.Test.YtolapebihnipdaaApp
import Derived.Test.YtolapebihnipdaaOrd
namespace Go.Proofs.Ytolapebihnipdaa
open Go.RowKit
set_option linter.unusedVariables false
attribute [local go_sem ↓] Go.wp_at_zero Go.wp_at_succ wp_append_ok

def regionOf (k : Nat) : Code → Option Code
  | .region i ops d => if i = k then some (.region i ops d) else none
  | .loop c => regionOf k c
  | .seq a b => match regionOf k a with
    | some c => some c
    | none => regionOf k b
  | .block _ c => regionOf k c
  | .scope c => regionOf k c
  | .cond _ a b => match regionOf k a with
    | some c => some c
    | none => regionOf k b
  | _ => none
noncomputable def reg15 : Code := ((Try.f22.body.bind (regionOf 15)).getD .skip)

set_option maxRecDepth 100000 in
set_option maxHeartbeats 1000000 in
theorem reg15_call (Q : Exit → Act → World → Prop) (hQp : ∀ (c : List PanicEntry) (a : Act) (d : Option Tmp) (v : Value) (w : World), Q (.panic c) (a.put d v) w → Q (.panic c) a w) (base g m c : Nat) (fr op at_ : Int) (A : Option Addr) (wr w2 : World) (b : Bool) {u2 u3 u4 u5 u6 u7 u9 u10 u11 u14 u15 u16 u17 u18 u19 u20 u21 u22 u23 u24 u25 u26 u27 u28 u29 u30 u31 u32 u33 u34 u35 u36 u37 u38 u39 u40 u41 u42 u43 u44 u45 u46 u47 u48 u49 u50 u51 u52 u53 u54 u55 u56 u57 u58 u59 u60 u61 u62 u63 u64 u65 u66 u67 u68 u69 u70 u71 u72 u73 u74 u75 u76 u77 u78 u79 u80 u81 u82 u83 u84 u85 u86 u87 u88 u89 u90 u91 u92 u93 u94 u95 u96 u97 u98 u99 u100 u101 u102 u103 u104 u105 u106 u107 u108 u109 u110 u111 u112 u113 u114 u115 u116 u117 u118 u119 : Value}
    (hrc : Rc wr g fr op (.slice A m c) true) (hhas : Has wr base fr at_ A m c) (hf0 : 0 ≤ fr) (hf1 : fr ≤ 2097152) (hm : m ≤ 2000000) (hop : decide (op ≤ fr + (m : Int) + 1) = true) (hb : (at_ == 0) = b) (nv : Value)
    (hap1 : AppOk Try.prog 41 41 (.slice A m c) (.slice (some ⟨wr.heap.size, 0, none⟩) 1 1) (wr.alloc (.cells #[.bool b] 4)).drew) (hap2 : appV Try.prog 41 41 (.slice A m c) (.slice (some ⟨wr.heap.size, 0, none⟩) 1 1) (wr.alloc (.cells #[.bool b] 4)).drew = nv) (hap3 : appW Try.prog 41 41 (.slice A m c) (.slice (some ⟨wr.heap.size, 0, none⟩) 1 1) (wr.alloc (.cells #[.bool b] 4)).drew = w2)
    (hnv : ∃ X Y Z, nv = .slice X Y Z) (s2 : w2.cell? ⟨g, 2, none⟩ = some (.slice A m c)) (s3 : w2.cell? ⟨g, 3, none⟩ = some (.bool true)) (sf2 : w2.frozen? ⟨g, 2, none⟩ = false)
    (hq : ∀ v78 v79 v80 v81 v82 v83 v84 v85 v86 v87 v88 v89 v90 v91 v92 v93 v94 v95 v96 v97 v98 v99 v100 v101 v102 v103 v104 : Value, Q .normal ⟨#[.int .i64 fr, .int .i64 op, u2, u3, u4, u5, u6, u7, .pointer (some ⟨g, 0, none⟩), u9, u10, u11, .bool false, .int .i64 (fr + m + 1), u14, u15, u16, u17, u18, u19, u20, u21, u22, u23, u24, u25, u26, u27, u28, u29, u30, u31, u32, u33, u34, u35, u36, u37, u38, u39, u40, u41, u42, u43, u44, u45, u46, u47, u48, u49, u50, u51, u52, u53, u54, u55, u56, u57, u58, u59, u60, u61, u62, u63, u64, u65, u66, u67, u68, u69, u70, u71, u72, u73, u74, u75, u76, u77, v78, v79, v80, v81, v82, v83, v84, v85, v86, v87, v88, v89, v90, v91, v92, v93, v94, v95, v96, v97, v98, v99, v100, v101, v102, v103, v104, u105, u106, u107, u108, u109, u110, u111, u112, u113, u114, u115, u116, u117, u118, u119], []⟩ (w2.setCell ⟨g, 2, none⟩ nv)) :
    Code.wp Try.prog reg15 Q ⟨#[.int .i64 fr, .int .i64 op, u2, u3, u4, u5, u6, u7, .pointer (some ⟨g, 0, none⟩), u9, u10, u11, .bool false, .int .i64 (fr + m + 1), u14, u15, u16, u17, u18, u19, u20, u21, u22, u23, u24, u25, u26, u27, u28, u29, u30, u31, u32, u33, u34, u35, u36, u37, u38, u39, u40, u41, u42, u43, u44, u45, u46, u47, u48, u49, u50, u51, u52, u53, u54, u55, u56, u57, u58, u59, u60, u61, u62, u63, u64, u65, u66, u67, u68, u69, u70, u71, u72, u73, u74, u75, u76, u77, u78, u79, u80, u81, u82, u83, u84, u85, u86, u87, u88, u89, u90, u91, u92, u93, u94, u95, u96, u97, u98, u99, u100, u101, u102, u103, u104, u105, u106, u107, u108, u109, u110, u111, u112, u113, u114, u115, u116, u117, u118, u119], []⟩ wr := by
  conv => arg 2; whnf
  have r2 := blk_cell hrc 2
  have r3 := blk_cell hrc 3
  simp at r2 r3
  have HRC := Lib.hid hrc
  have HHAS := Lib.hid hhas
  clear hrc hhas
  refine ord_begin 27 (fun w' => w'.cell? ⟨g, 2, none⟩ = some (.slice A m c) ∧ w'.cell? ⟨g, 3, none⟩ = some (.bool true)) (by kernel_rfl) ?_
  have hS : wr.drew.cell? ⟨g, 2, none⟩ = some (.slice A m c) ∧ wr.drew.cell? ⟨g, 3, none⟩ = some (.bool true) := ⟨r2, r3⟩
  refine ord_take (i := 0) (v := ?_) (by kernel_rfl) rfl (by decide) (by decide +kernel) (by decide +kernel) (fun c a w h => hQp c a _ _ w h) (Or.inl ⟨by kernel_rfl, ?_⟩) hS ?_
  rotate_left
  · intro wz hz; (try dsimp only at hz); go_simp; (try with_reducible rfl)
  simp only [Act.put]
  refine ord_take (i := 1) (v := ?_) (by kernel_rfl) rfl (by decide) (by decide +kernel) (by decide +kernel) (fun c a w h => hQp c a _ _ w h) (Or.inl ⟨by kernel_rfl, ?_⟩) hS ?_
  rotate_left
  · intro wz hz; (try dsimp only at hz); go_simp; (try with_reducible rfl)
  simp only [Act.put]
  refine ord_take (i := 2) (v := ?_) (by kernel_rfl) rfl (by decide) (by decide +kernel) (by decide +kernel) (fun c a w h => hQp c a _ _ w h) (Or.inl ⟨by kernel_rfl, ?_⟩) hS ?_
  rotate_left
  · intro wz hz; (try dsimp only at hz); go_simp; (try with_reducible rfl)
  simp only [Act.put]
  refine ord_take (i := 3) (v := ?_) (by kernel_rfl) rfl (by decide) (by decide +kernel) (by decide +kernel) (fun c a w h => hQp c a _ _ w h) (Or.inl ⟨by kernel_rfl, ?_⟩) hS ?_
  rotate_left
  · intro wz hz; (try dsimp only at hz); go_simp; (try with_reducible rfl)
  simp only [Act.put]
  refine ord_take (i := 4) (v := ?_) (by kernel_rfl) rfl (by decide) (by decide +kernel) (by decide +kernel) (fun c a w h => hQp c a _ _ w h) (Or.inl ⟨by kernel_rfl, ?_⟩) hS ?_
  rotate_left
  · intro wz hz; (try dsimp only at hz); go_simp; (try with_reducible rfl)
  simp only [Act.put]
  refine ord_take (i := 5) (v := ?_) (by kernel_rfl) rfl (by decide) (by decide +kernel) (by decide +kernel) (fun c a w h => hQp c a _ _ w h) (Or.inl ⟨by kernel_rfl, ?_⟩) hS ?_
  rotate_left
  · intro wz hz; (try dsimp only at hz); go_simp; (try with_reducible rfl)
  simp only [Act.put]
  refine ord_take (i := 6) (v := ?_) (by kernel_rfl) rfl (by decide) (by decide +kernel) (by decide +kernel) (fun c a w h => hQp c a _ _ w h) (Or.inl ⟨by kernel_rfl, ?_⟩) hS ?_
  rotate_left
  · intro wz hz; (try dsimp only at hz); go_simp; (try with_reducible rfl)
  simp only [Act.put]
  refine ord_take (i := 7) (v := ?_) (by kernel_rfl) rfl (by decide) (by decide +kernel) (by decide +kernel) (fun c a w h => hQp c a _ _ w h) (Or.inl ⟨by kernel_rfl, ?_⟩) hS ?_
  rotate_left
  · intro wz hz; (try dsimp only at hz); go_simp; (try with_reducible rfl)
  simp only [Act.put]
  refine ord_take (i := 8) (v := ?_) (by kernel_rfl) rfl (by decide) (by decide +kernel) (by decide +kernel) (fun c a w h => hQp c a _ _ w h) (Or.inl ⟨by kernel_rfl, ?_⟩) hS ?_
  rotate_left
  · intro wz hz; (try dsimp only at hz); go_simp; (try with_reducible rfl)
  simp only [Act.put]
  refine ord_take (i := 9) (v := ?_) (by kernel_rfl) rfl (by decide) (by decide +kernel) (by decide +kernel) (fun c a w h => hQp c a _ _ w h) (Or.inl ⟨by kernel_rfl, ?_⟩) hS ?_
  rotate_left
  · intro wz hz; (try dsimp only at hz); go_simp; (try with_reducible rfl)
  simp only [Act.put]
  refine ord_take (i := 10) (v := ?_) (by kernel_rfl) rfl (by decide) (by decide +kernel) (by decide +kernel) (fun c a w h => hQp c a _ _ w h) (Or.inl ⟨by kernel_rfl, ?_⟩) hS ?_
  rotate_left
  · intro wz hz; (try dsimp only at hz); go_simp; (try with_reducible rfl)
  simp only [Act.put]
  refine ord_take (i := 11) (v := ?_) (by kernel_rfl) rfl (by decide) (by decide +kernel) (by decide +kernel) (fun c a w h => hQp c a _ _ w h) (Or.inl ⟨by kernel_rfl, ?_⟩) hS ?_
  rotate_left
  · intro wz hz; (try dsimp only at hz); go_simp; (try with_reducible rfl)
  simp only [Act.put]
  refine ord_take (i := 12) (v := ?_) (by kernel_rfl) rfl (by decide) (by decide +kernel) (by decide +kernel) (fun c a w h => hQp c a _ _ w h) (Or.inl ⟨by kernel_rfl, ?_⟩) hS ?_
  rotate_left
  · intro wz hz; (try dsimp only at hz); go_simp; (try with_reducible rfl)
  simp only [Act.put]
  refine ord_take (i := 13) (v := ?_) (by kernel_rfl) rfl (by decide) (by decide +kernel) (by decide +kernel) (fun c a w h => hQp c a _ _ w h) (Or.inl ⟨by kernel_rfl, ?_⟩) hS ?_
  rotate_left
  · intro wz hz; (try dsimp only at hz); go_simp; (try with_reducible rfl)
  simp only [Act.put]
  refine ord_take (i := 14) (v := ?_) (by kernel_rfl) rfl (by decide) (by decide +kernel) (by decide +kernel) (fun c a w h => hQp c a _ _ w h) (Or.inl ⟨by kernel_rfl, ?_⟩) hS ?_
  rotate_left
  · intro wz hz; (try dsimp only at hz); go_simp; (try with_reducible rfl)
  simp only [Act.put]
  refine ord_take (i := 15) (v := ?_) (by kernel_rfl) rfl (by decide) (by decide +kernel) (by decide +kernel) (fun c a w h => hQp c a _ _ w h) (Or.inl ⟨by kernel_rfl, ?_⟩) hS ?_
  rotate_left
  · intro wz hz; (try dsimp only at hz); go_simp; (try with_reducible rfl)
  simp only [Act.put]
  refine ord_take (i := 16) (v := ?_) (by kernel_rfl) rfl (by decide) (by decide +kernel) (by decide +kernel) (fun c a w h => hQp c a _ _ w h) (Or.inl ⟨by kernel_rfl, ?_⟩) hS ?_
  rotate_left
  · intro wz hz; (try dsimp only at hz); go_simp; (try with_reducible rfl)
  simp only [Act.put]
  refine ord_take (i := 17) (v := ?_) (by kernel_rfl) rfl (by decide) (by decide +kernel) (by decide +kernel) (fun c a w h => hQp c a _ _ w h) (Or.inl ⟨by kernel_rfl, ?_⟩) hS ?_
  rotate_left
  · intro wz hz; (try dsimp only at hz); go_simp; (try with_reducible rfl)
  simp only [Act.put]
  refine ord_take (i := 18) (v := ?_) (by kernel_rfl) rfl (by decide) (by decide +kernel) (by decide +kernel) (fun c a w h => hQp c a _ _ w h) (Or.inl ⟨by kernel_rfl, ?_⟩) hS ?_
  rotate_left
  · intro wz hz; (try dsimp only at hz); go_simp; (try with_reducible rfl)
  simp only [Act.put]
  refine ord_take (i := 19) (v := ?_) (by kernel_rfl) rfl (by decide) (by decide +kernel) (by decide +kernel) (fun c a w h => hQp c a _ _ w h) (Or.inl ⟨by kernel_rfl, ?_⟩) hS ?_
  rotate_left
  · intro wz hz; (try dsimp only at hz); go_simp; (try with_reducible rfl)
  simp only [Act.put]
  refine ord_step (i := 20) rfl (by decide) (by kernel_rfl) (by kernel_rfl) (fun K hK => ?_)
  go_simp
  refine (where_any wr.drew base g fr op at_ A m c true HRC.out ⟨HHAS.out.own.drew, HHAS.out.ok⟩ hf0 hf1 (by omega)).mono ?_
  rintro e w' ⟨rfl, rfl⟩
  refine hK _ _ hS ?_
  clear hK K
  refine ord_take (i := 21) (v := ?_) (by kernel_rfl) rfl (by decide) (by decide +kernel) (by decide +kernel) (fun c a w h => hQp c a _ _ w h) (Or.inl ⟨by kernel_rfl, ?_⟩) hS ?_
  rotate_left
  · intro wz hz; (try dsimp only at hz); go_simp; (try with_reducible rfl)
  simp only [Act.put]
  refine ord_take (i := 22) (v := ?_) (by kernel_rfl) rfl (by decide) (by decide +kernel) (by decide +kernel) (fun c a w h => hQp c a _ _ w h) (Or.inl ⟨by kernel_rfl, ?_⟩) hS ?_
  rotate_left
  · intro wz hz; (try dsimp only at hz); go_simp; (try with_reducible rfl)
  simp only [Act.put]
  refine ord_step (i := 23) rfl (by decide) (by kernel_rfl) (by kernel_rfl) (fun K hK => ?_)
  go_simp
  have hS2 : (wr.alloc (.cells #[.bool b] 4)).drew.cell? ⟨g, 2, none⟩ = some (.slice A m c) ∧ (wr.alloc (.cells #[.bool b] 4)).drew.cell? ⟨g, 3, none⟩ = some (.bool true) := by
    have hl := blk_lt HRC.out
    exact ⟨(World.cell?_alloc_lt wr _ _ hl).trans r2, (World.cell?_alloc_lt wr _ _ hl).trans r3⟩
  refine hK _ _ hS2 ?_
  clear hK K
  refine ord_step (i := 24) rfl (by decide) (by kernel_rfl) (by kernel_rfl) (fun K hK => ?_)
  go_simp
  refine hK _ _ ⟨s2, s3⟩ ?_
  clear hK K
  have hS3 := And.intro s2 s3
  refine ord_take (i := 25) (v := ?_) (by kernel_rfl) rfl (by decide) (by decide +kernel) (by decide +kernel) (fun c a w h => hQp c a _ _ w h) (Or.inl ⟨by kernel_rfl, ?_⟩) hS3 ?_
  rotate_left
  · intro wz hz; (try dsimp only at hz); go_simp; (try with_reducible rfl)
  simp only [Act.put]
  refine ord_take (i := 26) (v := ?_) (by kernel_rfl) rfl (by decide) (by decide +kernel) (by decide +kernel) (fun c a w h => hQp c a _ _ w h) (Or.inl ⟨by kernel_rfl, ?_⟩) hS3 ?_
  rotate_left
  · intro wz hz; (try dsimp only at hz); go_simp; (try with_reducible rfl)
  simp only [Act.put]
  obtain ⟨X, Y, Z, rfl⟩ := hnv
  refine ord_last rfl (by kernel_rfl) (by kernel_rfl) (by kernel_rfl) (fun K hK => ?_)
  go_simp
  exact hK _ _ (hq ..)

end Go.Proofs.Ytolapebihnipdaa
