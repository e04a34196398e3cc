/-
  The library's contracts of maps.Keys, slices.Sorted and slices.Sort, laid at this program in plain words (written by the kit's lay-plain.mjs; its remarks struck).
-/
import Derived.Test.YthefgdehfgkhhaaGreatK01
import Derived.Shelf.SlLaysZI
import Derived.Shelf.SlLaysM
import Derived.Shelf.SlIterI.Nil
import Derived.Ground.GgzProg
import Derived.Ground.SlgmProg
import Derived.Test.YthefgdehfgkhhaaGreatProg
import Derived.Test.YthefgdehfgkhhaaGreatK25
import Derived.Shelf.SortM.Plain
import Derived.Shelf.SortM.SortNone
namespace Go.Proofs
open Go.Shelf
def Tryz.keysA_ren : Go.Shelf.Ren := ⟨fun | 7 => 47 | 10 => 85 | n => n, fun | 23 => 99 | 26 => 3 | 3 => 70 | 28 => 112 | 0 => 0 | 27 => 111 | 33 => 106 | 4 => 4 | n => n, fun | n => n⟩
theorem Tryz.keysA : Go.Proofs.SlLaysZI.n7 Tryz.prog Tryz.keysA_ren := {
 mixed := by kernel_rfl
 f7 := ⟨Tryz.f47.name, by decide, Tryz.func47.trans (congrArg some (by kernel_rfl))⟩
 f10 := ⟨Tryz.f85.name, by decide, Tryz.func85.trans (congrArg some (by kernel_rfl))⟩
 t0 := Tryz.underlying0
 a0 := Tryz.isAgg0
 z0 := Tryz.sizeOf0
 v0 := Tryz.zeroValue0
 t4 := Tryz.underlying4
 a4 := Tryz.isAgg4
 z4 := Tryz.sizeOf4
 v4 := Tryz.zeroValue4
 t23 := Tryz.underlying99
 a23 := Tryz.isAgg99
 z23 := Tryz.sizeOf99
 v23 := Tryz.zeroValue99
 t26 := Tryz.underlying3
 a26 := Tryz.isAgg3
 z26 := Tryz.sizeOf3
 v26 := Tryz.zeroValue3
 t27 := Tryz.underlying111
 a27 := Tryz.isAgg111
 z27 := Tryz.sizeOf111
 v27 := Tryz.zeroValue111
 t28 := Tryz.underlying112
 a28 := Tryz.isAgg112
 z28 := Tryz.sizeOf112
 v28 := Tryz.zeroValue112
 t33 := Tryz.underlying106
 a33 := Tryz.isAgg106
 z33 := Tryz.sizeOf106
 v33 := Tryz.zeroValue106 }
def Tryz.sortedA_ren : Go.Shelf.Ren := ⟨fun | 6 => 46 | 8 => 83 | 9 => 84 | 11 => 111 | 13 => 113 | 12 => 112 | 23 => 132 | 24 => 133 | 14 => 123 | 15 => 124 | 16 => 125 | 17 => 126 | 18 => 127 | 19 => 128 | 20 => 129 | 21 => 130 | 22 => 131 | 25 => 136 | 26 => 137 | 27 => 138 | 28 => 139 | 29 => 140 | 30 => 106 | 31 => 142 | n => n, fun | 26 => 3 | 28 => 112 | 24 => 49 | 0 => 0 | 3 => 3 | 37 => 133 | 48 => 132 | 50 => 37 | 4 => 4 | 40 => 195 | 39 => 194 | 45 => 108 | 5 => 5 | 9 => 9 | 51 => 205 | 55 => 209 | 57 => 211 | 58 => 86 | 33 => 106 | n => n, fun | n => n⟩
theorem Tryz.sortedA : Go.Proofs.SlLaysZI.n6 Tryz.prog Tryz.sortedA_ren := {
 mixed := by kernel_rfl
 f6 := ⟨Tryz.f46.name, by decide, Tryz.func46.trans (congrArg some (by kernel_rfl))⟩
 f8 := ⟨Tryz.f83.name, by decide, Tryz.func83.trans (congrArg some (by kernel_rfl))⟩
 f11 := ⟨Tryz.f111.name, by decide, Tryz.func111.trans (congrArg some (by kernel_rfl))⟩
 t0 := Tryz.underlying0
 a0 := Tryz.isAgg0
 z0 := Tryz.sizeOf0
 v0 := Tryz.zeroValue0
 t24 := Tryz.underlying49
 a24 := Tryz.isAgg49
 z24 := Tryz.sizeOf49
 v24 := Tryz.zeroValue49
 t26 := Tryz.underlying3
 a26 := Tryz.isAgg3
 z26 := Tryz.sizeOf3
 v26 := Tryz.zeroValue3
 t28 := Tryz.underlying112
 a28 := Tryz.isAgg112
 z28 := Tryz.sizeOf112
 v28 := Tryz.zeroValue112
 i26 := by kernel_rfl }
def Tryz.sortA_ren : Go.Shelf.Ren := ⟨fun | 5 => 84 | 8 => 113 | 7 => 112 | 19 => 132 | 20 => 133 | 10 => 123 | 11 => 124 | 12 => 125 | 13 => 126 | 14 => 127 | 15 => 128 | 16 => 129 | 17 => 130 | 18 => 131 | 30 => 136 | 31 => 137 | 32 => 138 | 33 => 139 | 34 => 140 | 35 => 106 | 40 => 142 | n => n, fun | 23 => 49 | 25 => 3 | 3 => 3 | 32 => 133 | 22 => 49 | 0 => 0 | 44 => 132 | 46 => 37 | 4 => 4 | 36 => 195 | 35 => 194 | 41 => 108 | 5 => 5 | 9 => 9 | 53 => 205 | 57 => 209 | 63 => 211 | 64 => 86 | n => n, fun | n => n⟩
theorem Tryz.sortA : Go.Proofs.SlLaysM.n5 Tryz.prog Tryz.sortA_ren := {
 mixed := by kernel_rfl
 f5 := ⟨Tryz.f84.name, by decide, Tryz.func84.trans (congrArg some (by kernel_rfl))⟩
 f7 := ⟨Tryz.f112.name, by decide, Tryz.func112.trans (congrArg some (by kernel_rfl))⟩
 f8 := Tryz.func113.trans (congrArg some (by kernel_rfl))
 f10 := ⟨Tryz.f123.name, by decide, Tryz.func123.trans (congrArg some (by kernel_rfl))⟩
 f11 := ⟨Tryz.f124.name, by decide, Tryz.func124.trans (congrArg some (by kernel_rfl))⟩
 f12 := ⟨Tryz.f125.name, by decide, Tryz.func125.trans (congrArg some (by kernel_rfl))⟩
 f13 := ⟨Tryz.f126.name, by decide, Tryz.func126.trans (congrArg some (by kernel_rfl))⟩
 f14 := ⟨Tryz.f127.name, by decide, Tryz.func127.trans (congrArg some (by kernel_rfl))⟩
 f15 := ⟨Tryz.f128.name, by decide, Tryz.func128.trans (congrArg some (by kernel_rfl))⟩
 f16 := ⟨Tryz.f129.name, by decide, Tryz.func129.trans (congrArg some (by kernel_rfl))⟩
 f17 := ⟨Tryz.f130.name, by decide, Tryz.func130.trans (congrArg some (by kernel_rfl))⟩
 f18 := ⟨Tryz.f131.name, by decide, Tryz.func131.trans (congrArg some (by kernel_rfl))⟩
 f19 := Tryz.func132.trans (congrArg some (by kernel_rfl))
 f20 := Tryz.func133.trans (congrArg some (by kernel_rfl))
 f30 := ⟨Tryz.f136.name, by decide, Tryz.func136.trans (congrArg some (by kernel_rfl))⟩
 f31 := Tryz.func137.trans (congrArg some (by kernel_rfl))
 f32 := Tryz.func138.trans (congrArg some (by kernel_rfl))
 f33 := ⟨Tryz.f139.name, by decide, Tryz.func139.trans (congrArg some (by kernel_rfl))⟩
 f34 := ⟨Tryz.f140.name, by decide, Tryz.func140.trans (congrArg some (by kernel_rfl))⟩
 f35 := ⟨Tryz.f106.name, by decide, Tryz.func106.trans (congrArg some (by kernel_rfl))⟩
 f40 := ⟨Tryz.f142.name, by decide, Tryz.func142.trans (congrArg some (by kernel_rfl))⟩
 t0 := Tryz.underlying0
 a0 := Tryz.isAgg0
 z0 := Tryz.sizeOf0
 v0 := Tryz.zeroValue0
 t3 := Tryz.underlying3
 a3 := Tryz.isAgg3
 z3 := Tryz.sizeOf3
 v3 := Tryz.zeroValue3
 t4 := Tryz.underlying4
 a4 := Tryz.isAgg4
 z4 := Tryz.sizeOf4
 v4 := Tryz.zeroValue4
 t5 := Tryz.underlying5
 a5 := Tryz.isAgg5
 z5 := Tryz.sizeOf5
 v5 := Tryz.zeroValue5
 t9 := Tryz.underlying9
 a9 := Tryz.isAgg9
 z9 := Tryz.sizeOf9
 v9 := Tryz.zeroValue9
 t22 := Tryz.underlying49
 a22 := Tryz.isAgg49
 z22 := Tryz.sizeOf49
 v22 := Tryz.zeroValue49
 t23 := Tryz.underlying49
 a23 := Tryz.isAgg49
 z23 := Tryz.sizeOf49
 v23 := Tryz.zeroValue49
 t25 := Tryz.underlying3
 a25 := Tryz.isAgg3
 z25 := Tryz.sizeOf3
 v25 := Tryz.zeroValue3
 t32 := Tryz.underlying133
 a32 := Tryz.isAgg133
 z32 := Tryz.sizeOf133
 v32 := Tryz.zeroValue133
 t35 := Tryz.underlying194
 a35 := Tryz.isAgg194
 z35 := Tryz.sizeOf194
 v35 := Tryz.zeroValue194
 t36 := Tryz.underlying195
 a36 := Tryz.isAgg195
 z36 := Tryz.sizeOf195
 v36 := Tryz.zeroValue195
 t41 := Tryz.underlying108
 a41 := Tryz.isAgg108
 z41 := Tryz.sizeOf108
 v41 := Tryz.zeroValue108
 t44 := Tryz.underlying132
 a44 := Tryz.isAgg132
 z44 := Tryz.sizeOf132
 v44 := Tryz.zeroValue132
 t46 := Tryz.underlying37
 a46 := Tryz.isAgg37
 z46 := Tryz.sizeOf37
 v46 := Tryz.zeroValue37
 t53 := Tryz.underlying205
 a53 := Tryz.isAgg205
 z53 := Tryz.sizeOf205
 v53 := Tryz.zeroValue205
 t57 := Tryz.underlying209
 a57 := Tryz.isAgg209
 z57 := Tryz.sizeOf209
 v57 := Tryz.zeroValue209
 t63 := Tryz.underlying211
 a63 := Tryz.isAgg211
 z63 := Tryz.sizeOf211
 v63 := Tryz.zeroValue211
 t64 := Tryz.underlying86
 a64 := Tryz.isAgg86
 z64 := Tryz.sizeOf86
 v64 := Tryz.zeroValue86 }
end Go.Proofs
namespace Go.Proofs.YthefgdehfgkhhaaGreat
open Go.RowKit Go.Maps Go.Sort Go.Shelf
set_option linter.unusedVariables false
set_option linter.unusedSimpArgs false
attribute [local go_sem] Oper.semAt_some
theorem sortsA (m : Nat) : AnyZI.SortsIn Tryz.prog Tryz.sortedA_ren Fence.wide m :=
 ⟨fun blk off cap ss W hH hblk hsz => callsIn_wide.2 (AnyM.slices_Sort_int Tryz.sortA blk off cap ss W hH hblk hsz),
  fun p cap W => callsIn_wide.2 (AnyM.slices_Sort_int_none Tryz.sortA p cap W)⟩
theorem mkeys_any (mb : Option Nat) (W : World) : Calls Tryz.prog 47 #[.map mb] W fun e w' => e = .returned (.func (.func 85) #[] #[.pointer (some ⟨W.heap.size, 0, none⟩)]) ∧ w' = W.alloc (.cells #[.map mb] 99) :=
 (callsIn_wide (n := 5)).1 (AnyZI.keys_in Tryz.keysA Fence.wide 5 trivial rfl mb W)
/-! The keys of a map that says S. -/
theorem keys_perm {w : World} {b n : Nat} {S : List Cn} {D : DataW Unit} (hown : w.ownsMap Tryz.prog 3 (seatE (H := Unit)) b n D) (hs : SaysS D S) : (S.map (·.c)).Perm (intKeys D) := by
 have hk : Tryz.prog.underlying 3 = some (.int .i64) := Tryz.underlying3
 refine CollectedI.perm (left := fun _ => false) ⟨once_keys.1 hs.once, fun x => ?_⟩ hown lawInt hk (fun _ => rfl)
 constructor
 ·intro hx
  obtain ⟨s, hm, rfl⟩ := List.mem_map.1 hx
  exact ⟨by rw [hs.has _ (hs.key s hm).1.1]; exact mem_lookS hm, rfl⟩
 ·rintro ⟨hx, _⟩
  have hi : isI x := by
   obtain ⟨es, rfl, hko⟩ := hown.keysOf
   rw [has_eq, List.any_eq_true] at hx
   obtain ⟨p, hp, hsame⟩ := hx
   obtain ⟨v, hv⟩ := hko p hp
   obtain ⟨y, _, hy, hl⟩ := Maps.keyOf_i64 hk hv
   rw [hy] at hsame
   have : y = x := by simpa [Lit.sameKey] using hsame
   subst this
   exact isI_of_wf hl
  rw [hs.has x hi] at hx
  obtain ⟨s, hsx⟩ := Option.isSome_iff_exists.1 hx
  obtain ⟨h1, h2⟩ := lookS_mem hsx
  exact List.mem_map.2 ⟨s, h1, h2⟩
theorem msorted_any (w W : World) (b n : Nat) (S : List Cn) (h : SMap w b n S) (hn : n ≤ 1048576) (hW : W = w.alloc (.cells #[.map (some b)] 99)) :
 Calls Tryz.prog 46 #[.func (.func 85) #[] #[.pointer (some ⟨w.heap.size, 0, none⟩)]] W fun e w' => ∃ A c ks, e = .returned (.slice A ks.length c) ∧ ks.Perm (S.map (·.c)) ∧ RI w' A ks.length c ks ∧ Below W.heap.size W w' := by
 subst hW
 obtain ⟨D, hown, hs⟩ := h
 have hbl := hown.lt
 have hsz : Maps.size D ≤ 1048576 := by have := hown.size_le; omega
 have hseq : SeqGives Fence.wide 2 Tryz.prog 85 #[.pointer (some ⟨w.heap.size, 0, none⟩)] encZ (fun ss => ss.Perm (intKeys D)) (Maps.size D) (w.alloc (.cells #[.map (some b)] 99)) :=
  AnyZI.keys_gives (ρ := Tryz.keysA_ren) { Tryz.keysA with } Fence.wide _ trivial rfl (by omega) w.heap.size b n D _ (by simp) (by simp) (by
   obtain ⟨es, clock, hb, Ft, hs', hD⟩ := hown
   exact ⟨es, clock, (Below.heap_alloc _ _ b hbl).trans hb, Ft, hs', hD⟩)
 have cS := AnyZI.sorted_in Tryz.sortedA Fence.wide 5 trivial trivial trivial trivial rfl (by omega) (sortsA _) (enters_of Tryz.func84 (by kernel_rfl) rfl) 85 #[.pointer (some ⟨w.heap.size, 0, none⟩)] trivial (enters_of Tryz.func85 (by kernel_rfl) rfl) _ _ (by simp only [maxLen]; omega) (by omega) _ hseq
 change CallsIn _ _ Tryz.prog 46 _ _ _ at cS
 refine ((callsIn_wide (n := 5)).1 cS).mono ?_
 rintro e w' ⟨v, ss, rfl, hperm, hrow, _, hb⟩
 have hfl : ((ss.mergeSort (fun x y => decide (x ≤ y))).map encZ) = (ics (ss.mergeSort (fun x y => decide (x ≤ y)))).flatMap fun a => a.toList := by
  generalize ss.mergeSort (fun x y => decide (x ≤ y)) = l
  induction l with
  | nil => rfl
  | cons x l ih => rw [List.map_cons, ih]; rfl
 rw [hfl] at hrow
 have hlen : (ss.mergeSort (fun x y => decide (x ≤ y))).length = ss.length := List.length_mergeSort _
 have hp2 := (List.mergeSort_perm ss (fun x y => decide (x ≤ y))).trans (hperm.trans (keys_perm hown hs).symm)
 generalize ss.mergeSort (fun x y => decide (x ≤ y)) = ks at hrow hlen hp2
 rw [← hlen] at hrow
 obtain ⟨A, c, rfl, hr⟩ := Rg.of_own (l := ics ks) (fun a ha => by obtain ⟨x, _, rfl⟩ := List.mem_map.1 ha; rfl) (by rw [ics, List.length_map]) hrow
 exact ⟨A, c, ks, rfl, hp2, hr, hb⟩
/-! The seats. -/
def scs (S : List Cn) : List (Array Value) := S.map Cn.cs
abbrev RS (w : World) (A : Option Addr) (n c : Nat) (S : List Cn) : Prop := Rg 70 5 w A n c (scs S)
theorem scs_wide (S : List Cn) : ∀ a ∈ scs S, a.size = 5 := by
 intro a ha
 obtain ⟨s, _, rfl⟩ := List.mem_map.1 ha
 rfl
def sfl (S : List Cn) : List Value := (scs S).flatMap fun a => a.toList
theorem sfl_append (a b : List Cn) : sfl (a ++ b) = sfl a ++ sfl b := by unfold sfl scs; rw [List.map_append, List.flatMap_append]
theorem sfl_one (S : List Cn) : ∀ u ∈ sfl S, u.oneCell' = true := by
 intro v hv
 unfold sfl scs at hv
 rw [List.mem_flatMap] at hv
 obtain ⟨a, ha, hv⟩ := hv
 obtain ⟨e, _, rfl⟩ := List.mem_map.1 ha
 simp [Cn.cs] at hv
 rcases hv with rfl | rfl | rfl | rfl | rfl <;> rfl
def OwnS (w : World) (base : Nat) (v : Value) (S : List Cn) : Prop := w.ownsRow base 70 5 v S.length (sfl S)
theorem OwnS.row {w : World} {base : Nat} {v : Value} {S : List Cn} (h : OwnS w base v S) : ∃ A c, v = .slice A S.length c ∧ RS w A S.length c S :=
 Rg.of_own (l := scs S) (scs_wide S) (by rw [scs, List.length_map]) h
theorem infoSe : (Tryz.prog.info? 70).map (fun i => (i.zero, i.size, i.bytes)) = some (some Cn.z.v, 5, 40) := by kernel_rfl
theorem seat_reads {w : World} {g : Nat} (s : Cn) (h : Blk w g 70 s.cs) : Reads w w.heap.size 5 (some ⟨g, 0, none⟩) 1 (sfl [s]) :=
 (Rg.of_blk (k := 5) (l := scs [s]) h (scs_wide _) (fun i a hi j v hv => by
  match i, hi with
  | 0, hi => simp [scs] at hi; subst hi; rw [Nat.zero_mul, Nat.zero_add]; exact hv
  | i + 1, hi => simp [scs] at hi) (m := 1) (Nat.le_refl _)).reads
/-- The channels in the order of ks. -/
def ofK (S : List Cn) (ks : List Int) : List Cn := ks.map fun k => (lookS S k).getD Cn.z
theorem ofK_perm {S : List Cn} (ho : S.Pairwise fun a b => a.c ≠ b.c) {ks : List Int} (h : ks.Perm (S.map (·.c))) : (ofK S ks).Perm S := by
 have h1 := h.map fun k => (lookS S k).getD Cn.z
 have h2 : (S.map (·.c)).map (fun k => (lookS S k).getD Cn.z) = S := by
  rw [List.map_map]
  conv => rhs; rw [← List.map_id S]
  refine List.map_congr_left fun s hs => ?_
  show (lookS S s.c).getD Cn.z = s
  rw [look_mem ho hs]
  rfl
 rw [h2] at h1
 exact h1
theorem ofK_take {S : List Cn} {ks : List Int} {i : Nat} {k : Int} {s : Cn} (hk : ks[i]? = some k) (hs : lookS S k = some s) : ofK S (ks.take (i + 1)) = ofK S (ks.take i) ++ [s] := by
 unfold ofK
 rw [take_snoc hk, List.map_append, List.map_cons, List.map_nil, hs]
 rfl
theorem SMap.look1 {w : World} {b n : Nat} {S : List Cn} (h : SMap w b n S) {k : Int} (hk : isI k) {s : Cn} (hs : lookS S k = some s) : (Instr.lookup 99 (.map (some b)) (.int .i64 k) false).run Tryz.prog w = .ok s.v w := by
 obtain ⟨D, hown, hd⟩ := h
 obtain ⟨v, ps, hrun, hv⟩ := hown.lookup lawInt Tryz.underlying99 (zeroSeat w) (seatE_mk Cn.z) (keyOf_i hk)
 obtain ⟨t, rfl, hz⟩ := seatE_inv hv
 have h1 := (Prod.mk.inj hz).1
 rw [hd.at_ k s _ hk hs] at h1
 rw [hrun, Cn.d_inj h1]
set_option maxRecDepth 100000 in
set_option maxHeartbeats 2000000 in
theorem seats_any (w : World) (p go co bs bh ns : Nat) (own : List Int) (S : List Cn) (lost : Int) (h : LedAt w p go co bs bh ns own S lost) (hn : ns ≤ 1048576) :
 Calls Tryz.prog 22 #[.pointer (some ⟨p, 0, none⟩)] w fun e w' => ∃ A c T, e = .returned (.slice A T.length c) ∧ T.Perm S ∧ T.length ≤ ns ∧ RS w' A T.length c T ∧ Below w.heap.size w w' := by
 have c1 := h.box.cell 1
 simp at c1
 obtain ⟨i0, hi0, hz0', hz1, hz2⟩ := info_parts infoSe
 have HI := Lib.hid (And.intro hi0 (And.intro hz0' (And.intro hz1 hz2)))
 have HOK := Lib.hid h.map.ok
 have HS := Lib.hid h.map
 have HLT := Lib.hid h.box.lt
 have HSZ : Hid (S.length ≤ ns) := Lib.hid (by
  obtain ⟨D, hown, hs⟩ := h.map
  have := hown.size_le
  have := hs.size
  omega)
 have HBX := Lib.hid h.box
 clear h hi0 hz0' hz1 hz2
 go_enter Tryz.func22, Tryz.ntmps22
 go_wp2_with fail
 refine (mkeys_any (some bs) w).mono ?_
 rintro y W1 ⟨rfl, hW1⟩
 have hb1 : Below w.heap.size w W1 := by rw [hW1]; exact (Below.refl _ _).alloc (Nat.le_refl _) _
 have HW1 := Lib.hid hW1
 obtain ⟨G, hG⟩ : ∃ z, w.heap.size = z := ⟨_, rfl⟩
 have HG := Lib.hid hG
 have HB1 := Lib.hid hb1
 rw [hG]
 clear hW1 hb1 hG c1
 go_wp2_with fail
 rw [← HG.out]
 refine (msorted_any w W1 bs ns S HS.out hn HW1.out).mono ?_
 rintro y W2 ⟨A, c, ks, rfl, hperm, hr, hb⟩
 have HP := Lib.hid hperm
 have HR := Lib.hid hr
 have HB2 := Lib.hid (bltB HB1.out HB1.out.size hb)
 obtain ⟨n, hn1⟩ : ∃ z, ks.length = z := ⟨_, rfl⟩
 have HN : Hid (ks.length = n ∧ n ≤ 1048576) := Lib.hid ⟨hn1, by
  have h1 := hperm.length_eq
  rw [List.length_map] at h1
  obtain ⟨D, hown, hs⟩ := HS.out
  have := hown.size_le
  have := hs.size
  omega⟩
 rw [hn1] at HR ⊢
 have hnn : n ≤ 1048576 := HN.out.2
 clear hperm hr hb hn1 hn
 go_wp2_with fail
 go_loopw [3, 13] (fun ov iv wr => ∃ (v : Value) (i : Nat), v = ov ∧ i ≤ n ∧ iv = .int .i64 i ∧ Hid (OwnS wr W2.heap.size v (ofK S (ks.take i))) ∧ Hid (Below W2.heap.size W2 wr)) (fun _ iv _ => n - (RowKit.intOf iv).toNat)
 case atStart => exact ⟨_, 0, rfl, Nat.zero_le _, rfl, Lib.hid (World.ownsRow_nil _ _ _ _), Lib.hid (Below.refl _ _)⟩
 case round =>
  obtain ⟨v, i, rfl, hi, rfl, HO, HB⟩ := hrel
  by_cases hlt : i < n
  ·obtain ⟨bk, ok, hA, hbk, hx, k0⟩ := (HR.out.on HB.out).num hlt
   subst hA
   obtain ⟨k, hk⟩ : ∃ z, ks.getD i 0 = z := ⟨_, rfl⟩
   rw [hk] at hx k0
   have hkm : k ∈ S.map (·.c) := HP.out.mem_iff.1 (List.mem_of_getElem? hx)
   obtain ⟨s0, hs0, hsk⟩ := List.mem_map.1 hkm
   have hlk : lookS S k = some s0 := by rw [← hsk]; exact look_mem HOK.out.2 hs0
   have hki : isI k := by rw [← hsk]; exact (HOK.out.1 s0 hs0).1.1
   have HTK := Lib.hid (ofK_take hx hlk)
   have HLN : Hid ((ofK S (ks.take i)).length = i) := Lib.hid (by unfold ofK; rw [List.length_map, List.length_take, HN.out.1]; omega)
   have HBW := Lib.hid (bltB HB2.out HB2.out.size HB.out)
   have hrun := (HS.out.on HBW.out).look1 hki hlk
   have hlt' : (i : Int) < (n : Int) := by omega
   have y1 : wr.cell? ⟨p, 1, none⟩ = some (.map (some bs)) := by
    have := (HBX.out.below HBW.out HLT.out).cell 1
    simpa using this
   clear hx hk hkm hs0 hsk hlk
   have hsz : W2.heap.size ≤ wr.heap.size := HB.out.size
   obtain ⟨c0, q0, q1, h0, h1⟩ := s0
   simp only [Cn.v, Cn.cs] at hrun
   go_wp2_with (at_builtin
                go_loud (refine wpList_append_any _ rfl (.tmp 17) (.tmp 24) 66 rfl W2.heap.size 70 i0 Cn.z.v 5 40 Tryz.underlying66 HI.out.1 HI.out.2.1 HI.out.2.2.1 HI.out.2.2.2 rfl (by decide) v _ _ rfl (HO.out.alloc _) _ (some ⟨wr.heap.size, 0, none⟩) 1 1 (sfl [⟨c0, q0, q1, h0, h1⟩]) rfl ((seat_reads ⟨c0, q0, q1, h0, h1⟩ (Blk.new wr _ _)).more (Nat.le_refl _)) (sfl_one _) (by have := HLN.out; have := HN.out.2; simp only [maxLen]; omega) (by have := HLN.out; have := HN.out.2; omega) (Nat.le_trans hsz (by simp)) ?_)
                intro v1 W3 own1 gr1 at1)
   have HO3 : Hid (OwnS W3 W2.heap.size v1 (ofK S (ks.take (i + 1)))) := Lib.hid (by rw [HTK.out]; unfold OwnS; rw [List.length_append, sfl_append]; exact own1)
   have HB3 : Hid (Below W2.heap.size W2 W3) := Lib.hid ((HB.out.alloc HB.out.size _).grown gr1 (Nat.le_trans HB.out.size (by simp)) (fun k hk => (HO.out.lt k hk).1))
   clear own1 gr1 at1 HO
   go_wp2_with fail
   go_roundw
   case rel => exact ⟨v1, i + 1, rfl, by omega, by go_num, HO3, HB3⟩
   case measure => simp [RowKit.intOf]; omega
  ·have hin : i = n := by omega
   subst hin
   have hro := HO.out
   rw [List.take_of_length_le (by rw [HN.out.1]; exact Nat.le_refl _)] at hro
   have hpm := ofK_perm HOK.out.2 HP.out
   obtain ⟨A2, c2, rfl, hrl⟩ := hro.row
   have hl2 := hpm.length_eq
   have HF : Hid (∃ A c T, Ending.returned (.slice A2 (ofK S ks).length c2) = .returned (.slice A T.length c) ∧ T.Perm S ∧ T.length ≤ ns ∧ RS wr A T.length c T ∧ Below w.heap.size w wr) := Lib.hid ⟨A2, c2, _, rfl, hpm, by rw [hl2]; exact HSZ.out, hrl, bltB HB2.out HB2.out.size HB.out⟩
   clear hro hrl HO hpm hl2
   go_wp2_with fail
   go_ret
   exact HF.out
end Go.Proofs.YthefgdehfgkhhaaGreat
