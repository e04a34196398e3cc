/-
  The library's contracts that these laws call, laid at this program in plain words (written by the kit's lay-shelf.mjs and lay-plain.mjs; their remarks struck).
-/
import Derived.Shelf.Small.Bits
import Derived.Shelf.Strconv.Atoi
import Derived.Shelf.Strconv.Itoa0
import Derived.Shelf.Strconv.Itoa1
import Derived.Shelf.LaysM
import Derived.Shelf.Strconv.Itoa2
import Derived.Shelf.Strconv.Itoa3
import Derived.Shelf.Strconv.AtoiErrFast
import Derived.Shelf.Strconv.ParseIntEmpty
import Derived.Shelf.Strconv.AtoiFail
import Derived.Shelf.Strconv.Clone
import Derived.Shelf.Strconv.SyntaxError
import Derived.Shelf.LaysC
import Derived.Shelf.Strconv.ToError
import Derived.Shelf.Strconv.Lower
import Derived.Shelf.Strconv.ParseUint10
import Derived.Shelf.Strconv.ParseUint10Empty
import Derived.Shelf.Strconv.ParseUint10Any
import Derived.Shelf.Strconv.ParseInt10
import Derived.Shelf.Strconv.AtoiLong
import Derived.Shelf.Strconv.AtoiInnerAll
import Derived.Shelf.Strconv.RangeError
import Derived.Shelf.Strconv.ToErrorRange
import Derived.Shelf.Strconv.AtoiAll
import Derived.Shelf.Strconv.ErrVarAll
import Derived.Shelf.Strings.Prefix
import Derived.Shelf.Bits.Mul64
import Derived.Test.YtoblhbeeimboaaaDoorProg
namespace Go.Proofs
open Go.Shelf
def Tryd.lays134_ren : Go.Shelf.Ren := ⟨fun | 134 => 34 | 129 => 42 | n => n, fun | 53 => 42 | 3 => 3 | 4 => 4 | 46 => 47 | 5 => 5 | 9 => 9 | n => n, fun | n => n⟩
theorem Tryd.lays134 : Go.Proofs.Lays.n134 Tryd.prog Tryd.lays134_ren := {
  mixed := by kernel_rfl
  f129 := Tryd.func42.trans (congrArg some (by kernel_rfl))
  f134 := Tryd.func34.trans (congrArg some (by kernel_rfl))
  t3 := Tryd.underlying3
  a3 := Tryd.isAgg3
  z3 := Tryd.sizeOf3
  v3 := Tryd.zeroValue3
  t4 := Tryd.underlying4
  a4 := Tryd.isAgg4
  z4 := Tryd.sizeOf4
  v4 := Tryd.zeroValue4
  t5 := Tryd.underlying5
  a5 := Tryd.isAgg5
  z5 := Tryd.sizeOf5
  v5 := Tryd.zeroValue5
  t9 := Tryd.underlying9
  a9 := Tryd.isAgg9
  z9 := Tryd.sizeOf9
  v9 := Tryd.zeroValue9
  t46 := Tryd.underlying47
  a46 := Tryd.isAgg47
  z46 := Tryd.sizeOf47
  v46 := Tryd.zeroValue47
  t53 := Tryd.underlying42
  a53 := Tryd.isAgg42
  z53 := Tryd.sizeOf42
  v53 := Tryd.zeroValue42 }

theorem Tryd.bits_LeadingZeros64 (x : Int) (w : World) (h0 : 0 ≤ x) (h1 : x ≤ 18446744073709551615) :
    Calls Tryd.prog 34 #[.int .u64 x] w fun e w' => e = .returned (.int .i64 (64 - (Lib.bitLen x.toNat : Int))) ∧ w' = w := Any.bits_LeadingZeros64 Tryd.lays134 x w h0 h1
def Tryd.lays244_ren : Go.Shelf.Ren := ⟨fun | 244 => 31 | 247 => 36 | 287 => 43 | 321 => 50 | 322 => 51 | n => n, fun | 9 => 9 | 3 => 3 | 75 => 38 | 4 => 4 | 5 => 5 | 167 => 50 | 37 => 41 | 0 => 0 | 85 => 51 | 2 => 2 | 53 => 42 | 175 => 57 | 46 => 47 | 21 => 21 | 80 => 82 | n => n, fun | n => n⟩
theorem Tryd.lays244 : Go.Proofs.Lays.n244 Tryd.prog Tryd.lays244_ren := {
  mixed := by kernel_rfl
  f244 := Tryd.func31.trans (congrArg some (by kernel_rfl))
  f247 := Tryd.func36.trans (congrArg some (by kernel_rfl))
  f287 := Tryd.func43.trans (congrArg some (by kernel_rfl))
  f321 := Tryd.func50.trans (congrArg some (by kernel_rfl))
  f322 := Tryd.func51.trans (congrArg some (by kernel_rfl))
  t0 := Tryd.underlying0
  a0 := Tryd.isAgg0
  z0 := Tryd.sizeOf0
  v0 := Tryd.zeroValue0
  t2 := Tryd.underlying2
  a2 := Tryd.isAgg2
  z2 := Tryd.sizeOf2
  v2 := Tryd.zeroValue2
  t3 := Tryd.underlying3
  a3 := Tryd.isAgg3
  z3 := Tryd.sizeOf3
  v3 := Tryd.zeroValue3
  t4 := Tryd.underlying4
  a4 := Tryd.isAgg4
  z4 := Tryd.sizeOf4
  v4 := Tryd.zeroValue4
  t5 := Tryd.underlying5
  a5 := Tryd.isAgg5
  z5 := Tryd.sizeOf5
  v5 := Tryd.zeroValue5
  t9 := Tryd.underlying9
  a9 := Tryd.isAgg9
  z9 := Tryd.sizeOf9
  v9 := Tryd.zeroValue9
  t21 := Tryd.underlying21
  a21 := Tryd.isAgg21
  z21 := Tryd.sizeOf21
  v21 := Tryd.zeroValue21
  t37 := Tryd.underlying41
  a37 := Tryd.isAgg41
  z37 := Tryd.sizeOf41
  v37 := Tryd.zeroValue41
  t46 := Tryd.underlying47
  a46 := Tryd.isAgg47
  z46 := Tryd.sizeOf47
  v46 := Tryd.zeroValue47
  t53 := Tryd.underlying42
  a53 := Tryd.isAgg42
  z53 := Tryd.sizeOf42
  v53 := Tryd.zeroValue42
  t75 := Tryd.underlying38
  a75 := Tryd.isAgg38
  z75 := Tryd.sizeOf38
  v75 := Tryd.zeroValue38
  t85 := Tryd.underlying51
  a85 := Tryd.isAgg51
  z85 := Tryd.sizeOf51
  v85 := Tryd.zeroValue51
  t167 := Tryd.underlying50
  a167 := Tryd.isAgg50
  z167 := Tryd.sizeOf50
  v167 := Tryd.zeroValue50
  t175 := Tryd.underlying57
  a175 := Tryd.isAgg57
  z175 := Tryd.sizeOf57
  v175 := Tryd.zeroValue57 }
open Go.RowKit in

theorem Tryd.internal_strconv_Atoi (s : ByteArray) (n : Int) (hl : s.size ≤ 18) (h : Lib.atoi s.data.toList = some n) (w : World) :
    Calls Tryd.prog 31 #[.string s] w fun e w' => e = .returned (.tuple #[.int .i64 n, .nilIface]) ∧ ∃ t, w' = Lib.bytesWorld w 5 t := Any.internal_strconv_Atoi Tryd.lays244 s n hl h w
def Tryd.lays172_ren : Go.Shelf.Ren := ⟨fun | 172 => 26 | 244 => 31 | 245 => 32 | 247 => 36 | 279 => 37 | 280 => 38 | 281 => 39 | 282 => 40 | 287 => 43 | 316 => 44 | 171 => 27 | 205 => 45 | 321 => 50 | 322 => 51 | 243 => 33 | 246 => 41 | 283 => 46 | 284 => 47 | 285 => 48 | 286 => 49 | 129 => 42 | 317 => 52 | 318 => 53 | 319 => 54 | 320 => 55 | 337 => 56 | 338 => 57 | n => n, fun | 9 => 9 | 3 => 3 | 75 => 38 | 76 => 39 | 4 => 4 | 5 => 5 | 167 => 50 | 37 => 41 | 0 => 0 | 85 => 51 | 2 => 2 | 168 => 53 | 53 => 42 | 175 => 57 | 46 => 47 | 210 => 61 | 127 => 69 | 145 => 72 | 143 => 70 | 21 => 21 | 171 => 63 | 173 => 65 | 212 => 75 | 51 => 76 | 20 => 20 | 213 => 77 | 232 => 80 | 233 => 81 | 80 => 82 | n => n, fun | 15 => 2 | 16 => 3 | 17 => 4 | 18 => 5 | 19 => 6 | n => n⟩
theorem Tryd.lays172 : Go.Proofs.Lays.n172 Tryd.prog Tryd.lays172_ren := {
  mixed := by kernel_rfl
  f129 := Tryd.func42.trans (congrArg some (by kernel_rfl))
  f171 := Tryd.func27.trans (congrArg some (by kernel_rfl))
  f172 := Tryd.func26.trans (congrArg some (by kernel_rfl))
  f205 := Tryd.func45.trans (congrArg some (by kernel_rfl))
  f243 := Tryd.func33.trans (congrArg some (by kernel_rfl))
  f244 := Tryd.func31.trans (congrArg some (by kernel_rfl))
  f245 := Tryd.func32.trans (congrArg some (by kernel_rfl))
  f246 := Tryd.func41.trans (congrArg some (by kernel_rfl))
  f247 := Tryd.func36.trans (congrArg some (by kernel_rfl))
  f279 := Tryd.func37.trans (congrArg some (by kernel_rfl))
  f280 := Tryd.func38.trans (congrArg some (by kernel_rfl))
  f281 := Tryd.func39.trans (congrArg some (by kernel_rfl))
  f282 := Tryd.func40.trans (congrArg some (by kernel_rfl))
  f283 := Tryd.func46.trans (congrArg some (by kernel_rfl))
  f284 := Tryd.func47.trans (congrArg some (by kernel_rfl))
  f285 := Tryd.func48.trans (congrArg some (by kernel_rfl))
  f286 := Tryd.func49.trans (congrArg some (by kernel_rfl))
  f287 := Tryd.func43.trans (congrArg some (by kernel_rfl))
  f316 := Tryd.func44.trans (congrArg some (by kernel_rfl))
  f317 := Tryd.func52.trans (congrArg some (by kernel_rfl))
  f318 := Tryd.func53.trans (congrArg some (by kernel_rfl))
  f319 := Tryd.func54.trans (congrArg some (by kernel_rfl))
  f320 := Tryd.func55.trans (congrArg some (by kernel_rfl))
  f321 := Tryd.func50.trans (congrArg some (by kernel_rfl))
  f322 := Tryd.func51.trans (congrArg some (by kernel_rfl))
  f337 := Tryd.func56.trans (congrArg some (by kernel_rfl))
  f338 := Tryd.func57.trans (congrArg some (by kernel_rfl))
  t0 := Tryd.underlying0
  a0 := Tryd.isAgg0
  z0 := Tryd.sizeOf0
  v0 := Tryd.zeroValue0
  t2 := Tryd.underlying2
  a2 := Tryd.isAgg2
  z2 := Tryd.sizeOf2
  v2 := Tryd.zeroValue2
  t3 := Tryd.underlying3
  a3 := Tryd.isAgg3
  z3 := Tryd.sizeOf3
  v3 := Tryd.zeroValue3
  t4 := Tryd.underlying4
  a4 := Tryd.isAgg4
  z4 := Tryd.sizeOf4
  v4 := Tryd.zeroValue4
  t5 := Tryd.underlying5
  a5 := Tryd.isAgg5
  z5 := Tryd.sizeOf5
  v5 := Tryd.zeroValue5
  t9 := Tryd.underlying9
  a9 := Tryd.isAgg9
  z9 := Tryd.sizeOf9
  v9 := Tryd.zeroValue9
  t20 := Tryd.underlying20
  a20 := Tryd.isAgg20
  z20 := Tryd.sizeOf20
  v20 := Tryd.zeroValue20
  t21 := Tryd.underlying21
  a21 := Tryd.isAgg21
  z21 := Tryd.sizeOf21
  v21 := Tryd.zeroValue21
  t37 := Tryd.underlying41
  a37 := Tryd.isAgg41
  z37 := Tryd.sizeOf41
  v37 := Tryd.zeroValue41
  t46 := Tryd.underlying47
  a46 := Tryd.isAgg47
  z46 := Tryd.sizeOf47
  v46 := Tryd.zeroValue47
  t51 := Tryd.underlying76
  a51 := Tryd.isAgg76
  z51 := Tryd.sizeOf76
  v51 := Tryd.zeroValue76
  t53 := Tryd.underlying42
  a53 := Tryd.isAgg42
  z53 := Tryd.sizeOf42
  v53 := Tryd.zeroValue42
  t75 := Tryd.underlying38
  a75 := Tryd.isAgg38
  z75 := Tryd.sizeOf38
  v75 := Tryd.zeroValue38
  t76 := Tryd.underlying39
  a76 := Tryd.isAgg39
  z76 := Tryd.sizeOf39
  v76 := Tryd.zeroValue39
  t85 := Tryd.underlying51
  a85 := Tryd.isAgg51
  z85 := Tryd.sizeOf51
  v85 := Tryd.zeroValue51
  t127 := Tryd.underlying69
  a127 := Tryd.isAgg69
  z127 := Tryd.sizeOf69
  v127 := Tryd.zeroValue69
  t143 := Tryd.underlying70
  a143 := Tryd.isAgg70
  z143 := Tryd.sizeOf70
  v143 := Tryd.zeroValue70
  t145 := Tryd.underlying72
  a145 := Tryd.isAgg72
  z145 := Tryd.sizeOf72
  v145 := Tryd.zeroValue72
  t167 := Tryd.underlying50
  a167 := Tryd.isAgg50
  z167 := Tryd.sizeOf50
  v167 := Tryd.zeroValue50
  t168 := Tryd.underlying53
  a168 := Tryd.isAgg53
  z168 := Tryd.sizeOf53
  v168 := Tryd.zeroValue53
  t171 := Tryd.underlying63
  a171 := Tryd.isAgg63
  z171 := Tryd.sizeOf63
  v171 := Tryd.zeroValue63
  t173 := Tryd.underlying65
  a173 := Tryd.isAgg65
  z173 := Tryd.sizeOf65
  v173 := Tryd.zeroValue65
  t175 := Tryd.underlying57
  a175 := Tryd.isAgg57
  z175 := Tryd.sizeOf57
  v175 := Tryd.zeroValue57
  t210 := Tryd.underlying61
  a210 := Tryd.isAgg61
  z210 := Tryd.sizeOf61
  v210 := Tryd.zeroValue61
  t212 := Tryd.underlying75
  a212 := Tryd.isAgg75
  z212 := Tryd.sizeOf75
  v212 := Tryd.zeroValue75
  t213 := Tryd.underlying77
  a213 := Tryd.isAgg77
  z213 := Tryd.sizeOf77
  t232 := Tryd.underlying80
  a232 := Tryd.isAgg80
  z232 := Tryd.sizeOf80
  v232 := Tryd.zeroValue80
  t233 := Tryd.underlying81
  a233 := Tryd.isAgg81
  z233 := Tryd.sizeOf81
  v233 := Tryd.zeroValue81
  g15 := by kernel_rfl
  g16 := by kernel_rfl
  g17 := by kernel_rfl
  g18 := by kernel_rfl
  g19 := by kernel_rfl }
open Go.RowKit in

theorem Tryd.strconv_Atoi (s : ByteArray) (n : Int) (hl : s.size ≤ 18) (h : Lib.atoi s.data.toList = some n) (w : World) :
    Calls Tryd.prog 26 #[.string s] w fun e w' => e = .returned (.tuple #[.int .i64 n, .nilIface]) ∧ ∃ t, w' = Lib.bytesWorld w 5 t := Any.strconv_Atoi Tryd.lays172 s n hl h w
def Tryd.lays129_ren : Go.Shelf.Ren := ⟨fun | 129 => 42 | n => n, fun | 53 => 42 | 3 => 3 | 4 => 4 | 46 => 47 | 5 => 5 | 9 => 9 | n => n, fun | n => n⟩
theorem Tryd.lays129 : Go.Proofs.Lays.n129 Tryd.prog Tryd.lays129_ren := {
  mixed := by kernel_rfl
  f129 := Tryd.func42.trans (congrArg some (by kernel_rfl))
  t3 := Tryd.underlying3
  a3 := Tryd.isAgg3
  z3 := Tryd.sizeOf3
  v3 := Tryd.zeroValue3
  t4 := Tryd.underlying4
  a4 := Tryd.isAgg4
  z4 := Tryd.sizeOf4
  v4 := Tryd.zeroValue4
  t5 := Tryd.underlying5
  a5 := Tryd.isAgg5
  z5 := Tryd.sizeOf5
  v5 := Tryd.zeroValue5
  t9 := Tryd.underlying9
  a9 := Tryd.isAgg9
  z9 := Tryd.sizeOf9
  v9 := Tryd.zeroValue9
  t46 := Tryd.underlying47
  a46 := Tryd.isAgg47
  z46 := Tryd.sizeOf47
  v46 := Tryd.zeroValue47
  t53 := Tryd.underlying42
  a53 := Tryd.isAgg42
  z53 := Tryd.sizeOf42
  v53 := Tryd.zeroValue42 }

theorem Tryd.bits_Len64 (x : Int) (w : World) (h0 : 0 ≤ x) (h1 : x ≤ 18446744073709551615) :
    Calls Tryd.prog 42 #[.int .u64 x] w fun e w' => e = .returned (.int .i64 (Lib.bitLen x.toNat)) ∧ w' = w := Any.bits_Len64 Tryd.lays129 x w h0 h1
def Tryd.lays317_ren : Go.Shelf.Ren := ⟨fun | 317 => 52 | n => n, fun | 3 => 3 | 46 => 47 | n => n, fun | n => n⟩
theorem Tryd.lays317 : Go.Proofs.Lays.n317 Tryd.prog Tryd.lays317_ren := {
  mixed := by kernel_rfl
  f317 := Tryd.func52.trans (congrArg some (by kernel_rfl))
  t3 := Tryd.underlying3
  a3 := Tryd.isAgg3
  z3 := Tryd.sizeOf3
  v3 := Tryd.zeroValue3
  t46 := Tryd.underlying47
  a46 := Tryd.isAgg47
  z46 := Tryd.sizeOf47
  v46 := Tryd.zeroValue47 }
open Go.Lib in

theorem Tryd.internal_strconv_log10Pow2 (x : Nat) (h : x ≤ 64) (w : World) :
    Calls Tryd.prog 52 #[.int .i64 x] w fun e w' => e = .returned (.int .i64 (Lib.l10 x)) ∧ w' = w := Any.internal_strconv_log10Pow2 Tryd.lays317 x h w
def Tryd.lays318_ren : Go.Shelf.Ren := ⟨fun | 318 => 53 | n => n, fun | 3 => 3 | 4 => 4 | n => n, fun | n => n⟩
theorem Tryd.lays318 : Go.Proofs.Lays.n318 Tryd.prog Tryd.lays318_ren := {
  mixed := by kernel_rfl
  f318 := Tryd.func53.trans (congrArg some (by kernel_rfl))
  t3 := Tryd.underlying3
  a3 := Tryd.isAgg3
  z3 := Tryd.sizeOf3
  v3 := Tryd.zeroValue3
  t4 := Tryd.underlying4
  a4 := Tryd.isAgg4
  z4 := Tryd.sizeOf4
  v4 := Tryd.zeroValue4 }
open Go.Lib in

theorem Tryd.internal_strconv_bool2_int (b : Bool) (w : World) :
    Calls Tryd.prog 53 #[.bool b] w fun e w' => e = .returned (.int .i64 (if b then 1 else 0)) ∧ w' = w := Any.internal_strconv_bool2_int Tryd.lays318 b w
def Tryd.lays283_ren : Go.Shelf.Ren := ⟨fun | 283 => 46 | n => n, fun | 3 => 3 | 9 => 9 | 4 => 4 | n => n, fun | n => n⟩
theorem Tryd.lays283 : Go.Proofs.Lays.n283 Tryd.prog Tryd.lays283_ren := {
  mixed := by kernel_rfl
  f283 := Tryd.func46.trans (congrArg some (by kernel_rfl))
  t3 := Tryd.underlying3
  a3 := Tryd.isAgg3
  z3 := Tryd.sizeOf3
  v3 := Tryd.zeroValue3
  t4 := Tryd.underlying4
  a4 := Tryd.isAgg4
  z4 := Tryd.sizeOf4
  v4 := Tryd.zeroValue4
  t9 := Tryd.underlying9
  a9 := Tryd.isAgg9
  z9 := Tryd.sizeOf9
  v9 := Tryd.zeroValue9 }
open Go.Lib in

theorem Tryd.internal_strconv_small (i : Nat) (h : i < 100) (w : World) :
    Calls Tryd.prog 46 #[.int .i64 i] w fun e w' => e = .returned (.string ⟨(Lib.decDigits i).toArray⟩) ∧ w' = w := Any.internal_strconv_small Tryd.lays283 i h w
def Tryd.laysM284_ren : Go.Shelf.Ren := ⟨fun | 284 => 47 | 129 => 42 | 317 => 52 | 318 => 53 | n => n, fun | 53 => 42 | 3 => 3 | 212 => 75 | 0 => 0 | 4 => 4 | 46 => 47 | 5 => 5 | 9 => 9 | n => n, fun | 17 => 4 | n => n⟩
theorem Tryd.laysM284 : Go.Proofs.LaysM.n284 Tryd.prog Tryd.laysM284_ren := {
  mixed := by kernel_rfl
  f129 := Tryd.func42.trans (congrArg some (by kernel_rfl))
  f284 := Tryd.func47.trans (congrArg some (by kernel_rfl))
  f317 := Tryd.func52.trans (congrArg some (by kernel_rfl))
  f318 := Tryd.func53.trans (congrArg some (by kernel_rfl))
  t0 := Tryd.underlying0
  a0 := Tryd.isAgg0
  z0 := Tryd.sizeOf0
  v0 := Tryd.zeroValue0
  t3 := Tryd.underlying3
  a3 := Tryd.isAgg3
  z3 := Tryd.sizeOf3
  v3 := Tryd.zeroValue3
  t4 := Tryd.underlying4
  a4 := Tryd.isAgg4
  z4 := Tryd.sizeOf4
  v4 := Tryd.zeroValue4
  t5 := Tryd.underlying5
  a5 := Tryd.isAgg5
  z5 := Tryd.sizeOf5
  v5 := Tryd.zeroValue5
  t9 := Tryd.underlying9
  a9 := Tryd.isAgg9
  z9 := Tryd.sizeOf9
  v9 := Tryd.zeroValue9
  t46 := Tryd.underlying47
  a46 := Tryd.isAgg47
  z46 := Tryd.sizeOf47
  v46 := Tryd.zeroValue47
  t53 := Tryd.underlying42
  a53 := Tryd.isAgg42
  z53 := Tryd.sizeOf42
  v53 := Tryd.zeroValue42
  t212 := Tryd.underlying75
  a212 := Tryd.isAgg75
  z212 := Tryd.sizeOf75
  v212 := Tryd.zeroValue75
  g17 := by kernel_rfl
  i0 := by kernel_rfl
  i3 := by kernel_rfl
  i4 := by kernel_rfl
  i5 := by kernel_rfl
  i9 := by kernel_rfl
  i46 := by kernel_rfl
  i53 := by kernel_rfl
  i212 := by kernel_rfl
  m17 := by kernel_rfl }
open Go.Lib in

theorem Tryd.internal_strconv_numDigits (u : Nat) (h1 : 1 ≤ u) (h2 : u < 18446744073709551616) (w : World) (htab : Lib.TabIs Tryd.prog w "internal/strconv.uint64pow10" .u64 Lib.pow10Tab) :
    Calls Tryd.prog 47 #[.int .u64 u] w fun e w' => e = .returned (.int .i64 (Lib.nDigits u)) ∧ w' = w := Any.internal_strconv_numDigits Tryd.laysM284 u h1 h2 w htab
def Tryd.lays285_ren : Go.Shelf.Ren := ⟨fun | 285 => 48 | n => n, fun | 37 => 41 | 53 => 42 | 3 => 3 | 4 => 4 | 51 => 76 | 9 => 9 | 5 => 5 | 0 => 0 | n => n, fun | n => n⟩
theorem Tryd.lays285 : Go.Proofs.Lays.n285 Tryd.prog Tryd.lays285_ren := {
  mixed := by kernel_rfl
  f285 := Tryd.func48.trans (congrArg some (by kernel_rfl))
  t0 := Tryd.underlying0
  a0 := Tryd.isAgg0
  z0 := Tryd.sizeOf0
  v0 := Tryd.zeroValue0
  t3 := Tryd.underlying3
  a3 := Tryd.isAgg3
  z3 := Tryd.sizeOf3
  v3 := Tryd.zeroValue3
  t4 := Tryd.underlying4
  a4 := Tryd.isAgg4
  z4 := Tryd.sizeOf4
  v4 := Tryd.zeroValue4
  t5 := Tryd.underlying5
  a5 := Tryd.isAgg5
  z5 := Tryd.sizeOf5
  v5 := Tryd.zeroValue5
  t9 := Tryd.underlying9
  a9 := Tryd.isAgg9
  z9 := Tryd.sizeOf9
  v9 := Tryd.zeroValue9
  t37 := Tryd.underlying41
  a37 := Tryd.isAgg41
  z37 := Tryd.sizeOf41
  v37 := Tryd.zeroValue41
  t51 := Tryd.underlying76
  a51 := Tryd.isAgg76
  z51 := Tryd.sizeOf76
  v51 := Tryd.zeroValue76
  t53 := Tryd.underlying42
  a53 := Tryd.isAgg42
  z53 := Tryd.sizeOf42
  v53 := Tryd.zeroValue42 }
open Go.RowKit Go.Sort Go.Lib in

theorem Tryd.internal_strconv_formatBase10 (blk off cap : Nat) (u : Nat) (d : Array UInt8) (w : World) (hH : Holds (fun (b : UInt8) => Value.int .u8 (b.toNat : Int)) w blk off d) (hu : u < 10 ^ d.size) (hu64 : u < 18446744073709551616) (hsz : d.size < 4611686018427387904) :
    Calls Tryd.prog 48 #[.slice (some ⟨blk, off, none⟩) d.size cap, .int .u64 u] w fun e w' =>
      e = .returned (.tuple #[]) ∧ ∃ (n v' : Nat) (dk : Array UInt8), w' = (putRow (fun (b : UInt8) => Value.int .u8 (b.toNat : Int)) w blk off dk).drewN n ∧ FmtInv d.size u 0 v' dk := Any.internal_strconv_formatBase10 Tryd.lays285 blk off cap u d w hH hu hu64 hsz
def Tryd.laysM246_ren : Go.Shelf.Ren := ⟨fun | 246 => 41 | 283 => 46 | 284 => 47 | 285 => 48 | 286 => 49 | 129 => 42 | 317 => 52 | 318 => 53 | 319 => 54 | 320 => 55 | 337 => 56 | 338 => 57 | n => n, fun | 2 => 2 | 3 => 3 | 9 => 9 | 4 => 4 | 171 => 63 | 0 => 0 | 53 => 42 | 37 => 41 | 5 => 5 | 173 => 65 | 212 => 75 | 51 => 76 | 20 => 20 | 213 => 77 | 46 => 47 | 232 => 80 | 233 => 81 | n => n, fun | 17 => 4 | 18 => 5 | 19 => 6 | n => n⟩
theorem Tryd.laysM246 : Go.Proofs.LaysM.n246 Tryd.prog Tryd.laysM246_ren := {
  mixed := by kernel_rfl
  f129 := Tryd.func42.trans (congrArg some (by kernel_rfl))
  f246 := Tryd.func41.trans (congrArg some (by kernel_rfl))
  f283 := Tryd.func46.trans (congrArg some (by kernel_rfl))
  f284 := Tryd.func47.trans (congrArg some (by kernel_rfl))
  f285 := Tryd.func48.trans (congrArg some (by kernel_rfl))
  f286 := Tryd.func49.trans (congrArg some (by kernel_rfl))
  f317 := Tryd.func52.trans (congrArg some (by kernel_rfl))
  f318 := Tryd.func53.trans (congrArg some (by kernel_rfl))
  f319 := Tryd.func54.trans (congrArg some (by kernel_rfl))
  f320 := Tryd.func55.trans (congrArg some (by kernel_rfl))
  f337 := Tryd.func56.trans (congrArg some (by kernel_rfl))
  f338 := Tryd.func57.trans (congrArg some (by kernel_rfl))
  t0 := Tryd.underlying0
  a0 := Tryd.isAgg0
  z0 := Tryd.sizeOf0
  v0 := Tryd.zeroValue0
  t2 := Tryd.underlying2
  a2 := Tryd.isAgg2
  z2 := Tryd.sizeOf2
  v2 := Tryd.zeroValue2
  t3 := Tryd.underlying3
  a3 := Tryd.isAgg3
  z3 := Tryd.sizeOf3
  v3 := Tryd.zeroValue3
  t4 := Tryd.underlying4
  a4 := Tryd.isAgg4
  z4 := Tryd.sizeOf4
  v4 := Tryd.zeroValue4
  t5 := Tryd.underlying5
  a5 := Tryd.isAgg5
  z5 := Tryd.sizeOf5
  v5 := Tryd.zeroValue5
  t9 := Tryd.underlying9
  a9 := Tryd.isAgg9
  z9 := Tryd.sizeOf9
  v9 := Tryd.zeroValue9
  t20 := Tryd.underlying20
  a20 := Tryd.isAgg20
  z20 := Tryd.sizeOf20
  v20 := Tryd.zeroValue20
  t37 := Tryd.underlying41
  a37 := Tryd.isAgg41
  z37 := Tryd.sizeOf41
  v37 := Tryd.zeroValue41
  t46 := Tryd.underlying47
  a46 := Tryd.isAgg47
  z46 := Tryd.sizeOf47
  v46 := Tryd.zeroValue47
  t51 := Tryd.underlying76
  a51 := Tryd.isAgg76
  z51 := Tryd.sizeOf76
  v51 := Tryd.zeroValue76
  t53 := Tryd.underlying42
  a53 := Tryd.isAgg42
  z53 := Tryd.sizeOf42
  v53 := Tryd.zeroValue42
  t171 := Tryd.underlying63
  a171 := Tryd.isAgg63
  z171 := Tryd.sizeOf63
  v171 := Tryd.zeroValue63
  t173 := Tryd.underlying65
  a173 := Tryd.isAgg65
  z173 := Tryd.sizeOf65
  v173 := Tryd.zeroValue65
  t212 := Tryd.underlying75
  a212 := Tryd.isAgg75
  z212 := Tryd.sizeOf75
  v212 := Tryd.zeroValue75
  t213 := Tryd.underlying77
  a213 := Tryd.isAgg77
  z213 := Tryd.sizeOf77
  t232 := Tryd.underlying80
  a232 := Tryd.isAgg80
  z232 := Tryd.sizeOf80
  v232 := Tryd.zeroValue80
  t233 := Tryd.underlying81
  a233 := Tryd.isAgg81
  z233 := Tryd.sizeOf81
  v233 := Tryd.zeroValue81
  g17 := by kernel_rfl
  g18 := by kernel_rfl
  g19 := by kernel_rfl
  i0 := by kernel_rfl
  i2 := by kernel_rfl
  i3 := by kernel_rfl
  i4 := by kernel_rfl
  i5 := by kernel_rfl
  i9 := by kernel_rfl
  i20 := by kernel_rfl
  i37 := by kernel_rfl
  i46 := by kernel_rfl
  i51 := by kernel_rfl
  i53 := by kernel_rfl
  i171 := by kernel_rfl
  i173 := by kernel_rfl
  i212 := by kernel_rfl
  i232 := by kernel_rfl
  i233 := by kernel_rfl
  m17 := by kernel_rfl
  m18 := by kernel_rfl
  m19 := by kernel_rfl }
open Go.RowKit Go.Sort Go.Lib in

theorem Tryd.internal_strconv_FormatInt_10 (n : Int) (h0 : -9223372036854775808 ≤ n) (h1 : n ≤ 9223372036854775807) (w : World) (htab : Lib.TabIs Tryd.prog w "internal/strconv.uint64pow10" .u64 Lib.pow10Tab) :
    Calls Tryd.prog 41 #[.int .i64 n, .int .i64 10] w fun e w' => e = .returned (.string ⟨(Lib.itoa n).toArray⟩) ∧ ∃ k os, w' = grow (w.drewN k) os := Any.internal_strconv_FormatInt_10 Tryd.laysM246 n h0 h1 w htab
def Tryd.lays246_ren : Go.Shelf.Ren := ⟨fun | 246 => 41 | 283 => 46 | 284 => 47 | 285 => 48 | 286 => 49 | 129 => 42 | 317 => 52 | 318 => 53 | 319 => 54 | 320 => 55 | 337 => 56 | 338 => 57 | n => n, fun | 2 => 2 | 3 => 3 | 9 => 9 | 4 => 4 | 171 => 63 | 0 => 0 | 53 => 42 | 37 => 41 | 5 => 5 | 173 => 65 | 212 => 75 | 51 => 76 | 20 => 20 | 213 => 77 | 46 => 47 | 232 => 80 | 233 => 81 | n => n, fun | 17 => 4 | 18 => 5 | 19 => 6 | n => n⟩
theorem Tryd.lays246 : Go.Proofs.Lays.n246 Tryd.prog Tryd.lays246_ren := {
  mixed := by kernel_rfl
  f129 := Tryd.func42.trans (congrArg some (by kernel_rfl))
  f246 := Tryd.func41.trans (congrArg some (by kernel_rfl))
  f283 := Tryd.func46.trans (congrArg some (by kernel_rfl))
  f284 := Tryd.func47.trans (congrArg some (by kernel_rfl))
  f285 := Tryd.func48.trans (congrArg some (by kernel_rfl))
  f286 := Tryd.func49.trans (congrArg some (by kernel_rfl))
  f317 := Tryd.func52.trans (congrArg some (by kernel_rfl))
  f318 := Tryd.func53.trans (congrArg some (by kernel_rfl))
  f319 := Tryd.func54.trans (congrArg some (by kernel_rfl))
  f320 := Tryd.func55.trans (congrArg some (by kernel_rfl))
  f337 := Tryd.func56.trans (congrArg some (by kernel_rfl))
  f338 := Tryd.func57.trans (congrArg some (by kernel_rfl))
  t0 := Tryd.underlying0
  a0 := Tryd.isAgg0
  z0 := Tryd.sizeOf0
  v0 := Tryd.zeroValue0
  t2 := Tryd.underlying2
  a2 := Tryd.isAgg2
  z2 := Tryd.sizeOf2
  v2 := Tryd.zeroValue2
  t3 := Tryd.underlying3
  a3 := Tryd.isAgg3
  z3 := Tryd.sizeOf3
  v3 := Tryd.zeroValue3
  t4 := Tryd.underlying4
  a4 := Tryd.isAgg4
  z4 := Tryd.sizeOf4
  v4 := Tryd.zeroValue4
  t5 := Tryd.underlying5
  a5 := Tryd.isAgg5
  z5 := Tryd.sizeOf5
  v5 := Tryd.zeroValue5
  t9 := Tryd.underlying9
  a9 := Tryd.isAgg9
  z9 := Tryd.sizeOf9
  v9 := Tryd.zeroValue9
  t20 := Tryd.underlying20
  a20 := Tryd.isAgg20
  z20 := Tryd.sizeOf20
  v20 := Tryd.zeroValue20
  t37 := Tryd.underlying41
  a37 := Tryd.isAgg41
  z37 := Tryd.sizeOf41
  v37 := Tryd.zeroValue41
  t46 := Tryd.underlying47
  a46 := Tryd.isAgg47
  z46 := Tryd.sizeOf47
  v46 := Tryd.zeroValue47
  t51 := Tryd.underlying76
  a51 := Tryd.isAgg76
  z51 := Tryd.sizeOf76
  v51 := Tryd.zeroValue76
  t53 := Tryd.underlying42
  a53 := Tryd.isAgg42
  z53 := Tryd.sizeOf42
  v53 := Tryd.zeroValue42
  t171 := Tryd.underlying63
  a171 := Tryd.isAgg63
  z171 := Tryd.sizeOf63
  v171 := Tryd.zeroValue63
  t173 := Tryd.underlying65
  a173 := Tryd.isAgg65
  z173 := Tryd.sizeOf65
  v173 := Tryd.zeroValue65
  t212 := Tryd.underlying75
  a212 := Tryd.isAgg75
  z212 := Tryd.sizeOf75
  v212 := Tryd.zeroValue75
  t213 := Tryd.underlying77
  a213 := Tryd.isAgg77
  z213 := Tryd.sizeOf77
  t232 := Tryd.underlying80
  a232 := Tryd.isAgg80
  z232 := Tryd.sizeOf80
  v232 := Tryd.zeroValue80
  t233 := Tryd.underlying81
  a233 := Tryd.isAgg81
  z233 := Tryd.sizeOf81
  v233 := Tryd.zeroValue81
  g17 := by kernel_rfl
  g18 := by kernel_rfl
  g19 := by kernel_rfl }
open Go.RowKit Go.Sort Go.Lib in

theorem Tryd.internal_strconv_FormatInt_10_small (i : Nat) (hi : i < 100) (w : World) :
    Calls Tryd.prog 41 #[.int .i64 i, .int .i64 10] w fun e w' => e = .returned (.string ⟨(Lib.decDigits i).toArray⟩) ∧ w' = w := Any.internal_strconv_FormatInt_10_small Tryd.lays246 i hi w
def Tryd.laysM243_ren : Go.Shelf.Ren := ⟨fun | 243 => 33 | 246 => 41 | 283 => 46 | 284 => 47 | 285 => 48 | 286 => 49 | 129 => 42 | 317 => 52 | 318 => 53 | 319 => 54 | 320 => 55 | 337 => 56 | 338 => 57 | n => n, fun | 3 => 3 | 9 => 9 | 2 => 2 | 4 => 4 | 171 => 63 | 0 => 0 | 53 => 42 | 37 => 41 | 5 => 5 | 173 => 65 | 212 => 75 | 51 => 76 | 20 => 20 | 213 => 77 | 46 => 47 | 232 => 80 | 233 => 81 | n => n, fun | 17 => 4 | 18 => 5 | 19 => 6 | n => n⟩
theorem Tryd.laysM243 : Go.Proofs.LaysM.n243 Tryd.prog Tryd.laysM243_ren := {
  mixed := by kernel_rfl
  f129 := Tryd.func42.trans (congrArg some (by kernel_rfl))
  f243 := Tryd.func33.trans (congrArg some (by kernel_rfl))
  f246 := Tryd.func41.trans (congrArg some (by kernel_rfl))
  f283 := Tryd.func46.trans (congrArg some (by kernel_rfl))
  f284 := Tryd.func47.trans (congrArg some (by kernel_rfl))
  f285 := Tryd.func48.trans (congrArg some (by kernel_rfl))
  f286 := Tryd.func49.trans (congrArg some (by kernel_rfl))
  f317 := Tryd.func52.trans (congrArg some (by kernel_rfl))
  f318 := Tryd.func53.trans (congrArg some (by kernel_rfl))
  f319 := Tryd.func54.trans (congrArg some (by kernel_rfl))
  f320 := Tryd.func55.trans (congrArg some (by kernel_rfl))
  f337 := Tryd.func56.trans (congrArg some (by kernel_rfl))
  f338 := Tryd.func57.trans (congrArg some (by kernel_rfl))
  t0 := Tryd.underlying0
  a0 := Tryd.isAgg0
  z0 := Tryd.sizeOf0
  v0 := Tryd.zeroValue0
  t2 := Tryd.underlying2
  a2 := Tryd.isAgg2
  z2 := Tryd.sizeOf2
  v2 := Tryd.zeroValue2
  t3 := Tryd.underlying3
  a3 := Tryd.isAgg3
  z3 := Tryd.sizeOf3
  v3 := Tryd.zeroValue3
  t4 := Tryd.underlying4
  a4 := Tryd.isAgg4
  z4 := Tryd.sizeOf4
  v4 := Tryd.zeroValue4
  t5 := Tryd.underlying5
  a5 := Tryd.isAgg5
  z5 := Tryd.sizeOf5
  v5 := Tryd.zeroValue5
  t9 := Tryd.underlying9
  a9 := Tryd.isAgg9
  z9 := Tryd.sizeOf9
  v9 := Tryd.zeroValue9
  t20 := Tryd.underlying20
  a20 := Tryd.isAgg20
  z20 := Tryd.sizeOf20
  v20 := Tryd.zeroValue20
  t37 := Tryd.underlying41
  a37 := Tryd.isAgg41
  z37 := Tryd.sizeOf41
  v37 := Tryd.zeroValue41
  t46 := Tryd.underlying47
  a46 := Tryd.isAgg47
  z46 := Tryd.sizeOf47
  v46 := Tryd.zeroValue47
  t51 := Tryd.underlying76
  a51 := Tryd.isAgg76
  z51 := Tryd.sizeOf76
  v51 := Tryd.zeroValue76
  t53 := Tryd.underlying42
  a53 := Tryd.isAgg42
  z53 := Tryd.sizeOf42
  v53 := Tryd.zeroValue42
  t171 := Tryd.underlying63
  a171 := Tryd.isAgg63
  z171 := Tryd.sizeOf63
  v171 := Tryd.zeroValue63
  t173 := Tryd.underlying65
  a173 := Tryd.isAgg65
  z173 := Tryd.sizeOf65
  v173 := Tryd.zeroValue65
  t212 := Tryd.underlying75
  a212 := Tryd.isAgg75
  z212 := Tryd.sizeOf75
  v212 := Tryd.zeroValue75
  t213 := Tryd.underlying77
  a213 := Tryd.isAgg77
  z213 := Tryd.sizeOf77
  t232 := Tryd.underlying80
  a232 := Tryd.isAgg80
  z232 := Tryd.sizeOf80
  v232 := Tryd.zeroValue80
  t233 := Tryd.underlying81
  a233 := Tryd.isAgg81
  z233 := Tryd.sizeOf81
  v233 := Tryd.zeroValue81
  g17 := by kernel_rfl
  g18 := by kernel_rfl
  g19 := by kernel_rfl
  i0 := by kernel_rfl
  i2 := by kernel_rfl
  i3 := by kernel_rfl
  i4 := by kernel_rfl
  i5 := by kernel_rfl
  i9 := by kernel_rfl
  i20 := by kernel_rfl
  i37 := by kernel_rfl
  i46 := by kernel_rfl
  i51 := by kernel_rfl
  i53 := by kernel_rfl
  i171 := by kernel_rfl
  i173 := by kernel_rfl
  i212 := by kernel_rfl
  i232 := by kernel_rfl
  i233 := by kernel_rfl
  m17 := by kernel_rfl
  m18 := by kernel_rfl
  m19 := by kernel_rfl }
open Go.RowKit Go.Sort Go.Lib in

theorem Tryd.internal_strconv_Itoa (n : Int) (h0 : -9223372036854775808 ≤ n) (h1 : n ≤ 9223372036854775807) (w : World) (htab : Lib.TabIs Tryd.prog w "internal/strconv.uint64pow10" .u64 Lib.pow10Tab) :
    Calls Tryd.prog 33 #[.int .i64 n] w fun e w' => e = .returned (.string ⟨(Lib.itoa n).toArray⟩) ∧ ∃ k os, w' = grow (w.drewN k) os := Any.internal_strconv_Itoa Tryd.laysM243 n h0 h1 w htab
def Tryd.lays243_ren : Go.Shelf.Ren := ⟨fun | 243 => 33 | 246 => 41 | 283 => 46 | 284 => 47 | 285 => 48 | 286 => 49 | 129 => 42 | 317 => 52 | 318 => 53 | 319 => 54 | 320 => 55 | 337 => 56 | 338 => 57 | n => n, fun | 3 => 3 | 9 => 9 | 2 => 2 | 4 => 4 | 171 => 63 | 0 => 0 | 53 => 42 | 37 => 41 | 5 => 5 | 173 => 65 | 212 => 75 | 51 => 76 | 20 => 20 | 213 => 77 | 46 => 47 | 232 => 80 | 233 => 81 | n => n, fun | 17 => 4 | 18 => 5 | 19 => 6 | n => n⟩
theorem Tryd.lays243 : Go.Proofs.Lays.n243 Tryd.prog Tryd.lays243_ren := {
  mixed := by kernel_rfl
  f129 := Tryd.func42.trans (congrArg some (by kernel_rfl))
  f243 := Tryd.func33.trans (congrArg some (by kernel_rfl))
  f246 := Tryd.func41.trans (congrArg some (by kernel_rfl))
  f283 := Tryd.func46.trans (congrArg some (by kernel_rfl))
  f284 := Tryd.func47.trans (congrArg some (by kernel_rfl))
  f285 := Tryd.func48.trans (congrArg some (by kernel_rfl))
  f286 := Tryd.func49.trans (congrArg some (by kernel_rfl))
  f317 := Tryd.func52.trans (congrArg some (by kernel_rfl))
  f318 := Tryd.func53.trans (congrArg some (by kernel_rfl))
  f319 := Tryd.func54.trans (congrArg some (by kernel_rfl))
  f320 := Tryd.func55.trans (congrArg some (by kernel_rfl))
  f337 := Tryd.func56.trans (congrArg some (by kernel_rfl))
  f338 := Tryd.func57.trans (congrArg some (by kernel_rfl))
  t0 := Tryd.underlying0
  a0 := Tryd.isAgg0
  z0 := Tryd.sizeOf0
  v0 := Tryd.zeroValue0
  t2 := Tryd.underlying2
  a2 := Tryd.isAgg2
  z2 := Tryd.sizeOf2
  v2 := Tryd.zeroValue2
  t3 := Tryd.underlying3
  a3 := Tryd.isAgg3
  z3 := Tryd.sizeOf3
  v3 := Tryd.zeroValue3
  t4 := Tryd.underlying4
  a4 := Tryd.isAgg4
  z4 := Tryd.sizeOf4
  v4 := Tryd.zeroValue4
  t5 := Tryd.underlying5
  a5 := Tryd.isAgg5
  z5 := Tryd.sizeOf5
  v5 := Tryd.zeroValue5
  t9 := Tryd.underlying9
  a9 := Tryd.isAgg9
  z9 := Tryd.sizeOf9
  v9 := Tryd.zeroValue9
  t20 := Tryd.underlying20
  a20 := Tryd.isAgg20
  z20 := Tryd.sizeOf20
  v20 := Tryd.zeroValue20
  t37 := Tryd.underlying41
  a37 := Tryd.isAgg41
  z37 := Tryd.sizeOf41
  v37 := Tryd.zeroValue41
  t46 := Tryd.underlying47
  a46 := Tryd.isAgg47
  z46 := Tryd.sizeOf47
  v46 := Tryd.zeroValue47
  t51 := Tryd.underlying76
  a51 := Tryd.isAgg76
  z51 := Tryd.sizeOf76
  v51 := Tryd.zeroValue76
  t53 := Tryd.underlying42
  a53 := Tryd.isAgg42
  z53 := Tryd.sizeOf42
  v53 := Tryd.zeroValue42
  t171 := Tryd.underlying63
  a171 := Tryd.isAgg63
  z171 := Tryd.sizeOf63
  v171 := Tryd.zeroValue63
  t173 := Tryd.underlying65
  a173 := Tryd.isAgg65
  z173 := Tryd.sizeOf65
  v173 := Tryd.zeroValue65
  t212 := Tryd.underlying75
  a212 := Tryd.isAgg75
  z212 := Tryd.sizeOf75
  v212 := Tryd.zeroValue75
  t213 := Tryd.underlying77
  a213 := Tryd.isAgg77
  z213 := Tryd.sizeOf77
  t232 := Tryd.underlying80
  a232 := Tryd.isAgg80
  z232 := Tryd.sizeOf80
  v232 := Tryd.zeroValue80
  t233 := Tryd.underlying81
  a233 := Tryd.isAgg81
  z233 := Tryd.sizeOf81
  v233 := Tryd.zeroValue81
  g17 := by kernel_rfl
  g18 := by kernel_rfl
  g19 := by kernel_rfl }
open Go.RowKit Go.Sort Go.Lib in

theorem Tryd.internal_strconv_Itoa_small (i : Nat) (hi : i < 100) (w : World) :
    Calls Tryd.prog 33 #[.int .i64 i] w fun e w' => e = .returned (.string ⟨(Lib.decDigits i).toArray⟩) ∧ w' = w := Any.internal_strconv_Itoa_small Tryd.lays243 i hi w
def Tryd.laysM171_ren : Go.Shelf.Ren := ⟨fun | 171 => 27 | 243 => 33 | 246 => 41 | 283 => 46 | 284 => 47 | 285 => 48 | 286 => 49 | 129 => 42 | 317 => 52 | 318 => 53 | 319 => 54 | 320 => 55 | 337 => 56 | 338 => 57 | n => n, fun | 3 => 3 | 9 => 9 | 2 => 2 | 4 => 4 | 171 => 63 | 0 => 0 | 53 => 42 | 37 => 41 | 5 => 5 | 173 => 65 | 212 => 75 | 51 => 76 | 20 => 20 | 213 => 77 | 46 => 47 | 232 => 80 | 233 => 81 | n => n, fun | 17 => 4 | 18 => 5 | 19 => 6 | n => n⟩
theorem Tryd.laysM171 : Go.Proofs.LaysM.n171 Tryd.prog Tryd.laysM171_ren := {
  mixed := by kernel_rfl
  f129 := Tryd.func42.trans (congrArg some (by kernel_rfl))
  f171 := Tryd.func27.trans (congrArg some (by kernel_rfl))
  f243 := Tryd.func33.trans (congrArg some (by kernel_rfl))
  f246 := Tryd.func41.trans (congrArg some (by kernel_rfl))
  f283 := Tryd.func46.trans (congrArg some (by kernel_rfl))
  f284 := Tryd.func47.trans (congrArg some (by kernel_rfl))
  f285 := Tryd.func48.trans (congrArg some (by kernel_rfl))
  f286 := Tryd.func49.trans (congrArg some (by kernel_rfl))
  f317 := Tryd.func52.trans (congrArg some (by kernel_rfl))
  f318 := Tryd.func53.trans (congrArg some (by kernel_rfl))
  f319 := Tryd.func54.trans (congrArg some (by kernel_rfl))
  f320 := Tryd.func55.trans (congrArg some (by kernel_rfl))
  f337 := Tryd.func56.trans (congrArg some (by kernel_rfl))
  f338 := Tryd.func57.trans (congrArg some (by kernel_rfl))
  t0 := Tryd.underlying0
  a0 := Tryd.isAgg0
  z0 := Tryd.sizeOf0
  v0 := Tryd.zeroValue0
  t2 := Tryd.underlying2
  a2 := Tryd.isAgg2
  z2 := Tryd.sizeOf2
  v2 := Tryd.zeroValue2
  t3 := Tryd.underlying3
  a3 := Tryd.isAgg3
  z3 := Tryd.sizeOf3
  v3 := Tryd.zeroValue3
  t4 := Tryd.underlying4
  a4 := Tryd.isAgg4
  z4 := Tryd.sizeOf4
  v4 := Tryd.zeroValue4
  t5 := Tryd.underlying5
  a5 := Tryd.isAgg5
  z5 := Tryd.sizeOf5
  v5 := Tryd.zeroValue5
  t9 := Tryd.underlying9
  a9 := Tryd.isAgg9
  z9 := Tryd.sizeOf9
  v9 := Tryd.zeroValue9
  t20 := Tryd.underlying20
  a20 := Tryd.isAgg20
  z20 := Tryd.sizeOf20
  v20 := Tryd.zeroValue20
  t37 := Tryd.underlying41
  a37 := Tryd.isAgg41
  z37 := Tryd.sizeOf41
  v37 := Tryd.zeroValue41
  t46 := Tryd.underlying47
  a46 := Tryd.isAgg47
  z46 := Tryd.sizeOf47
  v46 := Tryd.zeroValue47
  t51 := Tryd.underlying76
  a51 := Tryd.isAgg76
  z51 := Tryd.sizeOf76
  v51 := Tryd.zeroValue76
  t53 := Tryd.underlying42
  a53 := Tryd.isAgg42
  z53 := Tryd.sizeOf42
  v53 := Tryd.zeroValue42
  t171 := Tryd.underlying63
  a171 := Tryd.isAgg63
  z171 := Tryd.sizeOf63
  v171 := Tryd.zeroValue63
  t173 := Tryd.underlying65
  a173 := Tryd.isAgg65
  z173 := Tryd.sizeOf65
  v173 := Tryd.zeroValue65
  t212 := Tryd.underlying75
  a212 := Tryd.isAgg75
  z212 := Tryd.sizeOf75
  v212 := Tryd.zeroValue75
  t213 := Tryd.underlying77
  a213 := Tryd.isAgg77
  z213 := Tryd.sizeOf77
  t232 := Tryd.underlying80
  a232 := Tryd.isAgg80
  z232 := Tryd.sizeOf80
  v232 := Tryd.zeroValue80
  t233 := Tryd.underlying81
  a233 := Tryd.isAgg81
  z233 := Tryd.sizeOf81
  v233 := Tryd.zeroValue81
  g17 := by kernel_rfl
  g18 := by kernel_rfl
  g19 := by kernel_rfl
  i0 := by kernel_rfl
  i2 := by kernel_rfl
  i3 := by kernel_rfl
  i4 := by kernel_rfl
  i5 := by kernel_rfl
  i9 := by kernel_rfl
  i20 := by kernel_rfl
  i37 := by kernel_rfl
  i46 := by kernel_rfl
  i51 := by kernel_rfl
  i53 := by kernel_rfl
  i171 := by kernel_rfl
  i173 := by kernel_rfl
  i212 := by kernel_rfl
  i232 := by kernel_rfl
  i233 := by kernel_rfl
  m17 := by kernel_rfl
  m18 := by kernel_rfl
  m19 := by kernel_rfl }
open Go.RowKit Go.Sort Go.Lib in

theorem Tryd.strconv_Itoa (n : Int) (h0 : -9223372036854775808 ≤ n) (h1 : n ≤ 9223372036854775807) (w : World) (htab : Lib.TabIs Tryd.prog w "internal/strconv.uint64pow10" .u64 Lib.pow10Tab) :
    Calls Tryd.prog 27 #[.int .i64 n] w fun e w' => e = .returned (.string ⟨(Lib.itoa n).toArray⟩) ∧ ∃ k os, w' = grow (w.drewN k) os := Any.strconv_Itoa Tryd.laysM171 n h0 h1 w htab
def Tryd.lays171_ren : Go.Shelf.Ren := ⟨fun | 171 => 27 | 243 => 33 | 246 => 41 | 283 => 46 | 284 => 47 | 285 => 48 | 286 => 49 | 129 => 42 | 317 => 52 | 318 => 53 | 319 => 54 | 320 => 55 | 337 => 56 | 338 => 57 | n => n, fun | 3 => 3 | 9 => 9 | 2 => 2 | 4 => 4 | 171 => 63 | 0 => 0 | 53 => 42 | 37 => 41 | 5 => 5 | 173 => 65 | 212 => 75 | 51 => 76 | 20 => 20 | 213 => 77 | 46 => 47 | 232 => 80 | 233 => 81 | n => n, fun | 17 => 4 | 18 => 5 | 19 => 6 | n => n⟩
theorem Tryd.lays171 : Go.Proofs.Lays.n171 Tryd.prog Tryd.lays171_ren := {
  mixed := by kernel_rfl
  f129 := Tryd.func42.trans (congrArg some (by kernel_rfl))
  f171 := Tryd.func27.trans (congrArg some (by kernel_rfl))
  f243 := Tryd.func33.trans (congrArg some (by kernel_rfl))
  f246 := Tryd.func41.trans (congrArg some (by kernel_rfl))
  f283 := Tryd.func46.trans (congrArg some (by kernel_rfl))
  f284 := Tryd.func47.trans (congrArg some (by kernel_rfl))
  f285 := Tryd.func48.trans (congrArg some (by kernel_rfl))
  f286 := Tryd.func49.trans (congrArg some (by kernel_rfl))
  f317 := Tryd.func52.trans (congrArg some (by kernel_rfl))
  f318 := Tryd.func53.trans (congrArg some (by kernel_rfl))
  f319 := Tryd.func54.trans (congrArg some (by kernel_rfl))
  f320 := Tryd.func55.trans (congrArg some (by kernel_rfl))
  f337 := Tryd.func56.trans (congrArg some (by kernel_rfl))
  f338 := Tryd.func57.trans (congrArg some (by kernel_rfl))
  t0 := Tryd.underlying0
  a0 := Tryd.isAgg0
  z0 := Tryd.sizeOf0
  v0 := Tryd.zeroValue0
  t2 := Tryd.underlying2
  a2 := Tryd.isAgg2
  z2 := Tryd.sizeOf2
  v2 := Tryd.zeroValue2
  t3 := Tryd.underlying3
  a3 := Tryd.isAgg3
  z3 := Tryd.sizeOf3
  v3 := Tryd.zeroValue3
  t4 := Tryd.underlying4
  a4 := Tryd.isAgg4
  z4 := Tryd.sizeOf4
  v4 := Tryd.zeroValue4
  t5 := Tryd.underlying5
  a5 := Tryd.isAgg5
  z5 := Tryd.sizeOf5
  v5 := Tryd.zeroValue5
  t9 := Tryd.underlying9
  a9 := Tryd.isAgg9
  z9 := Tryd.sizeOf9
  v9 := Tryd.zeroValue9
  t20 := Tryd.underlying20
  a20 := Tryd.isAgg20
  z20 := Tryd.sizeOf20
  v20 := Tryd.zeroValue20
  t37 := Tryd.underlying41
  a37 := Tryd.isAgg41
  z37 := Tryd.sizeOf41
  v37 := Tryd.zeroValue41
  t46 := Tryd.underlying47
  a46 := Tryd.isAgg47
  z46 := Tryd.sizeOf47
  v46 := Tryd.zeroValue47
  t51 := Tryd.underlying76
  a51 := Tryd.isAgg76
  z51 := Tryd.sizeOf76
  v51 := Tryd.zeroValue76
  t53 := Tryd.underlying42
  a53 := Tryd.isAgg42
  z53 := Tryd.sizeOf42
  v53 := Tryd.zeroValue42
  t171 := Tryd.underlying63
  a171 := Tryd.isAgg63
  z171 := Tryd.sizeOf63
  v171 := Tryd.zeroValue63
  t173 := Tryd.underlying65
  a173 := Tryd.isAgg65
  z173 := Tryd.sizeOf65
  v173 := Tryd.zeroValue65
  t212 := Tryd.underlying75
  a212 := Tryd.isAgg75
  z212 := Tryd.sizeOf75
  v212 := Tryd.zeroValue75
  t213 := Tryd.underlying77
  a213 := Tryd.isAgg77
  z213 := Tryd.sizeOf77
  t232 := Tryd.underlying80
  a232 := Tryd.isAgg80
  z232 := Tryd.sizeOf80
  v232 := Tryd.zeroValue80
  t233 := Tryd.underlying81
  a233 := Tryd.isAgg81
  z233 := Tryd.sizeOf81
  v233 := Tryd.zeroValue81
  g17 := by kernel_rfl
  g18 := by kernel_rfl
  g19 := by kernel_rfl }
open Go.RowKit Go.Sort Go.Lib in

theorem Tryd.strconv_Itoa_small (i : Nat) (hi : i < 100) (w : World) :
    Calls Tryd.prog 27 #[.int .i64 i] w fun e w' => e = .returned (.string ⟨(Lib.decDigits i).toArray⟩) ∧ w' = w := Any.strconv_Itoa_small Tryd.lays171 i hi w
open Go.RowKit in

theorem Tryd.internal_strconv_Atoi_err (s : ByteArray) (hl0 : 1 ≤ s.size) (hl : s.size ≤ 18) (h : Lib.atoi s.data.toList = none) (w : World) :
    Calls Tryd.prog 31 #[.string s] w fun e w' => e = .returned (.tuple #[.int .i64 0, (.iface 50 (.int .i64 2))]) ∧ (w' = w ∨ ∃ t, w' = Lib.bytesWorld w 5 t) := Any.internal_strconv_Atoi_err Tryd.lays244 s hl0 hl h w
def Tryd.lays247_ren : Go.Shelf.Ren := ⟨fun | 247 => 36 | 287 => 43 | 321 => 50 | 322 => 51 | n => n, fun | 9 => 9 | 3 => 3 | 2 => 2 | 75 => 38 | 4 => 4 | 167 => 50 | 5 => 5 | 53 => 42 | 175 => 57 | 46 => 47 | 37 => 41 | 0 => 0 | 21 => 21 | 80 => 82 | n => n, fun | n => n⟩
theorem Tryd.lays247 : Go.Proofs.Lays.n247 Tryd.prog Tryd.lays247_ren := {
  mixed := by kernel_rfl
  f247 := Tryd.func36.trans (congrArg some (by kernel_rfl))
  f287 := Tryd.func43.trans (congrArg some (by kernel_rfl))
  f321 := Tryd.func50.trans (congrArg some (by kernel_rfl))
  f322 := Tryd.func51.trans (congrArg some (by kernel_rfl))
  t0 := Tryd.underlying0
  a0 := Tryd.isAgg0
  z0 := Tryd.sizeOf0
  v0 := Tryd.zeroValue0
  t2 := Tryd.underlying2
  a2 := Tryd.isAgg2
  z2 := Tryd.sizeOf2
  v2 := Tryd.zeroValue2
  t3 := Tryd.underlying3
  a3 := Tryd.isAgg3
  z3 := Tryd.sizeOf3
  v3 := Tryd.zeroValue3
  t4 := Tryd.underlying4
  a4 := Tryd.isAgg4
  z4 := Tryd.sizeOf4
  v4 := Tryd.zeroValue4
  t5 := Tryd.underlying5
  a5 := Tryd.isAgg5
  z5 := Tryd.sizeOf5
  v5 := Tryd.zeroValue5
  t9 := Tryd.underlying9
  a9 := Tryd.isAgg9
  z9 := Tryd.sizeOf9
  v9 := Tryd.zeroValue9
  t21 := Tryd.underlying21
  a21 := Tryd.isAgg21
  z21 := Tryd.sizeOf21
  v21 := Tryd.zeroValue21
  t37 := Tryd.underlying41
  a37 := Tryd.isAgg41
  z37 := Tryd.sizeOf41
  v37 := Tryd.zeroValue41
  t46 := Tryd.underlying47
  a46 := Tryd.isAgg47
  z46 := Tryd.sizeOf47
  v46 := Tryd.zeroValue47
  t53 := Tryd.underlying42
  a53 := Tryd.isAgg42
  z53 := Tryd.sizeOf42
  v53 := Tryd.zeroValue42
  t75 := Tryd.underlying38
  a75 := Tryd.isAgg38
  z75 := Tryd.sizeOf38
  v75 := Tryd.zeroValue38
  t167 := Tryd.underlying50
  a167 := Tryd.isAgg50
  z167 := Tryd.sizeOf50
  v167 := Tryd.zeroValue50
  t175 := Tryd.underlying57
  a175 := Tryd.isAgg57
  z175 := Tryd.sizeOf57
  v175 := Tryd.zeroValue57 }
open Go.RowKit in

theorem Tryd.internal_strconv_ParseInt_empty (base bits : Int) (w : World) :
    Calls Tryd.prog 36 #[.string ⟨#[]⟩, .int .i64 base, .int .i64 bits] w fun e w' => e = .returned (.tuple #[.int .i64 0, (.iface 50 (.int .i64 2))]) ∧ w' = w := Any.internal_strconv_ParseInt_empty Tryd.lays247 base bits w
open Go.RowKit in

theorem Tryd.internal_strconv_Atoi_empty (w : World) :
    Calls Tryd.prog 31 #[.string ⟨#[]⟩] w fun e w' => e = .returned (.tuple #[.int .i64 0, (.iface 50 (.int .i64 2))]) ∧ w' = w := Any.internal_strconv_Atoi_empty Tryd.lays244 w
open Go.RowKit in

theorem Tryd.internal_strconv_Atoi_fail (s : ByteArray) (hl : s.size ≤ 18) (h : Lib.atoi s.data.toList = none) (w : World) :
    Calls Tryd.prog 31 #[.string s] w fun e w' => e = .returned (.tuple #[.int .i64 0, (.iface 50 (.int .i64 2))]) ∧ (w' = w ∨ ∃ t, w' = Lib.bytesWorld w 5 t) := Any.internal_strconv_Atoi_fail Tryd.lays244 s hl h w
def Tryd.laysM316_ren : Go.Shelf.Ren := ⟨fun | 316 => 44 | n => n, fun | 9 => 9 | 3 => 3 | 4 => 4 | 37 => 41 | 0 => 0 | 127 => 69 | 5 => 5 | n => n, fun | n => n⟩
theorem Tryd.laysM316 : Go.Proofs.LaysM.n316 Tryd.prog Tryd.laysM316_ren := {
  mixed := by kernel_rfl
  f316 := Tryd.func44.trans (congrArg some (by kernel_rfl))
  t0 := Tryd.underlying0
  a0 := Tryd.isAgg0
  z0 := Tryd.sizeOf0
  v0 := Tryd.zeroValue0
  t3 := Tryd.underlying3
  a3 := Tryd.isAgg3
  z3 := Tryd.sizeOf3
  v3 := Tryd.zeroValue3
  t4 := Tryd.underlying4
  a4 := Tryd.isAgg4
  z4 := Tryd.sizeOf4
  v4 := Tryd.zeroValue4
  t9 := Tryd.underlying9
  a9 := Tryd.isAgg9
  z9 := Tryd.sizeOf9
  v9 := Tryd.zeroValue9
  t37 := Tryd.underlying41
  a37 := Tryd.isAgg41
  z37 := Tryd.sizeOf41
  v37 := Tryd.zeroValue41
  t127 := Tryd.underlying69
  a127 := Tryd.isAgg69
  z127 := Tryd.sizeOf69
  v127 := Tryd.zeroValue69
  t5 := Tryd.underlying5
  a5 := Tryd.isAgg5
  z5 := Tryd.sizeOf5
  v5 := Tryd.zeroValue5
  i0 := by kernel_rfl
  i3 := by kernel_rfl
  i4 := by kernel_rfl
  i5 := by kernel_rfl
  i9 := by kernel_rfl
  i37 := by kernel_rfl
  i127 := by kernel_rfl }
open Go.RowKit in

theorem Tryd.stringslite_Clone (s : ByteArray) (w : World) (hlim : s.size ≤ 281474976710656) :
    Calls Tryd.prog 44 #[.string s] w fun e w' => e = .returned (.string s) ∧ Below w.heap.size w w' := Any.stringslite_Clone Tryd.laysM316 s w hlim
def Tryd.laysM279_ren : Go.Shelf.Ren := ⟨fun | 279 => 37 | 316 => 44 | n => n, fun | 9 => 9 | 168 => 53 | 75 => 38 | 210 => 61 | 3 => 3 | 4 => 4 | 37 => 41 | 0 => 0 | 127 => 69 | 80 => 82 | 5 => 5 | n => n, fun | 15 => 2 | n => n⟩
theorem Tryd.laysM279 : Go.Proofs.LaysM.n279 Tryd.prog Tryd.laysM279_ren := {
  mixed := by kernel_rfl
  f279 := Tryd.func37.trans (congrArg some (by kernel_rfl))
  f316 := Tryd.func44.trans (congrArg some (by kernel_rfl))
  t0 := Tryd.underlying0
  a0 := Tryd.isAgg0
  z0 := Tryd.sizeOf0
  v0 := Tryd.zeroValue0
  t3 := Tryd.underlying3
  a3 := Tryd.isAgg3
  z3 := Tryd.sizeOf3
  v3 := Tryd.zeroValue3
  t4 := Tryd.underlying4
  a4 := Tryd.isAgg4
  z4 := Tryd.sizeOf4
  v4 := Tryd.zeroValue4
  t9 := Tryd.underlying9
  a9 := Tryd.isAgg9
  z9 := Tryd.sizeOf9
  v9 := Tryd.zeroValue9
  t37 := Tryd.underlying41
  a37 := Tryd.isAgg41
  z37 := Tryd.sizeOf41
  v37 := Tryd.zeroValue41
  t75 := Tryd.underlying38
  a75 := Tryd.isAgg38
  z75 := Tryd.sizeOf38
  v75 := Tryd.zeroValue38
  t127 := Tryd.underlying69
  a127 := Tryd.isAgg69
  z127 := Tryd.sizeOf69
  v127 := Tryd.zeroValue69
  t168 := Tryd.underlying53
  a168 := Tryd.isAgg53
  z168 := Tryd.sizeOf53
  v168 := Tryd.zeroValue53
  t210 := Tryd.underlying61
  a210 := Tryd.isAgg61
  z210 := Tryd.sizeOf61
  v210 := Tryd.zeroValue61
  g15 := by kernel_rfl
  t5 := Tryd.underlying5
  a5 := Tryd.isAgg5
  z5 := Tryd.sizeOf5
  v5 := Tryd.zeroValue5
  t80 := Tryd.underlying82
  a80 := Tryd.isAgg82
  z80 := Tryd.sizeOf82
  v80 := Tryd.zeroValue82
  i0 := by kernel_rfl
  i3 := by kernel_rfl
  i4 := by kernel_rfl
  i5 := by kernel_rfl
  i9 := by kernel_rfl
  i37 := by kernel_rfl
  i75 := by kernel_rfl
  i80 := by kernel_rfl
  i127 := by kernel_rfl
  i168 := by kernel_rfl
  i210 := by kernel_rfl
  m15 := by kernel_rfl }
open Go.RowKit in

theorem Tryd.strconv_syntaxError (fn s : ByteArray) (ev : Value) (w : World) (hlim : s.size ≤ 281474976710656) (hv : w.cell? ⟨2, 0, none⟩ = some ev) (hev : ev = .nilIface ∨ ∃ te pe, ev = .iface te pe) :
    Calls Tryd.prog 37 #[.string fn, .string s] w fun e w' => ∃ N, e = .returned (.pointer (some ⟨N, 0, none⟩)) ∧ w.heap.size ≤ N ∧ w'.heap[N]? = some (.cells #[.string fn, .string s, ev] 61 (0, 0)) ∧ Below w.heap.size w w' := Any.strconv_syntaxError Tryd.laysM279 fn s ev w hlim hv hev
def Tryd.laysC245_ren : Go.Shelf.Ren := ⟨fun | 245 => 32 | 279 => 37 | 280 => 38 | 281 => 39 | 282 => 40 | 316 => 44 | 171 => 27 | 205 => 45 | 243 => 33 | 246 => 41 | 283 => 46 | 284 => 47 | 285 => 48 | 286 => 49 | 129 => 42 | 317 => 52 | 318 => 53 | 319 => 54 | 320 => 55 | 337 => 56 | 338 => 57 | n => n, fun | 9 => 9 | 3 => 3 | 75 => 38 | 167 => 50 | 4 => 4 | 168 => 53 | 210 => 61 | 37 => 41 | 0 => 0 | 127 => 69 | 145 => 72 | 143 => 70 | 2 => 2 | 171 => 63 | 53 => 42 | 5 => 5 | 173 => 65 | 212 => 75 | 51 => 76 | 20 => 20 | 213 => 77 | 46 => 47 | 232 => 80 | 233 => 81 | 80 => 82 | n => n, fun | 15 => 2 | 16 => 3 | 17 => 4 | 18 => 5 | 19 => 6 | n => n⟩
theorem Tryd.laysC245 : Go.Proofs.LaysC.n245 Tryd.prog Tryd.laysC245_ren := {
  mixed := by kernel_rfl
  f129 := Tryd.func42.trans (congrArg some (by kernel_rfl))
  f171 := Tryd.func27.trans (congrArg some (by kernel_rfl))
  f205 := Tryd.func45.trans (congrArg some (by kernel_rfl))
  f243 := Tryd.func33.trans (congrArg some (by kernel_rfl))
  f245 := Tryd.func32.trans (congrArg some (by kernel_rfl))
  f246 := Tryd.func41.trans (congrArg some (by kernel_rfl))
  f279 := Tryd.func37.trans (congrArg some (by kernel_rfl))
  f280 := Tryd.func38.trans (congrArg some (by kernel_rfl))
  f281 := Tryd.func39.trans (congrArg some (by kernel_rfl))
  f282 := Tryd.func40.trans (congrArg some (by kernel_rfl))
  f283 := Tryd.func46.trans (congrArg some (by kernel_rfl))
  f284 := Tryd.func47.trans (congrArg some (by kernel_rfl))
  f285 := Tryd.func48.trans (congrArg some (by kernel_rfl))
  f286 := Tryd.func49.trans (congrArg some (by kernel_rfl))
  f316 := Tryd.func44.trans (congrArg some (by kernel_rfl))
  f317 := Tryd.func52.trans (congrArg some (by kernel_rfl))
  f318 := Tryd.func53.trans (congrArg some (by kernel_rfl))
  f319 := Tryd.func54.trans (congrArg some (by kernel_rfl))
  f320 := Tryd.func55.trans (congrArg some (by kernel_rfl))
  f337 := Tryd.func56.trans (congrArg some (by kernel_rfl))
  f338 := Tryd.func57.trans (congrArg some (by kernel_rfl))
  t0 := Tryd.underlying0
  a0 := Tryd.isAgg0
  z0 := Tryd.sizeOf0
  v0 := Tryd.zeroValue0
  t2 := Tryd.underlying2
  a2 := Tryd.isAgg2
  z2 := Tryd.sizeOf2
  v2 := Tryd.zeroValue2
  t3 := Tryd.underlying3
  a3 := Tryd.isAgg3
  z3 := Tryd.sizeOf3
  v3 := Tryd.zeroValue3
  t4 := Tryd.underlying4
  a4 := Tryd.isAgg4
  z4 := Tryd.sizeOf4
  v4 := Tryd.zeroValue4
  t5 := Tryd.underlying5
  a5 := Tryd.isAgg5
  z5 := Tryd.sizeOf5
  v5 := Tryd.zeroValue5
  t9 := Tryd.underlying9
  a9 := Tryd.isAgg9
  z9 := Tryd.sizeOf9
  v9 := Tryd.zeroValue9
  t20 := Tryd.underlying20
  a20 := Tryd.isAgg20
  z20 := Tryd.sizeOf20
  v20 := Tryd.zeroValue20
  t37 := Tryd.underlying41
  a37 := Tryd.isAgg41
  z37 := Tryd.sizeOf41
  v37 := Tryd.zeroValue41
  t46 := Tryd.underlying47
  a46 := Tryd.isAgg47
  z46 := Tryd.sizeOf47
  v46 := Tryd.zeroValue47
  t51 := Tryd.underlying76
  a51 := Tryd.isAgg76
  z51 := Tryd.sizeOf76
  v51 := Tryd.zeroValue76
  t53 := Tryd.underlying42
  a53 := Tryd.isAgg42
  z53 := Tryd.sizeOf42
  v53 := Tryd.zeroValue42
  t75 := Tryd.underlying38
  a75 := Tryd.isAgg38
  z75 := Tryd.sizeOf38
  v75 := Tryd.zeroValue38
  t127 := Tryd.underlying69
  a127 := Tryd.isAgg69
  z127 := Tryd.sizeOf69
  v127 := Tryd.zeroValue69
  t143 := Tryd.underlying70
  a143 := Tryd.isAgg70
  z143 := Tryd.sizeOf70
  v143 := Tryd.zeroValue70
  t145 := Tryd.underlying72
  a145 := Tryd.isAgg72
  z145 := Tryd.sizeOf72
  v145 := Tryd.zeroValue72
  t167 := Tryd.underlying50
  a167 := Tryd.isAgg50
  z167 := Tryd.sizeOf50
  v167 := Tryd.zeroValue50
  t168 := Tryd.underlying53
  a168 := Tryd.isAgg53
  z168 := Tryd.sizeOf53
  v168 := Tryd.zeroValue53
  t171 := Tryd.underlying63
  a171 := Tryd.isAgg63
  z171 := Tryd.sizeOf63
  v171 := Tryd.zeroValue63
  t173 := Tryd.underlying65
  a173 := Tryd.isAgg65
  z173 := Tryd.sizeOf65
  v173 := Tryd.zeroValue65
  t210 := Tryd.underlying61
  a210 := Tryd.isAgg61
  z210 := Tryd.sizeOf61
  v210 := Tryd.zeroValue61
  t212 := Tryd.underlying75
  a212 := Tryd.isAgg75
  z212 := Tryd.sizeOf75
  v212 := Tryd.zeroValue75
  t213 := Tryd.underlying77
  a213 := Tryd.isAgg77
  z213 := Tryd.sizeOf77
  t232 := Tryd.underlying80
  a232 := Tryd.isAgg80
  z232 := Tryd.sizeOf80
  v232 := Tryd.zeroValue80
  t233 := Tryd.underlying81
  a233 := Tryd.isAgg81
  z233 := Tryd.sizeOf81
  v233 := Tryd.zeroValue81
  g15 := by kernel_rfl
  g16 := by kernel_rfl
  g17 := by kernel_rfl
  g18 := by kernel_rfl
  g19 := by kernel_rfl
  t80 := Tryd.underlying82
  a80 := Tryd.isAgg82
  z80 := Tryd.sizeOf82
  v80 := Tryd.zeroValue82
  i0 := by kernel_rfl
  i2 := by kernel_rfl
  i3 := by kernel_rfl
  i4 := by kernel_rfl
  i5 := by kernel_rfl
  i9 := by kernel_rfl
  i20 := by kernel_rfl
  i37 := by kernel_rfl
  i46 := by kernel_rfl
  i51 := by kernel_rfl
  i53 := by kernel_rfl
  i75 := by kernel_rfl
  i80 := by kernel_rfl
  i127 := by kernel_rfl
  i143 := by kernel_rfl
  i145 := by kernel_rfl
  i167 := by kernel_rfl
  i168 := by kernel_rfl
  i171 := by kernel_rfl
  i173 := by kernel_rfl
  i210 := by kernel_rfl
  i212 := by kernel_rfl
  i232 := by kernel_rfl
  i233 := by kernel_rfl
  m15 := by kernel_rfl
  m16 := by kernel_rfl
  m17 := by kernel_rfl
  m18 := by kernel_rfl
  m19 := by kernel_rfl
  c0 := by kernel_rfl
  c2 := by kernel_rfl
  c3 := by kernel_rfl
  c4 := by kernel_rfl
  c5 := by kernel_rfl
  c9 := by kernel_rfl
  c20 := by kernel_rfl
  c37 := by kernel_rfl
  c46 := by kernel_rfl
  c51 := by kernel_rfl
  c53 := by kernel_rfl
  c75 := by kernel_rfl
  c80 := by kernel_rfl
  c127 := by kernel_rfl
  c143 := by kernel_rfl
  c145 := by kernel_rfl
  c167 := by kernel_rfl
  c168 := by kernel_rfl
  c171 := by kernel_rfl
  c173 := by kernel_rfl
  c210 := by kernel_rfl
  c212 := by kernel_rfl
  c213 := by kernel_rfl
  c232 := by kernel_rfl
  c233 := by kernel_rfl }
open Go.RowKit in

theorem Tryd.strconv_toError_syntax (fn s : ByteArray) (base bits : Int) (ev : Value) (w : World) (hlim : s.size ≤ 281474976710656) (hv : w.cell? ⟨2, 0, none⟩ = some ev) (hev : ev = .nilIface ∨ ∃ te pe, ev = .iface te pe) :
    Calls Tryd.prog 32 #[.string fn, .string s, .int .i64 base, .int .i64 bits, .iface 50 (.int .i64 2)] w fun e w' => ∃ N, e = .returned (.iface 53 (.pointer (some ⟨N, 0, none⟩))) ∧ w.heap.size ≤ N ∧ w'.heap[N]? = some (.cells #[.string fn, .string s, ev] 61 (0, 0)) ∧ Below w.heap.size w w' := Any.strconv_toError_syntax Tryd.laysC245 fn s base bits ev w hlim hv hev
def Tryd.lays321_ren : Go.Shelf.Ren := ⟨fun | 321 => 50 | n => n, fun | 5 => 5 | n => n, fun | n => n⟩
theorem Tryd.lays321 : Go.Proofs.Lays.n321 Tryd.prog Tryd.lays321_ren := {
  mixed := by kernel_rfl
  f321 := Tryd.func50.trans (congrArg some (by kernel_rfl))
  t5 := Tryd.underlying5
  a5 := Tryd.isAgg5
  z5 := Tryd.sizeOf5
  v5 := Tryd.zeroValue5 }
open Go.RowKit in

theorem Tryd.internal_strconv_lower (c : Int) (w : World) :
    Calls Tryd.prog 50 #[.int .u8 c] w fun e w' => e = .returned (.int .u8 (bits .or .u8 c 32)) ∧ w' = w := Any.internal_strconv_lower Tryd.lays321 c w
def Tryd.lays287_ren : Go.Shelf.Ren := ⟨fun | 287 => 43 | 321 => 50 | 322 => 51 | n => n, fun | 9 => 9 | 3 => 3 | 53 => 42 | 75 => 38 | 4 => 4 | 167 => 50 | 5 => 5 | 46 => 47 | 37 => 41 | 0 => 0 | 21 => 21 | 80 => 82 | n => n, fun | n => n⟩
theorem Tryd.lays287 : Go.Proofs.Lays.n287 Tryd.prog Tryd.lays287_ren := {
  mixed := by kernel_rfl
  f287 := Tryd.func43.trans (congrArg some (by kernel_rfl))
  f321 := Tryd.func50.trans (congrArg some (by kernel_rfl))
  f322 := Tryd.func51.trans (congrArg some (by kernel_rfl))
  t0 := Tryd.underlying0
  a0 := Tryd.isAgg0
  z0 := Tryd.sizeOf0
  v0 := Tryd.zeroValue0
  t3 := Tryd.underlying3
  a3 := Tryd.isAgg3
  z3 := Tryd.sizeOf3
  v3 := Tryd.zeroValue3
  t4 := Tryd.underlying4
  a4 := Tryd.isAgg4
  z4 := Tryd.sizeOf4
  v4 := Tryd.zeroValue4
  t5 := Tryd.underlying5
  a5 := Tryd.isAgg5
  z5 := Tryd.sizeOf5
  v5 := Tryd.zeroValue5
  t9 := Tryd.underlying9
  a9 := Tryd.isAgg9
  z9 := Tryd.sizeOf9
  v9 := Tryd.zeroValue9
  t21 := Tryd.underlying21
  a21 := Tryd.isAgg21
  z21 := Tryd.sizeOf21
  v21 := Tryd.zeroValue21
  t37 := Tryd.underlying41
  a37 := Tryd.isAgg41
  z37 := Tryd.sizeOf41
  v37 := Tryd.zeroValue41
  t46 := Tryd.underlying47
  a46 := Tryd.isAgg47
  z46 := Tryd.sizeOf47
  v46 := Tryd.zeroValue47
  t53 := Tryd.underlying42
  a53 := Tryd.isAgg42
  z53 := Tryd.sizeOf42
  v53 := Tryd.zeroValue42
  t75 := Tryd.underlying38
  a75 := Tryd.isAgg38
  z75 := Tryd.sizeOf38
  v75 := Tryd.zeroValue38
  t167 := Tryd.underlying50
  a167 := Tryd.isAgg50
  z167 := Tryd.sizeOf50
  v167 := Tryd.zeroValue50 }
open Go.RowKit in

theorem Tryd.internal_strconv_ParseUint_10 (t : ByteArray) (hne : t.size ≠ 0) (hmax : t.size ≤ 9223372036854775806) (w : World) :
    Calls Tryd.prog 43 #[.string t, .int .i64 10, .int .i64 0] w fun e w' => e = .returned (Lib.uintTuple 50 (Lib.parseUint10 0 t.data.toList)) ∧ w' = Lib.bytesWorld w 5 t := Any.internal_strconv_ParseUint_10 Tryd.lays287 t hne hmax w
open Go.RowKit in

theorem Tryd.internal_strconv_ParseUint_10_empty (w : World) :
    Calls Tryd.prog 43 #[.string ⟨#[]⟩, .int .i64 10, .int .i64 0] w fun e w' => e = .returned (Lib.uintTuple 50 .syntax) ∧ w' = w := Any.internal_strconv_ParseUint_10_empty Tryd.lays287 w
open Go.RowKit in

theorem Tryd.internal_strconv_ParseUint_10_any (t : ByteArray) (hmax : t.size ≤ 9223372036854775806) (w : World) :
    Calls Tryd.prog 43 #[.string t, .int .i64 10, .int .i64 0] w fun e w' => e = .returned (Lib.uintTuple 50 (Lib.parseMag t.data.toList)) ∧ (w' = w ∨ w' = Lib.bytesWorld w 5 t) := Any.internal_strconv_ParseUint_10_any Tryd.lays287 t hmax w
def Tryd.laysC247_ren : Go.Shelf.Ren := ⟨fun | 247 => 36 | 287 => 43 | 321 => 50 | 322 => 51 | n => n, fun | 9 => 9 | 3 => 3 | 2 => 2 | 75 => 38 | 4 => 4 | 167 => 50 | 5 => 5 | 53 => 42 | 175 => 57 | 46 => 47 | 37 => 41 | 0 => 0 | 21 => 21 | 80 => 82 | n => n, fun | n => n⟩
theorem Tryd.laysC247 : Go.Proofs.LaysC.n247 Tryd.prog Tryd.laysC247_ren := {
  mixed := by kernel_rfl
  f247 := Tryd.func36.trans (congrArg some (by kernel_rfl))
  f287 := Tryd.func43.trans (congrArg some (by kernel_rfl))
  f321 := Tryd.func50.trans (congrArg some (by kernel_rfl))
  f322 := Tryd.func51.trans (congrArg some (by kernel_rfl))
  t0 := Tryd.underlying0
  a0 := Tryd.isAgg0
  z0 := Tryd.sizeOf0
  v0 := Tryd.zeroValue0
  t2 := Tryd.underlying2
  a2 := Tryd.isAgg2
  z2 := Tryd.sizeOf2
  v2 := Tryd.zeroValue2
  t3 := Tryd.underlying3
  a3 := Tryd.isAgg3
  z3 := Tryd.sizeOf3
  v3 := Tryd.zeroValue3
  t4 := Tryd.underlying4
  a4 := Tryd.isAgg4
  z4 := Tryd.sizeOf4
  v4 := Tryd.zeroValue4
  t5 := Tryd.underlying5
  a5 := Tryd.isAgg5
  z5 := Tryd.sizeOf5
  v5 := Tryd.zeroValue5
  t9 := Tryd.underlying9
  a9 := Tryd.isAgg9
  z9 := Tryd.sizeOf9
  v9 := Tryd.zeroValue9
  t21 := Tryd.underlying21
  a21 := Tryd.isAgg21
  z21 := Tryd.sizeOf21
  v21 := Tryd.zeroValue21
  t37 := Tryd.underlying41
  a37 := Tryd.isAgg41
  z37 := Tryd.sizeOf41
  v37 := Tryd.zeroValue41
  t46 := Tryd.underlying47
  a46 := Tryd.isAgg47
  z46 := Tryd.sizeOf47
  v46 := Tryd.zeroValue47
  t53 := Tryd.underlying42
  a53 := Tryd.isAgg42
  z53 := Tryd.sizeOf42
  v53 := Tryd.zeroValue42
  t75 := Tryd.underlying38
  a75 := Tryd.isAgg38
  z75 := Tryd.sizeOf38
  v75 := Tryd.zeroValue38
  t167 := Tryd.underlying50
  a167 := Tryd.isAgg50
  z167 := Tryd.sizeOf50
  v167 := Tryd.zeroValue50
  t175 := Tryd.underlying57
  a175 := Tryd.isAgg57
  z175 := Tryd.sizeOf57
  v175 := Tryd.zeroValue57
  t80 := Tryd.underlying82
  a80 := Tryd.isAgg82
  z80 := Tryd.sizeOf82
  v80 := Tryd.zeroValue82
  i0 := by kernel_rfl
  i2 := by kernel_rfl
  i3 := by kernel_rfl
  i4 := by kernel_rfl
  i5 := by kernel_rfl
  i9 := by kernel_rfl
  i21 := by kernel_rfl
  i37 := by kernel_rfl
  i46 := by kernel_rfl
  i53 := by kernel_rfl
  i75 := by kernel_rfl
  i80 := by kernel_rfl
  i167 := by kernel_rfl
  i175 := by kernel_rfl
  c0 := by kernel_rfl
  c2 := by kernel_rfl
  c3 := by kernel_rfl
  c4 := by kernel_rfl
  c5 := by kernel_rfl
  c9 := by kernel_rfl
  c21 := by kernel_rfl
  c37 := by kernel_rfl
  c46 := by kernel_rfl
  c53 := by kernel_rfl
  c75 := by kernel_rfl
  c80 := by kernel_rfl
  c167 := by kernel_rfl
  c175 := by kernel_rfl }
open Go.RowKit in

theorem Tryd.internal_strconv_ParseInt_10 (s : ByteArray) (hne : s.size ≠ 0) (hmax : s.size ≤ 9223372036854775806) (w : World) :
    Calls Tryd.prog 36 #[.string s, .int .i64 10, .int .i64 0] w fun e w' => e = .returned (Lib.intTuple 50 (Lib.atoiSat s.data.toList) (Lib.atoiAll s.data.toList)) ∧ (w' = w ∨ ∃ t, w' = Lib.bytesWorld w 5 t) := Any.internal_strconv_ParseInt_10 Tryd.laysC247 s hne hmax w
def Tryd.laysC244_ren : Go.Shelf.Ren := ⟨fun | 244 => 31 | 247 => 36 | 287 => 43 | 321 => 50 | 322 => 51 | n => n, fun | 9 => 9 | 3 => 3 | 75 => 38 | 4 => 4 | 5 => 5 | 167 => 50 | 37 => 41 | 0 => 0 | 85 => 51 | 2 => 2 | 53 => 42 | 175 => 57 | 46 => 47 | 21 => 21 | 80 => 82 | n => n, fun | n => n⟩
theorem Tryd.laysC244 : Go.Proofs.LaysC.n244 Tryd.prog Tryd.laysC244_ren := {
  mixed := by kernel_rfl
  f244 := Tryd.func31.trans (congrArg some (by kernel_rfl))
  f247 := Tryd.func36.trans (congrArg some (by kernel_rfl))
  f287 := Tryd.func43.trans (congrArg some (by kernel_rfl))
  f321 := Tryd.func50.trans (congrArg some (by kernel_rfl))
  f322 := Tryd.func51.trans (congrArg some (by kernel_rfl))
  t0 := Tryd.underlying0
  a0 := Tryd.isAgg0
  z0 := Tryd.sizeOf0
  v0 := Tryd.zeroValue0
  t2 := Tryd.underlying2
  a2 := Tryd.isAgg2
  z2 := Tryd.sizeOf2
  v2 := Tryd.zeroValue2
  t3 := Tryd.underlying3
  a3 := Tryd.isAgg3
  z3 := Tryd.sizeOf3
  v3 := Tryd.zeroValue3
  t4 := Tryd.underlying4
  a4 := Tryd.isAgg4
  z4 := Tryd.sizeOf4
  v4 := Tryd.zeroValue4
  t5 := Tryd.underlying5
  a5 := Tryd.isAgg5
  z5 := Tryd.sizeOf5
  v5 := Tryd.zeroValue5
  t9 := Tryd.underlying9
  a9 := Tryd.isAgg9
  z9 := Tryd.sizeOf9
  v9 := Tryd.zeroValue9
  t21 := Tryd.underlying21
  a21 := Tryd.isAgg21
  z21 := Tryd.sizeOf21
  v21 := Tryd.zeroValue21
  t37 := Tryd.underlying41
  a37 := Tryd.isAgg41
  z37 := Tryd.sizeOf41
  v37 := Tryd.zeroValue41
  t46 := Tryd.underlying47
  a46 := Tryd.isAgg47
  z46 := Tryd.sizeOf47
  v46 := Tryd.zeroValue47
  t53 := Tryd.underlying42
  a53 := Tryd.isAgg42
  z53 := Tryd.sizeOf42
  v53 := Tryd.zeroValue42
  t75 := Tryd.underlying38
  a75 := Tryd.isAgg38
  z75 := Tryd.sizeOf38
  v75 := Tryd.zeroValue38
  t85 := Tryd.underlying51
  a85 := Tryd.isAgg51
  z85 := Tryd.sizeOf51
  v85 := Tryd.zeroValue51
  t167 := Tryd.underlying50
  a167 := Tryd.isAgg50
  z167 := Tryd.sizeOf50
  v167 := Tryd.zeroValue50
  t175 := Tryd.underlying57
  a175 := Tryd.isAgg57
  z175 := Tryd.sizeOf57
  v175 := Tryd.zeroValue57
  t80 := Tryd.underlying82
  a80 := Tryd.isAgg82
  z80 := Tryd.sizeOf82
  v80 := Tryd.zeroValue82
  i0 := by kernel_rfl
  i2 := by kernel_rfl
  i3 := by kernel_rfl
  i4 := by kernel_rfl
  i5 := by kernel_rfl
  i9 := by kernel_rfl
  i21 := by kernel_rfl
  i37 := by kernel_rfl
  i46 := by kernel_rfl
  i53 := by kernel_rfl
  i75 := by kernel_rfl
  i80 := by kernel_rfl
  i85 := by kernel_rfl
  i167 := by kernel_rfl
  i175 := by kernel_rfl
  c0 := by kernel_rfl
  c2 := by kernel_rfl
  c3 := by kernel_rfl
  c4 := by kernel_rfl
  c5 := by kernel_rfl
  c9 := by kernel_rfl
  c21 := by kernel_rfl
  c37 := by kernel_rfl
  c46 := by kernel_rfl
  c53 := by kernel_rfl
  c75 := by kernel_rfl
  c80 := by kernel_rfl
  c85 := by kernel_rfl
  c167 := by kernel_rfl
  c175 := by kernel_rfl }
open Go.RowKit in

theorem Tryd.internal_strconv_Atoi_long (s : ByteArray) (h19 : 19 ≤ s.size) (hmax : s.size ≤ 9223372036854775806) (w : World) :
    Calls Tryd.prog 31 #[.string s] w fun e w' => e = .returned (Lib.intTuple 50 (Lib.atoiSat s.data.toList) (Lib.atoiAll s.data.toList)) ∧ (w' = w ∨ ∃ t, w' = Lib.bytesWorld w 5 t) := Any.internal_strconv_Atoi_long Tryd.laysC244 s h19 hmax w
open Go.RowKit in

theorem Tryd.internal_strconv_Atoi_all (s : ByteArray) (hmax : s.size ≤ 9223372036854775806) (w : World) :
    Calls Tryd.prog 31 #[.string s] w fun e w' => e = .returned (Lib.intTuple 50 (Lib.atoiSat s.data.toList) (Lib.atoiAll s.data.toList)) ∧ (w' = w ∨ ∃ t, w' = Lib.bytesWorld w 5 t) := Any.internal_strconv_Atoi_all Tryd.laysC244 s hmax w
def Tryd.laysM280_ren : Go.Shelf.Ren := ⟨fun | 280 => 38 | 316 => 44 | n => n, fun | 9 => 9 | 168 => 53 | 75 => 38 | 210 => 61 | 3 => 3 | 4 => 4 | 37 => 41 | 0 => 0 | 127 => 69 | 80 => 82 | 5 => 5 | n => n, fun | 16 => 3 | n => n⟩
theorem Tryd.laysM280 : Go.Proofs.LaysM.n280 Tryd.prog Tryd.laysM280_ren := {
  mixed := by kernel_rfl
  f280 := Tryd.func38.trans (congrArg some (by kernel_rfl))
  f316 := Tryd.func44.trans (congrArg some (by kernel_rfl))
  t0 := Tryd.underlying0
  a0 := Tryd.isAgg0
  z0 := Tryd.sizeOf0
  v0 := Tryd.zeroValue0
  t3 := Tryd.underlying3
  a3 := Tryd.isAgg3
  z3 := Tryd.sizeOf3
  v3 := Tryd.zeroValue3
  t4 := Tryd.underlying4
  a4 := Tryd.isAgg4
  z4 := Tryd.sizeOf4
  v4 := Tryd.zeroValue4
  t9 := Tryd.underlying9
  a9 := Tryd.isAgg9
  z9 := Tryd.sizeOf9
  v9 := Tryd.zeroValue9
  t37 := Tryd.underlying41
  a37 := Tryd.isAgg41
  z37 := Tryd.sizeOf41
  v37 := Tryd.zeroValue41
  t75 := Tryd.underlying38
  a75 := Tryd.isAgg38
  z75 := Tryd.sizeOf38
  v75 := Tryd.zeroValue38
  t127 := Tryd.underlying69
  a127 := Tryd.isAgg69
  z127 := Tryd.sizeOf69
  v127 := Tryd.zeroValue69
  t168 := Tryd.underlying53
  a168 := Tryd.isAgg53
  z168 := Tryd.sizeOf53
  v168 := Tryd.zeroValue53
  t210 := Tryd.underlying61
  a210 := Tryd.isAgg61
  z210 := Tryd.sizeOf61
  v210 := Tryd.zeroValue61
  g16 := by kernel_rfl
  t5 := Tryd.underlying5
  a5 := Tryd.isAgg5
  z5 := Tryd.sizeOf5
  v5 := Tryd.zeroValue5
  t80 := Tryd.underlying82
  a80 := Tryd.isAgg82
  z80 := Tryd.sizeOf82
  v80 := Tryd.zeroValue82
  i0 := by kernel_rfl
  i3 := by kernel_rfl
  i4 := by kernel_rfl
  i5 := by kernel_rfl
  i9 := by kernel_rfl
  i37 := by kernel_rfl
  i75 := by kernel_rfl
  i80 := by kernel_rfl
  i127 := by kernel_rfl
  i168 := by kernel_rfl
  i210 := by kernel_rfl
  m16 := by kernel_rfl }
open Go.RowKit in

theorem Tryd.strconv_rangeError (fn s : ByteArray) (ev : Value) (w : World) (hlim : s.size ≤ 281474976710656) (hv : w.cell? ⟨3, 0, none⟩ = some ev) (hev : ev = .nilIface ∨ ∃ te pe, ev = .iface te pe) :
    Calls Tryd.prog 38 #[.string fn, .string s] w fun e w' => ∃ N, e = .returned (.pointer (some ⟨N, 0, none⟩)) ∧ w.heap.size ≤ N ∧ w'.heap[N]? = some (.cells #[.string fn, .string s, ev] 61 (0, 0)) ∧ Below w.heap.size w w' := Any.strconv_rangeError Tryd.laysM280 fn s ev w hlim hv hev
open Go.RowKit in

theorem Tryd.strconv_toError_range (fn s : ByteArray) (base bits : Int) (ev : Value) (w : World) (hlim : s.size ≤ 281474976710656) (hv : w.cell? ⟨3, 0, none⟩ = some ev) (hev : ev = .nilIface ∨ ∃ te pe, ev = .iface te pe) :
    Calls Tryd.prog 32 #[.string fn, .string s, .int .i64 base, .int .i64 bits, .iface 50 (.int .i64 1)] w fun e w' => ∃ N, e = .returned (.iface 53 (.pointer (some ⟨N, 0, none⟩))) ∧ w.heap.size ≤ N ∧ w'.heap[N]? = some (.cells #[.string fn, .string s, ev] 61 (0, 0)) ∧ Below w.heap.size w w' := Any.strconv_toError_range Tryd.laysC245 fn s base bits ev w hlim hv hev
def Tryd.laysC172_ren : Go.Shelf.Ren := ⟨fun | 172 => 26 | 244 => 31 | 245 => 32 | 247 => 36 | 279 => 37 | 280 => 38 | 281 => 39 | 282 => 40 | 287 => 43 | 316 => 44 | 171 => 27 | 205 => 45 | 321 => 50 | 322 => 51 | 243 => 33 | 246 => 41 | 283 => 46 | 284 => 47 | 285 => 48 | 286 => 49 | 129 => 42 | 317 => 52 | 318 => 53 | 319 => 54 | 320 => 55 | 337 => 56 | 338 => 57 | n => n, fun | 9 => 9 | 3 => 3 | 75 => 38 | 76 => 39 | 4 => 4 | 5 => 5 | 167 => 50 | 37 => 41 | 0 => 0 | 85 => 51 | 2 => 2 | 168 => 53 | 53 => 42 | 175 => 57 | 46 => 47 | 210 => 61 | 127 => 69 | 145 => 72 | 143 => 70 | 21 => 21 | 171 => 63 | 173 => 65 | 212 => 75 | 51 => 76 | 20 => 20 | 213 => 77 | 232 => 80 | 233 => 81 | 80 => 82 | n => n, fun | 15 => 2 | 16 => 3 | 17 => 4 | 18 => 5 | 19 => 6 | n => n⟩
theorem Tryd.laysC172 : Go.Proofs.LaysC.n172 Tryd.prog Tryd.laysC172_ren := {
  mixed := by kernel_rfl
  f129 := Tryd.func42.trans (congrArg some (by kernel_rfl))
  f171 := Tryd.func27.trans (congrArg some (by kernel_rfl))
  f172 := Tryd.func26.trans (congrArg some (by kernel_rfl))
  f205 := Tryd.func45.trans (congrArg some (by kernel_rfl))
  f243 := Tryd.func33.trans (congrArg some (by kernel_rfl))
  f244 := Tryd.func31.trans (congrArg some (by kernel_rfl))
  f245 := Tryd.func32.trans (congrArg some (by kernel_rfl))
  f246 := Tryd.func41.trans (congrArg some (by kernel_rfl))
  f247 := Tryd.func36.trans (congrArg some (by kernel_rfl))
  f279 := Tryd.func37.trans (congrArg some (by kernel_rfl))
  f280 := Tryd.func38.trans (congrArg some (by kernel_rfl))
  f281 := Tryd.func39.trans (congrArg some (by kernel_rfl))
  f282 := Tryd.func40.trans (congrArg some (by kernel_rfl))
  f283 := Tryd.func46.trans (congrArg some (by kernel_rfl))
  f284 := Tryd.func47.trans (congrArg some (by kernel_rfl))
  f285 := Tryd.func48.trans (congrArg some (by kernel_rfl))
  f286 := Tryd.func49.trans (congrArg some (by kernel_rfl))
  f287 := Tryd.func43.trans (congrArg some (by kernel_rfl))
  f316 := Tryd.func44.trans (congrArg some (by kernel_rfl))
  f317 := Tryd.func52.trans (congrArg some (by kernel_rfl))
  f318 := Tryd.func53.trans (congrArg some (by kernel_rfl))
  f319 := Tryd.func54.trans (congrArg some (by kernel_rfl))
  f320 := Tryd.func55.trans (congrArg some (by kernel_rfl))
  f321 := Tryd.func50.trans (congrArg some (by kernel_rfl))
  f322 := Tryd.func51.trans (congrArg some (by kernel_rfl))
  f337 := Tryd.func56.trans (congrArg some (by kernel_rfl))
  f338 := Tryd.func57.trans (congrArg some (by kernel_rfl))
  t0 := Tryd.underlying0
  a0 := Tryd.isAgg0
  z0 := Tryd.sizeOf0
  v0 := Tryd.zeroValue0
  t2 := Tryd.underlying2
  a2 := Tryd.isAgg2
  z2 := Tryd.sizeOf2
  v2 := Tryd.zeroValue2
  t3 := Tryd.underlying3
  a3 := Tryd.isAgg3
  z3 := Tryd.sizeOf3
  v3 := Tryd.zeroValue3
  t4 := Tryd.underlying4
  a4 := Tryd.isAgg4
  z4 := Tryd.sizeOf4
  v4 := Tryd.zeroValue4
  t5 := Tryd.underlying5
  a5 := Tryd.isAgg5
  z5 := Tryd.sizeOf5
  v5 := Tryd.zeroValue5
  t9 := Tryd.underlying9
  a9 := Tryd.isAgg9
  z9 := Tryd.sizeOf9
  v9 := Tryd.zeroValue9
  t20 := Tryd.underlying20
  a20 := Tryd.isAgg20
  z20 := Tryd.sizeOf20
  v20 := Tryd.zeroValue20
  t21 := Tryd.underlying21
  a21 := Tryd.isAgg21
  z21 := Tryd.sizeOf21
  v21 := Tryd.zeroValue21
  t37 := Tryd.underlying41
  a37 := Tryd.isAgg41
  z37 := Tryd.sizeOf41
  v37 := Tryd.zeroValue41
  t46 := Tryd.underlying47
  a46 := Tryd.isAgg47
  z46 := Tryd.sizeOf47
  v46 := Tryd.zeroValue47
  t51 := Tryd.underlying76
  a51 := Tryd.isAgg76
  z51 := Tryd.sizeOf76
  v51 := Tryd.zeroValue76
  t53 := Tryd.underlying42
  a53 := Tryd.isAgg42
  z53 := Tryd.sizeOf42
  v53 := Tryd.zeroValue42
  t75 := Tryd.underlying38
  a75 := Tryd.isAgg38
  z75 := Tryd.sizeOf38
  v75 := Tryd.zeroValue38
  t76 := Tryd.underlying39
  a76 := Tryd.isAgg39
  z76 := Tryd.sizeOf39
  v76 := Tryd.zeroValue39
  t85 := Tryd.underlying51
  a85 := Tryd.isAgg51
  z85 := Tryd.sizeOf51
  v85 := Tryd.zeroValue51
  t127 := Tryd.underlying69
  a127 := Tryd.isAgg69
  z127 := Tryd.sizeOf69
  v127 := Tryd.zeroValue69
  t143 := Tryd.underlying70
  a143 := Tryd.isAgg70
  z143 := Tryd.sizeOf70
  v143 := Tryd.zeroValue70
  t145 := Tryd.underlying72
  a145 := Tryd.isAgg72
  z145 := Tryd.sizeOf72
  v145 := Tryd.zeroValue72
  t167 := Tryd.underlying50
  a167 := Tryd.isAgg50
  z167 := Tryd.sizeOf50
  v167 := Tryd.zeroValue50
  t168 := Tryd.underlying53
  a168 := Tryd.isAgg53
  z168 := Tryd.sizeOf53
  v168 := Tryd.zeroValue53
  t171 := Tryd.underlying63
  a171 := Tryd.isAgg63
  z171 := Tryd.sizeOf63
  v171 := Tryd.zeroValue63
  t173 := Tryd.underlying65
  a173 := Tryd.isAgg65
  z173 := Tryd.sizeOf65
  v173 := Tryd.zeroValue65
  t175 := Tryd.underlying57
  a175 := Tryd.isAgg57
  z175 := Tryd.sizeOf57
  v175 := Tryd.zeroValue57
  t210 := Tryd.underlying61
  a210 := Tryd.isAgg61
  z210 := Tryd.sizeOf61
  v210 := Tryd.zeroValue61
  t212 := Tryd.underlying75
  a212 := Tryd.isAgg75
  z212 := Tryd.sizeOf75
  v212 := Tryd.zeroValue75
  t213 := Tryd.underlying77
  a213 := Tryd.isAgg77
  z213 := Tryd.sizeOf77
  t232 := Tryd.underlying80
  a232 := Tryd.isAgg80
  z232 := Tryd.sizeOf80
  v232 := Tryd.zeroValue80
  t233 := Tryd.underlying81
  a233 := Tryd.isAgg81
  z233 := Tryd.sizeOf81
  v233 := Tryd.zeroValue81
  g15 := by kernel_rfl
  g16 := by kernel_rfl
  g17 := by kernel_rfl
  g18 := by kernel_rfl
  g19 := by kernel_rfl
  t80 := Tryd.underlying82
  a80 := Tryd.isAgg82
  z80 := Tryd.sizeOf82
  v80 := Tryd.zeroValue82
  i0 := by kernel_rfl
  i2 := by kernel_rfl
  i3 := by kernel_rfl
  i4 := by kernel_rfl
  i5 := by kernel_rfl
  i9 := by kernel_rfl
  i20 := by kernel_rfl
  i21 := by kernel_rfl
  i37 := by kernel_rfl
  i46 := by kernel_rfl
  i51 := by kernel_rfl
  i53 := by kernel_rfl
  i75 := by kernel_rfl
  i76 := by kernel_rfl
  i80 := by kernel_rfl
  i85 := by kernel_rfl
  i127 := by kernel_rfl
  i143 := by kernel_rfl
  i145 := by kernel_rfl
  i167 := by kernel_rfl
  i168 := by kernel_rfl
  i171 := by kernel_rfl
  i173 := by kernel_rfl
  i175 := by kernel_rfl
  i210 := by kernel_rfl
  i212 := by kernel_rfl
  i232 := by kernel_rfl
  i233 := by kernel_rfl
  m15 := by kernel_rfl
  m16 := by kernel_rfl
  m17 := by kernel_rfl
  m18 := by kernel_rfl
  m19 := by kernel_rfl
  c0 := by kernel_rfl
  c2 := by kernel_rfl
  c3 := by kernel_rfl
  c4 := by kernel_rfl
  c5 := by kernel_rfl
  c9 := by kernel_rfl
  c20 := by kernel_rfl
  c21 := by kernel_rfl
  c37 := by kernel_rfl
  c46 := by kernel_rfl
  c51 := by kernel_rfl
  c53 := by kernel_rfl
  c75 := by kernel_rfl
  c76 := by kernel_rfl
  c80 := by kernel_rfl
  c85 := by kernel_rfl
  c127 := by kernel_rfl
  c143 := by kernel_rfl
  c145 := by kernel_rfl
  c167 := by kernel_rfl
  c168 := by kernel_rfl
  c171 := by kernel_rfl
  c173 := by kernel_rfl
  c175 := by kernel_rfl
  c210 := by kernel_rfl
  c212 := by kernel_rfl
  c213 := by kernel_rfl
  c232 := by kernel_rfl
  c233 := by kernel_rfl }
open Go.RowKit in

theorem Tryd.strconv_Atoi_ok (s : ByteArray) (hmax : s.size ≤ 9223372036854775806) (v : Int) (h : Lib.atoiAll s.data.toList = .ok v) (w : World) :
    Calls Tryd.prog 26 #[.string s] w fun e w' => e = .returned (.tuple #[.int .i64 v, .nilIface]) ∧ (w' = w ∨ ∃ t, w' = Lib.bytesWorld w 5 t) := Any.strconv_Atoi_ok Tryd.laysC172 s hmax v h w
open Go.RowKit in

theorem Tryd.strconv_Atoi_syntax (s : ByteArray) (hlim : s.size ≤ 281474976710656) (h : Lib.atoiAll s.data.toList = .«syntax») (ev : Value) (w : World) (hv : w.cell? ⟨2, 0, none⟩ = some ev) (hev : ev = .nilIface ∨ ∃ te pe, ev = .iface te pe) :
    Calls Tryd.prog 26 #[.string s] w fun e w' => ∃ N, e = .returned (.tuple #[.int .i64 (0), .iface 53 (.pointer (some ⟨N, 0, none⟩))]) ∧ w.heap.size ≤ N ∧ w'.heap[N]? = some (.cells #[.string ⟨#[65, 116, 111, 105]⟩, .string s, ev] 61 (0, 0)) ∧ Below w.heap.size w w' := Any.strconv_Atoi_syntax Tryd.laysC172 s hlim h ev w hv hev
open Go.RowKit in

theorem Tryd.strconv_Atoi_range (s : ByteArray) (hlim : s.size ≤ 281474976710656) (h : Lib.atoiAll s.data.toList = .range) (ev : Value) (w : World) (hv : w.cell? ⟨3, 0, none⟩ = some ev) (hev : ev = .nilIface ∨ ∃ te pe, ev = .iface te pe) :
    Calls Tryd.prog 26 #[.string s] w fun e w' => ∃ N, e = .returned (.tuple #[.int .i64 (Lib.atoiSat s.data.toList), .iface 53 (.pointer (some ⟨N, 0, none⟩))]) ∧ w.heap.size ≤ N ∧ w'.heap[N]? = some (.cells #[.string ⟨#[65, 116, 111, 105]⟩, .string s, ev] 61 (0, 0)) ∧ Below w.heap.size w w' := Any.strconv_Atoi_range Tryd.laysC172 s hlim h ev w hv hev
open Go.RowKit in
theorem Tryd.strconv_Atoi_syntax_var (s : ByteArray) (hlim : s.size ≤ 281474976710656) (h : Lib.atoiAll s.data.toList = .«syntax») (tp : TypeId) (p : Value) (w : World) (hvar : w.var? Tryd.prog "strconv.ErrSyntax" = some #[.iface tp p]) :
    Calls Tryd.prog 26 #[.string s] w fun e w' => ∃ N, e = .returned (.tuple #[.int .i64 0, .iface 53 (.pointer (some ⟨N, 0, none⟩))]) ∧ w.heap.size ≤ N ∧ w'.heap[N]? = some (.cells #[.string ⟨#[65, 116, 111, 105]⟩, .string s, .iface tp p] 61 (0, 0)) ∧ Below w.heap.size w w' := Any.strconv_Atoi_syntax_var Tryd.laysC172 s hlim h tp p w hvar
open Go.RowKit in
theorem Tryd.strconv_Atoi_range_var (s : ByteArray) (hlim : s.size ≤ 281474976710656) (h : Lib.atoiAll s.data.toList = .range) (tp : TypeId) (p : Value) (w : World) (hvar : w.var? Tryd.prog "strconv.ErrRange" = some #[.iface tp p]) :
    Calls Tryd.prog 26 #[.string s] w fun e w' => ∃ N, e = .returned (.tuple #[.int .i64 (Lib.atoiSat s.data.toList), .iface 53 (.pointer (some ⟨N, 0, none⟩))]) ∧ w.heap.size ≤ N ∧ w'.heap[N]? = some (.cells #[.string ⟨#[65, 116, 111, 105]⟩, .string s, .iface tp p] 61 (0, 0)) ∧ Below w.heap.size w w' := Any.strconv_Atoi_range_var Tryd.laysC172 s hlim h tp p w hvar
def Tryd.lays206_ren : Go.Shelf.Ren := ⟨fun | 206 => 35 | n => n, fun | 9 => 9 | 4 => 4 | 3 => 3 | n => n, fun | n => n⟩
theorem Tryd.lays206 : Go.Proofs.Lays.n206 Tryd.prog Tryd.lays206_ren := {
  mixed := by kernel_rfl
  f206 := Tryd.func35.trans (congrArg some (by kernel_rfl))
  t3 := Tryd.underlying3
  a3 := Tryd.isAgg3
  z3 := Tryd.sizeOf3
  v3 := Tryd.zeroValue3
  t4 := Tryd.underlying4
  a4 := Tryd.isAgg4
  z4 := Tryd.sizeOf4
  v4 := Tryd.zeroValue4
  t9 := Tryd.underlying9
  a9 := Tryd.isAgg9
  z9 := Tryd.sizeOf9
  v9 := Tryd.zeroValue9 }
open Go.RowKit Go.Lib in

theorem Tryd.stringslite_HasPrefix (s p : ByteArray) (w : World) :
    Calls Tryd.prog 35 #[.string s, .string p] w fun e w' => e = .returned (.bool (Lib.hasPrefix s.data.toList p.data.toList)) ∧ w' = w := Any.stringslite_HasPrefix Tryd.lays206 s p w
def Tryd.lays208_ren : Go.Shelf.Ren := ⟨fun | 208 => 30 | 206 => 35 | n => n, fun | 9 => 9 | 4 => 4 | 3 => 3 | n => n, fun | n => n⟩
theorem Tryd.lays208 : Go.Proofs.Lays.n208 Tryd.prog Tryd.lays208_ren := {
  mixed := by kernel_rfl
  f206 := Tryd.func35.trans (congrArg some (by kernel_rfl))
  f208 := Tryd.func30.trans (congrArg some (by kernel_rfl))
  t3 := Tryd.underlying3
  a3 := Tryd.isAgg3
  z3 := Tryd.sizeOf3
  v3 := Tryd.zeroValue3
  t4 := Tryd.underlying4
  a4 := Tryd.isAgg4
  z4 := Tryd.sizeOf4
  v4 := Tryd.zeroValue4
  t9 := Tryd.underlying9
  a9 := Tryd.isAgg9
  z9 := Tryd.sizeOf9
  v9 := Tryd.zeroValue9 }
open Go.RowKit Go.Lib in

theorem Tryd.stringslite_TrimPrefix (s p : ByteArray) (w : World) :
    Calls Tryd.prog 30 #[.string s, .string p] w fun e w' => e = .returned (.string ⟨(Lib.trimPrefix s.data.toList p.data.toList).toArray⟩) ∧ w' = w := Any.stringslite_TrimPrefix Tryd.lays208 s p w
def Tryd.lays101_ren : Go.Shelf.Ren := ⟨fun | 101 => 24 | 208 => 30 | 206 => 35 | n => n, fun | 9 => 9 | 4 => 4 | 3 => 3 | n => n, fun | n => n⟩
theorem Tryd.lays101 : Go.Proofs.Lays.n101 Tryd.prog Tryd.lays101_ren := {
  mixed := by kernel_rfl
  f101 := Tryd.func24.trans (congrArg some (by kernel_rfl))
  f206 := Tryd.func35.trans (congrArg some (by kernel_rfl))
  f208 := Tryd.func30.trans (congrArg some (by kernel_rfl))
  t3 := Tryd.underlying3
  a3 := Tryd.isAgg3
  z3 := Tryd.sizeOf3
  v3 := Tryd.zeroValue3
  t4 := Tryd.underlying4
  a4 := Tryd.isAgg4
  z4 := Tryd.sizeOf4
  v4 := Tryd.zeroValue4
  t9 := Tryd.underlying9
  a9 := Tryd.isAgg9
  z9 := Tryd.sizeOf9
  v9 := Tryd.zeroValue9 }
open Go.RowKit Go.Lib in

theorem Tryd.strings_TrimPrefix (s p : ByteArray) (w : World) :
    Calls Tryd.prog 24 #[.string s, .string p] w fun e w' => e = .returned (.string ⟨(Lib.trimPrefix s.data.toList p.data.toList).toArray⟩) ∧ w' = w := Any.strings_TrimPrefix Tryd.lays101 s p w
def Tryd.lays264_ren : Go.Shelf.Ren := ⟨fun | 264 => 28 | n => n, fun | 53 => 42 | 46 => 47 | n => n, fun | n => n⟩
theorem Tryd.lays264 : Go.Proofs.Lays.n264 Tryd.prog Tryd.lays264_ren := {
  mixed := by kernel_rfl
  f264 := Tryd.func28.trans (congrArg some (by kernel_rfl))
  t46 := Tryd.underlying47
  a46 := Tryd.isAgg47
  z46 := Tryd.sizeOf47
  v46 := Tryd.zeroValue47
  t53 := Tryd.underlying42
  a53 := Tryd.isAgg42
  z53 := Tryd.sizeOf42
  v53 := Tryd.zeroValue42 }
open Go.RowKit Go.Lib in
theorem Tryd.bits_Mul64 (x y : Nat) (hx : x < 18446744073709551616) (hy : y < 18446744073709551616) (w : World) :
    Calls Tryd.prog 28 #[.int .u64 x, .int .u64 y] w fun e w' => e = .returned (.tuple #[.int .u64 ((x * y / 18446744073709551616 : Nat) : Int), .int .u64 ((x * y % 18446744073709551616 : Nat) : Int)]) ∧ w' = w := Any.bits_Mul64 Tryd.lays264 x y hx hy w
end Go.Proofs
