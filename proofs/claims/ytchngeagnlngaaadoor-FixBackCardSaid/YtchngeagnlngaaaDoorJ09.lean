/- Texts joined: Shelf. -/
import Derived.Shelf.Strings.Builder1
import Derived.Shelf.Small.Wraps
import Derived.Shelf.Strings.BuilderF
import Derived.Shelf.Strings.BuilderK
import Derived.Shelf.Strconv.Itoa0
import Derived.Shelf.Strconv.Itoa1
import Derived.Shelf.LaysM
import Derived.Shelf.Strconv.Itoa2
import Derived.Shelf.Strconv.Itoa3
import Derived.Shelf.Strings.Search1
import Derived.Shelf.Strings.Search2
import Derived.Shelf.Strings.Cut
import Derived.Shelf.Strings.Shaped
import Derived.Shelf.Strings.Prefix
import Derived.Test.YtchngeagnlngaaaDoorProg
section
namespace Go.Proofs
open Go.Shelf
open Go.RowKit in
open Go.RowKit in
open Go.RowKit in
open Go.RowKit in
open Go.RowKit in
open Go.RowKit in
open Go.RowKit in
open Go.RowKit in
open Go.RowKit in
open Go.RowKit in
open Go.RowKit in
open Go.Lib in
open Go.Lib in
open Go.Lib in
open Go.Lib in
open Go.RowKit Go.Sort Go.Lib in
open Go.RowKit Go.Sort Go.Lib in
open Go.RowKit Go.Sort Go.Lib in
open Go.RowKit Go.Sort Go.Lib in
open Go.RowKit Go.Sort Go.Lib in
def Tryd.laysM171_ren : Go.Shelf.Ren := ⟨fun | 171 => 19 | 243 => 36 | 246 => 64 | 283 => 78 | 284 => 79 | 285 => 80 | 286 => 81 | 129 => 90 | 317 => 89 | 318 => 91 | 319 => 92 | 320 => 93 | 337 => 96 | 338 => 97 | n => n, fun | 3 => 3 | 9 => 9 | 2 => 2 | 4 => 4 | 171 => 121 | 0 => 0 | 53 => 66 | 37 => 47 | 5 => 5 | 173 => 124 | 212 => 142 | 51 => 69 | 20 => 20 | 213 => 143 | 46 => 83 | 232 => 149 | 233 => 150 | n => n, fun | 17 => 2 | 18 => 3 | 19 => 4 | n => n⟩
theorem Tryd.laysM171 : Go.Proofs.LaysM.n171 Tryd.prog Tryd.laysM171_ren := {
 mixed := by kernel_rfl
 f129 := Tryd.func90.trans (congrArg some (by kernel_rfl))
 f171 := Tryd.func19.trans (congrArg some (by kernel_rfl))
 f243 := Tryd.func36.trans (congrArg some (by kernel_rfl))
 f246 := Tryd.func64.trans (congrArg some (by kernel_rfl))
 f283 := Tryd.func78.trans (congrArg some (by kernel_rfl))
 f284 := Tryd.func79.trans (congrArg some (by kernel_rfl))
 f285 := Tryd.func80.trans (congrArg some (by kernel_rfl))
 f286 := Tryd.func81.trans (congrArg some (by kernel_rfl))
 f317 := Tryd.func89.trans (congrArg some (by kernel_rfl))
 f318 := Tryd.func91.trans (congrArg some (by kernel_rfl))
 f319 := Tryd.func92.trans (congrArg some (by kernel_rfl))
 f320 := Tryd.func93.trans (congrArg some (by kernel_rfl))
 f337 := Tryd.func96.trans (congrArg some (by kernel_rfl))
 f338 := Tryd.func97.trans (congrArg some (by kernel_rfl))
 t0 := Tryd.underlying0
 a0 := Tryd.isAgg0
 z0 := Tryd.sizeOf0
 v0 := Tryd.zeroValue0
 t2 := Tryd.underlying2
 a2 := Tryd.isAgg2
 z2 := Tryd.sizeOf2
 v2 := Tryd.zeroValue2
 t3 := Tryd.underlying3
 a3 := Tryd.isAgg3
 z3 := Tryd.sizeOf3
 v3 := Tryd.zeroValue3
 t4 := Tryd.underlying4
 a4 := Tryd.isAgg4
 z4 := Tryd.sizeOf4
 v4 := Tryd.zeroValue4
 t5 := Tryd.underlying5
 a5 := Tryd.isAgg5
 z5 := Tryd.sizeOf5
 v5 := Tryd.zeroValue5
 t9 := Tryd.underlying9
 a9 := Tryd.isAgg9
 z9 := Tryd.sizeOf9
 v9 := Tryd.zeroValue9
 t20 := Tryd.underlying20
 a20 := Tryd.isAgg20
 z20 := Tryd.sizeOf20
 v20 := Tryd.zeroValue20
 t37 := Tryd.underlying47
 a37 := Tryd.isAgg47
 z37 := Tryd.sizeOf47
 v37 := Tryd.zeroValue47
 t46 := Tryd.underlying83
 a46 := Tryd.isAgg83
 z46 := Tryd.sizeOf83
 v46 := Tryd.zeroValue83
 t51 := Tryd.underlying69
 a51 := Tryd.isAgg69
 z51 := Tryd.sizeOf69
 v51 := Tryd.zeroValue69
 t53 := Tryd.underlying66
 a53 := Tryd.isAgg66
 z53 := Tryd.sizeOf66
 v53 := Tryd.zeroValue66
 t171 := Tryd.underlying121
 a171 := Tryd.isAgg121
 z171 := Tryd.sizeOf121
 v171 := Tryd.zeroValue121
 t173 := Tryd.underlying124
 a173 := Tryd.isAgg124
 z173 := Tryd.sizeOf124
 v173 := Tryd.zeroValue124
 t212 := Tryd.underlying142
 a212 := Tryd.isAgg142
 z212 := Tryd.sizeOf142
 v212 := Tryd.zeroValue142
 t213 := Tryd.underlying143
 a213 := Tryd.isAgg143
 z213 := Tryd.sizeOf143
 t232 := Tryd.underlying149
 a232 := Tryd.isAgg149
 z232 := Tryd.sizeOf149
 v232 := Tryd.zeroValue149
 t233 := Tryd.underlying150
 a233 := Tryd.isAgg150
 z233 := Tryd.sizeOf150
 v233 := Tryd.zeroValue150
 g17 := by kernel_rfl
 g18 := by kernel_rfl
 g19 := by kernel_rfl
 i0 := by kernel_rfl
 i2 := by kernel_rfl
 i3 := by kernel_rfl
 i4 := by kernel_rfl
 i5 := by kernel_rfl
 i9 := by kernel_rfl
 i20 := by kernel_rfl
 i37 := by kernel_rfl
 i46 := by kernel_rfl
 i51 := by kernel_rfl
 i53 := by kernel_rfl
 i171 := by kernel_rfl
 i173 := by kernel_rfl
 i212 := by kernel_rfl
 i232 := by kernel_rfl
 i233 := by kernel_rfl
 m17 := by kernel_rfl
 m18 := by kernel_rfl
 m19 := by kernel_rfl }
open Go.RowKit Go.Sort Go.Lib in
theorem Tryd.strconv_Itoa (n : Int) (h0 : -9223372036854775808 ≤ n) (h1 : n ≤ 9223372036854775807) (w : World) (htab : Lib.TabIs Tryd.prog w "internal/strconv.uint64pow10" .u64 Lib.pow10Tab) :
  Calls Tryd.prog 19 #[.int .i64 n] w fun e w' => e = .returned (.string ⟨(Lib.itoa n).toArray⟩) ∧ ∃ k os, w' = grow (w.drewN k) os := Any.strconv_Itoa Tryd.laysM171 n h0 h1 w htab
open Go.RowKit Go.Sort Go.Lib in
open Go.RowKit Go.Lib in
open Go.RowKit Go.Lib in
open Go.RowKit Go.Lib in
open Go.RowKit Go.Lib in
def Tryd.lays219_ren : Go.Shelf.Ren := ⟨fun | 219 => 67 | 217 => 82 | 225 => 83 | 224 => 84 | 267 => 85 | 266 => 94 | 314 => 95 | n => n, fun | 9 => 9 | 3 => 3 | 4 => 4 | 5 => 5 | 46 => 83 | 146 => 146 | 51 => 69 | n => n, fun | 1 => 1 | n => n⟩
theorem Tryd.lays219 : Go.Proofs.Lays.n219 Tryd.prog Tryd.lays219_ren := {
 mixed := by kernel_rfl
 f217 := Tryd.func82.trans (congrArg some (by kernel_rfl))
 f219 := Tryd.func67.trans (congrArg some (by kernel_rfl))
 f224 := Tryd.func84.trans (congrArg some (by kernel_rfl))
 f225 := Tryd.func83.trans (congrArg some (by kernel_rfl))
 f266 := Tryd.func94.trans (congrArg some (by kernel_rfl))
 f267 := Tryd.func85.trans (congrArg some (by kernel_rfl))
 f314 := Tryd.func95.trans (congrArg some (by kernel_rfl))
 t3 := Tryd.underlying3
 a3 := Tryd.isAgg3
 z3 := Tryd.sizeOf3
 v3 := Tryd.zeroValue3
 t4 := Tryd.underlying4
 a4 := Tryd.isAgg4
 z4 := Tryd.sizeOf4
 v4 := Tryd.zeroValue4
 t5 := Tryd.underlying5
 a5 := Tryd.isAgg5
 z5 := Tryd.sizeOf5
 v5 := Tryd.zeroValue5
 t9 := Tryd.underlying9
 a9 := Tryd.isAgg9
 z9 := Tryd.sizeOf9
 v9 := Tryd.zeroValue9
 t46 := Tryd.underlying83
 a46 := Tryd.isAgg83
 z46 := Tryd.sizeOf83
 v46 := Tryd.zeroValue83
 t51 := Tryd.underlying69
 a51 := Tryd.isAgg69
 z51 := Tryd.sizeOf69
 v51 := Tryd.zeroValue69
 t146 := Tryd.underlying146
 a146 := Tryd.isAgg146
 z146 := Tryd.sizeOf146
 v146 := Tryd.zeroValue146
 g1 := by kernel_rfl }
open Go.RowKit Go.Lib in
theorem Tryd.stringslite_Index_one (s : ByteArray) (c : UInt8) (w : World) :
  Calls Tryd.prog 67 #[.string s, .string ⟨#[c]⟩] w fun e w' => e = .returned (.int .i64 (Lib.indexByte s.data.toList c)) ∧ w' = w := Any.stringslite_Index_one Tryd.lays219 s c w
open Go.RowKit Go.Lib in
open Go.RowKit Go.Lib in
open Go.RowKit Go.Lib in
open Go.RowKit Go.Lib in
open Go.RowKit Go.Lib in
open Go.RowKit Go.Lib in
def Tryd.lays206_ren : Go.Shelf.Ren := ⟨fun | 206 => 66 | n => n, fun | 9 => 9 | 4 => 4 | 3 => 3 | n => n, fun | n => n⟩
theorem Tryd.lays206 : Go.Proofs.Lays.n206 Tryd.prog Tryd.lays206_ren := {
 mixed := by kernel_rfl
 f206 := Tryd.func66.trans (congrArg some (by kernel_rfl))
 t3 := Tryd.underlying3
 a3 := Tryd.isAgg3
 z3 := Tryd.sizeOf3
 v3 := Tryd.zeroValue3
 t4 := Tryd.underlying4
 a4 := Tryd.isAgg4
 z4 := Tryd.sizeOf4
 v4 := Tryd.zeroValue4
 t9 := Tryd.underlying9
 a9 := Tryd.isAgg9
 z9 := Tryd.sizeOf9
 v9 := Tryd.zeroValue9 }
open Go.RowKit Go.Lib in
theorem Tryd.stringslite_HasPrefix (s p : ByteArray) (w : World) :
  Calls Tryd.prog 66 #[.string s, .string p] w fun e w' => e = .returned (.bool (Lib.hasPrefix s.data.toList p.data.toList)) ∧ w' = w := Any.stringslite_HasPrefix Tryd.lays206 s p w
end Go.Proofs
end
