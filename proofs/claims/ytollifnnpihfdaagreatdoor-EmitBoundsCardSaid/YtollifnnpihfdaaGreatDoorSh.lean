/- Contracts of Go's library, laid by the kit's tools at this program. -/
import Derived.Shelf.Strings.Builder1
import Derived.Shelf.Strings.Builder2
import Derived.Shelf.Strings.OnBuilder
import Derived.Shelf.Small.Utf8
import Derived.Shelf.Small.Strs
import Derived.Shelf.Small.Wraps
import Derived.Shelf.Strings.BuilderF
import Derived.Shelf.Strings.BuilderK
import Derived.Shelf.Strings.Builder2Cap
import Derived.Shelf.Strconv.Itoa0
import Derived.Shelf.Strconv.Itoa1
import Derived.Shelf.LaysM
import Derived.Shelf.Strconv.Itoa2
import Derived.Shelf.Strconv.Itoa3
import Derived.Shelf.Strings.Search1
import Derived.Shelf.Strings.Search2
import Derived.Shelf.Strings.Search3
import Derived.Shelf.Strings.Shaped
import Derived.Shelf.Strings.Prefix
import Derived.Shelf.Unicode.Decode
import Derived.Shelf.Strings.Runes
import Derived.Shelf.Strings.IndexAny
import Derived.Shelf.Strings.AsciiSet
import Derived.Shelf.Strings.IndexAnyAll
import Derived.Shelf.Unicode.DecodeSlow
import Derived.Shelf.Unicode.DecodeAny
import Derived.Shelf.Strings.BuilderCap
import Derived.Test.YtollifnnpihfdaaGreatDoorProg
namespace Go.Proofs
open Go.Shelf
def Tryz.lays210_ren : Go.Shelf.Ren := ⟨fun | 210 => 277 | 206 => 284 | n => n, fun | 9 => 9 | 4 => 4 | 3 => 3 | n => n, fun | n => n⟩
def Tryz.laysM246_ren : Go.Shelf.Ren := ⟨fun | 246 => 219 | 283 => 253 | 284 => 254 | 285 => 255 | 286 => 256 | 129 => 271 | 317 => 270 | 318 => 272 | 319 => 273 | 320 => 274 | 337 => 280 | 338 => 281 | n => n, fun | 2 => 2 | 3 => 3 | 9 => 9 | 4 => 4 | 171 => 326 | 0 => 0 | 53 => 87 | 37 => 265 | 5 => 5 | 173 => 329 | 212 => 343 | 51 => 344 | 20 => 20 | 213 => 345 | 46 => 217 | 232 => 353 | 233 => 354 | n => n, fun | 17 => 7 | 18 => 9 | 19 => 10 | n => n⟩
def Tryz.laysM243_ren : Go.Shelf.Ren := ⟨fun | 243 => 156 | 246 => 219 | 283 => 253 | 284 => 254 | 285 => 255 | 286 => 256 | 129 => 271 | 317 => 270 | 318 => 272 | 319 => 273 | 320 => 274 | 337 => 280 | 338 => 281 | n => n, fun | 3 => 3 | 9 => 9 | 2 => 2 | 4 => 4 | 171 => 326 | 0 => 0 | 53 => 87 | 37 => 265 | 5 => 5 | 173 => 329 | 212 => 343 | 51 => 344 | 20 => 20 | 213 => 345 | 46 => 217 | 232 => 353 | 233 => 354 | n => n, fun | 17 => 7 | 18 => 9 | 19 => 10 | n => n⟩
def Tryz.laysM171_ren : Go.Shelf.Ren := ⟨fun | 171 => 93 | 243 => 156 | 246 => 219 | 283 => 253 | 284 => 254 | 285 => 255 | 286 => 256 | 129 => 271 | 317 => 270 | 318 => 272 | 319 => 273 | 320 => 274 | 337 => 280 | 338 => 281 | n => n, fun | 3 => 3 | 9 => 9 | 2 => 2 | 4 => 4 | 171 => 326 | 0 => 0 | 53 => 87 | 37 => 265 | 5 => 5 | 173 => 329 | 212 => 343 | 51 => 344 | 20 => 20 | 213 => 345 | 46 => 217 | 232 => 353 | 233 => 354 | n => n, fun | 17 => 7 | 18 => 9 | 19 => 10 | n => n⟩
def Tryz.lays171_ren : Go.Shelf.Ren := ⟨fun | 171 => 93 | 243 => 156 | 246 => 219 | 283 => 253 | 284 => 254 | 285 => 255 | 286 => 256 | 129 => 271 | 317 => 270 | 318 => 272 | 319 => 273 | 320 => 274 | 337 => 280 | 338 => 281 | n => n, fun | 3 => 3 | 9 => 9 | 2 => 2 | 4 => 4 | 171 => 326 | 0 => 0 | 53 => 87 | 37 => 265 | 5 => 5 | 173 => 329 | 212 => 343 | 51 => 344 | 20 => 20 | 213 => 345 | 46 => 217 | 232 => 353 | 233 => 354 | n => n, fun | 17 => 7 | 18 => 9 | 19 => 10 | n => n⟩
theorem Tryz.lays171 : Go.Proofs.Lays.n171 Tryz.prog Tryz.lays171_ren := {
  mixed := by kernel_rfl
  f129 := Tryz.func271.trans (congrArg some (by kernel_rfl))
  f171 := Tryz.func93.trans (congrArg some (by kernel_rfl))
  f243 := Tryz.func156.trans (congrArg some (by kernel_rfl))
  f246 := Tryz.func219.trans (congrArg some (by kernel_rfl))
  f283 := Tryz.func253.trans (congrArg some (by kernel_rfl))
  f284 := Tryz.func254.trans (congrArg some (by kernel_rfl))
  f285 := Tryz.func255.trans (congrArg some (by kernel_rfl))
  f286 := Tryz.func256.trans (congrArg some (by kernel_rfl))
  f317 := Tryz.func270.trans (congrArg some (by kernel_rfl))
  f318 := Tryz.func272.trans (congrArg some (by kernel_rfl))
  f319 := Tryz.func273.trans (congrArg some (by kernel_rfl))
  f320 := Tryz.func274.trans (congrArg some (by kernel_rfl))
  f337 := Tryz.func280.trans (congrArg some (by kernel_rfl))
  f338 := Tryz.func281.trans (congrArg some (by kernel_rfl))
  t0 := Tryz.underlying0
  a0 := Tryz.isAgg0
  z0 := Tryz.sizeOf0
  v0 := Tryz.zeroValue0
  t2 := Tryz.underlying2
  a2 := Tryz.isAgg2
  z2 := Tryz.sizeOf2
  v2 := Tryz.zeroValue2
  t3 := Tryz.underlying3
  a3 := Tryz.isAgg3
  z3 := Tryz.sizeOf3
  v3 := Tryz.zeroValue3
  t4 := Tryz.underlying4
  a4 := Tryz.isAgg4
  z4 := Tryz.sizeOf4
  v4 := Tryz.zeroValue4
  t5 := Tryz.underlying5
  a5 := Tryz.isAgg5
  z5 := Tryz.sizeOf5
  v5 := Tryz.zeroValue5
  t9 := Tryz.underlying9
  a9 := Tryz.isAgg9
  z9 := Tryz.sizeOf9
  v9 := Tryz.zeroValue9
  t20 := Tryz.underlying20
  a20 := Tryz.isAgg20
  z20 := Tryz.sizeOf20
  v20 := Tryz.zeroValue20
  t37 := Tryz.underlying265
  a37 := Tryz.isAgg265
  z37 := Tryz.sizeOf265
  v37 := Tryz.zeroValue265
  t46 := Tryz.underlying217
  a46 := Tryz.isAgg217
  z46 := Tryz.sizeOf217
  v46 := Tryz.zeroValue217
  t51 := Tryz.underlying344
  a51 := Tryz.isAgg344
  z51 := Tryz.sizeOf344
  v51 := Tryz.zeroValue344
  t53 := Tryz.underlying87
  a53 := Tryz.isAgg87
  z53 := Tryz.sizeOf87
  v53 := Tryz.zeroValue87
  t171 := Tryz.underlying326
  a171 := Tryz.isAgg326
  z171 := Tryz.sizeOf326
  v171 := Tryz.zeroValue326
  t173 := Tryz.underlying329
  a173 := Tryz.isAgg329
  z173 := Tryz.sizeOf329
  v173 := Tryz.zeroValue329
  t212 := Tryz.underlying343
  a212 := Tryz.isAgg343
  z212 := Tryz.sizeOf343
  v212 := Tryz.zeroValue343
  t213 := Tryz.underlying345
  a213 := Tryz.isAgg345
  z213 := Tryz.sizeOf345
  t232 := Tryz.underlying353
  a232 := Tryz.isAgg353
  z232 := Tryz.sizeOf353
  v232 := Tryz.zeroValue353
  t233 := Tryz.underlying354
  a233 := Tryz.isAgg354
  z233 := Tryz.sizeOf354
  v233 := Tryz.zeroValue354
  g17 := by kernel_rfl
  g18 := by kernel_rfl
  g19 := by kernel_rfl }
open Go.RowKit Go.Sort Go.Lib in
theorem Tryz.strconv_Itoa_small (i : Nat) (hi : i < 100) (w : World) :
    Calls Tryz.prog 93 #[.int .i64 i] w fun e w' => e = .returned (.string ⟨(Lib.decDigits i).toArray⟩) ∧ w' = w := Any.strconv_Itoa_small Tryz.lays171 i hi w
def Tryz.lays100_ren : Go.Shelf.Ren := ⟨fun | 100 => 162 | 207 => 225 | n => n, fun | 9 => 9 | 4 => 4 | 3 => 3 | n => n, fun | n => n⟩
theorem Tryz.lays100 : Go.Proofs.Lays.n100 Tryz.prog Tryz.lays100_ren := {
  mixed := by kernel_rfl
  f100 := Tryz.func162.trans (congrArg some (by kernel_rfl))
  f207 := Tryz.func225.trans (congrArg some (by kernel_rfl))
  t3 := Tryz.underlying3
  a3 := Tryz.isAgg3
  z3 := Tryz.sizeOf3
  v3 := Tryz.zeroValue3
  t4 := Tryz.underlying4
  a4 := Tryz.isAgg4
  z4 := Tryz.sizeOf4
  v4 := Tryz.zeroValue4
  t9 := Tryz.underlying9
  a9 := Tryz.isAgg9
  z9 := Tryz.sizeOf9
  v9 := Tryz.zeroValue9 }
open Go.RowKit Go.Lib in
theorem Tryz.strings_HasSuffix (s p : ByteArray) (w : World) (hs : s.size ≤ 9223372036854775807) :
    Calls Tryz.prog 162 #[.string s, .string p] w fun e w' => e = .returned (.bool (Lib.hasSuffix s.data.toList p.data.toList)) ∧ w' = w := Any.strings_HasSuffix Tryz.lays100 s p w hs
end Go.Proofs
