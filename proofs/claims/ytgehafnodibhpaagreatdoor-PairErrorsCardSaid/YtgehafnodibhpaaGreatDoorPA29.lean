/- Rules of runs and contracts of functions, for the claims of one seat. -/
import Derived.Ground.SlgcProg
import Derived.Ground.SlsfProg
import Derived.Shelf.SlGeneric
import Derived.Shelf.SlLaysC2
import Derived.Shelf.SlLaysF0
import Derived.Test.YtgehafnodibhpaaGreatDoorProg
namespace Go.Proofs
open Go.Shelf
def Tryz.sortE_ren : Go.Shelf.Ren := ⟨fun | 6 => 267 | 15 => 68 | 14 => 320 | 28 => 119 | 29 => 120 | 20 => 353 | 21 => 354 | 22 => 355 | 23 => 356 | 24 => 357 | 25 => 358 | 26 => 359 | 27 => 360 | 46 => 380 | 47 => 168 | 48 => 169 | 49 => 381 | 50 => 382 | 57 => 387 | n => n, fun | 22 => 58 | 24 => 208 | 25 => 304 | 3 => 3 | 39 => 162 | 0 => 0 | 53 => 227 | 55 => 229 | 4 => 4 | 46 => 219 | 45 => 218 | 50 => 224 | 5 => 5 | 9 => 9 | 66 => 287 | 70 => 291 | 76 => 327 | 77 => 328 | n => n, fun | n => n⟩
theorem Tryz.sortE : Go.Proofs.SlLaysF0.n6 Tryz.prog Tryz.sortE_ren := {
 mixed := by kernel_rfl
 f6 := ⟨Tryz.f267.name, by decide, Tryz.func267.trans (congrArg some (by kernel_rfl))⟩
 f14 := ⟨Tryz.f320.name, by decide, Tryz.func320.trans (congrArg some (by kernel_rfl))⟩
 f15 := Tryz.func68.trans (congrArg some (by kernel_rfl))
 f20 := ⟨Tryz.f353.name, by decide, Tryz.func353.trans (congrArg some (by kernel_rfl))⟩
 f21 := ⟨Tryz.f354.name, by decide, Tryz.func354.trans (congrArg some (by kernel_rfl))⟩
 f22 := ⟨Tryz.f355.name, by decide, Tryz.func355.trans (congrArg some (by kernel_rfl))⟩
 f23 := ⟨Tryz.f356.name, by decide, Tryz.func356.trans (congrArg some (by kernel_rfl))⟩
 f24 := ⟨Tryz.f357.name, by decide, Tryz.func357.trans (congrArg some (by kernel_rfl))⟩
 f25 := ⟨Tryz.f358.name, by decide, Tryz.func358.trans (congrArg some (by kernel_rfl))⟩
 f26 := ⟨Tryz.f359.name, by decide, Tryz.func359.trans (congrArg some (by kernel_rfl))⟩
 f27 := ⟨Tryz.f360.name, by decide, Tryz.func360.trans (congrArg some (by kernel_rfl))⟩
 f28 := Tryz.func119.trans (congrArg some (by kernel_rfl))
 f29 := Tryz.func120.trans (congrArg some (by kernel_rfl))
 f46 := ⟨Tryz.f380.name, by decide, Tryz.func380.trans (congrArg some (by kernel_rfl))⟩
 f47 := Tryz.func168.trans (congrArg some (by kernel_rfl))
 f48 := Tryz.func169.trans (congrArg some (by kernel_rfl))
 f49 := ⟨Tryz.f381.name, by decide, Tryz.func381.trans (congrArg some (by kernel_rfl))⟩
 f50 := ⟨Tryz.f382.name, by decide, Tryz.func382.trans (congrArg some (by kernel_rfl))⟩
 f57 := ⟨Tryz.f387.name, by decide, Tryz.func387.trans (congrArg some (by kernel_rfl))⟩
 t0 := Tryz.underlying0
 a0 := Tryz.isAgg0
 z0 := Tryz.sizeOf0
 v0 := Tryz.zeroValue0
 t3 := Tryz.underlying3
 a3 := Tryz.isAgg3
 z3 := Tryz.sizeOf3
 v3 := Tryz.zeroValue3
 t4 := Tryz.underlying4
 a4 := Tryz.isAgg4
 z4 := Tryz.sizeOf4
 v4 := Tryz.zeroValue4
 t5 := Tryz.underlying5
 a5 := Tryz.isAgg5
 z5 := Tryz.sizeOf5
 v5 := Tryz.zeroValue5
 t9 := Tryz.underlying9
 a9 := Tryz.isAgg9
 z9 := Tryz.sizeOf9
 v9 := Tryz.zeroValue9
 t22 := Tryz.underlying58
 a22 := Tryz.isAgg58
 z22 := Tryz.sizeOf58
 v22 := Tryz.zeroValue58
 t25 := Tryz.underlying304
 a25 := Tryz.isAgg304
 z25 := Tryz.sizeOf304
 v25 := Tryz.zeroValue304
 t39 := Tryz.underlying162
 a39 := Tryz.isAgg162
 z39 := Tryz.sizeOf162
 v39 := Tryz.zeroValue162
 t45 := Tryz.underlying218
 a45 := Tryz.isAgg218
 z45 := Tryz.sizeOf218
 v45 := Tryz.zeroValue218
 t46 := Tryz.underlying219
 a46 := Tryz.isAgg219
 z46 := Tryz.sizeOf219
 v46 := Tryz.zeroValue219
 t50 := Tryz.underlying224
 a50 := Tryz.isAgg224
 z50 := Tryz.sizeOf224
 v50 := Tryz.zeroValue224
 t53 := Tryz.underlying227
 a53 := Tryz.isAgg227
 z53 := Tryz.sizeOf227
 v53 := Tryz.zeroValue227
 t55 := Tryz.underlying229
 a55 := Tryz.isAgg229
 z55 := Tryz.sizeOf229
 v55 := Tryz.zeroValue229
 t66 := Tryz.underlying287
 a66 := Tryz.isAgg287
 z66 := Tryz.sizeOf287
 v66 := Tryz.zeroValue287
 t70 := Tryz.underlying291
 a70 := Tryz.isAgg291
 z70 := Tryz.sizeOf291
 v70 := Tryz.zeroValue291
 t76 := Tryz.underlying327
 a76 := Tryz.isAgg327
 z76 := Tryz.sizeOf327
 v76 := Tryz.zeroValue327
 t77 := Tryz.underlying328
 a77 := Tryz.isAgg328
 z77 := Tryz.sizeOf328
 v77 := Tryz.zeroValue328 }
end Go.Proofs

