/- Rules of runs and contracts of functions, for the claims of one seat. -/
import Derived.Ground.SlgcProg
import Derived.Ground.SlsfProg
import Derived.Shelf.SlGeneric
import Derived.Shelf.SlLaysC2
import Derived.Shelf.SlLaysF0
import Derived.Test.YtjpdemikmdfonaaGreatDoorProg
namespace Go.Proofs
open Go.Shelf
def Tryz.sortE_ren : Go.Shelf.Ren := ⟨fun | 6 => 146 | 15 => 126 | 14 => 204 | 28 => 177 | 29 => 178 | 20 => 261 | 21 => 262 | 22 => 263 | 23 => 264 | 24 => 265 | 25 => 266 | 26 => 267 | 27 => 268 | 46 => 299 | 47 => 230 | 48 => 231 | 49 => 300 | 50 => 301 | 57 => 345 | n => n, fun | 22 => 90 | 24 => 193 | 25 => 248 | 3 => 3 | 39 => 218 | 0 => 0 | 53 => 273 | 55 => 275 | 4 => 4 | 46 => 266 | 45 => 265 | 50 => 270 | 5 => 5 | 9 => 9 | 66 => 337 | 70 => 341 | 76 => 380 | 77 => 381 | n => n, fun | n => n⟩
theorem Tryz.sortE : Go.Proofs.SlLaysF0.n6 Tryz.prog Tryz.sortE_ren := {
 mixed := by kernel_rfl
 f6 := ⟨Tryz.f146.name, by decide, Tryz.func146.trans (congrArg some (by kernel_rfl))⟩
 f14 := ⟨Tryz.f204.name, by decide, Tryz.func204.trans (congrArg some (by kernel_rfl))⟩
 f15 := Tryz.func126.trans (congrArg some (by kernel_rfl))
 f20 := ⟨Tryz.f261.name, by decide, Tryz.func261.trans (congrArg some (by kernel_rfl))⟩
 f21 := ⟨Tryz.f262.name, by decide, Tryz.func262.trans (congrArg some (by kernel_rfl))⟩
 f22 := ⟨Tryz.f263.name, by decide, Tryz.func263.trans (congrArg some (by kernel_rfl))⟩
 f23 := ⟨Tryz.f264.name, by decide, Tryz.func264.trans (congrArg some (by kernel_rfl))⟩
 f24 := ⟨Tryz.f265.name, by decide, Tryz.func265.trans (congrArg some (by kernel_rfl))⟩
 f25 := ⟨Tryz.f266.name, by decide, Tryz.func266.trans (congrArg some (by kernel_rfl))⟩
 f26 := ⟨Tryz.f267.name, by decide, Tryz.func267.trans (congrArg some (by kernel_rfl))⟩
 f27 := ⟨Tryz.f268.name, by decide, Tryz.func268.trans (congrArg some (by kernel_rfl))⟩
 f28 := Tryz.func177.trans (congrArg some (by kernel_rfl))
 f29 := Tryz.func178.trans (congrArg some (by kernel_rfl))
 f46 := ⟨Tryz.f299.name, by decide, Tryz.func299.trans (congrArg some (by kernel_rfl))⟩
 f47 := Tryz.func230.trans (congrArg some (by kernel_rfl))
 f48 := Tryz.func231.trans (congrArg some (by kernel_rfl))
 f49 := ⟨Tryz.f300.name, by decide, Tryz.func300.trans (congrArg some (by kernel_rfl))⟩
 f50 := ⟨Tryz.f301.name, by decide, Tryz.func301.trans (congrArg some (by kernel_rfl))⟩
 f57 := ⟨Tryz.f345.name, by decide, Tryz.func345.trans (congrArg some (by kernel_rfl))⟩
 t0 := Tryz.underlying0
 a0 := Tryz.isAgg0
 z0 := Tryz.sizeOf0
 v0 := Tryz.zeroValue0
 t3 := Tryz.underlying3
 a3 := Tryz.isAgg3
 z3 := Tryz.sizeOf3
 v3 := Tryz.zeroValue3
 t4 := Tryz.underlying4
 a4 := Tryz.isAgg4
 z4 := Tryz.sizeOf4
 v4 := Tryz.zeroValue4
 t5 := Tryz.underlying5
 a5 := Tryz.isAgg5
 z5 := Tryz.sizeOf5
 v5 := Tryz.zeroValue5
 t9 := Tryz.underlying9
 a9 := Tryz.isAgg9
 z9 := Tryz.sizeOf9
 v9 := Tryz.zeroValue9
 t22 := Tryz.underlying90
 a22 := Tryz.isAgg90
 z22 := Tryz.sizeOf90
 v22 := Tryz.zeroValue90
 t25 := Tryz.underlying248
 a25 := Tryz.isAgg248
 z25 := Tryz.sizeOf248
 v25 := Tryz.zeroValue248
 t39 := Tryz.underlying218
 a39 := Tryz.isAgg218
 z39 := Tryz.sizeOf218
 v39 := Tryz.zeroValue218
 t45 := Tryz.underlying265
 a45 := Tryz.isAgg265
 z45 := Tryz.sizeOf265
 v45 := Tryz.zeroValue265
 t46 := Tryz.underlying266
 a46 := Tryz.isAgg266
 z46 := Tryz.sizeOf266
 v46 := Tryz.zeroValue266
 t50 := Tryz.underlying270
 a50 := Tryz.isAgg270
 z50 := Tryz.sizeOf270
 v50 := Tryz.zeroValue270
 t53 := Tryz.underlying273
 a53 := Tryz.isAgg273
 z53 := Tryz.sizeOf273
 v53 := Tryz.zeroValue273
 t55 := Tryz.underlying275
 a55 := Tryz.isAgg275
 z55 := Tryz.sizeOf275
 v55 := Tryz.zeroValue275
 t66 := Tryz.underlying337
 a66 := Tryz.isAgg337
 z66 := Tryz.sizeOf337
 v66 := Tryz.zeroValue337
 t70 := Tryz.underlying341
 a70 := Tryz.isAgg341
 z70 := Tryz.sizeOf341
 v70 := Tryz.zeroValue341
 t76 := Tryz.underlying380
 a76 := Tryz.isAgg380
 z76 := Tryz.sizeOf380
 v76 := Tryz.zeroValue380
 t77 := Tryz.underlying381
 a77 := Tryz.isAgg381
 z77 := Tryz.sizeOf381
 v77 := Tryz.zeroValue381 }
end Go.Proofs

