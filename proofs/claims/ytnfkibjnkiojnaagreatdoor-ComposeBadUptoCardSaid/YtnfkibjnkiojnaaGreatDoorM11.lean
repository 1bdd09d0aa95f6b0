/- TkShelf TkSh. -/
import Derived.Shelf.Strings.Split
import Derived.Shelf.Bits.Mul64
import Derived.Shelf.Spec.TrailingZeros
import Derived.Shelf.SlLaysF
import Derived.Shelf.SlLaysF0
import Derived.Ground.NamesProg
import Derived.Ground.Names7Prog
import Derived.Ground.SlsfProg
import Derived.Test.YtnfkibjnkiojnaaGreatDoorProg
import Derived.Test.YtnfkibjnkiojnaaGreatDoorM05
import Derived.Test.YtnfkibjnkiojnaaGreatDoorM07
import Derived.Test.YtnfkibjnkiojnaaGreatDoorM06
import Derived.Test.YtnfkibjnkiojnaaGreatDoorM10
import Derived.Test.YtnfkibjnkiojnaaGreatDoorM09
import Derived.Test.YtnfkibjnkiojnaaGreatDoorM01
set_option linter.unusedVariables false
set_option linter.unusedSimpArgs false
set_option maxRecDepth 100000

section
/- The kit's shelf at this program. -/
namespace Go.Proofs
open Go.Shelf
def Tryz.lays146_ren : Go.Shelf.Ren := ⟨fun | 146 => 300 | 221 => 334 | 268 => 359 | 138 => 360 | 143 => 361 | 195 => 370 | 197 => 371 | 218 => 372 | 219 => 373 | 260 => 376 | 217 => 377 | 225 => 378 | 224 => 379 | 267 => 380 | 266 => 381 | 314 => 382 | n => n, fun | 9 => 9 | 31 => 88 | 3 => 3 | 4 => 4 | 0 => 0 | 105 => 476 | 21 => 21 | 5 => 5 | 46 => 160 | 119 => 482 | 139 => 485 | 138 => 484 | 146 => 378 | 51 => 245 | n => n, fun | 1 => 1 | 3 => 2 | 4 => 3 | n => n⟩
theorem Tryz.lays146 : Go.Proofs.Lays.n146 Tryz.prog Tryz.lays146_ren := {
  mixed := by kernel_rfl
  f138 := Tryz.func360.trans (congrArg some (by kernel_rfl))
  f143 := Tryz.func361.trans (congrArg some (by kernel_rfl))
  f146 := Tryz.func300.trans (congrArg some (by kernel_rfl))
  f195 := Tryz.func370.trans (congrArg some (by kernel_rfl))
  f197 := Tryz.func371.trans (congrArg some (by kernel_rfl))
  f217 := Tryz.func377.trans (congrArg some (by kernel_rfl))
  f218 := Tryz.func372.trans (congrArg some (by kernel_rfl))
  f219 := Tryz.func373.trans (congrArg some (by kernel_rfl))
  f221 := Tryz.func334.trans (congrArg some (by kernel_rfl))
  f224 := Tryz.func379.trans (congrArg some (by kernel_rfl))
  f225 := Tryz.func378.trans (congrArg some (by kernel_rfl))
  f260 := Tryz.func376.trans (congrArg some (by kernel_rfl))
  f266 := Tryz.func381.trans (congrArg some (by kernel_rfl))
  f267 := Tryz.func380.trans (congrArg some (by kernel_rfl))
  f268 := Tryz.func359.trans (congrArg some (by kernel_rfl))
  f314 := Tryz.func382.trans (congrArg some (by kernel_rfl))
  t0 := Tryz.underlying0
  a0 := Tryz.isAgg0
  z0 := Tryz.sizeOf0
  v0 := Tryz.zeroValue0
  t3 := Tryz.underlying3
  a3 := Tryz.isAgg3
  z3 := Tryz.sizeOf3
  v3 := Tryz.zeroValue3
  t4 := Tryz.underlying4
  a4 := Tryz.isAgg4
  z4 := Tryz.sizeOf4
  v4 := Tryz.zeroValue4
  t5 := Tryz.underlying5
  a5 := Tryz.isAgg5
  z5 := Tryz.sizeOf5
  v5 := Tryz.zeroValue5
  t9 := Tryz.underlying9
  a9 := Tryz.isAgg9
  z9 := Tryz.sizeOf9
  v9 := Tryz.zeroValue9
  t21 := Tryz.underlying21
  a21 := Tryz.isAgg21
  z21 := Tryz.sizeOf21
  v21 := Tryz.zeroValue21
  t31 := Tryz.underlying88
  a31 := Tryz.isAgg88
  z31 := Tryz.sizeOf88
  v31 := Tryz.zeroValue88
  t46 := Tryz.underlying160
  a46 := Tryz.isAgg160
  z46 := Tryz.sizeOf160
  v46 := Tryz.zeroValue160
  t51 := Tryz.underlying245
  a51 := Tryz.isAgg245
  z51 := Tryz.sizeOf245
  v51 := Tryz.zeroValue245
  t105 := Tryz.underlying476
  a105 := Tryz.isAgg476
  z105 := Tryz.sizeOf476
  v105 := Tryz.zeroValue476
  t119 := Tryz.underlying482
  a119 := Tryz.isAgg482
  z119 := Tryz.sizeOf482
  t138 := Tryz.underlying484
  a138 := Tryz.isAgg484
  z138 := Tryz.sizeOf484
  v138 := Tryz.zeroValue484
  t139 := Tryz.underlying485
  a139 := Tryz.isAgg485
  z139 := Tryz.sizeOf485
  v139 := Tryz.zeroValue485
  t146 := Tryz.underlying378
  a146 := Tryz.isAgg378
  z146 := Tryz.sizeOf378
  v146 := Tryz.zeroValue378
  g1 := by kernel_rfl
  g3 := by kernel_rfl
  g4 := by kernel_rfl }
def Tryz.lays212_ren : Go.Shelf.Ren := ⟨fun | 212 => 207 | 263 => 259 | 264 => 260 | n => n, fun | 46 => 160 | 51 => 245 | 146 => 378 | 53 => 159 | 148 => 380 | n => n, fun | n => n⟩
theorem Tryz.lays212 : Go.Proofs.Lays.n212 Tryz.prog Tryz.lays212_ren := {
  mixed := by kernel_rfl
  f212 := Tryz.func207.trans (congrArg some (by kernel_rfl))
  f263 := Tryz.func259.trans (congrArg some (by kernel_rfl))
  f264 := Tryz.func260.trans (congrArg some (by kernel_rfl))
  t46 := Tryz.underlying160
  a46 := Tryz.isAgg160
  z46 := Tryz.sizeOf160
  v46 := Tryz.zeroValue160
  t51 := Tryz.underlying245
  a51 := Tryz.isAgg245
  z51 := Tryz.sizeOf245
  v51 := Tryz.zeroValue245
  t53 := Tryz.underlying159
  a53 := Tryz.isAgg159
  z53 := Tryz.sizeOf159
  v53 := Tryz.zeroValue159
  t146 := Tryz.underlying378
  a146 := Tryz.isAgg378
  z146 := Tryz.sizeOf378
  v146 := Tryz.zeroValue378
  t148 := Tryz.underlying380
  a148 := Tryz.isAgg380
  z148 := Tryz.sizeOf380
  v148 := Tryz.zeroValue380 }
def Tryz.lays7_29_ren : Go.Shelf.Ren := ⟨fun | 29 => 268 | n => n, fun | 22 => 159 | 3 => 3 | 4 => 4 | 25 => 160 | 54 => 432 | 0 => 0 | 5 => 5 | n => n, fun | 1 => 0 | n => n⟩
theorem Tryz.lays7_29 : Go.Proofs.Lays7.n29 Tryz.prog Tryz.lays7_29_ren := {
  mixed := by kernel_rfl
  f29 := Tryz.func268.trans (congrArg some (by kernel_rfl))
  t0 := Tryz.underlying0
  a0 := Tryz.isAgg0
  z0 := Tryz.sizeOf0
  v0 := Tryz.zeroValue0
  i0 := by kernel_rfl
  t3 := Tryz.underlying3
  a3 := Tryz.isAgg3
  z3 := Tryz.sizeOf3
  v3 := Tryz.zeroValue3
  i3 := by kernel_rfl
  t4 := Tryz.underlying4
  a4 := Tryz.isAgg4
  z4 := Tryz.sizeOf4
  v4 := Tryz.zeroValue4
  i4 := by kernel_rfl
  t5 := Tryz.underlying5
  a5 := Tryz.isAgg5
  z5 := Tryz.sizeOf5
  v5 := Tryz.zeroValue5
  i5 := by kernel_rfl
  t22 := Tryz.underlying159
  a22 := Tryz.isAgg159
  z22 := Tryz.sizeOf159
  v22 := Tryz.zeroValue159
  i22 := by kernel_rfl
  t25 := Tryz.underlying160
  a25 := Tryz.isAgg160
  z25 := Tryz.sizeOf160
  v25 := Tryz.zeroValue160
  i25 := by kernel_rfl
  t54 := Tryz.underlying432
  a54 := Tryz.isAgg432
  z54 := Tryz.sizeOf432
  g1 := by kernel_rfl }
def Tryz.sortL137_ren : Go.Shelf.Ren := ⟨fun | 6 => 264 | 15 => 117 | 14 => 306 | 28 => 168 | 29 => 169 | 20 => 335 | 21 => 336 | 22 => 337 | 23 => 338 | 24 => 339 | 25 => 340 | 26 => 341 | 27 => 342 | 46 => 362 | 47 => 225 | 48 => 226 | 49 => 363 | 50 => 364 | 57 => 374 | n => n, fun | 22 => 321 | 24 => 324 | 25 => 390 | 3 => 3 | 39 => 160 | 0 => 0 | 53 => 245 | 55 => 159 | 4 => 4 | 46 => 239 | 45 => 238 | 50 => 176 | 5 => 5 | 9 => 9 | 66 => 342 | 70 => 346 | 76 => 399 | 77 => 400 | n => n, fun | n => n⟩
theorem Tryz.sortL137 : Go.Proofs.SlLaysF0.n6 Tryz.prog Tryz.sortL137_ren := {
  mixed := by kernel_rfl
  f6 := ⟨Tryz.f264.name, by decide, Tryz.func264.trans (congrArg some (by kernel_rfl))⟩
  f14 := ⟨Tryz.f306.name, by decide, Tryz.func306.trans (congrArg some (by kernel_rfl))⟩
  f15 := Tryz.func117.trans (congrArg some (by kernel_rfl))
  f20 := ⟨Tryz.f335.name, by decide, Tryz.func335.trans (congrArg some (by kernel_rfl))⟩
  f21 := ⟨Tryz.f336.name, by decide, Tryz.func336.trans (congrArg some (by kernel_rfl))⟩
  f22 := ⟨Tryz.f337.name, by decide, Tryz.func337.trans (congrArg some (by kernel_rfl))⟩
  f23 := ⟨Tryz.f338.name, by decide, Tryz.func338.trans (congrArg some (by kernel_rfl))⟩
  f24 := ⟨Tryz.f339.name, by decide, Tryz.func339.trans (congrArg some (by kernel_rfl))⟩
  f25 := ⟨Tryz.f340.name, by decide, Tryz.func340.trans (congrArg some (by kernel_rfl))⟩
  f26 := ⟨Tryz.f341.name, by decide, Tryz.func341.trans (congrArg some (by kernel_rfl))⟩
  f27 := ⟨Tryz.f342.name, by decide, Tryz.func342.trans (congrArg some (by kernel_rfl))⟩
  f28 := Tryz.func168.trans (congrArg some (by kernel_rfl))
  f29 := Tryz.func169.trans (congrArg some (by kernel_rfl))
  f46 := ⟨Tryz.f362.name, by decide, Tryz.func362.trans (congrArg some (by kernel_rfl))⟩
  f47 := Tryz.func225.trans (congrArg some (by kernel_rfl))
  f48 := Tryz.func226.trans (congrArg some (by kernel_rfl))
  f49 := ⟨Tryz.f363.name, by decide, Tryz.func363.trans (congrArg some (by kernel_rfl))⟩
  f50 := ⟨Tryz.f364.name, by decide, Tryz.func364.trans (congrArg some (by kernel_rfl))⟩
  f57 := ⟨Tryz.f374.name, by decide, Tryz.func374.trans (congrArg some (by kernel_rfl))⟩
  t0 := Tryz.underlying0
  a0 := Tryz.isAgg0
  z0 := Tryz.sizeOf0
  v0 := Tryz.zeroValue0
  t3 := Tryz.underlying3
  a3 := Tryz.isAgg3
  z3 := Tryz.sizeOf3
  v3 := Tryz.zeroValue3
  t4 := Tryz.underlying4
  a4 := Tryz.isAgg4
  z4 := Tryz.sizeOf4
  v4 := Tryz.zeroValue4
  t5 := Tryz.underlying5
  a5 := Tryz.isAgg5
  z5 := Tryz.sizeOf5
  v5 := Tryz.zeroValue5
  t9 := Tryz.underlying9
  a9 := Tryz.isAgg9
  z9 := Tryz.sizeOf9
  v9 := Tryz.zeroValue9
  t22 := Tryz.underlying321
  a22 := Tryz.isAgg321
  z22 := Tryz.sizeOf321
  v22 := Tryz.zeroValue321
  t25 := Tryz.underlying390
  a25 := Tryz.isAgg390
  z25 := Tryz.sizeOf390
  v25 := Tryz.zeroValue390
  t39 := Tryz.underlying160
  a39 := Tryz.isAgg160
  z39 := Tryz.sizeOf160
  v39 := Tryz.zeroValue160
  t45 := Tryz.underlying238
  a45 := Tryz.isAgg238
  z45 := Tryz.sizeOf238
  v45 := Tryz.zeroValue238
  t46 := Tryz.underlying239
  a46 := Tryz.isAgg239
  z46 := Tryz.sizeOf239
  v46 := Tryz.zeroValue239
  t50 := Tryz.underlying176
  a50 := Tryz.isAgg176
  z50 := Tryz.sizeOf176
  v50 := Tryz.zeroValue176
  t53 := Tryz.underlying245
  a53 := Tryz.isAgg245
  z53 := Tryz.sizeOf245
  v53 := Tryz.zeroValue245
  t55 := Tryz.underlying159
  a55 := Tryz.isAgg159
  z55 := Tryz.sizeOf159
  v55 := Tryz.zeroValue159
  t66 := Tryz.underlying342
  a66 := Tryz.isAgg342
  z66 := Tryz.sizeOf342
  v66 := Tryz.zeroValue342
  t70 := Tryz.underlying346
  a70 := Tryz.isAgg346
  z70 := Tryz.sizeOf346
  v70 := Tryz.zeroValue346
  t76 := Tryz.underlying399
  a76 := Tryz.isAgg399
  z76 := Tryz.sizeOf399
  v76 := Tryz.zeroValue399
  t77 := Tryz.underlying400
  a77 := Tryz.isAgg400
  z77 := Tryz.sizeOf400
  v77 := Tryz.zeroValue400 }
def Tryz.sortL72_ren : Go.Shelf.Ren := ⟨fun | 6 => 158 | 15 => 117 | 14 => 222 | 28 => 168 | 29 => 169 | 20 => 269 | 21 => 270 | 22 => 271 | 23 => 272 | 24 => 273 | 25 => 274 | 26 => 275 | 27 => 276 | 46 => 308 | 47 => 225 | 48 => 226 | 49 => 309 | 50 => 310 | 57 => 343 | n => n, fun | 22 => 52 | 24 => 108 | 25 => 149 | 3 => 3 | 39 => 160 | 0 => 0 | 53 => 245 | 55 => 159 | 4 => 4 | 46 => 239 | 45 => 238 | 50 => 176 | 5 => 5 | 9 => 9 | 66 => 342 | 70 => 346 | 76 => 399 | 77 => 400 | n => n, fun | n => n⟩
theorem Tryz.sortL72 : Go.Proofs.SlLaysF0.n6 Tryz.prog Tryz.sortL72_ren := {
  mixed := by kernel_rfl
  f6 := ⟨Tryz.f158.name, by decide, Tryz.func158.trans (congrArg some (by kernel_rfl))⟩
  f14 := ⟨Tryz.f222.name, by decide, Tryz.func222.trans (congrArg some (by kernel_rfl))⟩
  f15 := Tryz.func117.trans (congrArg some (by kernel_rfl))
  f20 := ⟨Tryz.f269.name, by decide, Tryz.func269.trans (congrArg some (by kernel_rfl))⟩
  f21 := ⟨Tryz.f270.name, by decide, Tryz.func270.trans (congrArg some (by kernel_rfl))⟩
  f22 := ⟨Tryz.f271.name, by decide, Tryz.func271.trans (congrArg some (by kernel_rfl))⟩
  f23 := ⟨Tryz.f272.name, by decide, Tryz.func272.trans (congrArg some (by kernel_rfl))⟩
  f24 := ⟨Tryz.f273.name, by decide, Tryz.func273.trans (congrArg some (by kernel_rfl))⟩
  f25 := ⟨Tryz.f274.name, by decide, Tryz.func274.trans (congrArg some (by kernel_rfl))⟩
  f26 := ⟨Tryz.f275.name, by decide, Tryz.func275.trans (congrArg some (by kernel_rfl))⟩
  f27 := ⟨Tryz.f276.name, by decide, Tryz.func276.trans (congrArg some (by kernel_rfl))⟩
  f28 := Tryz.func168.trans (congrArg some (by kernel_rfl))
  f29 := Tryz.func169.trans (congrArg some (by kernel_rfl))
  f46 := ⟨Tryz.f308.name, by decide, Tryz.func308.trans (congrArg some (by kernel_rfl))⟩
  f47 := Tryz.func225.trans (congrArg some (by kernel_rfl))
  f48 := Tryz.func226.trans (congrArg some (by kernel_rfl))
  f49 := ⟨Tryz.f309.name, by decide, Tryz.func309.trans (congrArg some (by kernel_rfl))⟩
  f50 := ⟨Tryz.f310.name, by decide, Tryz.func310.trans (congrArg some (by kernel_rfl))⟩
  f57 := ⟨Tryz.f343.name, by decide, Tryz.func343.trans (congrArg some (by kernel_rfl))⟩
  t0 := Tryz.underlying0
  a0 := Tryz.isAgg0
  z0 := Tryz.sizeOf0
  v0 := Tryz.zeroValue0
  t3 := Tryz.underlying3
  a3 := Tryz.isAgg3
  z3 := Tryz.sizeOf3
  v3 := Tryz.zeroValue3
  t4 := Tryz.underlying4
  a4 := Tryz.isAgg4
  z4 := Tryz.sizeOf4
  v4 := Tryz.zeroValue4
  t5 := Tryz.underlying5
  a5 := Tryz.isAgg5
  z5 := Tryz.sizeOf5
  v5 := Tryz.zeroValue5
  t9 := Tryz.underlying9
  a9 := Tryz.isAgg9
  z9 := Tryz.sizeOf9
  v9 := Tryz.zeroValue9
  t22 := Tryz.underlying52
  a22 := Tryz.isAgg52
  z22 := Tryz.sizeOf52
  v22 := Tryz.zeroValue52
  t25 := Tryz.underlying149
  a25 := Tryz.isAgg149
  z25 := Tryz.sizeOf149
  v25 := Tryz.zeroValue149
  t39 := Tryz.underlying160
  a39 := Tryz.isAgg160
  z39 := Tryz.sizeOf160
  v39 := Tryz.zeroValue160
  t45 := Tryz.underlying238
  a45 := Tryz.isAgg238
  z45 := Tryz.sizeOf238
  v45 := Tryz.zeroValue238
  t46 := Tryz.underlying239
  a46 := Tryz.isAgg239
  z46 := Tryz.sizeOf239
  v46 := Tryz.zeroValue239
  t50 := Tryz.underlying176
  a50 := Tryz.isAgg176
  z50 := Tryz.sizeOf176
  v50 := Tryz.zeroValue176
  t53 := Tryz.underlying245
  a53 := Tryz.isAgg245
  z53 := Tryz.sizeOf245
  v53 := Tryz.zeroValue245
  t55 := Tryz.underlying159
  a55 := Tryz.isAgg159
  z55 := Tryz.sizeOf159
  v55 := Tryz.zeroValue159
  t66 := Tryz.underlying342
  a66 := Tryz.isAgg342
  z66 := Tryz.sizeOf342
  v66 := Tryz.zeroValue342
  t70 := Tryz.underlying346
  a70 := Tryz.isAgg346
  z70 := Tryz.sizeOf346
  v70 := Tryz.zeroValue346
  t76 := Tryz.underlying399
  a76 := Tryz.isAgg399
  z76 := Tryz.sizeOf399
  v76 := Tryz.zeroValue399
  t77 := Tryz.underlying400
  a77 := Tryz.isAgg400
  z77 := Tryz.sizeOf400
  v77 := Tryz.zeroValue400 }
def Tryz.sortL152_ren : Go.Shelf.Ren := ⟨fun | 6 => 172 | 15 => 117 | 14 => 229 | 28 => 168 | 29 => 169 | 20 => 247 | 21 => 278 | 22 => 279 | 23 => 280 | 24 => 281 | 25 => 282 | 26 => 283 | 27 => 284 | 46 => 311 | 47 => 225 | 48 => 226 | 49 => 312 | 50 => 313 | 57 => 344 | n => n, fun | 22 => 23 | 24 => 3 | 25 => 186 | 3 => 3 | 39 => 160 | 0 => 0 | 53 => 245 | 55 => 159 | 4 => 4 | 46 => 239 | 45 => 238 | 50 => 176 | 5 => 5 | 9 => 9 | 66 => 342 | 70 => 346 | 76 => 399 | 77 => 400 | n => n, fun | n => n⟩
theorem Tryz.sortL152 : Go.Proofs.SlLaysF.n6 Tryz.prog Tryz.sortL152_ren := {
  mixed := by kernel_rfl
  f6 := ⟨Tryz.f172.name, by decide, Tryz.func172.trans (congrArg some (by kernel_rfl))⟩
  f14 := ⟨Tryz.f229.name, by decide, Tryz.func229.trans (congrArg some (by kernel_rfl))⟩
  f15 := Tryz.func117.trans (congrArg some (by kernel_rfl))
  f20 := ⟨Tryz.f247.name, by decide, Tryz.func247.trans (congrArg some (by kernel_rfl))⟩
  f21 := ⟨Tryz.f278.name, by decide, Tryz.func278.trans (congrArg some (by kernel_rfl))⟩
  f22 := ⟨Tryz.f279.name, by decide, Tryz.func279.trans (congrArg some (by kernel_rfl))⟩
  f23 := ⟨Tryz.f280.name, by decide, Tryz.func280.trans (congrArg some (by kernel_rfl))⟩
  f24 := ⟨Tryz.f281.name, by decide, Tryz.func281.trans (congrArg some (by kernel_rfl))⟩
  f25 := ⟨Tryz.f282.name, by decide, Tryz.func282.trans (congrArg some (by kernel_rfl))⟩
  f26 := ⟨Tryz.f283.name, by decide, Tryz.func283.trans (congrArg some (by kernel_rfl))⟩
  f27 := ⟨Tryz.f284.name, by decide, Tryz.func284.trans (congrArg some (by kernel_rfl))⟩
  f28 := Tryz.func168.trans (congrArg some (by kernel_rfl))
  f29 := Tryz.func169.trans (congrArg some (by kernel_rfl))
  f46 := ⟨Tryz.f311.name, by decide, Tryz.func311.trans (congrArg some (by kernel_rfl))⟩
  f47 := Tryz.func225.trans (congrArg some (by kernel_rfl))
  f48 := Tryz.func226.trans (congrArg some (by kernel_rfl))
  f49 := ⟨Tryz.f312.name, by decide, Tryz.func312.trans (congrArg some (by kernel_rfl))⟩
  f50 := ⟨Tryz.f313.name, by decide, Tryz.func313.trans (congrArg some (by kernel_rfl))⟩
  f57 := ⟨Tryz.f344.name, by decide, Tryz.func344.trans (congrArg some (by kernel_rfl))⟩
  t0 := Tryz.underlying0
  a0 := Tryz.isAgg0
  z0 := Tryz.sizeOf0
  v0 := Tryz.zeroValue0
  t3 := Tryz.underlying3
  a3 := Tryz.isAgg3
  z3 := Tryz.sizeOf3
  v3 := Tryz.zeroValue3
  t4 := Tryz.underlying4
  a4 := Tryz.isAgg4
  z4 := Tryz.sizeOf4
  v4 := Tryz.zeroValue4
  t5 := Tryz.underlying5
  a5 := Tryz.isAgg5
  z5 := Tryz.sizeOf5
  v5 := Tryz.zeroValue5
  t9 := Tryz.underlying9
  a9 := Tryz.isAgg9
  z9 := Tryz.sizeOf9
  v9 := Tryz.zeroValue9
  t22 := Tryz.underlying23
  a22 := Tryz.isAgg23
  z22 := Tryz.sizeOf23
  v22 := Tryz.zeroValue23
  a24 := Tryz.isAgg3
  z24 := Tryz.sizeOf3
  t25 := Tryz.underlying186
  a25 := Tryz.isAgg186
  z25 := Tryz.sizeOf186
  v25 := Tryz.zeroValue186
  t39 := Tryz.underlying160
  a39 := Tryz.isAgg160
  z39 := Tryz.sizeOf160
  v39 := Tryz.zeroValue160
  t45 := Tryz.underlying238
  a45 := Tryz.isAgg238
  z45 := Tryz.sizeOf238
  v45 := Tryz.zeroValue238
  t46 := Tryz.underlying239
  a46 := Tryz.isAgg239
  z46 := Tryz.sizeOf239
  v46 := Tryz.zeroValue239
  t50 := Tryz.underlying176
  a50 := Tryz.isAgg176
  z50 := Tryz.sizeOf176
  v50 := Tryz.zeroValue176
  t53 := Tryz.underlying245
  a53 := Tryz.isAgg245
  z53 := Tryz.sizeOf245
  v53 := Tryz.zeroValue245
  t55 := Tryz.underlying159
  a55 := Tryz.isAgg159
  z55 := Tryz.sizeOf159
  v55 := Tryz.zeroValue159
  t66 := Tryz.underlying342
  a66 := Tryz.isAgg342
  z66 := Tryz.sizeOf342
  v66 := Tryz.zeroValue342
  t70 := Tryz.underlying346
  a70 := Tryz.isAgg346
  z70 := Tryz.sizeOf346
  v70 := Tryz.zeroValue346
  t76 := Tryz.underlying399
  a76 := Tryz.isAgg399
  z76 := Tryz.sizeOf399
  v76 := Tryz.zeroValue399
  t77 := Tryz.underlying400
  a77 := Tryz.isAgg400
  z77 := Tryz.sizeOf400
  v77 := Tryz.zeroValue400 }
def Tryz.sortL80_ren : Go.Shelf.Ren := ⟨fun | 6 => 80 | 15 => 117 | 14 => 116 | 28 => 168 | 29 => 169 | 20 => 160 | 21 => 161 | 22 => 162 | 23 => 163 | 24 => 164 | 25 => 165 | 26 => 166 | 27 => 167 | 46 => 224 | 47 => 225 | 48 => 226 | 49 => 227 | 50 => 228 | 57 => 277 | n => n, fun | 22 => 35 | 24 => 57 | 25 => 150 | 3 => 3 | 39 => 160 | 0 => 0 | 53 => 245 | 55 => 159 | 4 => 4 | 46 => 239 | 45 => 238 | 50 => 176 | 5 => 5 | 9 => 9 | 66 => 342 | 70 => 346 | 76 => 399 | 77 => 400 | n => n, fun | n => n⟩
theorem Tryz.sortL80 : Go.Proofs.SlLaysF0.n6 Tryz.prog Tryz.sortL80_ren := {
  mixed := by kernel_rfl
  f6 := ⟨Tryz.f80.name, by decide, Tryz.func80.trans (congrArg some (by kernel_rfl))⟩
  f14 := ⟨Tryz.f116.name, by decide, Tryz.func116.trans (congrArg some (by kernel_rfl))⟩
  f15 := Tryz.func117.trans (congrArg some (by kernel_rfl))
  f20 := ⟨Tryz.f160.name, by decide, Tryz.func160.trans (congrArg some (by kernel_rfl))⟩
  f21 := ⟨Tryz.f161.name, by decide, Tryz.func161.trans (congrArg some (by kernel_rfl))⟩
  f22 := ⟨Tryz.f162.name, by decide, Tryz.func162.trans (congrArg some (by kernel_rfl))⟩
  f23 := ⟨Tryz.f163.name, by decide, Tryz.func163.trans (congrArg some (by kernel_rfl))⟩
  f24 := ⟨Tryz.f164.name, by decide, Tryz.func164.trans (congrArg some (by kernel_rfl))⟩
  f25 := ⟨Tryz.f165.name, by decide, Tryz.func165.trans (congrArg some (by kernel_rfl))⟩
  f26 := ⟨Tryz.f166.name, by decide, Tryz.func166.trans (congrArg some (by kernel_rfl))⟩
  f27 := ⟨Tryz.f167.name, by decide, Tryz.func167.trans (congrArg some (by kernel_rfl))⟩
  f28 := Tryz.func168.trans (congrArg some (by kernel_rfl))
  f29 := Tryz.func169.trans (congrArg some (by kernel_rfl))
  f46 := ⟨Tryz.f224.name, by decide, Tryz.func224.trans (congrArg some (by kernel_rfl))⟩
  f47 := Tryz.func225.trans (congrArg some (by kernel_rfl))
  f48 := Tryz.func226.trans (congrArg some (by kernel_rfl))
  f49 := ⟨Tryz.f227.name, by decide, Tryz.func227.trans (congrArg some (by kernel_rfl))⟩
  f50 := ⟨Tryz.f228.name, by decide, Tryz.func228.trans (congrArg some (by kernel_rfl))⟩
  f57 := ⟨Tryz.f277.name, by decide, Tryz.func277.trans (congrArg some (by kernel_rfl))⟩
  t0 := Tryz.underlying0
  a0 := Tryz.isAgg0
  z0 := Tryz.sizeOf0
  v0 := Tryz.zeroValue0
  t3 := Tryz.underlying3
  a3 := Tryz.isAgg3
  z3 := Tryz.sizeOf3
  v3 := Tryz.zeroValue3
  t4 := Tryz.underlying4
  a4 := Tryz.isAgg4
  z4 := Tryz.sizeOf4
  v4 := Tryz.zeroValue4
  t5 := Tryz.underlying5
  a5 := Tryz.isAgg5
  z5 := Tryz.sizeOf5
  v5 := Tryz.zeroValue5
  t9 := Tryz.underlying9
  a9 := Tryz.isAgg9
  z9 := Tryz.sizeOf9
  v9 := Tryz.zeroValue9
  t22 := Tryz.underlying35
  a22 := Tryz.isAgg35
  z22 := Tryz.sizeOf35
  v22 := Tryz.zeroValue35
  t25 := Tryz.underlying150
  a25 := Tryz.isAgg150
  z25 := Tryz.sizeOf150
  v25 := Tryz.zeroValue150
  t39 := Tryz.underlying160
  a39 := Tryz.isAgg160
  z39 := Tryz.sizeOf160
  v39 := Tryz.zeroValue160
  t45 := Tryz.underlying238
  a45 := Tryz.isAgg238
  z45 := Tryz.sizeOf238
  v45 := Tryz.zeroValue238
  t46 := Tryz.underlying239
  a46 := Tryz.isAgg239
  z46 := Tryz.sizeOf239
  v46 := Tryz.zeroValue239
  t50 := Tryz.underlying176
  a50 := Tryz.isAgg176
  z50 := Tryz.sizeOf176
  v50 := Tryz.zeroValue176
  t53 := Tryz.underlying245
  a53 := Tryz.isAgg245
  z53 := Tryz.sizeOf245
  v53 := Tryz.zeroValue245
  t55 := Tryz.underlying159
  a55 := Tryz.isAgg159
  z55 := Tryz.sizeOf159
  v55 := Tryz.zeroValue159
  t66 := Tryz.underlying342
  a66 := Tryz.isAgg342
  z66 := Tryz.sizeOf342
  v66 := Tryz.zeroValue342
  t70 := Tryz.underlying346
  a70 := Tryz.isAgg346
  z70 := Tryz.sizeOf346
  v70 := Tryz.zeroValue346
  t76 := Tryz.underlying399
  a76 := Tryz.isAgg399
  z76 := Tryz.sizeOf399
  v76 := Tryz.zeroValue399
  t77 := Tryz.underlying400
  a77 := Tryz.isAgg400
  z77 := Tryz.sizeOf400
  v77 := Tryz.zeroValue400 }
end Go.Proofs
end

section
/- Contracts of the library taken from the kit's shelf. -/
namespace Go.VC
open Go.Proofs Go.LexS Go.Shelf
structure Gx (h:Heap):Prop where
 m:∃ m:Int,hc h ⟨1,0,none⟩=some (.int .i64 m)
 t:∀ j,j<Lib.deBruijn64tab.length->hc h ⟨0,j,none⟩=some (.int .u8 (Lib.deBruijn64tab.getD j 0))
theorem Gx.ext {h h':Heap} (hx:Gx h) (E:Ext h h'):Gx h':=by
 obtain ⟨m,hm⟩:=hx.m
 exact ⟨⟨m,hc_ext E hm⟩,fun j hj=>hc_ext E (hx.t j hj)⟩
theorem mul106 (x y:Nat) (hx:x<18446744073709551616) (hy:y<18446744073709551616) (h:Heap):Fn Pz 207 #[.int .u64 x,.int .u64 y] h fun v h'=>v=.tuple ⟨[.int .u64 ((x*y / 18446744073709551616:Nat):Int),.int .u64 ((x*y % 18446744073709551616:Nat):Int)]⟩/\h'=h:=
 Fn.of_same fun w=>Any.bits_Mul Tryz.lays212 x y hx hy w
def pieces (l:Nm):List Nm:=Go.Lib.split l [46]
theorem split255 (l:Nm) (h:Heap) (hx:Gx h) (hl:l.length<=50):Fn Pz 300 #[.string (bs l),.string (bs [46])] h fun v h'=>Ext h h'/\∃ s:Sl,v=.slice s.a s.n s.c/\RL h' 1 s nmC (pieces l):=by
 intro w hw
 subst hw
 obtain ⟨m,hm⟩:=hx.m
 have hle:=Lib.countB_le (bs [46]) (by decide) (bs l).size (bs l) (Yyt _)
 have hlen:=Lib.splitB_all (bs [46]) (by decide) 0 _ (bs l) rfl
 have hdat:=Lib.splitB_data (bs [46]) 0 (Lib.countB (bs l) (bs [46])) (bs l)
 have hp:pieces l=(Lib.splitB (bs [46]) 0 (Lib.countB (bs l) (bs [46])) (bs l)).map (·.data.toList):=hdat.symm
 have hcells:(Lib.splitB (bs [46]) 0 (Lib.countB (bs l) (bs [46])) (bs l)).map Value.string=(pieces l).map fun x=>Value.string (bs x):=by
  rw [hp,List.map_map]; rfl
 have hpl:(pieces l).length=Lib.countB (bs l) (bs [46])+1:=by rw [hp,Yc,hlen]
 rw [bs_size] at hle
 refine (Any.strings_Split Tryz.lays146 (by kernel_rfl) (bs l) (bs [46]) m w (by rw [bs_size]; omega) hm (by decide)).mono ?_
 rintro e w' ⟨rfl,rfl⟩
 rw [hcells]
 have ho:Own (w.alloc (.cells ((pieces l).map fun x=>Value.string (bs x)).toArray (Tryz.lays146_ren.t 9))).heap w.heap.size ((pieces l).map fun x=>Value.string (bs x)) (Tryz.lays146_ren.t 9):=Own.push
 refine ⟨_,rfl,⟨Ext.push _ _,⟨some ⟨w.heap.size,0,none⟩,Lib.countB (bs l) (bs [46])+1,Lib.countB (bs l) (bs [46])+1⟩,rfl,⟨⟨by rw [Yc,hpl],fun _=>⟨w.heap.size,0,rfl,fun i row hi=>?_⟩⟩,Yyt _,(fun e=>by cases e),by rw [hpl]; omega⟩⟩,rfl,rfl,rfl,trivial⟩
 rw [Yd] at hi
 obtain ⟨x,hx1,hx2⟩:=Yya.1 hi
 subst hx2
 refine ho.atC fun j v hj=>?_
 match j,hj with
 | 0,hj=>cases hj; rw [show 0+i*1+0=i by omega,Yd,hx1]; rfl
theorem swoE:Go.Sort.SWO (ltOf cmpE) where
 irrefl x:=by unfold ltOf; rw [decide_eq_false_iff_not,cmpE_neg]; exact evLt_irr x
 trans x y z h1 h2:=by unfold ltOf at *; rw [decide_eq_true_eq,cmpE_neg] at *; exact evLt_trans h1 h2
 ntrans x y z h1 h2:=by
  unfold ltOf at *
  rw [decide_eq_false_iff_not,cmpE_neg] at *
  obtain ⟨a,b,c⟩:=x
  obtain ⟨a',b',c'⟩:=y
  obtain ⟨a'',b'',c''⟩:=z
  unfold evLt at *
  cases a <;> cases a' <;> cases a'' <;> simp at * <;> omega
theorem swoM:Go.Sort.SWO (ltOf cmpM) where
 irrefl x:=by unfold ltOf; rw [decide_eq_false_iff_not,cmpM_neg]; exact mvLt_irr x
 trans x y z h1 h2:=by unfold ltOf at *; rw [decide_eq_true_eq,cmpM_neg] at *; exact mvLt_trans h1 h2
 ntrans x y z h1 h2:=by
  unfold ltOf at *
  rw [decide_eq_false_iff_not,cmpM_neg] at *
  obtain ⟨f,a,b,c,t,g⟩:=x
  obtain ⟨f',a',b',c',t',g'⟩:=y
  obtain ⟨f'',a'',b'',c'',t'',g''⟩:=z
  unfold mvLt evLt Mv.ev at *
  cases a <;> cases a' <;> cases a'' <;> simp at * <;> omega
instance:Inhabited Ev:=⟨⟨false,0,0⟩⟩
instance:Inhabited Mv:=⟨⟨0,false,0,0,0,false⟩⟩
theorem sort137 {h0 h:Heap} {L:List It} (hs:St h0 h L) (k:Nat) {s:Sl} {l:List Ev} (hk:L[k]?=some (.sl s 324 3 (l.map Ev.cs))) (hm:l.length<=1048576) :
  Fn Pz 264 #[.slice s.a s.n s.c,.func (.func 265) #[] #[]] h fun v h'=>v=.tuple ⟨[]⟩/\∃ l':List Ev,l'.Perm l/\l'.Pairwise (fun a b=>¬ evLt b a)/\St h0 h' (L.set k (.sl s 324 3 (l'.map Ev.cs))):=by
 refine Fn.mono (sort_own Tryz.sortL137 3 324 Tryz.isAgg324 Tryz.sizeOf324 Ev.cs (fun _=>rfl) (fun x v hv=>by simp [Ev.cs] at hv; rcases hv with rfl | rfl | rfl <;> rfl) cmpE swoE 265 (enters_of Tryz.func265 (by kernel_rfl) rfl) (fun x y h=>@M.compare138 monoDrawn x y h) hs k hk (by omega) (by omega)) ?_
 rintro v h' ⟨rfl,l',hp,hw,hs'⟩
 exact ⟨rfl,l',hp,hw.imp fun {a b} hab=>by unfold ltOf at hab; rw [decide_eq_false_iff_not,cmpE_neg] at hab; exact hab,hs'⟩
theorem sort72 {h0 h:Heap} {L:List It} (hs:St h0 h L) (k:Nat) {s:Sl} {l:List Mv} (hk:L[k]?=some (.sl s 108 6 (l.map Mv.cs))) (hm:l.length<=1048576) :
  Fn Pz 158 #[.slice s.a s.n s.c,.func (.func 159) #[] #[]] h fun v h'=>v=.tuple ⟨[]⟩/\∃ l':List Mv,l'.Perm l/\l'.Pairwise (fun a b=>¬ mvLt b a)/\St h0 h' (L.set k (.sl s 108 6 (l'.map Mv.cs))):=by
 refine Fn.mono (sort_own Tryz.sortL72 6 108 Tryz.isAgg108 Tryz.sizeOf108 Mv.cs (fun _=>rfl) (fun x v hv=>by simp [Mv.cs] at hv; rcases hv with rfl | rfl | rfl | rfl | rfl | rfl <;> rfl) cmpM swoM 159 (enters_of Tryz.func159 (by kernel_rfl) rfl) (fun x y h=>@M.order73 monoDrawn x y h) hs k hk (by omega) (by omega)) ?_
 rintro v h' ⟨rfl,l',hp,hw,hs'⟩
 exact ⟨rfl,l',hp,hw.imp fun {a b} hab=>by unfold ltOf at hab; rw [decide_eq_false_iff_not,cmpM_neg] at hab; exact hab,hs'⟩
end Go.VC
end
