/- QjShelf QjSh. -/
import Derived.Shelf.Strings.Split
import Derived.Shelf.Bits.Mul64
import Derived.Shelf.Spec.TrailingZeros
import Derived.Shelf.SlLaysF
import Derived.Shelf.SlLaysF0
import Derived.Ground.NamesProg
import Derived.Ground.Names7Prog
import Derived.Ground.SlsfProg
import Derived.Test.YtkebghjhekoecaaGreatDoorProg
import Derived.Test.YtkebghjhekoecaaGreatDoorM05
import Derived.Test.YtkebghjhekoecaaGreatDoorM07
import Derived.Test.YtkebghjhekoecaaGreatDoorM06
import Derived.Test.YtkebghjhekoecaaGreatDoorM10
import Derived.Test.YtkebghjhekoecaaGreatDoorM09
import Derived.Test.YtkebghjhekoecaaGreatDoorM01
set_option linter.unusedVariables false
set_option linter.unusedSimpArgs false
set_option maxRecDepth 100000

section
/- The kit's shelf at this program. -/
namespace Go.Proofs
open Go.Shelf
def Tryz.lays146_ren : Go.Shelf.Ren := ⟨fun | 146 => 260 | 221 => 269 | 268 => 271 | 138 => 272 | 143 => 273 | 195 => 274 | 197 => 275 | 218 => 276 | 219 => 277 | 260 => 278 | 217 => 279 | 225 => 280 | 224 => 281 | 267 => 282 | 266 => 283 | 314 => 284 | n => n, fun | 9 => 9 | 31 => 55 | 3 => 3 | 4 => 4 | 0 => 0 | 105 => 319 | 21 => 21 | 5 => 5 | 46 => 198 | 119 => 323 | 139 => 326 | 138 => 325 | 146 => 291 | 51 => 259 | n => n, fun | 1 => 1 | 3 => 2 | 4 => 3 | n => n⟩
theorem Tryz.lays146 : Go.Proofs.Lays.n146 Tryz.prog Tryz.lays146_ren := {
  mixed := by kernel_rfl
  f138 := Tryz.func272.trans (congrArg some (by kernel_rfl))
  f143 := Tryz.func273.trans (congrArg some (by kernel_rfl))
  f146 := Tryz.func260.trans (congrArg some (by kernel_rfl))
  f195 := Tryz.func274.trans (congrArg some (by kernel_rfl))
  f197 := Tryz.func275.trans (congrArg some (by kernel_rfl))
  f217 := Tryz.func279.trans (congrArg some (by kernel_rfl))
  f218 := Tryz.func276.trans (congrArg some (by kernel_rfl))
  f219 := Tryz.func277.trans (congrArg some (by kernel_rfl))
  f221 := Tryz.func269.trans (congrArg some (by kernel_rfl))
  f224 := Tryz.func281.trans (congrArg some (by kernel_rfl))
  f225 := Tryz.func280.trans (congrArg some (by kernel_rfl))
  f260 := Tryz.func278.trans (congrArg some (by kernel_rfl))
  f266 := Tryz.func283.trans (congrArg some (by kernel_rfl))
  f267 := Tryz.func282.trans (congrArg some (by kernel_rfl))
  f268 := Tryz.func271.trans (congrArg some (by kernel_rfl))
  f314 := Tryz.func284.trans (congrArg some (by kernel_rfl))
  t0 := Tryz.underlying0
  a0 := Tryz.isAgg0
  z0 := Tryz.sizeOf0
  v0 := Tryz.zeroValue0
  t3 := Tryz.underlying3
  a3 := Tryz.isAgg3
  z3 := Tryz.sizeOf3
  v3 := Tryz.zeroValue3
  t4 := Tryz.underlying4
  a4 := Tryz.isAgg4
  z4 := Tryz.sizeOf4
  v4 := Tryz.zeroValue4
  t5 := Tryz.underlying5
  a5 := Tryz.isAgg5
  z5 := Tryz.sizeOf5
  v5 := Tryz.zeroValue5
  t9 := Tryz.underlying9
  a9 := Tryz.isAgg9
  z9 := Tryz.sizeOf9
  v9 := Tryz.zeroValue9
  t21 := Tryz.underlying21
  a21 := Tryz.isAgg21
  z21 := Tryz.sizeOf21
  v21 := Tryz.zeroValue21
  t31 := Tryz.underlying55
  a31 := Tryz.isAgg55
  z31 := Tryz.sizeOf55
  v31 := Tryz.zeroValue55
  t46 := Tryz.underlying198
  a46 := Tryz.isAgg198
  z46 := Tryz.sizeOf198
  v46 := Tryz.zeroValue198
  t51 := Tryz.underlying259
  a51 := Tryz.isAgg259
  z51 := Tryz.sizeOf259
  v51 := Tryz.zeroValue259
  t105 := Tryz.underlying319
  a105 := Tryz.isAgg319
  z105 := Tryz.sizeOf319
  v105 := Tryz.zeroValue319
  t119 := Tryz.underlying323
  a119 := Tryz.isAgg323
  z119 := Tryz.sizeOf323
  t138 := Tryz.underlying325
  a138 := Tryz.isAgg325
  z138 := Tryz.sizeOf325
  v138 := Tryz.zeroValue325
  t139 := Tryz.underlying326
  a139 := Tryz.isAgg326
  z139 := Tryz.sizeOf326
  v139 := Tryz.zeroValue326
  t146 := Tryz.underlying291
  a146 := Tryz.isAgg291
  z146 := Tryz.sizeOf291
  v146 := Tryz.zeroValue291
  g1 := by kernel_rfl
  g3 := by kernel_rfl
  g4 := by kernel_rfl }
def Tryz.lays212_ren : Go.Shelf.Ren := ⟨fun | 212 => 208 | 263 => 242 | 264 => 243 | n => n, fun | 46 => 198 | 51 => 259 | 146 => 291 | 53 => 197 | 148 => 293 | n => n, fun | n => n⟩
theorem Tryz.lays212 : Go.Proofs.Lays.n212 Tryz.prog Tryz.lays212_ren := {
  mixed := by kernel_rfl
  f212 := Tryz.func208.trans (congrArg some (by kernel_rfl))
  f263 := Tryz.func242.trans (congrArg some (by kernel_rfl))
  f264 := Tryz.func243.trans (congrArg some (by kernel_rfl))
  t46 := Tryz.underlying198
  a46 := Tryz.isAgg198
  z46 := Tryz.sizeOf198
  v46 := Tryz.zeroValue198
  t51 := Tryz.underlying259
  a51 := Tryz.isAgg259
  z51 := Tryz.sizeOf259
  v51 := Tryz.zeroValue259
  t53 := Tryz.underlying197
  a53 := Tryz.isAgg197
  z53 := Tryz.sizeOf197
  v53 := Tryz.zeroValue197
  t146 := Tryz.underlying291
  a146 := Tryz.isAgg291
  z146 := Tryz.sizeOf291
  v146 := Tryz.zeroValue291
  t148 := Tryz.underlying293
  a148 := Tryz.isAgg293
  z148 := Tryz.sizeOf293
  v148 := Tryz.zeroValue293 }
def Tryz.lays7_29_ren : Go.Shelf.Ren := ⟨fun | 29 => 179 | n => n, fun | 22 => 197 | 3 => 3 | 4 => 4 | 25 => 198 | 54 => 268 | 0 => 0 | 5 => 5 | n => n, fun | 1 => 0 | n => n⟩
theorem Tryz.lays7_29 : Go.Proofs.Lays7.n29 Tryz.prog Tryz.lays7_29_ren := {
  mixed := by kernel_rfl
  f29 := Tryz.func179.trans (congrArg some (by kernel_rfl))
  t0 := Tryz.underlying0
  a0 := Tryz.isAgg0
  z0 := Tryz.sizeOf0
  v0 := Tryz.zeroValue0
  i0 := by kernel_rfl
  t3 := Tryz.underlying3
  a3 := Tryz.isAgg3
  z3 := Tryz.sizeOf3
  v3 := Tryz.zeroValue3
  i3 := by kernel_rfl
  t4 := Tryz.underlying4
  a4 := Tryz.isAgg4
  z4 := Tryz.sizeOf4
  v4 := Tryz.zeroValue4
  i4 := by kernel_rfl
  t5 := Tryz.underlying5
  a5 := Tryz.isAgg5
  z5 := Tryz.sizeOf5
  v5 := Tryz.zeroValue5
  i5 := by kernel_rfl
  t22 := Tryz.underlying197
  a22 := Tryz.isAgg197
  z22 := Tryz.sizeOf197
  v22 := Tryz.zeroValue197
  i22 := by kernel_rfl
  t25 := Tryz.underlying198
  a25 := Tryz.isAgg198
  z25 := Tryz.sizeOf198
  v25 := Tryz.zeroValue198
  i25 := by kernel_rfl
  t54 := Tryz.underlying268
  a54 := Tryz.isAgg268
  z54 := Tryz.sizeOf268
  g1 := by kernel_rfl }
def Tryz.sortL137_ren : Go.Shelf.Ren := ⟨fun | 6 => 175 | 15 => 165 | 14 => 211 | 28 => 202 | 29 => 203 | 20 => 244 | 21 => 245 | 22 => 246 | 23 => 247 | 24 => 248 | 25 => 249 | 26 => 250 | 27 => 251 | 46 => 264 | 47 => 228 | 48 => 229 | 49 => 265 | 50 => 266 | 57 => 270 | n => n, fun | 22 => 176 | 24 => 179 | 25 => 233 | 3 => 3 | 39 => 198 | 0 => 0 | 53 => 259 | 55 => 197 | 4 => 4 | 46 => 253 | 45 => 252 | 50 => 38 | 5 => 5 | 9 => 9 | 66 => 279 | 70 => 283 | 76 => 303 | 77 => 304 | n => n, fun | n => n⟩
theorem Tryz.sortL137 : Go.Proofs.SlLaysF0.n6 Tryz.prog Tryz.sortL137_ren := {
  mixed := by kernel_rfl
  f6 := ⟨Tryz.f175.name, by decide, Tryz.func175.trans (congrArg some (by kernel_rfl))⟩
  f14 := ⟨Tryz.f211.name, by decide, Tryz.func211.trans (congrArg some (by kernel_rfl))⟩
  f15 := Tryz.func165.trans (congrArg some (by kernel_rfl))
  f20 := ⟨Tryz.f244.name, by decide, Tryz.func244.trans (congrArg some (by kernel_rfl))⟩
  f21 := ⟨Tryz.f245.name, by decide, Tryz.func245.trans (congrArg some (by kernel_rfl))⟩
  f22 := ⟨Tryz.f246.name, by decide, Tryz.func246.trans (congrArg some (by kernel_rfl))⟩
  f23 := ⟨Tryz.f247.name, by decide, Tryz.func247.trans (congrArg some (by kernel_rfl))⟩
  f24 := ⟨Tryz.f248.name, by decide, Tryz.func248.trans (congrArg some (by kernel_rfl))⟩
  f25 := ⟨Tryz.f249.name, by decide, Tryz.func249.trans (congrArg some (by kernel_rfl))⟩
  f26 := ⟨Tryz.f250.name, by decide, Tryz.func250.trans (congrArg some (by kernel_rfl))⟩
  f27 := ⟨Tryz.f251.name, by decide, Tryz.func251.trans (congrArg some (by kernel_rfl))⟩
  f28 := Tryz.func202.trans (congrArg some (by kernel_rfl))
  f29 := Tryz.func203.trans (congrArg some (by kernel_rfl))
  f46 := ⟨Tryz.f264.name, by decide, Tryz.func264.trans (congrArg some (by kernel_rfl))⟩
  f47 := Tryz.func228.trans (congrArg some (by kernel_rfl))
  f48 := Tryz.func229.trans (congrArg some (by kernel_rfl))
  f49 := ⟨Tryz.f265.name, by decide, Tryz.func265.trans (congrArg some (by kernel_rfl))⟩
  f50 := ⟨Tryz.f266.name, by decide, Tryz.func266.trans (congrArg some (by kernel_rfl))⟩
  f57 := ⟨Tryz.f270.name, by decide, Tryz.func270.trans (congrArg some (by kernel_rfl))⟩
  t0 := Tryz.underlying0
  a0 := Tryz.isAgg0
  z0 := Tryz.sizeOf0
  v0 := Tryz.zeroValue0
  t3 := Tryz.underlying3
  a3 := Tryz.isAgg3
  z3 := Tryz.sizeOf3
  v3 := Tryz.zeroValue3
  t4 := Tryz.underlying4
  a4 := Tryz.isAgg4
  z4 := Tryz.sizeOf4
  v4 := Tryz.zeroValue4
  t5 := Tryz.underlying5
  a5 := Tryz.isAgg5
  z5 := Tryz.sizeOf5
  v5 := Tryz.zeroValue5
  t9 := Tryz.underlying9
  a9 := Tryz.isAgg9
  z9 := Tryz.sizeOf9
  v9 := Tryz.zeroValue9
  t22 := Tryz.underlying176
  a22 := Tryz.isAgg176
  z22 := Tryz.sizeOf176
  v22 := Tryz.zeroValue176
  t25 := Tryz.underlying233
  a25 := Tryz.isAgg233
  z25 := Tryz.sizeOf233
  v25 := Tryz.zeroValue233
  t39 := Tryz.underlying198
  a39 := Tryz.isAgg198
  z39 := Tryz.sizeOf198
  v39 := Tryz.zeroValue198
  t45 := Tryz.underlying252
  a45 := Tryz.isAgg252
  z45 := Tryz.sizeOf252
  v45 := Tryz.zeroValue252
  t46 := Tryz.underlying253
  a46 := Tryz.isAgg253
  z46 := Tryz.sizeOf253
  v46 := Tryz.zeroValue253
  t50 := Tryz.underlying38
  a50 := Tryz.isAgg38
  z50 := Tryz.sizeOf38
  v50 := Tryz.zeroValue38
  t53 := Tryz.underlying259
  a53 := Tryz.isAgg259
  z53 := Tryz.sizeOf259
  v53 := Tryz.zeroValue259
  t55 := Tryz.underlying197
  a55 := Tryz.isAgg197
  z55 := Tryz.sizeOf197
  v55 := Tryz.zeroValue197
  t66 := Tryz.underlying279
  a66 := Tryz.isAgg279
  z66 := Tryz.sizeOf279
  v66 := Tryz.zeroValue279
  t70 := Tryz.underlying283
  a70 := Tryz.isAgg283
  z70 := Tryz.sizeOf283
  v70 := Tryz.zeroValue283
  t76 := Tryz.underlying303
  a76 := Tryz.isAgg303
  z76 := Tryz.sizeOf303
  v76 := Tryz.zeroValue303
  t77 := Tryz.underlying304
  a77 := Tryz.isAgg304
  z77 := Tryz.sizeOf304
  v77 := Tryz.zeroValue304 }
def Tryz.sortL72_ren : Go.Shelf.Ren := ⟨fun | 6 => 114 | 15 => 165 | 14 => 164 | 28 => 202 | 29 => 203 | 20 => 194 | 21 => 195 | 22 => 196 | 23 => 197 | 24 => 198 | 25 => 199 | 26 => 200 | 27 => 201 | 46 => 227 | 47 => 228 | 48 => 229 | 49 => 230 | 50 => 231 | 57 => 257 | n => n, fun | 22 => 23 | 24 => 81 | 25 => 164 | 3 => 3 | 39 => 198 | 0 => 0 | 53 => 259 | 55 => 197 | 4 => 4 | 46 => 253 | 45 => 252 | 50 => 38 | 5 => 5 | 9 => 9 | 66 => 279 | 70 => 283 | 76 => 303 | 77 => 304 | n => n, fun | n => n⟩
theorem Tryz.sortL72 : Go.Proofs.SlLaysF0.n6 Tryz.prog Tryz.sortL72_ren := {
  mixed := by kernel_rfl
  f6 := ⟨Tryz.f114.name, by decide, Tryz.func114.trans (congrArg some (by kernel_rfl))⟩
  f14 := ⟨Tryz.f164.name, by decide, Tryz.func164.trans (congrArg some (by kernel_rfl))⟩
  f15 := Tryz.func165.trans (congrArg some (by kernel_rfl))
  f20 := ⟨Tryz.f194.name, by decide, Tryz.func194.trans (congrArg some (by kernel_rfl))⟩
  f21 := ⟨Tryz.f195.name, by decide, Tryz.func195.trans (congrArg some (by kernel_rfl))⟩
  f22 := ⟨Tryz.f196.name, by decide, Tryz.func196.trans (congrArg some (by kernel_rfl))⟩
  f23 := ⟨Tryz.f197.name, by decide, Tryz.func197.trans (congrArg some (by kernel_rfl))⟩
  f24 := ⟨Tryz.f198.name, by decide, Tryz.func198.trans (congrArg some (by kernel_rfl))⟩
  f25 := ⟨Tryz.f199.name, by decide, Tryz.func199.trans (congrArg some (by kernel_rfl))⟩
  f26 := ⟨Tryz.f200.name, by decide, Tryz.func200.trans (congrArg some (by kernel_rfl))⟩
  f27 := ⟨Tryz.f201.name, by decide, Tryz.func201.trans (congrArg some (by kernel_rfl))⟩
  f28 := Tryz.func202.trans (congrArg some (by kernel_rfl))
  f29 := Tryz.func203.trans (congrArg some (by kernel_rfl))
  f46 := ⟨Tryz.f227.name, by decide, Tryz.func227.trans (congrArg some (by kernel_rfl))⟩
  f47 := Tryz.func228.trans (congrArg some (by kernel_rfl))
  f48 := Tryz.func229.trans (congrArg some (by kernel_rfl))
  f49 := ⟨Tryz.f230.name, by decide, Tryz.func230.trans (congrArg some (by kernel_rfl))⟩
  f50 := ⟨Tryz.f231.name, by decide, Tryz.func231.trans (congrArg some (by kernel_rfl))⟩
  f57 := ⟨Tryz.f257.name, by decide, Tryz.func257.trans (congrArg some (by kernel_rfl))⟩
  t0 := Tryz.underlying0
  a0 := Tryz.isAgg0
  z0 := Tryz.sizeOf0
  v0 := Tryz.zeroValue0
  t3 := Tryz.underlying3
  a3 := Tryz.isAgg3
  z3 := Tryz.sizeOf3
  v3 := Tryz.zeroValue3
  t4 := Tryz.underlying4
  a4 := Tryz.isAgg4
  z4 := Tryz.sizeOf4
  v4 := Tryz.zeroValue4
  t5 := Tryz.underlying5
  a5 := Tryz.isAgg5
  z5 := Tryz.sizeOf5
  v5 := Tryz.zeroValue5
  t9 := Tryz.underlying9
  a9 := Tryz.isAgg9
  z9 := Tryz.sizeOf9
  v9 := Tryz.zeroValue9
  t22 := Tryz.underlying23
  a22 := Tryz.isAgg23
  z22 := Tryz.sizeOf23
  v22 := Tryz.zeroValue23
  t25 := Tryz.underlying164
  a25 := Tryz.isAgg164
  z25 := Tryz.sizeOf164
  v25 := Tryz.zeroValue164
  t39 := Tryz.underlying198
  a39 := Tryz.isAgg198
  z39 := Tryz.sizeOf198
  v39 := Tryz.zeroValue198
  t45 := Tryz.underlying252
  a45 := Tryz.isAgg252
  z45 := Tryz.sizeOf252
  v45 := Tryz.zeroValue252
  t46 := Tryz.underlying253
  a46 := Tryz.isAgg253
  z46 := Tryz.sizeOf253
  v46 := Tryz.zeroValue253
  t50 := Tryz.underlying38
  a50 := Tryz.isAgg38
  z50 := Tryz.sizeOf38
  v50 := Tryz.zeroValue38
  t53 := Tryz.underlying259
  a53 := Tryz.isAgg259
  z53 := Tryz.sizeOf259
  v53 := Tryz.zeroValue259
  t55 := Tryz.underlying197
  a55 := Tryz.isAgg197
  z55 := Tryz.sizeOf197
  v55 := Tryz.zeroValue197
  t66 := Tryz.underlying279
  a66 := Tryz.isAgg279
  z66 := Tryz.sizeOf279
  v66 := Tryz.zeroValue279
  t70 := Tryz.underlying283
  a70 := Tryz.isAgg283
  z70 := Tryz.sizeOf283
  v70 := Tryz.zeroValue283
  t76 := Tryz.underlying303
  a76 := Tryz.isAgg303
  z76 := Tryz.sizeOf303
  v76 := Tryz.zeroValue303
  t77 := Tryz.underlying304
  a77 := Tryz.isAgg304
  z77 := Tryz.sizeOf304
  v77 := Tryz.zeroValue304 }
def Tryz.sortL152_ren : Go.Shelf.Ren := ⟨fun | 6 => 152 | 15 => 165 | 14 => 184 | 28 => 202 | 29 => 203 | 20 => 215 | 21 => 216 | 22 => 217 | 23 => 218 | 24 => 219 | 25 => 220 | 26 => 221 | 27 => 222 | 46 => 252 | 47 => 228 | 48 => 229 | 49 => 253 | 50 => 254 | 57 => 267 | n => n, fun | 22 => 49 | 24 => 3 | 25 => 135 | 3 => 3 | 39 => 198 | 0 => 0 | 53 => 259 | 55 => 197 | 4 => 4 | 46 => 253 | 45 => 252 | 50 => 38 | 5 => 5 | 9 => 9 | 66 => 279 | 70 => 283 | 76 => 303 | 77 => 304 | n => n, fun | n => n⟩
theorem Tryz.sortL152 : Go.Proofs.SlLaysF.n6 Tryz.prog Tryz.sortL152_ren := {
  mixed := by kernel_rfl
  f6 := ⟨Tryz.f152.name, by decide, Tryz.func152.trans (congrArg some (by kernel_rfl))⟩
  f14 := ⟨Tryz.f184.name, by decide, Tryz.func184.trans (congrArg some (by kernel_rfl))⟩
  f15 := Tryz.func165.trans (congrArg some (by kernel_rfl))
  f20 := ⟨Tryz.f215.name, by decide, Tryz.func215.trans (congrArg some (by kernel_rfl))⟩
  f21 := ⟨Tryz.f216.name, by decide, Tryz.func216.trans (congrArg some (by kernel_rfl))⟩
  f22 := ⟨Tryz.f217.name, by decide, Tryz.func217.trans (congrArg some (by kernel_rfl))⟩
  f23 := ⟨Tryz.f218.name, by decide, Tryz.func218.trans (congrArg some (by kernel_rfl))⟩
  f24 := ⟨Tryz.f219.name, by decide, Tryz.func219.trans (congrArg some (by kernel_rfl))⟩
  f25 := ⟨Tryz.f220.name, by decide, Tryz.func220.trans (congrArg some (by kernel_rfl))⟩
  f26 := ⟨Tryz.f221.name, by decide, Tryz.func221.trans (congrArg some (by kernel_rfl))⟩
  f27 := ⟨Tryz.f222.name, by decide, Tryz.func222.trans (congrArg some (by kernel_rfl))⟩
  f28 := Tryz.func202.trans (congrArg some (by kernel_rfl))
  f29 := Tryz.func203.trans (congrArg some (by kernel_rfl))
  f46 := ⟨Tryz.f252.name, by decide, Tryz.func252.trans (congrArg some (by kernel_rfl))⟩
  f47 := Tryz.func228.trans (congrArg some (by kernel_rfl))
  f48 := Tryz.func229.trans (congrArg some (by kernel_rfl))
  f49 := ⟨Tryz.f253.name, by decide, Tryz.func253.trans (congrArg some (by kernel_rfl))⟩
  f50 := ⟨Tryz.f254.name, by decide, Tryz.func254.trans (congrArg some (by kernel_rfl))⟩
  f57 := ⟨Tryz.f267.name, by decide, Tryz.func267.trans (congrArg some (by kernel_rfl))⟩
  t0 := Tryz.underlying0
  a0 := Tryz.isAgg0
  z0 := Tryz.sizeOf0
  v0 := Tryz.zeroValue0
  t3 := Tryz.underlying3
  a3 := Tryz.isAgg3
  z3 := Tryz.sizeOf3
  v3 := Tryz.zeroValue3
  t4 := Tryz.underlying4
  a4 := Tryz.isAgg4
  z4 := Tryz.sizeOf4
  v4 := Tryz.zeroValue4
  t5 := Tryz.underlying5
  a5 := Tryz.isAgg5
  z5 := Tryz.sizeOf5
  v5 := Tryz.zeroValue5
  t9 := Tryz.underlying9
  a9 := Tryz.isAgg9
  z9 := Tryz.sizeOf9
  v9 := Tryz.zeroValue9
  t22 := Tryz.underlying49
  a22 := Tryz.isAgg49
  z22 := Tryz.sizeOf49
  v22 := Tryz.zeroValue49
  a24 := Tryz.isAgg3
  z24 := Tryz.sizeOf3
  t25 := Tryz.underlying135
  a25 := Tryz.isAgg135
  z25 := Tryz.sizeOf135
  v25 := Tryz.zeroValue135
  t39 := Tryz.underlying198
  a39 := Tryz.isAgg198
  z39 := Tryz.sizeOf198
  v39 := Tryz.zeroValue198
  t45 := Tryz.underlying252
  a45 := Tryz.isAgg252
  z45 := Tryz.sizeOf252
  v45 := Tryz.zeroValue252
  t46 := Tryz.underlying253
  a46 := Tryz.isAgg253
  z46 := Tryz.sizeOf253
  v46 := Tryz.zeroValue253
  t50 := Tryz.underlying38
  a50 := Tryz.isAgg38
  z50 := Tryz.sizeOf38
  v50 := Tryz.zeroValue38
  t53 := Tryz.underlying259
  a53 := Tryz.isAgg259
  z53 := Tryz.sizeOf259
  v53 := Tryz.zeroValue259
  t55 := Tryz.underlying197
  a55 := Tryz.isAgg197
  z55 := Tryz.sizeOf197
  v55 := Tryz.zeroValue197
  t66 := Tryz.underlying279
  a66 := Tryz.isAgg279
  z66 := Tryz.sizeOf279
  v66 := Tryz.zeroValue279
  t70 := Tryz.underlying283
  a70 := Tryz.isAgg283
  z70 := Tryz.sizeOf283
  v70 := Tryz.zeroValue283
  t76 := Tryz.underlying303
  a76 := Tryz.isAgg303
  z76 := Tryz.sizeOf303
  v76 := Tryz.zeroValue303
  t77 := Tryz.underlying304
  a77 := Tryz.isAgg304
  z77 := Tryz.sizeOf304
  v77 := Tryz.zeroValue304 }
end Go.Proofs
end

section
/- Contracts of the library taken from the kit's shelf. -/
namespace Go.VC
open Go.Proofs Go.LexS Go.Shelf
structure Gx (h : Heap) : Prop where
 m : ∃ m : Int, hc h ⟨1, 0, none⟩ = some (.int .i64 m)
 t : ∀ j, j < Lib.deBruijn64tab.length -> hc h ⟨0, j, none⟩ = some (.int .u8 (Lib.deBruijn64tab.getD j 0))
theorem Gx.ext {h h' : Heap} (hx : Gx h) (E : Ext h h') : Gx h' := by
 obtain ⟨m, hm⟩ := hx.m
 exact ⟨⟨m, hc_ext E hm⟩, fun j hj => hc_ext E (hx.t j hj)⟩
theorem mul106 (x y : Nat) (hx : x < 18446744073709551616) (hy : y < 18446744073709551616) (h : Heap) : Fn Pz 208 #[.int .u64 x, .int .u64 y] h fun v h' => v = .tuple ⟨[.int .u64 ((x * y / 18446744073709551616 : Nat) : Int), .int .u64 ((x * y % 18446744073709551616 : Nat) : Int)]⟩ /\ h' = h :=
 Fn.of_same fun w => Any.bits_Mul Tryz.lays212 x y hx hy w
def pieces (l : Nm) : List Nm := Go.Lib.split l [46]
theorem split255 (l : Nm) (h : Heap) (hx : Gx h) (hl : l.length <= 50) : Fn Pz 260 #[.string (bs l), .string (bs [46])] h fun v h' => Ext h h' /\ ∃ s : Sl, v = .slice s.a s.n s.c /\ RL h' 1 s nmC (pieces l) := by
 intro w hw
 subst hw
 obtain ⟨m, hm⟩ := hx.m
 have hle := Lib.countB_le (bs [46]) (by decide) (bs l).size (bs l) (Yyt _)
 have hlen := Lib.splitB_all (bs [46]) (by decide) 0 _ (bs l) rfl
 have hdat := Lib.splitB_data (bs [46]) 0 (Lib.countB (bs l) (bs [46])) (bs l)
 have hp : pieces l = (Lib.splitB (bs [46]) 0 (Lib.countB (bs l) (bs [46])) (bs l)).map (·.data.toList) := hdat.symm
 have hcells : (Lib.splitB (bs [46]) 0 (Lib.countB (bs l) (bs [46])) (bs l)).map Value.string = (pieces l).map fun x => Value.string (bs x) := by
  rw [hp, List.map_map]; rfl
 have hpl : (pieces l).length = Lib.countB (bs l) (bs [46]) + 1 := by rw [hp, Yc, hlen]
 rw [bs_size] at hle
 refine (Any.strings_Split Tryz.lays146 (by kernel_rfl) (bs l) (bs [46]) m w (by rw [bs_size]; omega) hm (by decide)).mono ?_
 rintro e w' ⟨rfl, rfl⟩
 rw [hcells]
 have ho : Own (w.alloc (.cells ((pieces l).map fun x => Value.string (bs x)).toArray (Tryz.lays146_ren.t 9))).heap w.heap.size ((pieces l).map fun x => Value.string (bs x)) (Tryz.lays146_ren.t 9) := Own.push
 refine ⟨_, rfl, ⟨Ext.push _ _, ⟨some ⟨w.heap.size, 0, none⟩, Lib.countB (bs l) (bs [46]) + 1, Lib.countB (bs l) (bs [46]) + 1⟩, rfl, ⟨⟨by rw [Yc, hpl], fun _ => ⟨w.heap.size, 0, rfl, fun i row hi => ?_⟩⟩, Yyt _, (fun e => by cases e), by rw [hpl]; omega⟩⟩, rfl, rfl, rfl, trivial⟩
 rw [Yd] at hi
 obtain ⟨x, hx1, hx2⟩ := Yya.1 hi
 subst hx2
 refine ho.atC fun j v hj => ?_
 match j, hj with
 | 0, hj => cases hj; rw [show 0 + i * 1 + 0 = i by omega, Yd, hx1]; rfl
theorem swoE : Go.Sort.SWO (ltOf cmpE) where
 irrefl x := by unfold ltOf; rw [decide_eq_false_iff_not, cmpE_neg]; exact evLt_irr x
 trans x y z h1 h2 := by unfold ltOf at *; rw [decide_eq_true_eq, cmpE_neg] at *; exact evLt_trans h1 h2
 ntrans x y z h1 h2 := by
  unfold ltOf at *
  rw [decide_eq_false_iff_not, cmpE_neg] at *
  obtain ⟨a, b, c⟩ := x
  obtain ⟨a', b', c'⟩ := y
  obtain ⟨a'', b'', c''⟩ := z
  unfold evLt at *
  cases a <;> cases a' <;> cases a'' <;> simp at * <;> omega
theorem swoM : Go.Sort.SWO (ltOf cmpM) where
 irrefl x := by unfold ltOf; rw [decide_eq_false_iff_not, cmpM_neg]; exact mvLt_irr x
 trans x y z h1 h2 := by unfold ltOf at *; rw [decide_eq_true_eq, cmpM_neg] at *; exact mvLt_trans h1 h2
 ntrans x y z h1 h2 := by
  unfold ltOf at *
  rw [decide_eq_false_iff_not, cmpM_neg] at *
  obtain ⟨f, a, b, c, t, g⟩ := x
  obtain ⟨f', a', b', c', t', g'⟩ := y
  obtain ⟨f'', a'', b'', c'', t'', g''⟩ := z
  unfold mvLt evLt Mv.ev at *
  cases a <;> cases a' <;> cases a'' <;> simp at * <;> omega
instance : Inhabited Ev := ⟨⟨false, 0, 0⟩⟩
instance : Inhabited Mv := ⟨⟨0, false, 0, 0, 0, false⟩⟩
theorem sort137 {h0 h : Heap} {L : List It} (hs : St h0 h L) (k : Nat) {s : Sl} {l : List Ev} (hk : L[k]? = some (.sl s 179 3 (l.map Ev.cs))) (hm : l.length <= 1048576) :
  Fn Pz 175 #[.slice s.a s.n s.c, .func (.func 176) #[] #[]] h fun v h' => v = .tuple ⟨[]⟩ /\ ∃ l' : List Ev, l'.Perm l /\ l'.Pairwise (fun a b => ¬ evLt b a) /\ St h0 h' (L.set k (.sl s 179 3 (l'.map Ev.cs))) := by
 refine Fn.mono (sort_own Tryz.sortL137 3 179 Tryz.isAgg179 Tryz.sizeOf179 Ev.cs (fun _ => rfl) (fun x v hv => by simp [Ev.cs] at hv; rcases hv with rfl | rfl | rfl <;> rfl) cmpE swoE 176 (enters_of Tryz.func176 (by kernel_rfl) rfl) (fun x y h => @M.compare138 monoDrawn x y h) hs k hk (by omega) (by omega)) ?_
 rintro v h' ⟨rfl, l', hp, hw, hs'⟩
 exact ⟨rfl, l', hp, hw.imp fun {a b} hab => by unfold ltOf at hab; rw [decide_eq_false_iff_not, cmpE_neg] at hab; exact hab, hs'⟩
theorem sort72 {h0 h : Heap} {L : List It} (hs : St h0 h L) (k : Nat) {s : Sl} {l : List Mv} (hk : L[k]? = some (.sl s 81 6 (l.map Mv.cs))) (hm : l.length <= 1048576) :
  Fn Pz 114 #[.slice s.a s.n s.c, .func (.func 115) #[] #[]] h fun v h' => v = .tuple ⟨[]⟩ /\ ∃ l' : List Mv, l'.Perm l /\ l'.Pairwise (fun a b => ¬ mvLt b a) /\ St h0 h' (L.set k (.sl s 81 6 (l'.map Mv.cs))) := by
 refine Fn.mono (sort_own Tryz.sortL72 6 81 Tryz.isAgg81 Tryz.sizeOf81 Mv.cs (fun _ => rfl) (fun x v hv => by simp [Mv.cs] at hv; rcases hv with rfl | rfl | rfl | rfl | rfl | rfl <;> rfl) cmpM swoM 115 (enters_of Tryz.func115 (by kernel_rfl) rfl) (fun x y h => @M.order73 monoDrawn x y h) hs k hk (by omega) (by omega)) ?_
 rintro v h' ⟨rfl, l', hp, hw, hs'⟩
 exact ⟨rfl, l', hp, hw.imp fun {a b} hab => by unfold ltOf at hab; rw [decide_eq_false_iff_not, cmpM_neg] at hab; exact hab, hs'⟩
end Go.VC
end
