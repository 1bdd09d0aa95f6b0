/- SxShelf SxSh SxStA SxG0 SxStB SxLi0 SxLi SxStub SxB SxC SxD SxE SxF SxG SxH SxI SxJ SxK SxL SxM SxN SxO SxP SxQ SxR SxS SxT1 SxStubB SxT SxU SxV0 SxV SxW0 SxW SxX SxY SxZ SxRp SxMa SxMb SxMc SxMd SxMe SxNa SxNb SxNc SxNd SxNe SxRa SxRb SxRc SxRd. -/
import Derived.Shelf.Strings.Split
import Derived.Shelf.Bits.Mul64
import Derived.Shelf.Spec.TrailingZeros
import Derived.Shelf.SlLaysF0
import Derived.Ground.NamesProg
import Derived.Ground.Names7Prog
import Derived.Ground.SlsfProg
import Derived.Test.YtajglkbckhgboaaGreatDoorIM04
import Derived.Lib.TrailingZeros
import Derived.Maps.AppendAt
import Derived.DeepKeys4
set_option linter.all false
set_option maxRecDepth 100000
set_option maxHeartbeats 8000000

section
namespace Go.Proofs
open Go.Shelf
def Tryz.ic:Go.Shelf.Ren:=⟨fun | 146=>298 | 221=>309 | 268=>311 | 138=>312 | 143=>313 | 195=>314 | 197=>315 | 218=>316 | 219=>317 | 260=>318 | 217=>319 | 225=>320 | 224=>321 | 267=>322 | 266=>323 | 314=>324 | n=>n,fun | 9=>9 | 31=>22 | 3=>3 | 4=>4 | 0=>0 | 105=>419 | 21=>21 | 5=>5 | 46=>204 | 119=>423 | 139=>426 | 138=>425 | 146=>338 | 51=>324 | n=>n,fun | 1=>1 | 3=>2 | 4=>3 | n=>n⟩
theorem Tryz.Ij:Go.Proofs.Lays.n146 Tryz.prog Tryz.ic:={
 mixed:=by kernel_rfl
 f138:=Tryz.func312.trans (congrArg some (by kernel_rfl))
 f143:=Tryz.func313.trans (congrArg some (by kernel_rfl))
 f146:=Tryz.func298.trans (congrArg some (by kernel_rfl))
 f195:=Tryz.func314.trans (congrArg some (by kernel_rfl))
 f197:=Tryz.func315.trans (congrArg some (by kernel_rfl))
 f217:=Tryz.func319.trans (congrArg some (by kernel_rfl))
 f218:=Tryz.func316.trans (congrArg some (by kernel_rfl))
 f219:=Tryz.func317.trans (congrArg some (by kernel_rfl))
 f221:=Tryz.func309.trans (congrArg some (by kernel_rfl))
 f224:=Tryz.func321.trans (congrArg some (by kernel_rfl))
 f225:=Tryz.func320.trans (congrArg some (by kernel_rfl))
 f260:=Tryz.func318.trans (congrArg some (by kernel_rfl))
 f266:=Tryz.func323.trans (congrArg some (by kernel_rfl))
 f267:=Tryz.func322.trans (congrArg some (by kernel_rfl))
 f268:=Tryz.func311.trans (congrArg some (by kernel_rfl))
 f314:=Tryz.func324.trans (congrArg some (by kernel_rfl))
 t0:=Tryz.underlying0
 a0:=Tryz.isAgg0
 z0:=Tryz.sizeOf0
 v0:=Tryz.zeroValue0
 t3:=Tryz.underlying3
 a3:=Tryz.isAgg3
 z3:=Tryz.sizeOf3
 v3:=Tryz.zeroValue3
 t4:=Tryz.underlying4
 a4:=Tryz.isAgg4
 z4:=Tryz.sizeOf4
 v4:=Tryz.zeroValue4
 t5:=Tryz.underlying5
 a5:=Tryz.isAgg5
 z5:=Tryz.sizeOf5
 v5:=Tryz.zeroValue5
 t9:=Tryz.underlying9
 a9:=Tryz.isAgg9
 z9:=Tryz.sizeOf9
 v9:=Tryz.zeroValue9
 t21:=Tryz.underlying21
 a21:=Tryz.isAgg21
 z21:=Tryz.sizeOf21
 v21:=Tryz.zeroValue21
 t31:=Tryz.underlying22
 a31:=Tryz.isAgg22
 z31:=Tryz.sizeOf22
 v31:=Tryz.zeroValue22
 t46:=Tryz.underlying204
 a46:=Tryz.isAgg204
 z46:=Tryz.sizeOf204
 v46:=Tryz.zeroValue204
 t51:=Tryz.underlying324
 a51:=Tryz.isAgg324
 z51:=Tryz.sizeOf324
 v51:=Tryz.zeroValue324
 t105:=Tryz.underlying419
 a105:=Tryz.isAgg419
 z105:=Tryz.sizeOf419
 v105:=Tryz.zeroValue419
 t119:=Tryz.underlying423
 a119:=Tryz.isAgg423
 z119:=Tryz.sizeOf423
 t138:=Tryz.underlying425
 a138:=Tryz.isAgg425
 z138:=Tryz.sizeOf425
 v138:=Tryz.zeroValue425
 t139:=Tryz.underlying426
 a139:=Tryz.isAgg426
 z139:=Tryz.sizeOf426
 v139:=Tryz.zeroValue426
 t146:=Tryz.underlying338
 a146:=Tryz.isAgg338
 z146:=Tryz.sizeOf338
 v146:=Tryz.zeroValue338
 g1:=by kernel_rfl
 g3:=by kernel_rfl
 g4:=by kernel_rfl }
def Tryz.uo:Go.Shelf.Ren:=⟨fun | 212=>141 | 263=>210 | 264=>211 | n=>n,fun | 46=>204 | 51=>324 | 146=>338 | 53=>144 | 148=>340 | n=>n,fun | n=>n⟩
theorem Tryz.Ii:Go.Proofs.Lays.n212 Tryz.prog Tryz.uo:={
 mixed:=by kernel_rfl
 f212:=Tryz.func141.trans (congrArg some (by kernel_rfl))
 f263:=Tryz.func210.trans (congrArg some (by kernel_rfl))
 f264:=Tryz.func211.trans (congrArg some (by kernel_rfl))
 t46:=Tryz.underlying204
 a46:=Tryz.isAgg204
 z46:=Tryz.sizeOf204
 v46:=Tryz.zeroValue204
 t51:=Tryz.underlying324
 a51:=Tryz.isAgg324
 z51:=Tryz.sizeOf324
 v51:=Tryz.zeroValue324
 t53:=Tryz.underlying144
 a53:=Tryz.isAgg144
 z53:=Tryz.sizeOf144
 v53:=Tryz.zeroValue144
 t146:=Tryz.underlying338
 a146:=Tryz.isAgg338
 z146:=Tryz.sizeOf338
 v146:=Tryz.zeroValue338
 t148:=Tryz.underlying340
 a148:=Tryz.isAgg340
 z148:=Tryz.sizeOf340
 v148:=Tryz.zeroValue340 }
def Tryz.Ht:Go.Shelf.Ren:=⟨fun | 6=>124 | 15=>110 | 14=>200 | 28=>196 | 29=>197 | 20=>242 | 21=>243 | 22=>244 | 23=>245 | 24=>246 | 25=>247 | 26=>248 | 27=>249 | 46=>287 | 47=>234 | 48=>235 | 49=>288 | 50=>289 | 57=>305 | n=>n,fun | 22=>127 | 24=>140 | 25=>236 | 3=>3 | 39=>204 | 0=>0 | 53=>324 | 55=>144 | 4=>4 | 46=>318 | 45=>317 | 50=>296 | 5=>5 | 9=>9 | 66=>357 | 70=>361 | 76=>396 | 77=>216 | n=>n,fun | n=>n⟩
def Tryz.qS:Go.Shelf.Ren:=⟨fun | 6=>184 | 15=>110 | 14=>231 | 28=>196 | 29=>197 | 20=>277 | 21=>278 | 22=>279 | 23=>280 | 24=>281 | 25=>282 | 26=>283 | 27=>284 | 46=>302 | 47=>234 | 48=>235 | 49=>303 | 50=>304 | 57=>310 | n=>n,fun | 22=>193 | 24=>188 | 25=>312 | 3=>3 | 39=>204 | 0=>0 | 53=>324 | 55=>144 | 4=>4 | 46=>318 | 45=>317 | 50=>296 | 5=>5 | 9=>9 | 66=>357 | 70=>361 | 76=>396 | 77=>216 | n=>n,fun | n=>n⟩
theorem Tryz.CZ:Go.Proofs.SlLaysF0.n6 Tryz.prog Tryz.qS:={
 mixed:=by kernel_rfl
 f6:=⟨Tryz.f184.name,by decide,Tryz.func184.trans (congrArg some (by kernel_rfl))⟩
 f14:=⟨Tryz.f231.name,by decide,Tryz.func231.trans (congrArg some (by kernel_rfl))⟩
 f15:=Tryz.func110.trans (congrArg some (by kernel_rfl))
 f20:=⟨Tryz.f277.name,by decide,Tryz.func277.trans (congrArg some (by kernel_rfl))⟩
 f21:=⟨Tryz.f278.name,by decide,Tryz.func278.trans (congrArg some (by kernel_rfl))⟩
 f22:=⟨Tryz.f279.name,by decide,Tryz.func279.trans (congrArg some (by kernel_rfl))⟩
 f23:=⟨Tryz.f280.name,by decide,Tryz.func280.trans (congrArg some (by kernel_rfl))⟩
 f24:=⟨Tryz.f281.name,by decide,Tryz.func281.trans (congrArg some (by kernel_rfl))⟩
 f25:=⟨Tryz.f282.name,by decide,Tryz.func282.trans (congrArg some (by kernel_rfl))⟩
 f26:=⟨Tryz.f283.name,by decide,Tryz.func283.trans (congrArg some (by kernel_rfl))⟩
 f27:=⟨Tryz.f284.name,by decide,Tryz.func284.trans (congrArg some (by kernel_rfl))⟩
 f28:=Tryz.func196.trans (congrArg some (by kernel_rfl))
 f29:=Tryz.func197.trans (congrArg some (by kernel_rfl))
 f46:=⟨Tryz.f302.name,by decide,Tryz.func302.trans (congrArg some (by kernel_rfl))⟩
 f47:=Tryz.func234.trans (congrArg some (by kernel_rfl))
 f48:=Tryz.func235.trans (congrArg some (by kernel_rfl))
 f49:=⟨Tryz.f303.name,by decide,Tryz.func303.trans (congrArg some (by kernel_rfl))⟩
 f50:=⟨Tryz.f304.name,by decide,Tryz.func304.trans (congrArg some (by kernel_rfl))⟩
 f57:=⟨Tryz.f310.name,by decide,Tryz.func310.trans (congrArg some (by kernel_rfl))⟩
 t0:=Tryz.underlying0
 a0:=Tryz.isAgg0
 z0:=Tryz.sizeOf0
 v0:=Tryz.zeroValue0
 t3:=Tryz.underlying3
 a3:=Tryz.isAgg3
 z3:=Tryz.sizeOf3
 v3:=Tryz.zeroValue3
 t4:=Tryz.underlying4
 a4:=Tryz.isAgg4
 z4:=Tryz.sizeOf4
 v4:=Tryz.zeroValue4
 t5:=Tryz.underlying5
 a5:=Tryz.isAgg5
 z5:=Tryz.sizeOf5
 v5:=Tryz.zeroValue5
 t9:=Tryz.underlying9
 a9:=Tryz.isAgg9
 z9:=Tryz.sizeOf9
 v9:=Tryz.zeroValue9
 t22:=Tryz.underlying193
 a22:=Tryz.isAgg193
 z22:=Tryz.sizeOf193
 v22:=Tryz.zeroValue193
 t25:=Tryz.underlying312
 a25:=Tryz.isAgg312
 z25:=Tryz.sizeOf312
 v25:=Tryz.zeroValue312
 t39:=Tryz.underlying204
 a39:=Tryz.isAgg204
 z39:=Tryz.sizeOf204
 v39:=Tryz.zeroValue204
 t45:=Tryz.underlying317
 a45:=Tryz.isAgg317
 z45:=Tryz.sizeOf317
 v45:=Tryz.zeroValue317
 t46:=Tryz.underlying318
 a46:=Tryz.isAgg318
 z46:=Tryz.sizeOf318
 v46:=Tryz.zeroValue318
 t50:=Tryz.underlying296
 a50:=Tryz.isAgg296
 z50:=Tryz.sizeOf296
 v50:=Tryz.zeroValue296
 t53:=Tryz.underlying324
 a53:=Tryz.isAgg324
 z53:=Tryz.sizeOf324
 v53:=Tryz.zeroValue324
 t55:=Tryz.underlying144
 a55:=Tryz.isAgg144
 z55:=Tryz.sizeOf144
 v55:=Tryz.zeroValue144
 t66:=Tryz.underlying357
 a66:=Tryz.isAgg357
 z66:=Tryz.sizeOf357
 v66:=Tryz.zeroValue357
 t70:=Tryz.underlying361
 a70:=Tryz.isAgg361
 z70:=Tryz.sizeOf361
 v70:=Tryz.zeroValue361
 t76:=Tryz.underlying396
 a76:=Tryz.isAgg396
 z76:=Tryz.sizeOf396
 v76:=Tryz.zeroValue396
 t77:=Tryz.underlying216
 a77:=Tryz.isAgg216
 z77:=Tryz.sizeOf216
 v77:=Tryz.zeroValue216 }
def Tryz.qR:Go.Shelf.Ren:=⟨fun | 6=>69 | 15=>110 | 14=>134 | 28=>196 | 29=>197 | 20=>202 | 21=>203 | 22=>204 | 23=>205 | 24=>206 | 25=>207 | 26=>208 | 27=>209 | 46=>258 | 47=>234 | 48=>235 | 49=>259 | 50=>260 | 57=>293 | n=>n,fun | 22=>68 | 24=>72 | 25=>136 | 3=>3 | 39=>204 | 0=>0 | 53=>324 | 55=>144 | 4=>4 | 46=>318 | 45=>317 | 50=>296 | 5=>5 | 9=>9 | 66=>357 | 70=>361 | 76=>396 | 77=>216 | n=>n,fun | n=>n⟩
theorem Tryz.CY:Go.Proofs.SlLaysF0.n6 Tryz.prog Tryz.qR:={
 mixed:=by kernel_rfl
 f6:=⟨Tryz.f69.name,by decide,Tryz.func69.trans (congrArg some (by kernel_rfl))⟩
 f14:=⟨Tryz.f134.name,by decide,Tryz.func134.trans (congrArg some (by kernel_rfl))⟩
 f15:=Tryz.func110.trans (congrArg some (by kernel_rfl))
 f20:=⟨Tryz.f202.name,by decide,Tryz.func202.trans (congrArg some (by kernel_rfl))⟩
 f21:=⟨Tryz.f203.name,by decide,Tryz.func203.trans (congrArg some (by kernel_rfl))⟩
 f22:=⟨Tryz.f204.name,by decide,Tryz.func204.trans (congrArg some (by kernel_rfl))⟩
 f23:=⟨Tryz.f205.name,by decide,Tryz.func205.trans (congrArg some (by kernel_rfl))⟩
 f24:=⟨Tryz.f206.name,by decide,Tryz.func206.trans (congrArg some (by kernel_rfl))⟩
 f25:=⟨Tryz.f207.name,by decide,Tryz.func207.trans (congrArg some (by kernel_rfl))⟩
 f26:=⟨Tryz.f208.name,by decide,Tryz.func208.trans (congrArg some (by kernel_rfl))⟩
 f27:=⟨Tryz.f209.name,by decide,Tryz.func209.trans (congrArg some (by kernel_rfl))⟩
 f28:=Tryz.func196.trans (congrArg some (by kernel_rfl))
 f29:=Tryz.func197.trans (congrArg some (by kernel_rfl))
 f46:=⟨Tryz.f258.name,by decide,Tryz.func258.trans (congrArg some (by kernel_rfl))⟩
 f47:=Tryz.func234.trans (congrArg some (by kernel_rfl))
 f48:=Tryz.func235.trans (congrArg some (by kernel_rfl))
 f49:=⟨Tryz.f259.name,by decide,Tryz.func259.trans (congrArg some (by kernel_rfl))⟩
 f50:=⟨Tryz.f260.name,by decide,Tryz.func260.trans (congrArg some (by kernel_rfl))⟩
 f57:=⟨Tryz.f293.name,by decide,Tryz.func293.trans (congrArg some (by kernel_rfl))⟩
 t0:=Tryz.underlying0
 a0:=Tryz.isAgg0
 z0:=Tryz.sizeOf0
 v0:=Tryz.zeroValue0
 t3:=Tryz.underlying3
 a3:=Tryz.isAgg3
 z3:=Tryz.sizeOf3
 v3:=Tryz.zeroValue3
 t4:=Tryz.underlying4
 a4:=Tryz.isAgg4
 z4:=Tryz.sizeOf4
 v4:=Tryz.zeroValue4
 t5:=Tryz.underlying5
 a5:=Tryz.isAgg5
 z5:=Tryz.sizeOf5
 v5:=Tryz.zeroValue5
 t9:=Tryz.underlying9
 a9:=Tryz.isAgg9
 z9:=Tryz.sizeOf9
 v9:=Tryz.zeroValue9
 t22:=Tryz.underlying68
 a22:=Tryz.isAgg68
 z22:=Tryz.sizeOf68
 v22:=Tryz.zeroValue68
 t25:=Tryz.underlying136
 a25:=Tryz.isAgg136
 z25:=Tryz.sizeOf136
 v25:=Tryz.zeroValue136
 t39:=Tryz.underlying204
 a39:=Tryz.isAgg204
 z39:=Tryz.sizeOf204
 v39:=Tryz.zeroValue204
 t45:=Tryz.underlying317
 a45:=Tryz.isAgg317
 z45:=Tryz.sizeOf317
 v45:=Tryz.zeroValue317
 t46:=Tryz.underlying318
 a46:=Tryz.isAgg318
 z46:=Tryz.sizeOf318
 v46:=Tryz.zeroValue318
 t50:=Tryz.underlying296
 a50:=Tryz.isAgg296
 z50:=Tryz.sizeOf296
 v50:=Tryz.zeroValue296
 t53:=Tryz.underlying324
 a53:=Tryz.isAgg324
 z53:=Tryz.sizeOf324
 v53:=Tryz.zeroValue324
 t55:=Tryz.underlying144
 a55:=Tryz.isAgg144
 z55:=Tryz.sizeOf144
 v55:=Tryz.zeroValue144
 t66:=Tryz.underlying357
 a66:=Tryz.isAgg357
 z66:=Tryz.sizeOf357
 v66:=Tryz.zeroValue357
 t70:=Tryz.underlying361
 a70:=Tryz.isAgg361
 z70:=Tryz.sizeOf361
 v70:=Tryz.zeroValue361
 t76:=Tryz.underlying396
 a76:=Tryz.isAgg396
 z76:=Tryz.sizeOf396
 v76:=Tryz.zeroValue396
 t77:=Tryz.underlying216
 a77:=Tryz.isAgg216
 z77:=Tryz.sizeOf216
 v77:=Tryz.zeroValue216 }
def Tryz.qQ:Go.Shelf.Ren:=⟨fun | 6=>128 | 15=>110 | 14=>201 | 28=>196 | 29=>197 | 20=>250 | 21=>251 | 22=>252 | 23=>253 | 24=>254 | 25=>255 | 26=>256 | 27=>257 | 46=>290 | 47=>234 | 48=>235 | 49=>291 | 50=>292 | 57=>306 | n=>n,fun | 22=>24 | 24=>67 | 25=>243 | 3=>3 | 39=>204 | 0=>0 | 53=>324 | 55=>144 | 4=>4 | 46=>318 | 45=>317 | 50=>296 | 5=>5 | 9=>9 | 66=>357 | 70=>361 | 76=>396 | 77=>216 | n=>n,fun | n=>n⟩
theorem Tryz.CX:Go.Proofs.SlLaysF0.n6 Tryz.prog Tryz.qQ:={
 mixed:=by kernel_rfl
 f6:=⟨Tryz.f128.name,by decide,Tryz.func128.trans (congrArg some (by kernel_rfl))⟩
 f14:=⟨Tryz.f201.name,by decide,Tryz.func201.trans (congrArg some (by kernel_rfl))⟩
 f15:=Tryz.func110.trans (congrArg some (by kernel_rfl))
 f20:=⟨Tryz.f250.name,by decide,Tryz.func250.trans (congrArg some (by kernel_rfl))⟩
 f21:=⟨Tryz.f251.name,by decide,Tryz.func251.trans (congrArg some (by kernel_rfl))⟩
 f22:=⟨Tryz.f252.name,by decide,Tryz.func252.trans (congrArg some (by kernel_rfl))⟩
 f23:=⟨Tryz.f253.name,by decide,Tryz.func253.trans (congrArg some (by kernel_rfl))⟩
 f24:=⟨Tryz.f254.name,by decide,Tryz.func254.trans (congrArg some (by kernel_rfl))⟩
 f25:=⟨Tryz.f255.name,by decide,Tryz.func255.trans (congrArg some (by kernel_rfl))⟩
 f26:=⟨Tryz.f256.name,by decide,Tryz.func256.trans (congrArg some (by kernel_rfl))⟩
 f27:=⟨Tryz.f257.name,by decide,Tryz.func257.trans (congrArg some (by kernel_rfl))⟩
 f28:=Tryz.func196.trans (congrArg some (by kernel_rfl))
 f29:=Tryz.func197.trans (congrArg some (by kernel_rfl))
 f46:=⟨Tryz.f290.name,by decide,Tryz.func290.trans (congrArg some (by kernel_rfl))⟩
 f47:=Tryz.func234.trans (congrArg some (by kernel_rfl))
 f48:=Tryz.func235.trans (congrArg some (by kernel_rfl))
 f49:=⟨Tryz.f291.name,by decide,Tryz.func291.trans (congrArg some (by kernel_rfl))⟩
 f50:=⟨Tryz.f292.name,by decide,Tryz.func292.trans (congrArg some (by kernel_rfl))⟩
 f57:=⟨Tryz.f306.name,by decide,Tryz.func306.trans (congrArg some (by kernel_rfl))⟩
 t0:=Tryz.underlying0
 a0:=Tryz.isAgg0
 z0:=Tryz.sizeOf0
 v0:=Tryz.zeroValue0
 t3:=Tryz.underlying3
 a3:=Tryz.isAgg3
 z3:=Tryz.sizeOf3
 v3:=Tryz.zeroValue3
 t4:=Tryz.underlying4
 a4:=Tryz.isAgg4
 z4:=Tryz.sizeOf4
 v4:=Tryz.zeroValue4
 t5:=Tryz.underlying5
 a5:=Tryz.isAgg5
 z5:=Tryz.sizeOf5
 v5:=Tryz.zeroValue5
 t9:=Tryz.underlying9
 a9:=Tryz.isAgg9
 z9:=Tryz.sizeOf9
 v9:=Tryz.zeroValue9
 t22:=Tryz.underlying24
 a22:=Tryz.isAgg24
 z22:=Tryz.sizeOf24
 v22:=Tryz.zeroValue24
 t25:=Tryz.underlying243
 a25:=Tryz.isAgg243
 z25:=Tryz.sizeOf243
 v25:=Tryz.zeroValue243
 t39:=Tryz.underlying204
 a39:=Tryz.isAgg204
 z39:=Tryz.sizeOf204
 v39:=Tryz.zeroValue204
 t45:=Tryz.underlying317
 a45:=Tryz.isAgg317
 z45:=Tryz.sizeOf317
 v45:=Tryz.zeroValue317
 t46:=Tryz.underlying318
 a46:=Tryz.isAgg318
 z46:=Tryz.sizeOf318
 v46:=Tryz.zeroValue318
 t50:=Tryz.underlying296
 a50:=Tryz.isAgg296
 z50:=Tryz.sizeOf296
 v50:=Tryz.zeroValue296
 t53:=Tryz.underlying324
 a53:=Tryz.isAgg324
 z53:=Tryz.sizeOf324
 v53:=Tryz.zeroValue324
 t55:=Tryz.underlying144
 a55:=Tryz.isAgg144
 z55:=Tryz.sizeOf144
 v55:=Tryz.zeroValue144
 t66:=Tryz.underlying357
 a66:=Tryz.isAgg357
 z66:=Tryz.sizeOf357
 v66:=Tryz.zeroValue357
 t70:=Tryz.underlying361
 a70:=Tryz.isAgg361
 z70:=Tryz.sizeOf361
 v70:=Tryz.zeroValue361
 t76:=Tryz.underlying396
 a76:=Tryz.isAgg396
 z76:=Tryz.sizeOf396
 v76:=Tryz.zeroValue396
 t77:=Tryz.underlying216
 a77:=Tryz.isAgg216
 z77:=Tryz.sizeOf216
 v77:=Tryz.zeroValue216 }
end Go.Proofs
end

section
namespace Go.VC
open Go.Proofs Go.LexS Go.Shelf
structure Gm (h:Heap):Prop where
 m:∃m:Int,hc h ⟨1,0,none⟩=some (.int .i64 m)
theorem Gm.ext{h h':Heap}(hx:Gm h)(E:Ext h h'):Gm h':=by
 obtain⟨m,hm⟩:=hx.m;exact⟨⟨m,aw E hm⟩⟩
structure Gx (h:Heap):Prop where
 m:∃m:Int,hc h ⟨1,0,none⟩=some (.int .i64 m)
 t:∀j,j<Lib.deBruijn64tab.length->hc h ⟨0,j,none⟩=some (.int .u8 (Lib.deBruijn64tab.getD j 0))
instance {h:Heap}:Coe (Gx h) (Gm h):=⟨fun hx=>⟨hx.m⟩⟩
theorem K7(x y:Nat)(hx:x<18446744073709551616)(hy:y<18446744073709551616)(h:Heap):Fn Pz 141 #[.int .u64 x,.int .u64 y] h fun v h'=>v=.tuple ⟨[.int .u64 ((x*y/18446744073709551616:Nat):Int),.int .u64 ((x*y%18446744073709551616:Nat):Int)]⟩/\h'=h:=
 Fn.of_same fun w=>Any.bits_Mul Tryz.Ii x y hx hy w
def pieces(l:Nm):List Nm:=Go.Lib.split l [46]
theorem CW(l:Nm)(h:Heap)(hx:Gm h)(hl:l.length<=50):Fn Pz 298 #[.string (bs l),.string (bs [46])] h fun v h'=>Ext h h'/\∃s:Sl,v=.slice s.a s.n s.c/\RL h' 1 s oE (pieces l):=by
 intro w hw;subst hw;obtain⟨m,hm⟩:=hx.m;have hle:=Lib.countB_le (bs [46]) (by decide) (bs l).size (bs l) (aY _);have hlen:=Lib.splitB_all (bs [46]) (by decide) 0 _ (bs l) rfl;have Zk:=Lib.splitB_data (bs [46]) 0 (Lib.countB (bs l) (bs [46])) (bs l);have hp:pieces l=(Lib.splitB (bs [46]) 0 (Lib.countB (bs l) (bs [46])) (bs l)).map (·.data.toList):=Zk.symm;have LZ:(Lib.splitB (bs [46]) 0 (Lib.countB (bs l) (bs [46])) (bs l)).map Value.string=(pieces l).map fun x=>Value.string (bs x):=by
  rw[hp,List.map_map];rfl
 have sR:(pieces l).length=Lib.countB (bs l) (bs [46])+1:=by rw[hp,Yc,hlen]
 rw[sg] at hle;refine (Any.strings_Split Tryz.Ij (by kernel_rfl) (bs l) (bs [46]) m w (by rw[sg];omega) hm (by decide)).mono ?_;rintro e w' ⟨rfl,rfl⟩;rw[LZ];have ho:Own (w.alloc (.cells ((pieces l).map fun x=>Value.string (bs x)).toArray (Tryz.ic.t 9))).heap w.heap.size ((pieces l).map fun x=>Value.string (bs x)) (Tryz.ic.t 9):=Own.push;refine⟨_,rfl,⟨Ext.push _ _,⟨some ⟨w.heap.size,0,none⟩,Lib.countB (bs l) (bs [46])+1,Lib.countB (bs l) (bs [46])+1⟩,rfl,⟨⟨by rw[Yc,sR],fun _=>⟨w.heap.size,0,rfl,fun i row hi=>?_⟩⟩,aY _,(fun e=>by cases e),by rw[sR];omega⟩⟩,rfl,rfl,rfl,trivial⟩;rw[Yd] at hi;obtain⟨x,Ln,rD⟩:=zL.1 hi;subst rD;refine ho.a8 fun j v hj=>?_
 match j,hj with
 | 0,hj=>cases hj;rw[show 0+i*1+0=i by omega,Yd,Ln];rfl
theorem Xx:Go.Sort.SWO (ltOf pI) where
 irrefl x:=by unfold ltOf;rw[decide_eq_false_iff_not,kS];exact iq x
 trans x y z h1 h2:=by unfold ltOf at *;rw[decide_eq_true_eq,kS] at *;exact eO h1 h2
 ntrans x y z h1 h2:=by
  unfold ltOf at *;rw[decide_eq_false_iff_not,kS] at *;obtain⟨a,b,c⟩:=x;obtain⟨a',b',c'⟩:=y;obtain⟨a'',b'',c''⟩:=z;unfold dJ at *;cases a<;>cases a'<;>cases a''<;>simp at *<;>omega
instance:Inhabited Ev:=⟨⟨false,0,0⟩⟩
instance:Inhabited Mv:=⟨⟨0,false,0,0,0,false⟩⟩
end Go.VC
end

section
namespace Go.VC
open Go.Proofs Go.LexS
theorem vo{l:List Ev}(h:l≠[]):aJ l≠[]:=by
 cases l with
 | nil=>exact absurd rfl h
 | cons a r=>
  intro e;have:=(ec (a::r) a).2 (by simp);rw[e] at this;cases this
theorem ju:∀(l:List Ev) (x:Ev),aJ (l++[x])=if l.getLast?=some x then aJ l else aJ l++[x]
 | [],x=>by simp[aJ]
 | a::r,x=>by
  have ih:=ju r x;cases r with
  | nil=>
   by_cases h:a=x
   .subst h;simp[aJ]
   .simp[aJ,h]
  | cons b r'=>
   have bz:=vo (l:=b::r') (by simp);have hl:(a::b::r').getLast?=(b::r').getLast?:=by simp[List.getLast?_cons_cons]
   rw[List.cons_append,aJ,ih,hl];by_cases h:(b::r').getLast?=some x
   .rw[if_pos h,if_pos h]
    conv=>rhs;rw[aJ]
   .rw[if_neg h,if_neg h]
    conv=>rhs;rw[aJ]
    cases hc:aJ (b::r') with
    | nil=>exact absurd hc bz
    | cons y t=>
     simp only[List.cons_append];split<;>rfl
theorem jt{l:List Ev}{k:Nat}{x y:Ev}(hx:l[k]?=some x)(hk:1<=k)(hy:l[k-1]?=some y):aJ (l.take (k+1))=if x=y then aJ (l.take k) else aJ (l.take k)++[x]:=by
 rw[aj hx,ju];have hl:(l.take k).getLast?=some y:=by
  have rH:=(Ya.1 hx).1;rw[List.getLast?_eq_getElem?,Yu,Nat.min_eq_left (by omega),vM,if_pos (by omega)];exact hy
 rw[hl];by_cases e:x=y
 .rw[if_pos e,if_pos (by rw[e])]
 .rw[if_neg e,if_neg (fun h=>e (by cases h;rfl))]
theorem MN(x y:Ev):((x.send==y.send)&&((x.peer==y.peer)&&((x.label==y.label)&&true)))=decide (x=y):=by
 obtain⟨a,b,c⟩:=x;obtain⟨d,e,f⟩:=y;rw[Bool.eq_iff_iff];simp
end Go.VC
end

section
namespace Go.VC
def CV(bk:Bool)(x:Ed):Int:=if bk then x.t else x.f
def Fi(bk:Bool)(x:Ed):Int:=if bk then x.f else x.t
def Wv(es:List Ed)(bk:Bool)(a b:Int):Prop:=∃x∈es,CV bk x=a/\Fi bk x=b
inductive eV (es:List Ed) (bk:Bool) (a:Int):Int->Prop where
 | refl:eV es bk a a
 | step {b c:Int}:eV es bk a b->Wv es bk b c->eV es bk a c
def kX(D:List Int)(v:Int):Prop:=0<=v/\∃d,D[v.toNat]?=some d/\0<=d
structure BF (es:List Ed) (bk:Bool) (n:Nat) (s:Int) (D T:List Int):Prop where
 len:D.length=n
 src:kX D s
 r:∀v,kX D v->eV es bk s v
 t:∀t∈T,kX D t
 c:∀v w,kX D v->v∉T->Wv es bk v w->kX D w
 b:∀d∈D,-1<=d/\d+D.count (-1)<=200
theorem iy{D:List Int}{b d v:Int}(EA:0<=b)(hb:b<D.length)(hd:0<=d):kX (D.set b.toNat d) v ↔ v=b\/kX D v:=by
 unfold kX;constructor
 .rintro⟨h0,e,he,h1⟩;by_cases YB:v=b
  .exact .inl YB
  .rw[Yy (by omega)] at he;exact .inr ⟨h0,e,he,h1⟩
 .rintro (rfl | ⟨h0,e,he,h1⟩)
  .exact⟨EA,d,by rw[Yq (by omega)],hd⟩
  .by_cases YB:v=b
   .subst YB;exact⟨EA,d,by rw[Yq (by omega)],hd⟩
   .exact⟨h0,e,by rw[Yy (by omega)];exact he,h1⟩
theorem BF.push{es:List Ed}{bk:Bool}{n:Nat}{s:Int}{D T:List Int}(h:BF es bk n s D T){a b da db:Int}(ha:kX D a)(OM:D[a.toNat]?=some da)(EA:0<=b)(hb:D[b.toNat]?=some db)(abU:db<0)(iO:Wv es bk a b):
  BF es bk n s (D.set b.toNat (da+1)) (T++[b])/\(D.set b.toNat (da+1)).count (-1)+1=D.count (-1)/\0<=da/\da+1<=200:=by
 have BD:=(Ya.1 hb).1;have II:=(Ya.1 hb).2;have LX:0<=da:=by
  obtain⟨_,e,he,h1⟩:=ha;rw[OM] at he;cases he;exact h1
 have hdb:db=-1:=by have:=(h.b db (Yb hb)).1;omega
 subst hdb;have xp:∀v,kX (D.set b.toNat (da+1)) v ↔ v=b\/kX D v:=fun v=>iy EA (by omega) (by omega);have fq:0<D.count (-1):=List.count_pos_iff.2 (Yb hb);have IE:(D.set b.toNat (da+1)).count (-1)+1=D.count (-1):=by
  rw[List.count_set BD,II];have:((da+1)==(-1:Int))=false:=by simp;omega
  rw[this];simp;omega
 have hub:=(h.b da (Yb OM)).2;refine⟨⟨by rw[mF];exact h.len,(xp s).2 (.inr h.src),fun v hv=>?_,fun t ht=>?_,fun v w hv hn VD=>?_,fun d hd=>?_⟩,IE,LX,by omega⟩
 .rcases (xp v).1 hv with rfl | hv
  .exact (h.r a ha).step iO
  .exact h.r v hv
 .rcases Yk.1 ht with ht | ht
  .exact (xp t).2 (.inr (h.t t ht))
  .rw[Ye] at ht;exact (xp t).2 (.inl ht)
 .rw[Yk,Ye,not_or] at hn;rcases (xp v).1 hv with rfl | hv
  .exact absurd rfl hn.2
  .exact (xp w).2 (.inr (h.c v w hv hn.1 VD))
 .rcases List.mem_or_eq_of_mem_set hd with hd | rfl
  .have:=h.b d hd;omega
  .omega
theorem BF.start{es:List Ed}{bk:Bool}{n:Nat}{s:Int}(h0:0<=s)(h1:s<n)(hn:n<=200):BF es bk n s ((List.replicate n (-1:Int)).set s.toNat 0) [s]:=by
 have hl:s<(List.replicate n (-1:Int)).length:=by rw[Yg];exact h1
 have hv:∀v,kX ((List.replicate n (-1:Int)).set s.toNat 0) v ↔ v=s:=fun v=>by
  rw[iy h0 hl (by omega)];refine⟨fun h=>h.elim id fun h=>?_,.inl⟩;obtain⟨_,d,hd,h2⟩:=h;have:=List.eq_of_mem_replicate (Yb hd);omega
 have hc:((List.replicate n (-1:Int)).set s.toNat 0).count (-1)<=200:=mQ List.count_le_length (by rw[mF,Yg];exact hn);refine⟨by rw[mF,Yg],(hv s).2 rfl,fun v h=>?_,fun t ht=>?_,fun v w h hn=>?_,fun d hd=>?_⟩
 .rw[(hv v).1 h];exact .refl
 .rw[Ye] at ht;exact (hv t).2 ht
 .rw[(hv v).1 h] at hn;exact absurd (Ye.2 rfl) hn
 .rcases List.mem_or_eq_of_mem_set hd with hd | rfl
  .rw[List.eq_of_mem_replicate hd];omega
  .omega
theorem BF.end_{es:List Ed}{bk:Bool}{n:Nat}{s:Int}{D:List Int}(h:BF es bk n s D [])(v:Int):kX D v ↔ eV es bk s v:=by
 refine⟨h.r v,fun hr=>?_⟩
 induction hr with
 | refl=>exact h.src
 | step _ hbc ih=>exact h.c _ _ ih (by simp) hbc
theorem BF.all{es:List Ed}{bk:Bool}{n:Nat}{s:Int}{D:List Int}(h:BF es bk n s D []):(-1:Int)∈D ↔ ¬∀v:Int,0<=v->v<n->eV es bk s v:=by
 constructor
 .intro hm ch;obtain⟨j,hj⟩:=Yf.1 hm;have hl:=(Ya.1 hj).1;obtain⟨_,d,hd,h0⟩:=(h.end_ (j:Int)).2 (ch j (by omega) (by have:=h.len;omega));rw[show ((j:Int)).toNat=j from rfl,hj] at hd;cases hd;omega
 .intro hn;apply Classical.byContradiction;intro hm;apply hn;intro v h0 hv;have hl:v.toNat<D.length:=by have:=h.len;omega
  refine (h.end_ v).1 ⟨h0,D[v.toNat],Yi hl,?_⟩;have h1:=(h.b _ (List.getElem_mem hl)).1;have h2:D[v.toNat] ≠ -1:=fun e=>hm (e ▸ List.getElem_mem hl);omega
end Go.VC
end

section
namespace Go.VC
open Go.Proofs Go.LexS
theorem JN:Pz.underlying 102=some (.slice 3):=by kernel_rfl
theorem JS:(Pz.info? 3).map (·.size)=some 1:=by kernel_rfl
theorem DV(n:Nat):ah Pz 3 n=List.replicate n (.int .i64 0):=by
 have hz:bL Pz 3=[.int .i64 0]:=by kernel_rfl
 unfold ah;rw[hz]
 induction n with
 | zero=>rfl
 | succ n ih=>rw[List.replicate_succ,ss,ih];rfl
theorem Dh{xs:List Value}{n:Nat}(hl:xs.length=n)(h:∀j,j<n->xs[j]?=some (.int .i64 (-1))):xs=((List.replicate n (-1:Int)).map a6).flatten:=by
 subst hl
 induction xs with
 | nil=>rfl
 | cons a r ih=>
  have h0:=h 0 (by simp);simp only[List.getElem?_cons_zero,Option.some.injEq] at h0;rw[mD,List.replicate_succ,kf,ss,<-ih fun j hj=>by have:=h (j+1) (by simpa using hj);simpa using this,h0];rfl
theorem JM{n:Int}(h0:0<=n)(h1:n<18446744073709551616):IntKind.wrap .u64 n=n:=by
 simp[IntKind.wrap,IntKind.signed,IntKind.bits];omega
theorem nt{xs:List Value}{o m:Nat}(hm:o+m<=xs.length)(h:∀j,j<o->xs[j]?=some (.int .i64 (-1))):(ay xs o (List.replicate m (.int .i64 (-1)))).length=xs.length/\∀j,j<o+m->(ay xs o (List.replicate m (.int .i64 (-1))))[j]?=some (.int .i64 (-1)):=by
 unfold ay;refine⟨by simp only[Yh,Yu,List.length_drop,Yg];omega,fun j hj=>?_⟩;by_cases hjo:j<o
 .rw[Yz,jw (by rw[Yu];omega),vM,if_pos hjo];exact h j hjo
 .rw[jw (by simp only[Yh,Yu,Yg];omega),qJ (by rw[Yu];omega),Yu,List.getElem?_replicate,if_pos (by omega)]
theorem zx{h h1 h2:Heap}{b:Nat}(E:Ext h h1)(B:jz b h1 h2)(hb:h.size<=b):Ext h h2:=⟨by rw[B.1];exact E.1,fun k hk=>(B.2 k (by omega)).trans (E.2 k hk)⟩
theorem tB(n:Int)(h0:0<=n)(h1:n<=200)(b:Nat)(h:Heap)(hb:hc h ⟨b,0,none⟩=some (.int .i64 (-1))):
  Fn Pz 77 #[.slice (some ⟨b,0,none⟩) 1 1,.int .i64 n] h fun v h'=>Ext h h'/\∃s:Sl,v=.slice s.a s.n s.c/\b9 h' h.size 3 1 s ((List.replicate n.toNat (-1)).map a6).flatten:=by
 obtain⟨N,rfl⟩:∃N:Nat,n=N:=⟨n.toNat,by omega⟩;have hN:N<=200:=by omega
 have BD:b<h.size:=by
  rcases Nat.lt_or_ge b h.size with cG | Kl
  .exact cG
  .unfold hc at hb;rw[Array.getElem?_eq_none (by simpa using Kl)] at hb;cases hb
 apply W3 ⟨some ⟨b,0,none⟩,1,1⟩;unfold W77;refine⟨fun h'=>h'=h,iX (decide_eq_false (by omega)) rfl,?_⟩;rintro-_ rfl;rw[show IntKind.wrap .u64 (((1:Nat):Int))=((1:Nat):Int) from JM (by omega) (by omega),show IntKind.wrap .u64 (N:Int)=((N:Nat):Int) from JM (by omega) (by omega)];refine (K7 1 N (by omega) (by omega) _).mono ?_;rintro _ h6 ⟨rfl,rfl⟩;rw[show 1*N/18446744073709551616=0 by omega,show 1*N%18446744073709551616=N by omega];refine⟨_,_,rfl,fun h'=>h'=h6,iX rfl (iX (decide_eq_false (by omega)) rfl),?_⟩;rintro-h8 rfl;rw[show IntKind.wrap .i64 ((N:Nat):Int)=N from aZ (by omega) (by omega)];refine⟨⟨by omega,by omega,by omega⟩,?_⟩;rw[Ys,DV];intro h9 hh9;have o9:Own h9 h8.size (List.replicate N (.int .i64 0)) 3:=by rw[hh9];exact Own.push
 have E9:Ext h8 h9:=by rw[hh9];exact Ext.push _ _
 have hb9:hc h9 ⟨b,0,none⟩=some (.int .i64 (-1)):=by rw[E9.hc BD];exact hb
 refine Av JN JS o9 (g2:=b) (o2:=0) (l:=List.replicate (min 1 N) (.int .i64 (-1))) (by simp) ?_ (by simp;omega) (fun v hv=>by rw[List.eq_of_mem_replicate hv];rfl) fun xG B11 Vw=>?_
 .intro j c hj;rw[List.getElem?_replicate] at hj;split at hj
  .cases hj;rw[show 0+j=0 by omega];exact hb9
  .cases hj
 obtain⟨e1,e2⟩:=nt (xs:=List.replicate N (.int .i64 0)) (o:=0) (m:=min 1 N) (by simp;omega) (fun j hj=>by omega);generalize Oy:ay (List.replicate N (Value.int .i64 0)) 0 (List.replicate (min 1 N) (.int .i64 (-1)))=xs at Vw e1 e2;rw[Yg] at e1;have E11:=zx E9 B11 (aY _);clear Oy B11 o9;rw[Yg];refine⟨fun x h' m=>∃(i:Nat) (xs:List Value),x=i/\i<=N/\(1<=i\/N=0)/\m=N-i/\Own h' h8.size xs 3/\xs.length=N/\(∀j,j<i->xs[j]?=some (.int .i64 (-1)))/\Ext h8 h',
  ⟨_,min 1 N,xs,rfl,by omega,by omega,rfl,Vw,e1,fun j hj=>e2 j (by omega),E11⟩,?_⟩
 rintro-x fR m ⟨i,xs,rfl,hi,VP,rfl,Oi,hl,ch,E16⟩;refine aa (fun c=>?_) (fun c=>?_)
 .replace c:=ba c;refine⟨⟨by omega,by omega,by omega⟩,⟨by omega,by omega,by omega⟩,?_⟩;rw[show Int.toNat ((i:Nat):Int)=i from Ys i,show Int.toNat ((N:Nat):Int)=N from Ys N,show Int.toNat 0=0 from rfl,cC,lq c];refine Av JN JS Oi (g2:=h8.size) (o2:=0) (l:=List.replicate (min i (N-i)) (.int .i64 (-1))) (by simp) ?_ (by simp;omega) (fun v hv=>by rw[List.eq_of_mem_replicate hv];rfl) fun xB B18 Oh=>?_
  .intro j c hj;rw[List.getElem?_replicate] at hj;split at hj
   .cases hj;rw[Oi.hc];exact ch _ (by omega)
   .cases hj
  obtain⟨e3,e4⟩:=nt (xs:=xs) (o:=0+i*1) (m:=min i (N-i)) (by omega) (fun j hj=>ch j (by omega));rw[Yg];refine⟨N-(i+min i (N-i)),by omega,i+min i (N-i),_,by rw[aZ (by omega) (by omega)];omega,by omega,by omega,rfl,Oh,by rw[e3];exact hl,fun j hj=>e4 j (by omega),zx E16 B18 (aY _)⟩
 .replace c:=bd c;have hiN:i=N:=by omega
  subst hiN;refine⟨E16,⟨some ⟨h8.size,0,none⟩,i,i⟩,rfl,?_,.inr ⟨h8.size,⟨xs⟩,rfl,aY _,Oi,aY _,?_,?_,?_⟩⟩
  .rw[<-Dh hl ch];show xs.length=i*1;omega
  .show i<=9223372036854775807;omega
  .show xs.length=i*1;omega
  .show xs.take (i*1)=_;rw[Yj (by omega)];exact Dh hl ch
end Go.VC
end

section
namespace Go.VC

end Go.VC
end

section
namespace Go.VC
open Go.Proofs Go.LexS Go.Shelf Go.RowKit
attribute [local go_sem] Oper.semAt_some
end Go.VC
end

section

end

section
namespace Go.VC
open Go.Proofs Go.LexS
def fX(l:Nm):Bool:=decide (l.length<=50)&&(pieces l).all isWord
theorem SZ(l:Nm)(h:Heap):Fn Pz 299 #[.string (bs l)] h fun v h'=>v=.bool (!isWord l)/\Ext h h':=by
 apply Ps;unfold TP;refine (iK (bs l) h).mono ?_;rintro _ h3 ⟨rfl,E⟩;exact⟨_,rfl,rfl,E⟩
theorem Nb:au Pz 299=true:=by kernel_rfl
theorem Lk(L:List Nm)(s:Sl)(h:Heap)(hr:RL h 1 s oE L):
  Fn Pz 308 #[.slice s.a s.n s.c,.func (.func 299) #[] #[]] h fun v h'=>(∃k:Int,v=.int .i64 k/\decide (k>=0)=L.any fun x=>!isWord x)/\Ext h h':=by
 apply Pn;unfold TK;have hn:=hr.ln;have hm:=hr.sm;have hs:=St.refl h;refine aM (n:=s.n) hs (fun i=>∀(j:Nat) (y:Nm),j<i->L[j]?=some y->(!isWord y)=false) (fun j y hj=>by omega) ?_;rintro-i h5 hi ⟨hs,hd⟩;refine aa (fun l=>?_) (fun l=>?_)
 .replace l:=ba l;refine (hr.ext hs.ext).rw.aF (by omega) (by omega) fun b o d g t=>?_;replace g:L[i]?=some d:=g;refine⟨_,t.hd,?_⟩;rw[Nb,cond_true];refine (SZ d h5).mono ?_;rintro _ xG ⟨rfl,E⟩;replace hs:=hs.step E;refine⟨_,rfl,aa (fun c=>?_) (fun c=>?_)⟩
  .exact⟨⟨_,rfl,by rw[FR g (p:=fun x=>!isWord x) c];exact decide_eq_true (by omega)⟩,hs.ext⟩
  .exact Up.next l (by omega) ⟨hs,dn (p:=fun x=>!isWord x) g c hd⟩
 .replace l:=bd l;refine⟨⟨_,rfl,?_⟩,hs.ext⟩;rw[FT (p:=fun x=>!isWord x) fun j x hj=>hd j x (by have:=(Ya.1 hj).1;omega) hj];rfl
theorem NI(L:List Nm)(s:Sl)(h:Heap)(hr:RL h 1 s oE L):
  Fn Pz 297 #[.slice s.a s.n s.c,.func (.func 299) #[] #[]] h fun v h'=>v=.bool (L.any fun x=>!isWord x)/\Ext h h':=by
 apply Pt;unfold TQ;refine (Lk L s h hr).mono ?_;rintro _ h3 ⟨⟨k,rfl,hk⟩,E⟩;exact⟨_,rfl,by rw[hk],E⟩
theorem Ju(L:List Nm):(!(L.any fun x=>!isWord x))=L.all isWord:=by
 induction L with
 | nil=>rfl
 | cons a L ih=>rw[List.any_cons,List.all_cons,<-ih];cases isWord a<;>simp
theorem HK(l:Nm)(h:Heap)(hx:Gm h):Fn Pz 268 #[.string (bs l)] h fun v h'=>v=.bool (fX l)/\Ext h h':=by
 apply PG;unfold T4;rw[sg];refine aQ (fun c=>?_) (fun c=>?_)
 .have hl:l.length<=50:=by omega
  refine (CW l h hx hl).mono ?_;rintro _ h3 ⟨E3,s,rfl,hr⟩;refine⟨_,rfl,?_⟩;refine (NI _ s h3 hr).mono ?_;rintro _ h6 ⟨rfl,E6⟩;refine⟨_,rfl,?_,E3.trans E6⟩;unfold fX;rw[decide_eq_true hl,Ju];rfl
 .refine⟨?_,(St.refl h).ext⟩;unfold fX;rw[decide_eq_false (by omega)];rfl
def bt(L:List Dc):List jx:=L.flatMap (·.fs)
theorem FP:cn Pz 166 260 4 40=true:=by kernel_rfl
theorem sk:∀(L:List Dc),(∀d∈L,d.fs.length<=1048576)->(bt L).length<=L.length*1048576
 | [],_=>by simp[bt]
 | d::L,h=>by
  have h1:=sk L fun x hx=>h x (Yn _ hx);have h2:=h d (by simp);unfold bt at *;rw[List.flatMap_cons,Yh,mD,Nat.succ_mul];omega
theorem fN(L:List Dc)(d:Dc):bt (L++[d])=bt L++d.fs:=by unfold bt;rw[List.flatMap_append,List.flatMap_singleton]
theorem rX(L:List jx):∀r∈L.map jx.cs,r.length=4:=fun r hr=>by obtain⟨x,_,rfl⟩:=Yp.1 hr;rfl
theorem jQ{α:Type}{cs:α->List Value}(h:∀x,(cs x).all fF=true)(L:List α):(L.map cs).flatten.all fF=true:=by
 induction L with
 | nil=>rfl
 | cons a L ih=>rw[kf,ss,List.all_append,h a,ih];rfl
theorem BM(L:List Dc)(s:Sl)(h:Heap)(hL:DL h s L)(uU:L.length<=40):
  Fn Pz 267 #[.slice s.a s.n s.c] h fun v h'=>Ext h h'/\∃r:Sl,v=.slice r.a r.n r.c/\b9 h' h.size 260 4 r ((bt L).map jx.cs).flatten:=by
 apply PH;unfold T5;have hn:=hL.r.ln;have hs:=(St.refl h).cN 260 4;refine gP (n:=s.n) hs (fun i rows=>rows=(bt (L.take i)).map jx.cs) rfl ?_;rintro-i out h6 rows hi hs q;refine aa (fun l=>?_) (fun l=>?_)
 .replace l:=ba l;refine (hL.ext hs.ext).r.rw.aF (by omega) (by omega) fun b o d g t=>?_;replace g:L[i]?=some d:=g;refine⟨_,_,_,_,_,t,?_⟩;refine hs.ai (vs:=d.cs) rfl rfl fun mq hs=>?_;refine⟨_,hs.rd 0 rfl rfl,?_⟩;have hd:=(hL.i d (Yb g)).pf.ext hs.ext;have hlen:=(hs.len 1 rfl (by omega)).1;have h1:=sk (L.take i) fun x hx=>(hL.i x (List.mem_of_mem_take hx)).pf.sm;have h2:=hd.sm;have h3:=hd.ln;have h4:(L.take i).length*1048576<=40*1048576:=Nat.mul_le_mul_right _ (by rw[Yu];omega);rw[q,Yc] at hlen;refine hs.oz 1 rfl FP hd.rw (rX _) hd.nil (jQ (fun _=>rfl) _) (by omega) (by simp only[maxLen];omega) fun r xB hr hs=>?_;refine Ha.next l (by omega) ⟨_,hs.drop 1,?_⟩;rw[q,aj g,fN,Ym]
 .replace l:=bd l;rw[Yj (by omega)] at q;have:=hs.SS 0 rfl;rw[q] at this;exact⟨hs.ext,out,rfl,this⟩
theorem Nf:au Pz 270=true:=by kernel_rfl
theorem Nd:au Pz 273=true:=by kernel_rfl
theorem TC(a b:Nm):(ByteArray.toList (bs a)==ByteArray.toList (bs b))=decide (a=b):=np _ _
theorem S3(d:Dc)(n:Nm)(c:Addr)(h:Heap)(ig:hc h c=some (.string (bs n))):Fn Pz 270 #[.agg ⟨d.cs⟩,.pointer (some c)] h fun v h'=>v=.bool (decide (d.nm=n))/\Ext h h':=by
 apply PE (bs d.nm) d.hf d.first d.hd d.he c;unfold T2
 have hs:=St.refl h;refine hs.aq fun h6 hs=>?_;refine⟨_,hs.rd 0 rfl rfl,_,aw hs.ext ig,?_⟩;rw[TC];exact⟨rfl,hs.ext⟩
theorem S2(d:jx)(n:Nm)(c:Addr)(h:Heap)(ig:hc h c=some (.string (bs n))):Fn Pz 273 #[.agg ⟨d.cs⟩,.pointer (some c)] h fun v h'=>v=.bool (decide (d.nm=n))/\Ext h h':=by
 apply PB (bs d.nm) d.k d.lo d.hi c;unfold TX;have hs:=St.refl h;refine hs.aq fun h6 hs=>?_;refine⟨_,hs.rd 0 rfl rfl,_,aw hs.ext ig,?_⟩;rw[TC];exact⟨rfl,hs.ext⟩
theorem Mg(L:List Dc)(n:Nm)(c:Addr)(s:Sl)(h:Heap)(hr:RL h 5 s Dc.cs L)(ig:hc h c=some (.string (bs n))):
  Fn Pz 269 #[.slice s.a s.n s.c,.func (.func 270) #[] #[.pointer (some c)]] h fun v h'=>v=.bool (L.any fun d=>decide (d.nm=n))/\Ext h h':=by
 apply PF;unfold T3;have key:Fn Pz 300 #[.slice s.a s.n s.c,.func (.func 270) #[] #[.pointer (some c)]] h fun v h'=>(∃k:Int,v=.int .i64 k/\decide (k>=0)=L.any fun d=>decide (d.nm=n))/\Ext h h':=by
  apply Pq;unfold TN;have hn:=hr.ln;have hm:=hr.sm;have hs:=St.refl h;refine aM (n:=s.n) hs (fun i=>∀(j:Nat) (y:Dc),j<i->L[j]?=some y->decide (y.nm=n)=false) (fun j y hj=>by omega) ?_;rintro-i h5 hi ⟨hs,hd⟩;refine aa (fun l=>?_) (fun l=>?_)
  .replace l:=ba l;refine (hr.ext hs.ext).rw.aF (by omega) (by omega) fun b o d g t=>?_;replace g:L[i]?=some d:=g;refine⟨_,_,_,_,_,t,?_⟩;rw[Nf,cond_true];refine (S3 d n c h5 (aw hs.ext ig)).mono ?_;rintro _ xG ⟨rfl,E⟩;replace hs:=hs.step E;refine⟨_,rfl,aa (fun c=>?_) (fun c=>?_)⟩
   .exact⟨⟨_,rfl,by rw[FR g (p:=fun d=>decide (d.nm=n)) c];exact decide_eq_true (by omega)⟩,hs.ext⟩
   .exact Up.next l (by omega) ⟨hs,dn (p:=fun d=>decide (d.nm=n)) g c hd⟩
  .replace l:=bd l;refine⟨⟨_,rfl,?_⟩,hs.ext⟩;rw[FT (p:=fun d:Dc=>decide (d.nm=n)) fun j x hj=>hd j x (by have:=(Ya.1 hj).1;omega) hj];rfl
 refine key.mono ?_;rintro _ h3 ⟨⟨k,rfl,hk⟩,E⟩;exact⟨_,rfl,by rw[hk],E⟩
theorem Mf(L:List jx)(n:Nm)(c:Addr)(s:Sl)(h:Heap)(hr:RL h 4 s jx.cs L)(ig:hc h c=some (.string (bs n))):
  Fn Pz 272 #[.slice s.a s.n s.c,.func (.func 273) #[] #[.pointer (some c)]] h fun v h'=>v=.bool (L.any fun d=>decide (d.nm=n))/\Ext h h':=by
 apply PC;unfold TY;have key:Fn Pz 301 #[.slice s.a s.n s.c,.func (.func 273) #[] #[.pointer (some c)]] h fun v h'=>(∃k:Int,v=.int .i64 k/\decide (k>=0)=L.any fun d=>decide (d.nm=n))/\Ext h h':=by
  apply Pp;unfold TM;have hn:=hr.ln;have hm:=hr.sm;have hs:=St.refl h;refine aM (n:=s.n) hs (fun i=>∀(j:Nat) (y:jx),j<i->L[j]?=some y->decide (y.nm=n)=false) (fun j y hj=>by omega) ?_;rintro-i h5 hi ⟨hs,hd⟩;refine aa (fun l=>?_) (fun l=>?_)
  .replace l:=ba l;refine (hr.ext hs.ext).rw.aF (by omega) (by omega) fun b o d g t=>?_;replace g:L[i]?=some d:=g;refine⟨_,_,_,_,t,?_⟩;rw[Nd,cond_true];refine (S2 d n c h5 (aw hs.ext ig)).mono ?_;rintro _ xG ⟨rfl,E⟩;replace hs:=hs.step E;refine⟨_,rfl,aa (fun c=>?_) (fun c=>?_)⟩
   .exact⟨⟨_,rfl,by rw[FR g (p:=fun d=>decide (d.nm=n)) c];exact decide_eq_true (by omega)⟩,hs.ext⟩
   .exact Up.next l (by omega) ⟨hs,dn (p:=fun d=>decide (d.nm=n)) g c hd⟩
  .replace l:=bd l;refine⟨⟨_,rfl,?_⟩,hs.ext⟩;rw[FT (p:=fun d:jx=>decide (d.nm=n)) fun j x hj=>hd j x (by have:=(Ya.1 hj).1;omega) hj];rfl
 refine key.mono ?_;rintro _ h3 ⟨⟨k,rfl,hk⟩,E⟩;exact⟨_,rfl,by rw[hk],E⟩
def oB(k lo hi:Int):Prop:=k=1 /\ -1000<=lo/\lo<=hi/\hi<=1000\/k=2/\0<=lo/\lo<=hi/\hi<=40
instance (k lo hi:Int):Decidable (oB k lo hi):=by unfold oB;infer_instance
theorem AF(k lo hi:Int)(h:Heap):Fn Pz 271 #[.agg ⟨[.int .i64 k,.int .i64 lo,.int .i64 hi]⟩] h fun v h'=>v=.bool (decide (oB k lo hi))/\Ext h h':=by
 apply PD k lo hi;unfold TZ;have hs:=St.refl h;refine hs.aq fun h4 hs=>?_;have E:=hs.ext;have r0:=hs.rd 0 rfl (i:=0) rfl;have r1:=hs.rd 0 rfl (i:=1) rfl;have r2:=hs.rd 0 rfl (i:=2) rfl;clear hs
 repeat' first
  | refine Exists.intro k (And.intro r0 ?_)
  | refine Exists.intro lo (And.intro r1 ?_)
  | refine Exists.intro hi (And.intro r2 ?_)
  | refine aQ (fun _=>?_) (fun _=>?_)
  | refine eh (fun _=>?_) (fun _=>?_)
 all_goals
  refine⟨?_,E⟩;clear r0 r1 r2 E;congr 1;rw[Bool.eq_iff_iff];simp only[decide_eq_true_eq,Bool.false_eq_true,false_iff];unfold oB;omega
def fO(all:List jx)(x:Int):Prop:=0<=x/\∃f,all[x.toNat]?=some f/\f.k=2
structure lV (all:List jx) (ds:List Df) (es:List sG):Prop where
 nd:ds.length<=20
 ne:es.length<=20
 d:∀x∈ds,-1<=min x.x x.y/\max x.x x.y<all.length /\ -20000<=x.c/\x.c<=20000
 e:∀x∈es,fO all x.x/\fO all x.y
noncomputable instance (all:List jx) (ds:List Df) (es:List sG):Decidable (lV all ds es):=Classical.propDecidable _
theorem KO{x y:Int}{i:Nat}(hi:i<2):List.take 1 (List.drop (Int.toNat (i:Int)*1) ([.int .i64 x,.int .i64 y]:List Value))=[.int .i64 (if i=0 then x else y)]:=by
 rcases i with _ | _ | i
 .rfl
 .rfl
 .omega
theorem xH(all:List jx)(ds:List Df)(es:List sG)(sd se sa:Sl)(h:Heap)(hd:RL h 3 sd Df.cs ds)(he:RL h 2 se sG.cs es)(ha:Rw h 4 sa (all.map jx.cs)):
  Fn Pz 274 #[.agg ⟨[.slice sd.a sd.n sd.c,.slice se.a se.n se.c]⟩,.slice sa.a sa.n sa.c] h fun v h'=>v=.bool (decide (lV all ds es))/\Ext h h':=by
 apply PA sd se sa;unfold TW;have hs:=St.refl h;have Iy:=hd.ln;have bz:=he.ln;have Ek:=ha.ln;refine hs.aq fun h3 hs=>?_;refine⟨_,hs.rd 0 rfl rfl,?_⟩;refine aQ (fun c1=>?_) (fun c1=>?_)
 .exact⟨dF fun hG=>by have:=hG.nd;omega,hs.ext⟩
 .refine⟨_,hs.rd 0 rfl rfl,?_⟩;refine aQ (fun c2=>?_) (fun c2=>?_)
  .exact⟨dF fun hG=>by have:=hG.ne;omega,hs.ext⟩
  .refine⟨_,hs.rd 0 rfl rfl,?_⟩;refine aM (n:=sd.n) hs (fun i=>∀(j:Nat) (x:Df),j<i->ds[j]?=some x -> -1<=min x.x x.y/\max x.x x.y<all.length /\ -20000<=x.c/\x.c<=20000) (fun j x hj=>by omega) ?_;rintro-i7 xG k7 ⟨hs,q7⟩;refine aa (fun l7=>?_) (fun l7=>?_)
   .have l7:=ba l7;refine (hd.ext hs.ext).rw.aF (by omega) (by omega) fun b12 o13 d12 g12 t12=>?_;replace g12:_[i7]?=some d12:=g12;have hm:=Yb g12;refine⟨_,_,_,t12,?_⟩;refine hs.ai (vs:=d12.cs) rfl rfl fun xB hs=>?_;refine⟨_,hs.rd 0 rfl rfl,?_⟩;refine⟨_,hs.rd 0 rfl rfl,?_⟩;rw[uB];refine aQ (fun c3=>?_) (fun c3=>?_)
    .exact⟨dF fun hG=>by have:=hG.d _ hm;omega,hs.ext⟩
    .refine⟨_,hs.rd 0 rfl rfl,?_⟩;refine⟨_,hs.rd 0 rfl rfl,?_⟩;rw[uC];refine aQ (fun c4=>?_) (fun c4=>?_)
     .exact⟨dF fun hG=>by have:=hG.d _ hm;omega,hs.ext⟩
     .refine⟨_,hs.rd 0 rfl rfl,?_⟩;refine aQ (fun c5=>?_) (fun c5=>?_)
      .exact⟨dF fun hG=>by have:=hG.d _ hm;omega,hs.ext⟩
      .refine⟨_,hs.rd 0 rfl rfl,?_⟩;refine aQ (fun c6=>?_) (fun c6=>?_)
       .exact⟨dF fun hG=>by have:=hG.d _ hm;omega,hs.ext⟩
       .refine Up.next l7 (by omega) ⟨hs.drop 1,fun j x hj hx=>?_⟩;by_cases e:j=i7
        .subst e;rw[g12] at hx;cases hx;refine⟨?_,?_,?_,?_⟩<;>omega
        .exact q7 j x (by omega) hx
   .have l7:=bd l7;have Q7:∀x∈ds,-1<=min x.x x.y/\max x.x x.y<all.length /\ -20000<=x.c/\x.c<=20000:=fun x hx=>by
     obtain⟨j,hj⟩:=Yf.1 hx;exact q7 j x (by have:=(Ya.1 hj).1;omega) hj
    clear q7;refine⟨_,hs.rd 0 rfl rfl,?_⟩;refine aM (n:=se.n) hs (fun i=>∀(j:Nat) (x:sG),j<i->es[j]?=some x->fO all x.x/\fO all x.y) (fun j x hj=>by omega) ?_;rintro-i27 IM k27 ⟨hs,q27⟩;refine aa (fun Ot=>?_) (fun Ot=>?_)
    .have Ot:=ba Ot;refine (he.ext hs.ext).rw.aF (by omega) (by omega) fun b32 o33 d32 ER t32=>?_;replace ER:_[i27]?=some d32:=ER;have hm:=Yb ER;refine⟨_,_,t32,?_⟩;refine hs.ai (vs:=d32.cs) rfl rfl fun qs hs=>?_;refine⟨_,_,hs.at 0 rfl (n:=2) rfl,?_⟩;refine aM (n:=2) hs (fun i=>∀j,j<i->fO all (if j=0 then d32.x else d32.y)) (fun j hj=>by omega) ?_;rintro-i40 xz k40 ⟨hs,q40⟩;refine aQ (fun c7=>?_) (fun c7=>?_)
     .have l40:i40<2:=by omega
      refine⟨⟨by omega,by omega⟩,_,KO l40,?_⟩;have hx:lV all ds es->fO all (if i40=0 then d32.x else d32.y):=fun hG=>by
       have:=hG.e _ hm;split
       .exact this.1
       .exact this.2
      generalize jT:(if i40=0 then d32.x else d32.y)=x at *;refine aQ (fun c8=>?_) (fun c8=>?_)
      .exact⟨dF fun hG=>by have:=(hx hG).1;omega,hs.ext⟩
      .refine aQ (fun c9=>?_) (fun c9=>?_)
       .exact⟨dF fun hG=>by obtain⟨f,hf,_⟩:=(hx hG).2;have:=(Ya.1 hf).1;omega,hs.ext⟩
       .refine (ha.ext hs.ext).aF (by omega) (by omega) fun b46 o47 d46 g46 t46=>?_;refine⟨_,t46.nth 1 rfl,?_⟩;refine iC (fun BZ=>?_) (fun BZ=>?_)
        .exact⟨dF fun hG=>by obtain⟨f,hf,hk⟩:=(hx hG).2;rw[g46] at hf;cases hf;exact BZ hk,hs.ext⟩
        .refine Up.next l40 (by omega) ⟨hs,fun j hj=>?_⟩;by_cases e:j=i40
         .subst e;rw[jT];exact⟨by omega,d46,g46,BZ⟩
         .exact q40 j (by omega)
     .have h0:=q40 0 (by omega);have h1:=q40 1 (by omega);refine Up.next Ot (by omega) ⟨hs.drop 1,fun j x hj hx=>?_⟩;by_cases e:j=i27
      .subst e;rw[ER] at hx;cases hx;exact⟨h0,h1⟩
      .exact q27 j x (by omega) hx
    .have Ot:=bd Ot;have Q27:∀x∈es,fO all x.x/\fO all x.y:=fun x hx=>by
      obtain⟨j,hj⟩:=Yf.1 hx;exact q27 j x (by have:=(Ya.1 hj).1;omega) hj
     exact⟨dT ⟨by omega,by omega,Q7,Q27⟩,hs.ext⟩
structure GM (fs:List jx) (i:Nat) (f:jx):Prop where
 pw:isWord f.nm=true
 ps:oB f.k f.lo f.hi
 pd:((fs.take i).any fun x=>decide (x.nm=f.nm))=false
structure Ws (L:List Dc) (i:Nat) (d:Dc):Prop where
 pp:fX d.nm=true
 pn:d.fs.length<=4
 pf:d.first=((bt (L.take i)).length:Nat)
 pd:((L.take i).any fun x=>decide (x.nm=d.nm))=false
 KX:∀k f,d.fs[k]?=some f->GM d.fs k f
 pg:lV (bt L) d.ds d.es
structure jy (L:List Dc):Prop where
 pn:L.length<=40
 pv:(bt L).length<=24
 pd:∀i d,L[i]?=some d->Ws L i d
noncomputable instance (L:List Dc):Decidable (jy L):=Classical.propDecidable _
theorem qI(L:List Dc)(i:Nat):(bt (L.take i)).length<=(bt L).length:=by
 have:bt L=bt (L.take i)++bt (L.drop i):=by unfold bt;rw[<-List.flatMap_append,List.take_append_drop]
 rw[this,Yh];omega
theorem bF{b:Bool}(h:(!b)=true):b=false:=by cases b<;>simp_all
theorem bT{b:Bool}(h:(!b)=false):b=true:=by cases b<;>simp_all
theorem CK(L:List Dc)(s:Sl)(h:Heap)(hL:DL h s L)(hx:Gm h):
  Fn Pz 224 #[.slice s.a s.n s.c] h fun v h'=>v=.bool (decide (jy L))/\Ext h h':=by
 apply PX;unfold Ui;have hs:=St.refl h;have hn:=hL.r.ln;have RB:=hL.r.sm;refine aQ (fun c1=>?_) (fun c1=>?_)
 .exact⟨dF fun hG=>by have:=hG.pn;omega,hs.ext⟩
 .refine (BM L s h hL (by omega)).mono ?_;rintro _ h3 ⟨E3,x2,rfl,ch⟩;replace hs:=hs.EP E3 ch (rX _);have hxn:x2.n=(bt L).length:=(hs.rows 0 rfl (by omega)).ln;refine⟨_,rfl,?_⟩;refine aQ (fun c2=>?_) (fun c2=>?_)
  .exact⟨dF fun hG=>by have:=hG.pv;omega,hs.ext⟩
  .refine⟨fun aav x_8 h' m=>∃i:Nat,x_8=i/\m=s.n-i/\i<=s.n/\St h h' [.sl x2 260 4 ((bt L).map jx.cs)]/\(aav=((bt (L.take i)).length:Nat))/\∀j d,j<i->L[j]?=some d->Ws L j d,⟨_,0,rfl,rfl,by omega,hs,rfl,fun j d hj=>by omega⟩,?_⟩;rintro-_ _ h9 m ⟨i,rfl,rfl,hi,hs,rfl,q⟩;refine aQ (fun c3=>?_) (fun c3=>?_)
   .have l3:i<s.n:=by omega
    refine (hL.ext hs.ext).r.rw.aF (by omega) (by omega) fun b10 Vw d10 g10 t10=>?_;replace g10:_[i]?=some d10:=g10;have hle:=qI L i;have hd:=hL.i d10 (Yb g10);refine⟨_,_,_,_,_,t10,?_⟩;refine hs.ai (vs:=d10.cs) rfl rfl fun xB hs=>?_;refine⟨_,hs.rd 0 rfl rfl,?_⟩;refine (HK d10.nm xB (hx.ext hs.ext)).mono ?_;rintro _ fK ⟨rfl,Eh22⟩;replace hs:=hs.step Eh22;refine⟨_,rfl,?_⟩;refine aa (fun c4=>?_) (fun c4=>?_)
    .exact⟨dF fun hG=>(by have:=(hG.pd i _ g10).pp;rw[bF c4] at this;cases this),hs.ext⟩
    .refine⟨_,hs.rd 0 rfl rfl,?_⟩;have ie:=hd.pf.ln;refine aQ (fun c5=>?_) (fun c5=>?_)
     .exact⟨dF fun hG=>by have:=(hG.pd i _ g10).pn;omega,hs.ext⟩
     .refine⟨_,hs.rd 0 rfl rfl,?_⟩;refine iC (fun c6=>?_) (fun c6=>?_)
      .exact⟨dF fun hG=>c6 (hG.pd i _ g10).pf,hs.ext⟩
      .have uP:=hL.r.cap;refine⟨by omega,?_⟩;refine (Mg (L.take i) d10.nm _ _ fK ((hL.r.ext hs.ext).take (by omega)) (hs.rd 0 rfl rfl)).mono ?_;rintro _ IP ⟨rfl,Eh27⟩;replace hs:=hs.step Eh27;refine⟨_,rfl,?_⟩;refine aa (fun c7=>?_) (fun c7=>?_)
       .exact⟨dF fun hG=>(by have:=(hG.pd i _ g10).pd;rw[c7] at this;cases this),hs.ext⟩
       .refine⟨_,hs.rd 0 rfl rfl,?_⟩;refine⟨_,hs.rd 0 rfl rfl,?_⟩;refine aM (n:=d10.hf.n) hs (fun k=>∀(j:Nat) (f:jx),j<k->d10.fs[j]?=some f->GM d10.fs j f) (fun j x hj=>by omega) ?_;rintro-i30 mm k30 ⟨hs,q30⟩;refine aa (fun Oq=>?_) (fun Oq=>?_)
        .have Oq:=ba Oq;refine (hd.pf.ext hs.ext).rw.aF (by omega) (by omega) fun b35 o36 d35 O4 t35=>?_;replace O4:_[i30]?=some d35:=O4;refine⟨_,_,_,_,t35,?_⟩;refine hs.ai (vs:=d35.cs) rfl rfl fun xA hs=>?_;refine⟨_,hs.rd 0 rfl rfl,?_⟩;refine (iK (bs d35.nm) xA).mono ?_;rintro _ oL ⟨rfl,Eh46⟩;replace hs:=hs.step Eh46;refine⟨_,rfl,?_⟩;rw[cH];refine aa (fun c8=>?_) (fun c8=>?_)
         .exact⟨dF fun hG=>(by have:=((hG.pd i _ g10).KX _ _ O4).pw;rw[bF c8] at this;cases this),hs.ext⟩
         .refine⟨_,_,_,hs.at 0 rfl (n:=3) rfl,?_⟩;refine (AF d35.k d35.lo d35.hi oL).mono ?_;rintro _ EF ⟨rfl,Eh52⟩;replace hs:=hs.step Eh52;refine⟨_,rfl,?_⟩;refine aa (fun c9=>?_) (fun c9=>?_)
          .exact⟨dF fun hG=>eB (bF c9) ((hG.pd i _ g10).KX _ _ O4).ps,hs.ext⟩
          .refine⟨_,hs.rd 1 rfl rfl,?_⟩;have uP:=hd.pf.cap;refine⟨⟨by omega,by omega,by omega⟩,?_⟩;refine (Mf (d10.fs.take i30) d35.nm _ _ EF ((hd.pf.ext hs.ext).take (by omega)) (hs.rd 0 rfl rfl)).mono ?_;rintro _ oK ⟨rfl,Eh56⟩;replace hs:=hs.step Eh56;refine⟨_,rfl,?_⟩;refine aa (fun BZ=>?_) (fun BZ=>?_)
           .exact⟨dF fun hG=>(by have:=((hG.pd i _ g10).KX _ _ O4).pd;rw[BZ] at this;cases this),hs.ext⟩
           .refine Up.next Oq (by omega) ⟨hs.drop 1,fun j f hj hf=>?_⟩;by_cases e:j=i30
            .subst e;rw[O4] at hf;cases hf;exact⟨bT c8,bM (bT c9),BZ⟩
            .exact q30 j f (by omega) hf
        .have Oq:=bd Oq;have Q30:∀k f,d10.fs[k]?=some f->GM d10.fs k f:=fun k f hf=>q30 k f (by have:=(Ya.1 hf).1;omega) hf;refine⟨_,_,hs.at 0 rfl (n:=2) rfl,?_⟩;refine (xH (bt L) d10.ds d10.es d10.hd d10.he x2 mm (hd.pd.ext hs.ext) (hd.pe.ext hs.ext) (hs.rows 1 rfl (by omega))).mono ?_;rintro _ h62 ⟨rfl,Eh62⟩;replace hs:=hs.step Eh62;refine⟨_,rfl,?_⟩;refine aa (fun TB=>?_) (fun TB=>?_)
         .exact⟨dF fun hG=>eB (bF TB) (hG.pd i _ g10).pg,hs.ext⟩
         .refine⟨_,by omega,i+1,?_,rfl,by omega,hs.drop 1,?_,fun j d hj G3=>?_⟩
          .rw[aZ (by omega) (by omega)];omega
          .rw[aj g10,fN,Yh,aZ (by omega) (by omega)];omega
          .by_cases e:j=i
           .subst e;rw[g10] at G3;cases G3;exact⟨bT c4,by omega,c6,c7,Q30,bM (bT TB)⟩
           .exact q j d (by omega) G3
   .exact⟨dT ⟨by omega,by omega,fun i' d hd=>q i' d (by have:=(Ya.1 hd).1;omega) hd⟩,hs.ext⟩
theorem si:cn Pz 167 263 3 24=true:=by kernel_rfl
theorem Fl(L:List Df):∀r∈L.map Df.cs,r.length=3:=fun r hr=>by obtain⟨x,_,rfl⟩:=Yp.1 hr;rfl
theorem B3(d:Dc)(h:Heap)(hd:DI h d)(h4:d.fs.length<=4)(h5:d.ds.length<=20)(h6:d.es.length<=20):
  Fn Pz 225 #[.agg ⟨d.cs⟩] h fun v h'=>Ext h h'/\∃s:Sl,v=.slice s.a s.n s.c:=by
 apply PW (bs d.nm) d.hf d.first d.hd d.he;unfold Uh
 have hs:=St.refl h;have n1:=hd.pf.ln;have n2:=hd.pd.ln;have n3:=hd.pe.ln;refine hs.aq fun h6 hs=>?_;refine⟨_,hs.rd 0 rfl rfl,?_⟩;refine gP (n:=d.hf.n) (hs.cN 263 3) (fun i rows=>rows.length=2*i) rfl ?_;rintro-i out_11 EL rows hi hs q;refine aa (fun l=>?_) (fun l=>?_)
 .replace l:=ba l;refine (hd.pf.ext hs.ext).rw.aF (by omega) (by omega) fun b14 o15 d14 g14 t14=>?_;refine⟨_,_,_,_,t14,?_⟩;refine hs.ai (vs:=d14.cs) rfl rfl fun mn hs=>?_;refine⟨_,hs.rd 2 rfl rfl,?_⟩;refine⟨_,hs.rd 0 rfl rfl,?_⟩;refine⟨_,hs.rd 2 rfl rfl,?_⟩;refine⟨_,hs.rd 0 rfl rfl,?_⟩;have hl:=(hs.len 1 rfl (by omega)).1;refine hs.app 1 rfl si (m:=2) [[_,_,_],[_,_,_]] rfl rfl (by simp) rfl (by omega) (by simp only[maxLen];omega) fun s27 h28 abL hs=>?_;exact Ha.next l (by omega) ⟨_,hs.drop 1,by rw[Yh,q];rfl⟩
 .replace l:=bd l;refine⟨_,hs.rd 1 rfl rfl,?_⟩;have hl:=(hs.len 0 rfl (by omega)).1;refine hs.oz 0 rfl si (hd.pd.ext hs.ext).rw (Fl _) hd.pd.nil (jQ (fun _=>rfl) _) (by omega) (by simp only[maxLen];omega) fun s31 OZ abK hs=>?_;refine⟨_,hs.rd 1 rfl rfl,?_⟩;refine gP (n:=d.he.n) hs (fun i rows=>rows.length<=28+2*i) (by rw[Yh,Yc];omega) ?_;rintro-i out_37 Cu rows hi hs q;refine aa (fun l=>?_) (fun l=>?_)
  .replace l:=ba l;refine (hd.pe.ext hs.ext).rw.aF (by omega) (by omega) fun b40 o41 d40 g40 t40=>?_;refine⟨_,_,t40,?_⟩;refine hs.ai (vs:=d40.cs) rfl rfl fun Mp hs=>?_;refine⟨by omega,_,hs.rd 0 rfl (i:=0) rfl,by omega,_,hs.rd 0 rfl (i:=1) rfl,by omega,_,hs.rd 0 rfl (i:=1) rfl,by omega,_,hs.rd 0 rfl (i:=0) rfl,?_⟩;have hl:=(hs.len 1 rfl (by omega)).1;refine hs.app 1 rfl si (m:=2) [[_,_,_],[_,_,_]] rfl rfl (by simp) rfl (by omega) (by simp only[maxLen];omega) fun s51 EF abJ hs=>?_;exact Ha.next l (by omega) ⟨_,hs.drop 1,by rw[Yh];show _+2<=_;omega⟩
  .exact⟨hs.ext,out_37,rfl⟩
theorem B4(L:List Dc)(s:Sl)(h:Heap)(hL:DL h s L)(hx:Gm h)(bz:L≠[]):
  Fn Pz 162 #[.slice s.a s.n s.c,.int .i64 0] h fun v h'=>Ext h h'/\∃s:Sl,v=.tuple ⟨[.slice s.a s.n s.c,.int .i64 (if jy L then 0 else 1)]⟩:=by
 apply Qs;unfold UL;have hn:=hL.r.ln;have fq:0<L.length:=List.length_pos_iff.2 bz;have hs:=St.refl h;refine aQ (fun c1=>by omega) (fun c1=>?_);refine aQ (fun c2=>by omega) (fun c2=>?_);refine (CK L s h hL hx).mono ?_;rintro _ h3 ⟨rfl,Eh3⟩;replace hs:=hs.step Eh3;refine⟨_,rfl,?_⟩;refine aa (fun c3=>?_) (fun c3=>?_)
 .rw[if_neg (eB (bF c3))];exact⟨hs.ext,⟨none,0,0⟩,rfl⟩
 .have hD:=bM (bT c3);rw[if_pos hD];refine (hL.ext hs.ext).r.rw.aF (by omega) (by omega) fun b4 o5 d4 g4 t4=>?_;refine⟨_,_,_,_,_,t4,?_⟩;have hd:=hD.pd _ _ g4;refine (B3 d4 h3 ((hL.i d4 (Yb g4)).ext hs.ext) hd.pn hd.pg.nd hd.pg.ne).mono ?_;rintro _ EL ⟨Eh13,r,rfl⟩;exact⟨_,rfl,(hs.step Eh13).ext,r,rfl⟩
theorem xP(L:List Dc)(s:Sl)(h:Heap)(hL:DL h s L)(hx:Gm h):Fn Pz 90 #[.slice s.a s.n s.c] h fun v h'=>v=.bool (decide (jy L))/\Ext h h':=by
 apply WR;unfold W90;have hn:=hL.r.ln;refine eh (fun c1=>?_) (fun c1=>?_)
 .have:L=[]:=List.length_eq_zero_iff.1 (by omega);subst this;exact⟨dT ⟨by simp,by simp[bt],fun i d hd=>by simp at hd⟩,(St.refl h).ext⟩
 .refine (B4 L s h hL hx (fun e=>by subst e;simp at hn;omega)).mono ?_;rintro _ h4 ⟨E,r,rfl⟩;refine⟨_,_,rfl,?_,E⟩;by_cases hD:jy L
  .rw[if_pos hD,decide_eq_true hD];rfl
  .rw[if_neg hD,decide_eq_false hD];rfl
structure sE (g:Gl):Prop where
 w:isWord g.nm=true
 n1:1<=g.rs.length
 n6:g.rs.length<=6
 r:∀i s,g.rs[i]?=some s->isWord s=true/\s∉g.rs.take i
noncomputable instance (g:Gl):Decidable (sE g):=Classical.propDecidable _
theorem HV(g:Gl)(h:Heap)(hg:GI h g):Fn Pz 88 #[g.v] h fun v h'=>v=.bool (decide (sE g))/\Ext h h':=by
 apply WU (bs g.nm) g.hr g.hd g.n g.s g.e g.he g.ht;unfold W88;have hs:=St.refl h;have hn:=hg.r.ln;have uP:=hg.r.cap;refine hs.aq fun h9 hs=>?_;refine⟨_,hs.rd 0 rfl rfl,?_⟩;refine (iK _ _).mono ?_;rintro _ EL ⟨rfl,Eh13⟩;replace hs:=hs.step Eh13;refine⟨_,rfl,?_⟩;refine aa (fun c1=>?_) (fun c1=>?_)
 .skip
  exact⟨dF fun hG=>(by have:=hG.w;rw[show isWord g.nm=false from bF c1] at this;cases this),hs.ext⟩
 .skip
  refine⟨_,hs.rd 0 rfl rfl,?_⟩;refine aQ (fun c2=>?_) (fun c2=>?_)
  .skip
   exact⟨dF fun hG=>(by have:=hG.n1;omega),hs.ext⟩
  .skip
   refine⟨_,hs.rd 0 rfl rfl,?_⟩;refine aQ (fun c3=>?_) (fun c3=>?_)
   .skip
    exact⟨dF fun hG=>(by have:=hG.n6;omega),hs.ext⟩
   .skip
    refine⟨_,hs.rd 0 rfl rfl,?_⟩;refine aM (n:=g.hr.n) hs (fun i17=>∀(j:Nat) (s:Nm),j<i17->g.rs[j]?=some s->isWord s=true/\s∉g.rs.take j) (fun j s hj=>by omega) ?_;rintro-i17 mn k17 ⟨hs,q17⟩;refine aa (fun Ov=>?_) (fun Ov=>?_)
    .have Ov:=ba Ov;refine ((hg.r.ext hs.ext).rw).aF (by omega) (by omega) fun b22 o23 d22 g22 t22=>?_;replace g22:_[i17]?=some d22:=g22;refine⟨_,t22.hd,?_⟩;refine (iK _ _).mono ?_;rintro _ IP ⟨rfl,Eh27⟩;replace hs:=hs.step Eh27;refine⟨_,rfl,?_⟩;refine aa (fun c4=>?_) (fun c4=>?_)
     .skip
      exact⟨dF fun hG=>(by have:=(hG.r _ _ g22).1;rw[show isWord d22=false from bF c4] at this;cases this),hs.ext⟩
     .skip
      refine⟨_,hs.rd 0 rfl rfl,?_⟩;refine⟨by omega,?_⟩;refine (EC (g.rs.take i17) (bs d22) ⟨bg g.hr.a (Int.toNat 0) g.hr.c 1,Int.toNat (i17:Int)-Int.toNat 0,g.hr.c-Int.toNat 0⟩ _ ((hg.r.ext hs.ext).take (by omega))).mono ?_;rintro _ IM ⟨rfl,rfl⟩;refine⟨_,rfl,?_⟩;refine aa (fun c5=>?_) (fun c5=>?_)
      .skip
       exact⟨dF fun hG=>(hG.r _ _ g22).2 (bM c5),hs.ext⟩
      .skip
       exact Up.next Ov (by omega) ⟨hs,fun j s hj hx=>by by_cases e:j=i17;(subst e;rw[g22] at hx;cases hx;exact⟨bT c4,eB c5⟩);exact q17 j s (by omega) hx⟩
    .have Ov:=bd Ov;exact⟨dT ⟨bT c1,by omega,by omega,fun j s hx=>q17 j s (by have:=(Ya.1 hx).1;omega) hx⟩,hs.ext⟩
def gN(g:Gl)(x:Ed):Prop:=0<=x.f/\0<=x.t/\0<=x.a/\0<=x.b/\0<=x.l/\x.f<g.n/\x.t<g.n/\x.a<g.rs.length/\x.b<g.rs.length/\x.a≠x.b/\x.l<g.ds.length
structure vT (g:Gl):Prop where
 n:1<=g.n/\g.n<=200/\0<=g.s/\0<=g.e/\g.s<g.n/\g.e<g.n
 m:g.es.length<=400
 e:∀x∈g.es,gN g x
noncomputable instance (g:Gl):Decidable (vT g):=Classical.propDecidable _
theorem wN(g:Gl)(h:Heap)(hg:GI h g):Fn Pz 89 #[g.v] h fun v h'=>v=.bool (decide (vT g))/\Ext h h':=by
 apply WT (bs g.nm) g.hr g.hd g.n g.s g.e g.he g.ht;unfold W89;have hs:=St.refl h;have hn:=hg.e.ln;have hnr:=hg.r.ln;have Iy:=hg.d.r.ln;simp only[uB,uC];refine hs.aq fun h9 hs=>?_;refine⟨_,hs.rd 0 rfl rfl,?_⟩;refine aQ (fun c1=>?_) (fun c1=>?_);rotate_left;refine⟨_,hs.rd 0 rfl rfl,?_⟩;refine aQ (fun c2=>?_) (fun c2=>?_);rotate_left;refine⟨_,hs.rd 0 rfl rfl,?_⟩;refine⟨_,hs.rd 0 rfl rfl,?_⟩;refine aQ (fun c3=>?_) (fun c3=>?_);rotate_left;refine⟨_,hs.rd 0 rfl rfl,?_⟩;refine⟨_,hs.rd 0 rfl rfl,?_⟩;refine⟨_,hs.rd 0 rfl rfl,?_⟩;refine aQ (fun c4=>?_) (fun c4=>?_);rotate_left;refine⟨_,hs.rd 0 rfl rfl,?_⟩;refine aQ (fun c5=>?_) (fun c5=>?_);rotate_left;refine⟨_,hs.rd 0 rfl rfl,?_⟩;refine aM (n:=g.he.n) hs (fun i19=>∀(j:Nat) (x:Ed),j<i19->g.es[j]?=some x->gN g x) (fun j s hj=>by omega) ?_;rintro-i19 qt k19 ⟨hs,q19⟩;refine aa (fun Ou=>?_) (fun Ou=>?_);have Ou:=ba Ou;refine ((hg.e.ext hs.ext).rw).aF (by omega) (by omega) fun b24 o25 d24 g24 t24=>?_;replace g24:_[i19]?=some d24:=g24;refine⟨_,_,_,_,_,_,t24,?_⟩;refine hs.ai rfl rfl fun OY hs=>?_;refine⟨_,_,_,hs.at 0 rfl (n:=3) rfl,?_⟩;refine hs.ai rfl rfl fun sU hs=>?_;refine⟨_,hs.rd 1 rfl rfl,?_⟩;refine⟨_,hs.rd 1 rfl rfl,?_⟩;refine⟨_,hs.rd 0 rfl rfl,?_⟩;refine⟨_,hs.rd 0 rfl rfl,?_⟩;refine⟨_,hs.rd 0 rfl rfl,?_⟩;refine aQ (fun c6=>?_) (fun c6=>?_);rotate_left;refine⟨_,hs.rd 1 rfl rfl,?_⟩;refine⟨_,hs.rd 1 rfl rfl,?_⟩;refine⟨_,hs.rd 2 rfl rfl,?_⟩;refine aQ (fun c7=>?_) (fun c7=>?_);rotate_left;refine⟨_,hs.rd 0 rfl rfl,?_⟩;refine⟨_,hs.rd 0 rfl rfl,?_⟩;refine⟨_,hs.rd 2 rfl rfl,?_⟩;refine aQ (fun c8=>?_) (fun c8=>?_);rotate_left;refine⟨_,hs.rd 0 rfl rfl,?_⟩;refine⟨_,hs.rd 0 rfl rfl,?_⟩;refine eh (fun c9=>?_) (fun c9=>?_);rotate_left;refine⟨_,hs.rd 0 rfl rfl,?_⟩;refine⟨_,hs.rd 2 rfl rfl,?_⟩;refine aQ (fun BZ=>?_) (fun BZ=>?_);rotate_left;exact Up.next Ou (by omega) ⟨hs.drop 2,fun j x hj hx=>by by_cases e:j=i19;(subst e;rw[g24] at hx;cases hx;unfold gN;omega);exact q19 j x (by omega) hx⟩;have Ou:=bd Ou;exact⟨dT ⟨by omega,by omega,fun x hx=>by obtain⟨j,hj⟩:=Yf.1 hx;exact q19 j x (by have:=(Ya.1 hj).1;omega) hj⟩,hs.ext⟩;all_goals first | exact⟨dF fun hG=>(by have:=hG.n;have:=hG.m;first | omega | (have:=hG.e _ (Yb g24);unfold gN at this;omega)),hs.ext⟩
def cI(i k:Nat)(x y:Ed):Prop:=(i≠k/\x.f=y.f/\((x.a=y.a/\x.b=y.b/\x.l=y.l)\/x.a≠y.a\/x.ag=true))\/(x.ag=true/\y.t=x.f/\(x.a≠y.a\/x.l≠y.l))
structure N8 (g:Gl):Prop where
 e:∀x∈g.es,x.f≠g.e
 s:∀x∈g.es,x.ag=true->x.f≠g.s
 p:∀i x,g.es[i]?=some x->∀k y,g.es[k]?=some y->¬cI i k x y
noncomputable instance (g:Gl):Decidable (N8 g):=Classical.propDecidable _
theorem AW(g:Gl)(h:Heap)(hg:GI h g):Fn Pz 91 #[g.v] h fun v h'=>v=.bool (decide (N8 g))/\Ext h h':=by
 apply WQ (bs g.nm) g.hr g.hd g.n g.s g.e g.he g.ht;unfold W91 NU Jv;have hs:=St.refl h;have hn:=hg.e.ln;have RB:=hg.e.sm;refine hs.aq fun h9 hs=>?_;refine⟨_,hs.rd 0 rfl rfl,?_⟩;refine aM (n:=g.he.n) hs (fun i11=>∀(j:Nat) (x:Ed),j<i11->g.es[j]?=some x->x.f≠g.e/\(x.ag=true->x.f≠g.s)/\∀k y,g.es[k]?=some y->¬cI j k x y) (fun j s hj=>by omega) ?_;rintro-i11 mq k11 ⟨hs,q11⟩;refine aa (fun Lg=>?_) (fun Lg=>?_);have Lg:=ba Lg;refine ((hg.e.ext hs.ext).rw).aF (by omega) (by omega) fun b16 XT d16 g16 t16=>?_;replace g16:_[i11]?=some d16:=g16;refine⟨_,_,_,_,_,_,t16,?_⟩;refine hs.ai rfl rfl fun h25 hs=>?_;refine⟨_,hs.rd 0 rfl rfl,?_⟩;refine⟨_,hs.rd 1 rfl rfl,?_⟩;refine eh (fun c1=>?_) (fun c1=>?_);rotate_left;refine⟨_,hs.rd 0 rfl rfl,?_⟩;refine aa (fun c2=>?_) (fun c2=>?_);refine⟨_,hs.rd 0 rfl rfl,?_⟩;refine⟨_,hs.rd 1 rfl rfl,?_⟩;refine eh (fun c3=>?_) (fun c3=>?_);rotate_left;refine⟨_,hs.rd 1 rfl rfl,?_⟩;refine aM (n:=g.he.n) hs (fun i32=>∀(k:Nat) (y:Ed),k<i32->g.es[k]?=some y->¬cI i11 k d16 y) (fun j s hj=>by omega) ?_;rintro-i32 fA k32 ⟨hs,q32⟩;refine aa (fun Oo=>?_) (fun Oo=>?_);have Oo:=ba Oo;refine ((hg.e.ext hs.ext).rw).aF (by omega) (by omega) fun b37 o38 d37 Wf t37=>?_;replace Wf:_[i32]?=some d37:=Wf;refine⟨_,_,_,_,_,_,t37,?_⟩;refine hs.ai rfl rfl fun oL hs=>?_;refine iC (fun c4=>?_) (fun c4=>?_);refine⟨_,hs.rd 1 rfl rfl,?_⟩;refine⟨_,hs.rd 0 rfl rfl,?_⟩;refine eh (fun c5=>?_) (fun c5=>?_);refine⟨_,_,_,hs.at 1 rfl (n:=3) rfl,?_⟩;refine⟨_,_,_,hs.at 0 rfl (n:=3) rfl,?_⟩;refine aa (fun c6=>?_) (fun c6=>?_);rotate_left;refine⟨_,hs.rd 1 rfl rfl,?_⟩;refine⟨_,hs.rd 0 rfl rfl,?_⟩;refine iC (fun c7=>?_) (fun c7=>?_);rotate_left;refine⟨_,hs.rd 1 rfl rfl,?_⟩;refine aa (fun c8=>?_) (fun c8=>?_);rotate_left;refine⟨_,hs.rd 1 rfl rfl,?_⟩;refine aa (fun c9=>?_) (fun c9=>?_);refine⟨_,hs.rd 0 rfl rfl,?_⟩;refine⟨_,hs.rd 1 rfl rfl,?_⟩;refine eh (fun BZ=>?_) (fun BZ=>?_);refine⟨_,hs.rd 1 rfl rfl,?_⟩;refine⟨_,hs.rd 0 rfl rfl,?_⟩;refine iC (fun TB=>?_) (fun TB=>?_);rotate_left;refine⟨_,hs.rd 1 rfl rfl,?_⟩;refine⟨_,hs.rd 0 rfl rfl,?_⟩;refine iC (fun c12=>?_) (fun c12=>?_);rotate_left;rotate_left;rotate_left;rotate_left;refine⟨_,hs.rd 1 rfl rfl,?_⟩;refine aa (fun c13=>?_) (fun c13=>?_);refine⟨_,hs.rd 0 rfl rfl,?_⟩;refine⟨_,hs.rd 1 rfl rfl,?_⟩;refine eh (fun c14=>?_) (fun c14=>?_);refine⟨_,hs.rd 1 rfl rfl,?_⟩;refine⟨_,hs.rd 0 rfl rfl,?_⟩;refine iC (fun c15=>?_) (fun c15=>?_);rotate_left;refine⟨_,hs.rd 1 rfl rfl,?_⟩;refine⟨_,hs.rd 0 rfl rfl,?_⟩;refine iC (fun c16=>?_) (fun c16=>?_);rotate_left;rotate_left;rotate_left;rotate_left;refine⟨_,hs.rd 1 rfl rfl,?_⟩;refine aa (fun c17=>?_) (fun c17=>?_);refine⟨_,hs.rd 0 rfl rfl,?_⟩;refine⟨_,hs.rd 1 rfl rfl,?_⟩;refine eh (fun c18=>?_) (fun c18=>?_);refine⟨_,hs.rd 1 rfl rfl,?_⟩;refine⟨_,hs.rd 0 rfl rfl,?_⟩;refine iC (fun c19=>?_) (fun c19=>?_);rotate_left;refine⟨_,hs.rd 1 rfl rfl,?_⟩;refine⟨_,hs.rd 0 rfl rfl,?_⟩;refine iC (fun c20=>?_) (fun c20=>?_);rotate_left;rotate_left;rotate_left;rotate_left;have Oo:=bd Oo;exact Up.next Lg (by omega) ⟨hs.drop 1,fun j x hj hx=>by by_cases e:j=i11;(subst e;rw[g16] at hx;cases hx;exact⟨c1,by first | exact fun _=>c3 | exact fun hc=>(by rw[c2] at hc;cases hc),by first | exact fun k y hk=>q32 k y (by have:=(Ya.1 hk).1;omega) hk | exact fun k y hk=>q90 k y (by have:=(Ya.1 hk).1;omega) hk⟩);exact q11 j x (by omega) hx⟩;refine⟨_,hs.rd 1 rfl rfl,?_⟩;refine aM (n:=g.he.n) hs (fun i90=>∀(k:Nat) (y:Ed),k<i90->g.es[k]?=some y->¬cI i11 k d16 y) (fun j s hj=>by omega) ?_;rintro-i90 h94 k90 ⟨hs,q90⟩;refine aa (fun Om=>?_) (fun Om=>?_);have Om:=ba Om;refine ((hg.e.ext hs.ext).rw).aF (by omega) (by omega) fun b95 o96 d95 Wd t95=>?_;replace Wd:_[i90]?=some d95:=Wd;refine⟨_,_,_,_,_,_,t95,?_⟩;refine hs.ai rfl rfl fun MA hs=>?_;refine iC (fun c21=>?_) (fun c21=>?_);refine⟨_,hs.rd 1 rfl rfl,?_⟩;refine⟨_,hs.rd 0 rfl rfl,?_⟩;refine eh (fun c22=>?_) (fun c22=>?_);refine⟨_,_,_,hs.at 1 rfl (n:=3) rfl,?_⟩;refine⟨_,_,_,hs.at 0 rfl (n:=3) rfl,?_⟩;refine aa (fun c23=>?_) (fun c23=>?_);rotate_left;refine⟨_,hs.rd 1 rfl rfl,?_⟩;refine⟨_,hs.rd 0 rfl rfl,?_⟩;refine iC (fun c24=>?_) (fun c24=>?_);rotate_left;refine⟨_,hs.rd 1 rfl rfl,?_⟩;refine aa (fun c25=>?_) (fun c25=>?_);rotate_left;refine⟨_,hs.rd 1 rfl rfl,?_⟩;refine aa (fun c26=>?_) (fun c26=>?_);refine⟨_,hs.rd 0 rfl rfl,?_⟩;refine⟨_,hs.rd 1 rfl rfl,?_⟩;refine eh (fun c27=>?_) (fun c27=>?_);refine⟨_,hs.rd 1 rfl rfl,?_⟩;refine⟨_,hs.rd 0 rfl rfl,?_⟩;refine iC (fun c28=>?_) (fun c28=>?_);rotate_left;refine⟨_,hs.rd 1 rfl rfl,?_⟩;refine⟨_,hs.rd 0 rfl rfl,?_⟩;refine iC (fun c29=>?_) (fun c29=>?_);rotate_left;rotate_left;rotate_left;rotate_left;refine⟨_,hs.rd 1 rfl rfl,?_⟩;refine aa (fun c30=>?_) (fun c30=>?_);refine⟨_,hs.rd 0 rfl rfl,?_⟩;refine⟨_,hs.rd 1 rfl rfl,?_⟩;refine eh (fun c31=>?_) (fun c31=>?_);refine⟨_,hs.rd 1 rfl rfl,?_⟩;refine⟨_,hs.rd 0 rfl rfl,?_⟩;refine iC (fun c32=>?_) (fun c32=>?_);rotate_left;refine⟨_,hs.rd 1 rfl rfl,?_⟩;refine⟨_,hs.rd 0 rfl rfl,?_⟩;refine iC (fun c33=>?_) (fun c33=>?_);rotate_left;rotate_left;rotate_left;rotate_left;refine⟨_,hs.rd 1 rfl rfl,?_⟩;refine aa (fun c34=>?_) (fun c34=>?_);refine⟨_,hs.rd 0 rfl rfl,?_⟩;refine⟨_,hs.rd 1 rfl rfl,?_⟩;refine eh (fun c35=>?_) (fun c35=>?_);refine⟨_,hs.rd 1 rfl rfl,?_⟩;refine⟨_,hs.rd 0 rfl rfl,?_⟩;refine iC (fun c36=>?_) (fun c36=>?_);rotate_left;refine⟨_,hs.rd 1 rfl rfl,?_⟩;refine⟨_,hs.rd 0 rfl rfl,?_⟩;refine iC (fun c37=>?_) (fun c37=>?_);rotate_left;rotate_left;rotate_left;rotate_left;have Om:=bd Om;exact Up.next Lg (by omega) ⟨hs.drop 1,fun j x hj hx=>by by_cases e:j=i11;(subst e;rw[g16] at hx;cases hx;exact⟨c1,by first | exact fun _=>c3 | exact fun hc=>(by rw[c2] at hc;cases hc),by first | exact fun k y hk=>q32 k y (by have:=(Ya.1 hk).1;omega) hk | exact fun k y hk=>q90 k y (by have:=(Ya.1 hk).1;omega) hk⟩);exact q11 j x (by omega) hx⟩;have Lg:=bd Lg;exact⟨dT ⟨fun x hx=>by obtain⟨j,hj⟩:=Yf.1 hx;exact (q11 j x (by have:=(Ya.1 hj).1;omega) hj).1,fun x hx=>by obtain⟨j,hj⟩:=Yf.1 hx;exact (q11 j x (by have:=(Ya.1 hj).1;omega) hj).2.1,fun i x hx=>(q11 i x (by have:=(Ya.1 hx).1;omega) hx).2.2⟩,hs.ext⟩;all_goals first | exact⟨dF fun hG=>(by first | exact hG.e _ (Yb g16) c1 | exact hG.s _ (Yb g16) c2 c3 | (refine hG.p _ _ g16 _ _ Wf ?_;clear hG q11 q32 t37 t16 hs hg;unfold cI;grind) | (refine hG.p _ _ g16 _ _ Wd ?_;clear hG q11 q90 t95 t16 hs hg;unfold cI;grind)),hs.ext⟩ | exact Up.next Oo (by omega) ⟨hs.drop 1,fun k y hk hy=>by by_cases e:k=i32;(subst e;rw[Wf] at hy;cases hy;clear q11 q32 t37 t16 hs hg;unfold cI;grind);exact q32 k y (by omega) hy⟩ | exact Up.next Om (by omega) ⟨hs.drop 1,fun k y hk hy=>by by_cases e:k=i90;(subst e;rw[Wd] at hy;cases hy;clear q11 q90 t95 t16 hs hg;unfold cI;grind);exact q90 k y (by omega) hy⟩
def jq(ts:List To)(i:Nat):Int:=if i=0 then -1 else match ts[i-1]? with | some t=>t.s | none=>-1
structure Wm (g:Gl) (i:Nat) (t:To):Prop where
 o:jq g.ts i<t.s
 k:1<=t.k/\t.k<=1000
 e:0<=t.e/\∃x,g.es[t.e.toNat]?=some x/\x.f=t.s/\x.ag=false
def vQ(g:Gl):Prop:=∀i t,g.ts[i]?=some t->Wm g i t
noncomputable instance (g:Gl):Decidable (vQ g):=Classical.propDecidable _
theorem nS{ts:List To}{i:Nat}{t:To}(h:ts[i]?=some t):jq ts (i+1)=t.s:=by
 unfold jq;rw[if_neg (by omega),Nat.add_sub_cancel,h]
theorem Hl(g:Gl)(h:Heap)(hg:GI h g):Fn Pz 92 #[g.v] h fun v h'=>v=.bool (decide (vQ g))/\Ext h h':=by
 apply WO (bs g.nm) g.hr g.hd g.n g.s g.e g.he g.ht;unfold W92;have hs:=St.refl h;have hn:=hg.t.ln;have bz:=hg.e.ln;have RB:=hg.t.sm;refine hs.aq fun h9 hs=>?_;refine⟨_,hs.rd 0 rfl rfl,?_⟩;refine⟨fun Ik Wx h' m=>∃i:Nat,Wx=i/\m=g.ht.n-i/\i<=g.ht.n/\St h h' [.af h.size g.cs 27]/\Ik=jq g.ts i/\∀j t,j<i->g.ts[j]?=some t->Wm g j t,⟨_,0,rfl,rfl,by omega,hs,rfl,fun j t hj=>by omega⟩,?_⟩;rintro-_ _ fR m ⟨i,rfl,rfl,hi,hs,rfl,q⟩;refine aQ (fun c1=>?_) (fun c1=>?_);refine ((hg.t.ext hs.ext).rw).aF (by omega) (by omega) fun Wk Oh d17 g17 t17=>?_;refine⟨_,_,_,t17,?_⟩;refine hs.ai rfl rfl fun qt hs=>?_;refine⟨_,hs.rd 0 rfl rfl,?_⟩;refine aQ (fun c2=>?_) (fun c2=>?_);rotate_left;refine⟨_,hs.rd 0 rfl rfl,?_⟩;refine aQ (fun c3=>?_) (fun c3=>?_);rotate_left;refine⟨_,hs.rd 0 rfl rfl,?_⟩;refine aQ (fun c4=>?_) (fun c4=>?_);rotate_left;refine⟨_,hs.rd 0 rfl rfl,?_⟩;refine aQ (fun c5=>?_) (fun c5=>?_);rotate_left;refine⟨_,hs.rd 0 rfl rfl,?_⟩;refine⟨_,hs.rd 1 rfl rfl,?_⟩;refine aQ (fun c6=>?_) (fun c6=>?_);rotate_left;refine⟨_,hs.rd 1 rfl rfl,?_⟩;refine⟨_,hs.rd 0 rfl rfl,?_⟩;refine ((hg.e.ext hs.ext).rw).aF (by omega) (by omega) fun b32 o33 d32 ER t32=>?_;refine⟨_,t32.hd,?_⟩;refine⟨_,hs.rd 0 rfl rfl,?_⟩;refine iC (fun c7=>?_) (fun c7=>?_);rotate_left;refine⟨_,hs.rd 1 rfl rfl,?_⟩;refine⟨_,hs.rd 0 rfl rfl,?_⟩;refine ((hg.e.ext hs.ext).rw).aF (by omega) (by omega) fun b38 o39 d38 g38 t38=>?_;refine⟨_,t38.nth 5 rfl,?_⟩;refine aa (fun c8=>?_) (fun c8=>?_);rotate_left;refine⟨_,hs.rd 0 rfl rfl,?_⟩;exact⟨_,by omega,i+1,by rw[aZ (by omega) (by omega)];omega,rfl,by omega,hs.drop 1,(nS g17).symm,fun j t hj hx=>by by_cases e:j=i;(subst e;rw[show g.ts[j]?=some d17 from g17] at hx;cases hx;exact⟨by omega,by omega,by omega,d32,ER,c7,by rw[g38] at ER;cases ER;exact c8⟩);exact q j t (by omega) hx⟩;exact⟨dT fun j t hx=>q j t (by have:=(Ya.1 hx).1;omega) hx,hs.ext⟩;all_goals first | exact⟨dF fun hG=>(by replace hG:=hG i _ g17;have ho:=hG.o;have hk:=hG.k;obtain⟨OL,x,hx,hf,bc⟩:=hG.e;have Ck:=(Ya.1 hx).1;first | omega | (rw[ER] at hx;cases hx;first | exact c7 hf | (rw[g38] at ER;cases ER;rw[c8] at bc;cases bc))),hs.ext⟩
theorem jv:cn Pz 102 3 1 8=true:=by kernel_rfl
theorem cy(L:List Int):∀r∈L.map a6,r.length=1:=fun r hr=>by obtain⟨x,_,rfl⟩:=Yp.1 hr;rfl
theorem D6(L:List Int)(x:Int)(s:Sl)(h:Heap)(hr:Rw h 1 s (L.map a6))(hm:L.length<=1048576):
  Fn Pz 163 #[.slice s.a s.n s.c,.int .i64 x] h fun v h'=>(∃k:Int,v=.int .i64 k/\decide (k>=0)=decide (x∈L))/\h'=h:=by
 apply Qq;unfold UK;have hn:=hr.ln;refine cQ (n:=s.n) (fun i h'=>h'=h/\∀(j:Nat) (y:Int),j<i->L[j]?=some y->decide (x=y)=false) ⟨rfl,fun j y hj=>by omega⟩ ?_;rintro-i h5 hi ⟨rfl,hd⟩;refine aa (fun l=>?_) (fun l=>?_)
 .replace l:=ba l;refine hr.aF (by omega) (by omega) fun b o d g t=>?_;replace g:L[i]?=some d:=g;refine⟨_,t.hd,?_⟩;refine eh (fun he=>?_) (fun bz=>?_)
  .exact⟨⟨_,rfl,by rw[decide_eq_true (show (i:Int)>=0 by omega),decide_eq_true (by rw[he];exact Yb g)]⟩,rfl⟩
  .exact Up.next l (by omega) ⟨rfl,dn (p:=fun y=>decide (x=y)) g (decide_eq_false bz) hd⟩
 .replace l:=bd l;refine⟨⟨_,rfl,?_⟩,rfl⟩;rw[decide_eq_false (show ¬((-1:Int)>=0) by omega),decide_eq_false];intro hm;obtain⟨j,hj⟩:=Yf.1 hm;exact eB (hd j _ (by have:=(Ya.1 hj).1;omega) hj) rfl
theorem Kt(L:List Int)(x:Int)(s:Sl)(h:Heap)(hr:Rw h 1 s (L.map a6))(hm:L.length<=1048576):
  Fn Pz 93 #[.slice s.a s.n s.c,.int .i64 x] h fun v h'=>v=.bool (decide (x∈L))/\h'=h:=by
 apply WN;unfold W93;refine (D6 L x s h hr hm).mono ?_;rintro v h3 ⟨⟨k,rfl,hk⟩,rfl⟩;exact⟨_,rfl,by rw[hk],rfl⟩
theorem tg(g:Gl)(src:Int)(bk:Bool)(h:Heap)(hg:GI h g)(hN:vT g)(h0:0<=src)(h1:src<g.n):
  Fn Pz 94 #[g.v,.int .i64 src,.bool bk] h fun v h'=>Ext h h'/\∃(s:Sl) (D:List Int),v=.slice s.a s.n s.c/\b9 h' h.size 3 1 s (D.map a6).flatten/\BF g.es bk g.n.toNat src D []:=by
 apply WM (bs g.nm) g.hr g.hd g.n g.s g.e g.he g.ht;unfold W94;have hs:=St.refl h;have hn:=hg.e.ln;have hb:=hN.n;have he:=hN.e;have hm:=hN.m;refine hs.aq fun h9 hs=>?_;refine hs.aq fun cA hs=>?_;refine⟨_,hs.rd 1 rfl rfl,?_⟩;refine (tB g.n (by omega) (by omega) _ cA (hs.rd 0 rfl rfl)).mono ?_;rintro _ zu ⟨Vk,CE,rfl,ho⟩;replace hs:=hs.EP Vk ho (cy _);refine⟨_,rfl,?_⟩;have hxn:=(hs.rows 0 rfl (by omega)).ln;rw[Yg] at hxn;refine hs.set 0 rfl (by omega) h0 (by omega) 0 rfl rfl (fun b15 Oi Mu hs=>?_) rfl;refine hs.aq fun xB hs=>?_;have hs:=(hs.fx 1 1 [[.int .i64 src]] rfl (by simp) rfl (by decide)).toQ (by omega);have bf0:BF g.es bk g.n.toNat src ((List.replicate g.n.toNat (-1:Int)).set src.toNat 0) [src]:=BF.start h0 (by omega) (by omega);refine⟨fun todo h' m=>∃(D T:List Int),St h h' [.q todo 3 1 (T.map a6),.sl CE 3 1 (D.map a6),.af h9.size [.int .i64 (-1)] 3,.af h.size g.cs 27]/\BF g.es bk g.n.toNat src D T/\m=2*D.count (-1)+T.length/\m<=401,⟨_,_,[src],hs,bf0,rfl,?_⟩,?_⟩
 .have:List.count (-1) ((List.replicate g.n.toNat (-1:Int)).set src.toNat 0)<=_:=List.count_le_length;rw[mF,Yg] at this;rw[Yv];omega
 rintro-todo_22 qt m ⟨D,T,hs,bf,rfl,Em⟩;have hq:=(hs.Ra 0 rfl).1;rw[Yc] at hq;refine aQ (fun c1=>?_) (fun c1=>?_)
 .refine⟨_,hs.rd 3 rfl rfl,?_⟩;obtain⟨a0,R0,rfl⟩:∃a R,T=a::R:=by cases T with
   | nil=>simp at hq;omega
   | cons a R=>exact⟨a,R,rfl⟩
  refine⟨fun todo x h' m=>∃(i:Nat) (D' R:List Int),x=i/\m=g.he.n-i/\i<=g.he.n/\St h h' [.q todo 3 1 ((a0::R).map a6),.sl CE 3 1 (D'.map a6),.af h9.size [.int .i64 (-1)] 3,.af h.size g.cs 27]/\BF g.es bk g.n.toNat src D' (a0::R) /\
   (∀(j:Nat) (x:Ed),j<i->g.es[j]?=some x->CV bk x=a0->kX D' (Fi bk x))/\2*D'.count (-1)+R.length+1<=2*D.count (-1)+(a0::R0).length,⟨_,0,D,R0,rfl,rfl,by omega,hs,bf,fun j x hj=>by omega,by rw[mD];omega⟩,?_⟩
  rintro-todo_28 _ Ky _ ⟨i,D',R,rfl,rfl,hi,hs,bf,hdone,hmea⟩;have hq:=(hs.Ra 0 rfl);rw[Yc,mD] at hq;have hlD:=bf.len;have abM:=(hs.rows 1 rfl (by omega)).ln;refine aQ (fun c2=>?_) (fun c2=>?_)
  .have l2:i<g.he.n:=by omega
   refine (hg.e.ext hs.ext).rw.aF (by omega) (by omega) fun b31 o32 d31 SY t31=>?_;replace SY:g.es[i]?=some d31:=SY;have hE:=he d31 (Yb SY);unfold gN at hE;refine⟨_,_,_,_,_,_,t31,?_⟩;refine hs.ai (vs:=d31.cs) rfl rfl fun uU hs=>?_;refine⟨_,hs.rd 0 rfl rfl,?_⟩;refine⟨_,hs.rd 0 rfl rfl,?_⟩;refine⟨fun a b h'=>St h h' [.af Ky.size d31.cs 67,.q todo_28 3 1 ((a0::R).map a6),.sl CE 3 1 (D'.map a6),.af h9.size [.int .i64 (-1)] 3,.af h.size g.cs 27]/\a=CV bk d31/\b=Fi bk d31,?_,?_⟩
   .cases bk
    .exact⟨hs,rfl,rfl⟩
    .exact⟨hs,rfl,rfl⟩
   .rintro-a b oL ⟨hs,ha,EB⟩;have ha0:0<=a/\a<g.n/\0<=b/\b<g.n:=by rw[ha,EB];unfold CV Fi;cases bk<;>simp<;>omega
    have DC:∀ {todo:Sl} {h':Heap} {D2 R2:List Int},St h h' [.af Ky.size d31.cs 67,.q todo 3 1 ((a0::R2).map a6),.sl CE 3 1 (D2.map a6),.af h9.size [.int .i64 (-1)] 3,.af h.size g.cs 27]->BF g.es bk g.n.toNat src D2 (a0::R2) ->
      (∀v,kX D' v->kX D2 v)->(a=a0->kX D2 b)->2*D2.count (-1)+R2.length+1<=2*D.count (-1)+(a0::R0).length ->
      ∃m,m<g.he.n-i/\∃(i2:Nat) (D' R:List Int),IntKind.wrap .i64 ((i:Int)+1)=i2/\m=g.he.n-i2/\i2<=g.he.n/\St h h' [.q todo 3 1 ((a0::R).map a6),.sl CE 3 1 (D'.map a6),.af h9.size [.int .i64 (-1)] 3,.af h.size g.cs 27]/\BF g.es bk g.n.toNat src D' (a0::R) /\
       (∀(j:Nat) (x:Ed),j<i2->g.es[j]?=some x->CV bk x=a0->kX D' (Fi bk x))/\2*D'.count (-1)+R.length+1<=2*D.count (-1)+(a0::R0).length:=by
     intro todo h' D2 R2 cp Nr RZ Sp mi;refine⟨_,by omega,i+1,D2,R2,by rw[aZ (by omega) (by omega)];omega,rfl,by omega,cp.drop 1,Nr,fun j x hj hx RA=>?_,mi⟩;by_cases e:j=i
     .subst e;rw[SY] at hx;cases hx;rw[<-EB];exact Sp (by rw[ha,RA])
     .exact RZ _ (hdone j x (by omega) hx RA)
    refine (hs.qrw 1 rfl (by omega)).aF (cs:=a6) (L:=a0::R) (by omega) (by omega) fun b47 o48 d47 g47 t47=>?_;have ed:a0=d47:=by simpa using g47
    subst ed;refine⟨_,t47.hd,?_⟩;refine eh (fun c4=>?_) (fun c4=>?_)
    .subst c4;have VF:kX D' a:=bf.t a (by simp);obtain⟨_,da,OM,LX⟩:=VF;refine (hs.rows 2 rfl (by omega)).aF (by omega) (by omega) fun b50 o51 db We t50=>?_;refine⟨_,t50.hd,?_⟩;refine aQ (fun c5=>?_) (fun c5=>?_)
     .refine (hs.rows 2 rfl (by omega)).aF (by omega) (by omega) fun b53 o54 d53 g53 t53=>?_;rw[OM] at g53;cases g53;refine⟨_,t53.hd,?_⟩;have Zv:Wv g.es bk a b:=⟨d31,Yb SY,ha.symm,EB.symm⟩;obtain⟨Nr,IE,uN,hd2⟩:=bf.push ⟨by omega,da,OM,LX⟩ OM (by omega) We c5 Zv;rw[aZ (n:=da+1) (by omega) (by omega)];refine hs.set 2 rfl (by omega) (by omega) (by omega) (da+1) rfl rfl (fun b56 o57 ZN hs=>?_) rfl;have ew:D'.count (-1)<=D'.length:=List.count_le_length;have hRl:R.length<=2000:=by omega
      refine hs.XI 1 rfl jv (m:=1) [[.int .i64 b]] rfl rfl (by omega) (by simp) rfl (by omega) (by simp only[maxLen];omega) fun Og Mn abI hs=>?_;have dW:St h Mn [.af Ky.size d31.cs 67,.q Og 3 1 ((a::(R++[b])).map a6),.sl CE 3 1 ((D'.set b.toNat (da+1)).map a6),.af h9.size [.int .i64 (-1)] 3,.af h.size g.cs 27]:=by
       have e:(a::(R++[b])).map a6=(a::R).map a6++[[.int .i64 b]]:=by simp[a6]
       rw[e];exact hs
      refine DC dW Nr (fun v hv=>(iy (by omega) (by have:=(Ya.1 We).1;omega) (by omega)).2 (.inr hv)) (fun _=>(iy (by omega) (by have:=(Ya.1 We).1;omega) (by omega)).2 (.inl rfl)) ?_;rw[Yh,Yv];omega
     .exact DC hs bf (fun v hv=>hv) (fun _=>⟨by omega,db,We,by omega⟩) hmea
    .exact DC hs bf (fun v hv=>hv) (fun e=>absurd e c4) hmea
  .refine⟨⟨by omega,by omega,by omega⟩,?_⟩;rw[kf] at hs;refine⟨_,?_,D',R,hs.Q9,?_,rfl,?_⟩
   .rw[mD] at hmea ⊢;omega
   rotate_left
   .omega
   .refine⟨bf.len,bf.src,bf.r,fun t ht=>bf.t t (Yn _ ht),fun v w hv El VD=>?_,bf.b⟩;by_cases VF:v=a0
    .subst VF;obtain⟨x,hx,h3,h4⟩:=VD;obtain⟨j,hj⟩:=Yf.1 hx;rw[<-h4];exact hdone j x (by have:=(Ya.1 hj).1;omega) hj h3
    .exact bf.c v w hv (by rw[Yr,not_or];exact⟨VF,El⟩) VD
 .have:T=[]:=List.length_eq_zero_iff.1 (by omega);subst this;exact⟨hs.ext,CE,D,rfl,hs.SS 1 rfl,bf⟩
structure ae (g:Gl):Prop where
 GW:sE g
 num:vT g
 dcl:jy g.ds
 ord:N8 g
 Hn:vQ g
 fwd:∀v:Int,0<=v->v<g.n->eV g.es false g.s v
 bwd:∀v:Int,0<=v->v<g.n->eV g.es true g.e v
noncomputable instance (g:Gl):Decidable (ae g):=Classical.propDecidable _
theorem mT(g:Gl)(h:Heap)(hg:GI h g)(hx:Gm h):Fn Pz 40 #[g.v] h fun v h'=>v=.bool (decide (ae g))/\Ext h h':=by
 apply Xh (bs g.nm) g.hr g.hd g.n g.s g.e g.he g.ht;unfold W40;have hs:=St.refl h;refine hs.aq fun h9 hs=>?_;refine⟨_,_,_,_,_,_,_,_,hs.at 0 rfl (n:=8) rfl,?_⟩;refine (HV g _ (hg.ext hs.ext)).mono ?_;rintro _ aA ⟨rfl,Eh20⟩;replace hs:=hs.step Eh20;refine⟨_,rfl,?_⟩;refine aa (fun c1=>?_) (fun c1=>?_)
 .skip
  refine⟨_,_,_,_,_,_,_,_,hs.at 0 rfl (n:=8) rfl,?_⟩;refine (wN g _ (hg.ext hs.ext)).mono ?_;rintro _ IM ⟨rfl,Eh31⟩;replace hs:=hs.step Eh31;refine⟨_,rfl,?_⟩;refine aa (fun c2=>?_) (fun c2=>?_)
  .skip
   refine⟨_,hs.rd 0 rfl rfl,?_⟩;refine (xP g.ds _ _ (hg.d.ext hs.ext) (hx.ext hs.ext)).mono ?_;rintro _ bx ⟨rfl,Eh35⟩;replace hs:=hs.step Eh35;refine⟨_,rfl,?_⟩;refine aa (fun c3=>?_) (fun c3=>?_)
   .skip
    refine⟨_,_,_,_,_,_,_,_,hs.at 0 rfl (n:=8) rfl,?_⟩;refine (AW g _ (hg.ext hs.ext)).mono ?_;rintro _ oL ⟨rfl,Eh46⟩;replace hs:=hs.step Eh46;refine⟨_,rfl,?_⟩;refine aa (fun c4=>?_) (fun c4=>?_)
    .skip
     refine⟨_,_,_,_,_,_,_,_,hs.at 0 rfl (n:=8) rfl,?_⟩;refine (Hl g _ (hg.ext hs.ext)).mono ?_;rintro _ wk ⟨rfl,Eh57⟩;replace hs:=hs.step Eh57;refine⟨_,rfl,?_⟩;refine aa (fun c5=>?_) (fun c5=>?_)
     .skip
      refine⟨_,_,_,_,_,_,_,_,hs.at 0 rfl (n:=8) rfl,?_⟩;refine⟨_,hs.rd 0 rfl rfl,?_⟩;refine (tg g _ _ _ (hg.ext hs.ext) (bM c2) (by have:=(bM c2).n;omega) (by have:=(bM c2).n;omega)).mono ?_;rintro _ V4 ⟨E69,x68,D,rfl,ho,bf⟩;replace hs:=hs.EP E69 ho (cy _);refine⟨_,rfl,?_⟩;refine (Kt _ _ _ _ (hs.rows 0 rfl (by omega)) (by have:=bf.len;have:=(bM c2).n;omega)).mono ?_;rintro _ Mm ⟨rfl,rfl⟩;refine⟨_,rfl,?_⟩;refine aa (fun c6=>?_) (fun c6=>?_)
      .skip
       refine⟨_,_,_,_,_,_,_,_,hs.at 1 rfl (n:=8) rfl,?_⟩;refine⟨_,hs.rd 1 rfl rfl,?_⟩;refine (tg g _ _ _ (hg.ext hs.ext) (bM c2) (by have:=(bM c2).n;omega) (by have:=(bM c2).n;omega)).mono ?_;rintro _ h84 ⟨E84,Hg,D2,rfl,OH,Nr⟩;replace hs:=hs.EP E84 OH (cy _);refine⟨_,rfl,?_⟩;refine (Kt _ _ _ _ (hs.rows 0 rfl (by omega)) (by have:=Nr.len;have:=(bM c2).n;omega)).mono ?_;rintro _ xw ⟨rfl,rfl⟩;refine⟨_,rfl,?_⟩;refine⟨?_,hs.ext⟩;have hN:=(bM c2).n;have h1:∀v:Int,0<=v->v<g.n->eV g.es false g.s v:=by
        intro v h0 h2;apply Classical.byContradiction;intro h3;have h4:(-1:Int)∈D:=bf.all.2 fun ch=>h3 (ch v h0 (by omega));rw[decide_eq_true h4] at c6;cases c6
       by_cases h2:∀v:Int,0<=v->v<g.n->eV g.es true g.e v
       .have h4:¬((-1:Int)∈D2):=fun hm=>Nr.all.1 hm fun v h0 h3=>h2 v h0 (by omega);rw[decide_eq_false h4,decide_eq_true (show ae g from ⟨bM c1,bM c2,bM c3,bM c4,bM c5,h1,h2⟩)];rfl
       .have h4:(-1:Int)∈D2:=Nr.all.2 fun ch=>h2 fun v h0 h3=>ch v h0 (by omega);rw[decide_eq_true h4,decide_eq_false (fun hG:ae g=>h2 hG.bwd)];rfl
      .skip
       exact⟨dF fun hG=>by have h1:=bf.all.1 (by simpa using c6);exact h1 fun v h0 h2=>hG.fwd v h0 (by omega),hs.ext⟩
     .skip
      exact⟨dF fun hG=>eB c5 hG.Hn,hs.ext⟩
    .skip
     exact⟨dF fun hG=>eB c4 hG.ord,hs.ext⟩
   .skip
    exact⟨dF fun hG=>eB c3 hG.dcl,hs.ext⟩
  .skip
   exact⟨dF fun hG=>eB c2 hG.num,hs.ext⟩
 .skip
  exact⟨dF fun hG=>eB c1 hG.GW,hs.ext⟩
def Xz(b:Nat)(ws:List Nat):It:=.af b (ws.map wC).flatten 144
instance {α:Type}:Inhabited (Sl × List α):=⟨⟨⟨none,0,0⟩,[]⟩⟩
theorem JZ(n:Nat):ah Pz 4 n=(List.replicate n false).map Value.bool:=by
 have e:bL Pz 4=[.bool false]:=by kernel_rfl
 unfold ah;rw[e,List.map_replicate]
 induction n with
 | zero=>rfl
 | succ n ih=>rw[List.replicate_succ,List.replicate_succ,ss,ih];rfl
theorem nM(x:Int)(h:Heap):Fn Pz 111 #[.int .i64 x] h fun v h'=>v=.bool false/\h'=h:=by
 apply CI;unfold FY;exact⟨by rw[bne_self_eq_false],rfl⟩
theorem dh(x y:Int)(h:Heap):Fn Pz 54 #[.int .i64 x,.int .i64 y] h fun v h'=>v=.int .i64 (bK x y)/\h'=h:=by
 apply KL;unfold TI;refine (nM x h).mono ?_;rintro _ _ ⟨rfl,rfl⟩;refine⟨_,rfl,?_⟩;refine (nM y _).mono ?_;rintro _ _ ⟨rfl,rfl⟩;refine⟨_,rfl,?_⟩;refine iX rfl (iX rfl ?_);unfold bK;refine aQ (fun c=>?_) (fun c=>aQ (fun d=>?_) (fun d=>?_))
 .exact⟨by rw[if_pos c],rfl⟩
 .exact⟨by rw[if_neg c,if_pos d],rfl⟩
 .exact⟨by rw[if_neg c,if_neg d],rfl⟩
theorem nI(l:List Int)(s:Sl)(h:Heap)(hr:Rw h 1 s (l.map a6))(hm:l.length<=1048576):
  Fn Pz 53 #[.slice s.a s.n s.c] h fun v h'=>v=.int .i64 (l.foldr di 0)/\h'=h:=by
 apply KM;unfold TJ;have hn:=hr.ln;refine cQ (n:=s.n) (fun i h'=>h'=h/\l.foldr di 0=(l.drop i).foldr di 0) ⟨rfl,rfl⟩ ?_;rintro-i h5 hi ⟨rfl,hq⟩;refine aa (fun l2=>?_) (fun l2=>?_)
 .replace l2:=ba l2;refine hr.aF (by omega) (by omega) fun b o d g t=>?_;replace g:l[i]?=some d:=g;have hd:l.drop i=d::l.drop (i+1):=by
   obtain⟨hl,he⟩:=Ya.1 g;rw[List.drop_eq_getElem_cons hl,he]
  rw[hd,List.foldr_cons] at hq;refine⟨_,t.hd,?_⟩;refine iC (fun c=>?_) (fun c=>?_)
  .refine⟨?_,rfl⟩;rw[hq];unfold di;rw[if_pos c]
  .refine Up.next l2 (by omega) ⟨rfl,?_⟩;rw[hq];unfold di;rw[if_neg (by omega)]
 .replace l2:=bd l2;rw[List.drop_eq_nil_of_le (by omega)] at hq;exact⟨by rw[hq];rfl,rfl⟩
theorem pM(es:List Ed)(role:Int):∀(l:List Nat),l.Nodup->(l.flatMap fun n=>gB es role n).length<=es.length
 | l,hl=>by
  induction es with
  | nil=>
   have key:∀l:List Nat,(l.flatMap fun n=>gB [] role n)=[]:=by
    intro l
    induction l with
    | nil=>rfl
    | cons a l ih=>rw[List.flatMap_cons,ih];rfl
   rw[key];exact aY _
  | cons x es ih=>
   have h1:∀n,(gB (x::es) role n).length=(gB es role n).length+(if x.f=(n:Int) then (if (bm role x).isSome then 1 else 0) else 0):=fun n=>by
    unfold gB;rw[List.filterMap_cons];by_cases h:x.f=(n:Int)
    .rw[if_pos h,if_pos h];cases bm role x<;>simp
    .rw[if_neg h,if_neg h];rfl
   have h2:∀l:List Nat,l.Nodup->(l.flatMap fun n=>gB (x::es) role n).length<=(l.flatMap fun n=>gB es role n).length+1:=by
    intro l hl;have h3:∀l:List Nat,l.Nodup->(l.flatMap fun n=>gB (x::es) role n).length<=(l.flatMap fun n=>gB es role n).length+(if x.f.toNat∈l then 1 else 0):=by
     intro l
     induction l with
     | nil=>simp
     | cons a l ihl=>
      intro Iy;obtain⟨Ek,Iy⟩:=List.nodup_cons.1 Iy;have h4:=ihl Iy;rw[List.flatMap_cons,List.flatMap_cons,Yh,Yh,h1];by_cases hx:x.f=(a:Int)
      .have Vz:x.f.toNat=a:=by omega
       rw[Vz,if_neg Ek] at h4;rw[if_pos hx,Vz,if_pos (Yx:a∈a::l)];split<;>omega
      .rw[if_neg hx];have:(if x.f.toNat∈l then 1 else 0)<=(if x.f.toNat∈a::l then 1 else 0):=by
        split
        .rw[if_pos (by simp_all)];omega
        .omega
       omega
    have:=h3 l hl;split at this<;>omega
   have:=h2 l hl;rw[mD];omega
theorem vg(p:Nat->Bool):(elems p).Nodup:=List.Nodup.sublist List.filter_sublist List.nodup_range
theorem rZ{α β:Type}(L:List Nat)(f:Nat->List α)(g:α->β):(L.flatMap fun n=>(f n).map g).length=(L.flatMap f).length:=by
 induction L with
 | nil=>rfl
 | cons a L ih=>rw[List.flatMap_cons,List.flatMap_cons,Yh,Yh,ih,Yc]

theorem Qr.lt{g:Gl}{role:Int}{l:List Int}(hV:ae g)(hl:∀x∈l,0<=x/\x<g.n){a:Int}(h:Qr g.es role l a):0<=a/\a<g.n:=by
 induction h with
 | base hm=>exact hl _ hm
 | step _ hx _=>
  obtain⟨x,hx,_,_,rfl⟩:=hx;have:=hV.num.e x hx;unfold gN at this;omega
theorem Fv{g:Gl}{role:Int}{l:List Int}(hV:ae g)(hl:∀x∈l,0<=x/\x<g.n)(j:Nat)(h:oM g.es role l j=true):(j:Int)<g.n:=((fh.1 h).lt hV hl).2
theorem MJ(es:List Ed)(role:Int)(p:Nat->Bool):(MM es role p).length<=es.length:=by
 unfold MM;rw[rZ];exact pM es role (elems p) (vg p)
theorem uv(x:Ev):∀l:List Ev,(mN x l).length<=l.length+1
 | []=>by simp[mN]
 | y::r=>by
  rw[mN];split
  .have:=uv x r;simp only[mD];omega
  .split<;>simp
theorem AH(l:List Ev):(gS l).length<=l.length:=by
 unfold gS
 induction l with
 | nil=>simp
 | cons a l ih=>rw[List.foldr_cons,mD];have:=uv a (l.foldr mN []);omega
noncomputable def aH(g:Gl)(role st:Int):List Ev:=zz g.es role (oM g.es role [st])
noncomputable def bP(g:Gl)(role st:Int):Bool:=oM g.es role [st] g.e.toNat
structure SE where
 b:Nat
 k:Nat
 ws:List Nat
 p:dv
def SE.hd(e:SE):List Value:=[.slice (some ⟨e.b,0,none⟩) e.k e.k]
def SE.s(e:SE):Sl:=⟨some ⟨e.b,0,none⟩,e.k,e.k⟩
def SE.it(e:SE):It:=Xz e.b e.ws
def bC(b:Bool):List Value:=[.bool b]
theorem St.join{h0 h1 h:Heap}{Jy pK:List It}(jW:St h0 h1 Jy)(cp:St h1 h pK):St h0 h (Jy++pK):=by
 have h3:=jW.step cp.ext;refine⟨h3.ext,fun i hi=>?_,List.pairwise_append.2 ⟨h3.ap,cp.ap,fun i hi j hj b hb hc=>?_⟩⟩
 .rcases Yk.1 hi with hi | hi
  .exact h3.ok i hi
  .exact⟨(cp.ok i hi).1,fun b hb=>mQ jW.ext.1 ((cp.ok i hi).2 b hb)⟩
 .have h4:=(jW.ok i hi).1.lt hb;have h5:=(cp.ok j hj).2 b hc;omega
theorem IZ{g:Gl}{role:Int}{p:dv}(hV:ae g):(zz g.es role p).length<=400:=by
 have h1:=AH (MM g.es role p);have h2:=MJ g.es role p;have h3:=hV.num.m;show (gS _).length<=400;omega
theorem DU(n:Nat):ah Pz 4 n=((List.replicate n false).map bC).flatten:=by
 have e:bL Pz 4=[.bool false]:=by kernel_rfl
 unfold ah;rw[e,List.map_replicate];rfl
theorem qX{n i k:Nat}(h:(List.range n)[i]?=some k):i=k/\i<n:=by
 obtain⟨h1,h2⟩:=Ya.1 h;rw[List.getElem_range] at h2;rw[mG] at h1;exact⟨h2,h1⟩
noncomputable def vwG(g:Gl)(role:Int):List Nat->Option Ti:=Pl (fun j:Nat=>aH g role j) (fun j:Nat=>bP g role j) (KZ g.es role g.n.toNat).1 (XK g.es g.ts role g.n.toNat)
noncomputable def raw(g:Gl)(role:Int):Option kY × Int:=
 if ¬(ae g/\0<=role/\role<g.rs.length) then (none,1) else
 match views g role with
 | none=>(none,6)
 | some (S,M)=>if M.length>400 then (none,6) else
  match Q8 (vwG g role) 0 S M [] with
  | none=>(none,18)
  | some (M',L)=>(some ⟨role,S.length,0,S.map (fun p=>p g.e.toNat),M',L⟩,0)
def m0:List Value:=[.int .i64 0,.int .i64 0,.int .i64 0,.slice none 0 0,.slice none 0 0,.slice none 0 0]
def mC(m:kY)(sf sm sl:Sl):List Value:=[.int .i64 m.role,.int .i64 m.n,.int .i64 m.s,.slice sf.a sf.n sf.c,.slice sm.a sm.n sm.c,.slice sl.a sl.n sl.c]
end Go.VC
end

section
namespace Go.VC
open Go.Proofs Go.Maps
theorem nT{P:Program}{d t:Nat}{q:IntKind}{n:Int}(hu:P.underlying t=some (.int q))(hw:(Lit.int q n).wf=true):P.keyLits (d+1) t [.int q n]=some [.int q n]:=by simp[Program.keyLits,hu,hw]
theorem qb{P : Program}{d t : Nat}{fs : Array Field}{cs : List Value}(hu : P.underlying t = some (.struct fs))(hl : cs.length = P.cellsOf t)(hn : fs.all (·.name != "_") = true){l : List (TypeId × Nat)}(hf : fs.toList.map (fun f => (f.type, f.offset)) = l)
  {r:List (List Lit)} (hr:l.mapM (fun q=>P.keyLits d q.1 ((cs.drop q.2).take (P.cellsOf q.1)))=some r):P.keyLits (d+1) t cs=some r.flatten:=by
 have e:fs.toList.mapM (fun f=>P.keyLits d f.type ((cs.drop f.offset).take (P.cellsOf f.type)))=some r:=by
  rw[<-hr,<-hf,List.mapM_map];rfl
 unfold Program.keyLits;simp only[hu];rw[if_pos ⟨hl,hn⟩,e];rfl
def Rp(n:Int):Prop:=-9223372036854775808<=n/\n<=9223372036854775807
theorem Rp.wf{n:Int}(h:Rp n):(Lit.int .i64 n).wf=true:=by
 unfold Lit.wf;simp only[Yt,decide_eq_true_eq];have e1:IntKind.i64.min=-9223372036854775808:=by decide
 have e2:IntKind.i64.max=9223372036854775807:=by decide
 rw[e1,e2];exact h
theorem u3:Pz.underlying 3=some (.int .i64):=by kernel_rfl
theorem u4:Pz.underlying 4=some .bool:=by kernel_rfl
theorem su{P : Program}{t : Nat}{l : List (TypeId × Nat)}(h : (match P.underlying t with | some (.struct fs) => decide (fs.toList.map (fun f => (f.type, f.offset)) = l) && fs.all (·.name != "_") | _ => false) = true):
  ∃ fs, P.underlying t = some (.struct fs) /\ fs.all (·.name != "_") = true /\ fs.toList.map (fun f => (f.type, f.offset)) = l := by
 split at h
 .rename_i fs hu;simp only[Yt,decide_eq_true_eq] at h;exact⟨fs,hu,h.2,h.1⟩
 .cases h
theorem c3:Pz.cellsOf 3=1:=by kernel_rfl
theorem c4:Pz.cellsOf 4=1:=by kernel_rfl
theorem xi:laidOutB Pz=true:=by kernel_rfl
end Go.VC
end

section

end

section
namespace Go.VC
open Go.Proofs Go.LexS

def mM(c:Nat):Value:=.int .i64 (c:Int)
theorem getD_some{α:Type}{l:List α}{i:Nat}{d x:α}(h:l[i]?=some x):l.getD i d=x:=by rw[Yo,h];rfl
end Go.VC
end

section
namespace Go.VC

end Go.VC
end

section
namespace Go.VC
open Go.Proofs Go.LexS
theorem St.lF{α:Type}{h0 h:Heap}{A B:List It}{Q:List (Sl × List α)}{e:TypeId}{n:Nat}{cs:α->List Value}(hs:St h0 h (A++Q.map (nest e n cs)++B)){i:Nat}{q:Sl × List α}(hi:Q[i]?=some q)(hn:0<n):Rw h n q.1 (q.2.map cs):=by
 have wh:i<(Q.map (nest e n cs)).length:=by rw[Yc];exact (Ya.1 hi).1
 exact hs.rw (A.length+i) (rows:=q.2.map cs) (by rw[rV wh,Yd,hi];rfl) hn
def aK(L:List Nat):List Int:=L.map fun c:Nat=>(c:Int)
theorem iE(L:List Nat)(c:Nat):aK (L++[c])=aK L++[(c:Int)]:=by unfold aK;rw[Ym];rfl
theorem bS{L:List Nat}{i:Nat}{d:Int}(h:(aK L)[i]?=some d):∃c:Nat,L[i]?=some c/\d=c:=by
 unfold aK at h;rw[Yd] at h;obtain⟨c,hc,rfl⟩:=zL.1 h;exact⟨c,hc,rfl⟩
end Go.VC
end

section
namespace Go.VC
open Go.LexS

end Go.VC
end

section
namespace Go.VC
open Go.Proofs Go.LexS

end Go.VC
end

section
namespace Go.VC
open Go.LexS

end Go.VC
end

section
namespace Go.VC
open Go.Proofs Go.LexS
def k8(x:Nm):Dc:=⟨x,⟨none,0,0⟩,0,⟨none,0,0⟩,⟨none,0,0⟩,[],[],[]⟩
def cm:Bool->List Ed
 | true=>[⟨0,0,1,0,1,false⟩,⟨0,0,1,1,2,false⟩,⟨1,1,2,0,3,false⟩,⟨2,1,2,1,4,false⟩,⟨3,2,1,2,5,false⟩,⟨4,2,1,3,5,false⟩]
 | false=>[⟨0,0,1,0,1,false⟩,⟨0,0,1,1,2,false⟩,⟨1,2,1,2,3,false⟩,⟨2,2,1,3,3,false⟩]
def cK(b:Bool)(hr hd he ht:Sl):Gl:=⟨[101],hr,hd,if b then 6 else 4,0,if b then 5 else 3,he,ht,[[112],[113],[114]],[k8 [97],k8 [98],k8 [99],k8 [100]],cm b,[]⟩
theorem fu(p0 p1 p2 p3 p4:Int)(h:Heap):Fn Pz 87 #[.int .i64 p0,.int .i64 p1,.int .i64 p2,.int .i64 p3,.int .i64 p4] h fun v h'=>v=.agg ⟨Ed.cs ⟨p0,p1,p2,p3,p4,false⟩⟩/\Ext h h':=by
 apply WV;unfold W87;have hs:=St.refl h;refine hs.ai (vs:=Ed.cs ⟨p0,p1,p2,p3,p4,false⟩) rfl rfl fun h2 hs=>?_;exact⟨_,_,_,_,_,_,hs.at 0 rfl (n:=6) rfl,rfl,hs.ext⟩
theorem RL.none_{α:Type}{h:Heap}{k:Nat}{cs:α->List Value}:RL h k ⟨none,0,0⟩ cs []:=⟨Rw.nil,aY _,fun _=>⟨rfl,rfl⟩,Nat.zero_le _⟩
theorem St.rl{α:Type}{h0 h:Heap}{L:List It}(hs:St h0 h L)(k:Nat){s:Sl}{e:TypeId}{n:Nat}{cs:α->List Value}{l:List α}(hk:L[k]?=some (.sl s e n (l.map cs)))(hn:0<n)(hl:l.length<=1048576):RL h n s cs l:=by
 have:=hs.len k hk hn;exact⟨hs.rows k hk hn,this.2.1,this.2.2,hl⟩
theorem K6(L:List Nm):∀r∈L.map oE,r.length=1:=fun r hr=>by obtain⟨x,_,rfl⟩:=Yp.1 hr;rfl
theorem MW(L:List Dc):∀r∈L.map Dc.cs,r.length=5:=fun r hr=>by obtain⟨x,_,rfl⟩:=Yp.1 hr;rfl
theorem Fc(L:List Ed):∀r∈L.map Ed.cs,r.length=6:=fun r hr=>by obtain⟨x,_,rfl⟩:=Yp.1 hr;rfl
theorem qA(b:Bool)(h:Heap):Fn Pz 38 #[.bool b] h fun v h'=>Ext h h'/\∃hr hd he:Sl,v=(cK b hr hd he ⟨none,0,0⟩).v/\GI h' (cK b hr hd he ⟨none,0,0⟩):=by
 apply Xj;unfold W38 N2;have hs:=St.refl h;refine hs.aq fun h1 hs=>?_;refine hs.aq fun h2 hs=>?_;have hs:=hs.fx 3 1 ([[112],[113],[114]].map oE) rfl (K6 _) rfl (by decide);refine hs.aq fun h3 hs=>?_;have hs:=hs.fx 4 5 ([k8 [97],k8 [98],k8 [99],k8 [100]].map Dc.cs) rfl (MW _) rfl (by decide);refine hs.ai (vs:=[.string (bs [101]),.slice (some ⟨h1.size,0,none⟩) 3 3,.slice (some ⟨h2.size,0,none⟩) 4 4,.int .i64 4,.int .i64 0,.int .i64 3,.slice none 0 0,.slice none 0 0]) rfl rfl fun h5 hs=>?_;refine (fu _ _ _ _ _ _).mono ?_;rintro _ _ ⟨rfl,E⟩;replace hs:=hs.step E;clear E;refine⟨_,_,_,_,_,_,rfl,?_⟩;refine (fu _ _ _ _ _ _).mono ?_;rintro _ _ ⟨rfl,E⟩;replace hs:=hs.step E;clear E;refine⟨_,_,_,_,_,_,rfl,?_⟩;refine (fu _ _ _ _ _ _).mono ?_;rintro _ _ ⟨rfl,E⟩;replace hs:=hs.step E;clear E;refine⟨_,_,_,_,_,_,rfl,?_⟩;refine (fu _ _ _ _ _ _).mono ?_;rintro _ _ ⟨rfl,E⟩;replace hs:=hs.step E;clear E;refine⟨_,_,_,_,_,_,rfl,?_⟩;refine hs.aq fun sU hs=>?_;have hs:=hs.fx 4 6 ((cm false).map Ed.cs) rfl (Fc _) rfl (by decide);refine hs.put 1 rfl (o:=6) (vs:=[.slice (some ⟨_,0,none⟩) 4 4]) rfl (show 7<=8 by decide) fun Cu hs=>?_;cases b
 .refine iX rfl ?_;refine⟨_,⟨some ⟨h1.size,0,none⟩,3,3⟩,⟨some ⟨h2.size,0,none⟩,4,4⟩,_,_,_,⟨some ⟨_,0,none⟩,4,4⟩,⟨none,0,0⟩,hs.at 1 rfl (n:=8) rfl,?_⟩;refine hs.put 4 rfl (o:=0) (vs:=(cK false ⟨some ⟨h1.size,0,none⟩,3,3⟩ ⟨some ⟨h2.size,0,none⟩,4,4⟩ ⟨some ⟨_,0,none⟩,4,4⟩ ⟨none,0,0⟩).cs) rfl (show 8<=8 by decide) fun aac hs=>?_;refine⟨_,⟨some ⟨h1.size,0,none⟩,3,3⟩,⟨some ⟨h2.size,0,none⟩,4,4⟩,_,_,_,⟨some ⟨_,0,none⟩,4,4⟩,⟨none,0,0⟩,hs.at 4 rfl (n:=8) rfl,hs.ext,_,_,_,rfl,?_⟩;refine⟨hs.rl 3 rfl (by decide) (show 3<=1048576 by decide),⟨hs.rl 2 rfl (by decide) (show 4<=1048576 by decide),fun d hd=>?_⟩,hs.rl 0 rfl (by decide) (show 4<=1048576 by decide),RL.none_⟩;have hd:d∈[k8 [97],k8 [98],k8 [99],k8 [100]]:=hd;simp only[Yr,List.not_mem_nil,or_false] at hd;rcases hd with rfl | rfl | rfl | rfl<;>exact⟨RL.none_,RL.none_,RL.none_⟩
 .refine oU rfl ?_;refine hs.put 1 rfl (o:=3) (vs:=[.int .i64 6]) rfl (show 4<=8 by decide) fun uU hs=>?_;refine hs.put 1 rfl (o:=5) (vs:=[.int .i64 5]) rfl (show 6<=8 by decide) fun Mr hs=>?_;refine (fu _ _ _ _ _ _).mono ?_;rintro _ _ ⟨rfl,E⟩;replace hs:=hs.step E;clear E;refine⟨_,_,_,_,_,_,rfl,?_⟩;refine (fu _ _ _ _ _ _).mono ?_;rintro _ _ ⟨rfl,E⟩;replace hs:=hs.step E;clear E;refine⟨_,_,_,_,_,_,rfl,?_⟩;refine (fu _ _ _ _ _ _).mono ?_;rintro _ _ ⟨rfl,E⟩;replace hs:=hs.step E;clear E;refine⟨_,_,_,_,_,_,rfl,?_⟩;refine (fu _ _ _ _ _ _).mono ?_;rintro _ _ ⟨rfl,E⟩;replace hs:=hs.step E;clear E;refine⟨_,_,_,_,_,_,rfl,?_⟩;refine (fu _ _ _ _ _ _).mono ?_;rintro _ _ ⟨rfl,E⟩;replace hs:=hs.step E;clear E;refine⟨_,_,_,_,_,_,rfl,?_⟩;refine (fu _ _ _ _ _ _).mono ?_;rintro _ _ ⟨rfl,E⟩;replace hs:=hs.step E;clear E;refine⟨_,_,_,_,_,_,rfl,?_⟩;refine hs.aq fun EE hs=>?_;have hs:=hs.fx 6 6 ((cm true).map Ed.cs) rfl (Fc _) rfl (by decide);refine hs.put 2 rfl (o:=6) (vs:=[.slice (some ⟨_,0,none⟩) 6 6]) rfl (show 7<=8 by decide) fun h91 hs=>?_;refine⟨_,⟨some ⟨h1.size,0,none⟩,3,3⟩,⟨some ⟨h2.size,0,none⟩,4,4⟩,_,_,_,⟨some ⟨_,0,none⟩,6,6⟩,⟨none,0,0⟩,hs.at 2 rfl (n:=8) rfl,?_⟩;refine hs.put 5 rfl (o:=0) (vs:=(cK true ⟨some ⟨h1.size,0,none⟩,3,3⟩ ⟨some ⟨h2.size,0,none⟩,4,4⟩ ⟨some ⟨_,0,none⟩,6,6⟩ ⟨none,0,0⟩).cs) rfl (show 8<=8 by decide) fun aac hs=>?_;refine⟨_,⟨some ⟨h1.size,0,none⟩,3,3⟩,⟨some ⟨h2.size,0,none⟩,4,4⟩,_,_,_,⟨some ⟨_,0,none⟩,6,6⟩,⟨none,0,0⟩,hs.at 5 rfl (n:=8) rfl,hs.ext,_,_,_,rfl,?_⟩;refine⟨hs.rl 4 rfl (by decide) (show 3<=1048576 by decide),⟨hs.rl 3 rfl (by decide) (show 4<=1048576 by decide),fun d hd=>?_⟩,hs.rl 0 rfl (by decide) (show 6<=1048576 by decide),RL.none_⟩;have hd:d∈[k8 [97],k8 [98],k8 [99],k8 [100]]:=hd;simp only[Yr,List.not_mem_nil,or_false] at hd;rcases hd with rfl | rfl | rfl | rfl<;>exact⟨RL.none_,RL.none_,RL.none_⟩
deriving instance DecidableEq for Ed
theorem oh(b:Bool)(hr hd he ht:Sl):ae (cK b hr hd he ht):=by
 have wc:(cK b hr hd he ht).rs=[[112],[113],[114]]:=rfl;have VT:(cK b hr hd he ht).ds=[k8 [97],k8 [98],k8 [99],k8 [100]]:=rfl;have BB:(cK b hr hd he ht).es=cm b:=rfl;have ch:bt [k8 [97],k8 [98],k8 [99],k8 [100]]=[]:=rfl;have SU:∀ {α:Type} {P:Nat->α->Prop} {l:List α},(∀i (hi:i<l.length),P i l[i])->∀i x,l[i]?=some x->P i x:=by
  intro α P l h i x hx;obtain⟨h1,h2⟩:=Ya.1 hx;rw[<-h2];exact h i h1
 refine⟨⟨by rfl,by rw[wc];decide,by rw[wc];decide,?_⟩,⟨?_,?_,?_⟩,?_,⟨?_,?_,?_⟩,?_,?_,?_⟩
 .rw[wc];refine SU (P:=fun i s=>isWord s=true/\s∉List.take i [[112],[113],[114]]) fun i hi=>?_;have hi:i<3:=hi
  match i,hi with
  | 0,_=>exact bM rfl
  | 1,_=>exact bM rfl
  | 2,_=>exact bM rfl
 .cases b<;>exact⟨bM rfl,bM rfl,bM rfl,bM rfl,bM rfl,bM rfl⟩
 .rw[BB];cases b<;>decide
 .rw[BB];unfold gN;rw[wc,VT];cases b
  .show ∀x∈cm false,0<=x.f/\0<=x.t/\0<=x.a/\0<=x.b/\0<=x.l/\x.f<4/\x.t<4/\x.a<((3:Nat):Int)/\x.b<((3:Nat):Int)/\x.a≠x.b/\x.l<((4:Nat):Int);decide
  .show ∀x∈cm true,0<=x.f/\0<=x.t/\0<=x.a/\0<=x.b/\0<=x.l/\x.f<6/\x.t<6/\x.a<((3:Nat):Int)/\x.b<((3:Nat):Int)/\x.a≠x.b/\x.l<((4:Nat):Int);decide
 .rw[VT];refine⟨by decide,by rw[ch];decide,?_⟩;refine SU (P:=fun i d=>Ws [k8 [97],k8 [98],k8 [99],k8 [100]] i d) fun i hi=>?_;have hi:i<4:=hi;have hg:lV [] [] []:=⟨by decide,by decide,fun x hx=>(by cases hx),fun x hx=>(by cases hx)⟩
  match i,hi with
  | 0,_=>exact⟨by rfl,bM rfl,bM rfl,by rfl,fun k f hf=>(by cases hf),by rw[ch];exact hg⟩
  | 1,_=>exact⟨by rfl,bM rfl,bM rfl,by rfl,fun k f hf=>(by cases hf),by rw[ch];exact hg⟩
  | 2,_=>exact⟨by rfl,bM rfl,bM rfl,by rfl,fun k f hf=>(by cases hf),by rw[ch];exact hg⟩
  | 3,_=>exact⟨by rfl,bM rfl,bM rfl,by rfl,fun k f hf=>(by cases hf),by rw[ch];exact hg⟩
 .rw[BB];cases b
  .show ∀x∈cm false,x.f≠3;decide
  .show ∀x∈cm true,x.f≠5;decide
 .rw[BB];cases b
  .show ∀x∈cm false,x.ag=true->x.f≠0;decide
  .show ∀x∈cm true,x.ag=true->x.f≠0;decide
 .rw[BB];have key:((cm b).zipIdx.all fun p=>(cm b).zipIdx.all fun q=>!decide ((p.2≠q.2/\p.1.f=q.1.f/\((p.1.a=q.1.a/\p.1.b=q.1.b/\p.1.l=q.1.l)\/p.1.a≠q.1.a\/p.1.ag=true))\/(p.1.ag=true/\q.1.t=p.1.f/\(p.1.a≠q.1.a\/p.1.l≠q.1.l))))=true:=by
   cases b<;>decide
  intro i x hx k y hy Zq;have h1:=List.all_eq_true.1 key (x,i) (Yf.2 ⟨i,by rw[List.getElem?_zipIdx,hx];simp⟩);have h2:=List.all_eq_true.1 h1 (y,k) (Yf.2 ⟨k,by rw[List.getElem?_zipIdx,hy];simp⟩);have h3:=eB (Bool.not_eq_true' _ ▸ h2);exact h3 Zq
 .intro i t ht;exact absurd ht (by show ([]:List To)[i]?≠some t;simp)
 .intro v h0 h1;rw[BB];cases b
  .have h1:v<4:=h1;show eV (cm false) false 0 v;have s0:eV (cm false) false 0 0:=.refl;have s1:eV (cm false) false 0 1:=.step s0 ⟨⟨0,0,1,0,1,false⟩,by decide,rfl,rfl⟩;have s2:eV (cm false) false 0 2:=.step s0 ⟨⟨0,0,1,1,2,false⟩,by decide,rfl,rfl⟩;have s3:eV (cm false) false 0 3:=.step s1 ⟨⟨1,2,1,2,3,false⟩,by decide,rfl,rfl⟩;have:v=0\/v=1\/v=2\/v=3:=by omega
   rcases this with rfl | rfl | rfl | rfl<;>assumption
  .have h1:v<6:=h1;show eV (cm true) false 0 v;have s0:eV (cm true) false 0 0:=.refl;have s1:eV (cm true) false 0 1:=.step s0 ⟨⟨0,0,1,0,1,false⟩,by decide,rfl,rfl⟩;have s2:eV (cm true) false 0 2:=.step s0 ⟨⟨0,0,1,1,2,false⟩,by decide,rfl,rfl⟩;have s3:eV (cm true) false 0 3:=.step s1 ⟨⟨1,1,2,0,3,false⟩,by decide,rfl,rfl⟩;have s4:eV (cm true) false 0 4:=.step s2 ⟨⟨2,1,2,1,4,false⟩,by decide,rfl,rfl⟩;have s5:eV (cm true) false 0 5:=.step s3 ⟨⟨3,2,1,2,5,false⟩,by decide,rfl,rfl⟩;have:v=0\/v=1\/v=2\/v=3\/v=4\/v=5:=by omega
   rcases this with rfl | rfl | rfl | rfl | rfl | rfl<;>assumption
 .intro v h0 h1;rw[BB];cases b
  .have h1:v<4:=h1;show eV (cm false) true 3 v;have s3:eV (cm false) true 3 3:=.refl;have s1:eV (cm false) true 3 1:=.step s3 ⟨⟨1,2,1,2,3,false⟩,by decide,rfl,rfl⟩;have s2:eV (cm false) true 3 2:=.step s3 ⟨⟨2,2,1,3,3,false⟩,by decide,rfl,rfl⟩;have s0:eV (cm false) true 3 0:=.step s1 ⟨⟨0,0,1,0,1,false⟩,by decide,rfl,rfl⟩;have:v=0\/v=1\/v=2\/v=3:=by omega
   rcases this with rfl | rfl | rfl | rfl<;>assumption
  .have h1:v<6:=h1;show eV (cm true) true 5 v;have s5:eV (cm true) true 5 5:=.refl;have s3:eV (cm true) true 5 3:=.step s5 ⟨⟨3,2,1,2,5,false⟩,by decide,rfl,rfl⟩;have s4:eV (cm true) true 5 4:=.step s5 ⟨⟨4,2,1,3,5,false⟩,by decide,rfl,rfl⟩;have s1:eV (cm true) true 5 1:=.step s3 ⟨⟨1,1,2,0,3,false⟩,by decide,rfl,rfl⟩;have s2:eV (cm true) true 5 2:=.step s4 ⟨⟨2,1,2,1,4,false⟩,by decide,rfl,rfl⟩;have s0:eV (cm true) true 5 0:=.step s1 ⟨⟨0,0,1,0,1,false⟩,by decide,rfl,rfl⟩;have:v=0\/v=1\/v=2\/v=3\/v=4\/v=5:=by omega
   rcases this with rfl | rfl | rfl | rfl | rfl | rfl<;>assumption

def RBo(h:Heap)(v:Value)(h':Heap):Prop:=(∃b:Bool,v=.bool b)/\Ext h h'
theorem RBo.mk{h h':Heap}{b:Bool}(E:Ext h h'):RBo h (.bool b) h':=⟨⟨b,rfl⟩,E⟩
theorem Ext.cD{h:Heap}:Ext h h:=⟨aY _,fun _ _=>rfl⟩
def RP(p:Prop)(h:Heap)(v:Value)(h':Heap):Prop:=(∃b:Bool,v=.bool b/\(b=true ↔ p))/\Ext h h'
theorem RP.t{p:Prop}{h h':Heap}(hp:p)(E:Ext h h'):RP p h (.bool true) h':=⟨⟨true,rfl,iff_of_true rfl hp⟩,E⟩
theorem RP.f{p:Prop}{h h':Heap}(hp:¬p)(E:Ext h h'):RP p h (.bool false) h':=⟨⟨false,rfl,iff_of_false (by decide) hp⟩,E⟩
theorem RP.e{p:Prop}{h h':Heap}{b:Bool}(hb:b=true ↔ p)(E:Ext h h'):RP p h (.bool b) h':=⟨⟨b,rfl,hb⟩,E⟩
theorem fg{p:Prop}{b:Bool}(hp:b=true ↔ p)(c:b=false):¬p:=fun hq=>by
 rw[hp.2 hq] at c;cases c
theorem Vp{al:List Addr}{h h':Heap}(E:Ext h h'):Sm al h h':=fun _ _ _ _ hv=>aw E hv
theorem GH{al:List Addr}{h h':Heap}{b:Nat}(hB:jz b h h')(hn:∀a∈al,a.block≠b):Sm al h h':=fun a ha k v hv=>by
 rw[dI (hB.2 _ (by rw[dM];exact hn a ha))];exact hv
theorem Ez{h:Heap}{a:Addr}{v:Value}(hv:hc h a=some v):a.block<h.size:=by
 rcases Nat.lt_or_ge a.block h.size with h1 | h1
 .exact h1
 .unfold VC.hc at hv;simp[Array.getElem?_eq_none h1] at hv
def KQ(x y:Mv):Bool:=decide (x.send=y.send/\x.peer=y.peer/\x.label=y.label/\x.ag=y.ag)
def Rm(li:List To)(s:Int):Option Nat:=li.findIdx? fun t=>decide (t.s=s)
def HA(m:kY)(a b:Int):Bool:=match Rm m.li a,Rm m.li b with
 | none,none=>true
 | some i,some k=>match m.li[i]?,m.li[k]? with
  | some x,some y=>match m.mv[x.e.toNat]?,m.mv[y.e.toNat]? with
   | some p,some q=>decide (x.k=y.k)&&KQ p q
   | _,_=>false
  | _,_=>false
 | _,_=>false
def vW(g:Gl):Prop:=g.es.length<=50/\g.rs.length<=6/\g.ds.length<=40/\g.ts.length<=50
instance (g:Gl):Decidable (vW g):=by unfold vW;infer_instance
theorem S5(g:Gl)(h:Heap)(hg:GI h g):Fn Pz 39 #[g.v] h fun v h'=>v=.bool (decide (vW g))/\Ext h h':=by
 apply Xi (bs g.nm) g.hr g.hd g.n g.s g.e g.he g.ht;unfold W39;have hs:=St.refl h;have h1:=hg.e.ln;have h2:=hg.r.ln;have h3:=hg.d.r.ln;have h4:=hg.t.ln;refine hs.aq fun h9 hs=>?_;refine⟨_,hs.rd 0 rfl rfl,?_⟩;refine aQ (fun c1=>?_) (fun c1=>⟨dF fun hc=>by unfold vW at hc;omega,hs.ext⟩);refine⟨_,hs.rd 0 rfl rfl,?_⟩;refine aQ (fun c2=>?_) (fun c2=>⟨dF fun hc=>by unfold vW at hc;omega,hs.ext⟩);refine⟨_,hs.rd 0 rfl rfl,?_⟩;refine aQ (fun c3=>?_) (fun c3=>⟨dF fun hc=>by unfold vW at hc;omega,hs.ext⟩);refine⟨_,hs.rd 0 rfl rfl,?_,hs.ext⟩;congr 1;rw[decide_eq_decide];unfold vW;omega
theorem S6(g:Gl)(h:Heap)(hg:GI h g):Fn Pz 13 #[g.v] h fun v h'=>v=.bool (decide (vW g/\g.n<=25))/\Ext h h':=by
 apply Xq (bs g.nm) g.hr g.hd g.n g.s g.e g.he g.ht;unfold W13;have hs:=St.refl h;refine hs.aq fun h9 hs=>?_;refine⟨_,_,_,_,_,_,_,_,hs.at 0 rfl (n:=8) rfl,?_⟩;refine (S5 g h9 (hg.ext hs.ext)).mono ?_;rintro _ aA ⟨rfl,E20⟩;replace hs:=hs.step E20;refine⟨_,rfl,?_⟩;refine aQ (fun c1=>?_) (fun c1=>⟨dF fun hc=>c1 hc.1,hs.ext⟩);refine⟨_,hs.rd 0 rfl rfl,?_,hs.ext⟩;congr 1;rw[decide_eq_decide];exact⟨fun h=>⟨c1,h⟩,fun h=>h.2⟩

def base(m:kY)(i k:Nat):Bool:=decide (m.fin.getD i false=m.fin.getD k false)&&HA m i k

end Go.VC
end

section
namespace Go.VC
open Go.LexS




end Go.VC
end

section
namespace Go.VC
open Go.Proofs Go.LexS

theorem p9(b:UInt8)(h:Heap):Fn Pz 227 #[.int .u8 b.toNat] h fun v h'=>v=.bool (lt b)/\h'=h:=by
 apply PU;unfold Uf;unfold lt isLetter;generalize (b.toNat:Int)=n
 repeat' first
  | refine aQ (fun _=>?_) (fun _=>?_)
 all_goals
  refine⟨?_,rfl⟩;congr 1;rw[Bool.eq_iff_iff];simp only[Bool.or_eq_true,Yt,decide_eq_true_eq,Bool.false_eq_true,true_iff,false_iff];omega
theorem Fk(b:UInt8)(h:Heap):Fn Pz 275 #[.int .u8 b.toNat] h fun v h'=>v=.bool (dg b)/\h'=h:=by
 apply Py;unfold TV;unfold dg isDigit;refine aQ (fun c=>⟨?_,rfl⟩) (fun c=>⟨?_,rfl⟩)
 .rw[decide_eq_true (p:=(48:Int)<=b.toNat) c,Bool.true_and]
 .rw[decide_eq_false (p:=(48:Int)<=b.toNat) c,Bool.false_and]
theorem DZ(b:UInt8)(h:Heap):Fn Pz 228 #[.int .u8 b.toNat] h fun v h'=>v=.bool (inn b)/\h'=h:=by
 apply PT;unfold Ue;refine (p9 b h).mono ?_;rintro _ h3 ⟨rfl,rfl⟩;refine⟨_,rfl,aa (fun c=>?_) (fun c=>?_)⟩
 .exact⟨by rw[show inn b=(lt b||dg b||((b.toNat:Int)==95)) from rfl,c];rfl,rfl⟩
 .refine (Fk b _).mono ?_;rintro _ h6 ⟨rfl,rfl⟩;refine⟨_,rfl,aa (fun d=>?_) (fun d=>?_)⟩
  .exact⟨by rw[show inn b=(lt b||dg b||((b.toNat:Int)==95)) from rfl,c,d];rfl,rfl⟩
  .exact⟨by rw[show inn b=(lt b||dg b||((b.toNat:Int)==95)) from rfl,c,d];rfl,rfl⟩
theorem Bk(s:ByteArray)(h:Heap):Fn Pz 176 #[.string s] h fun v h'=>v=.bool (isName s.data.toList)/\h'=h:=by
 apply Qd;unfold Ux;have eK:=ki s;rw[np];generalize hL:s.data.toList=L at *;refine aa (fun he=>?_) (fun he=>?_)
 .have:L=[]:=bM he;subst this;exact⟨rfl,rfl⟩
 .have bz:L≠[]:=eB he;have fq:0<L.length:=List.length_pos_iff.2 bz;obtain⟨b,hb,zo⟩:=ir (s:=s) (i:=0) (by omega);rw[hL] at hb;have uO:L=b::L.drop 1:=by have:=drop_cons hb;rwa [List.drop_zero] at this
  have LW:isName L=(decide (L.length<=16)&&lt b&&L.all inn):=by
   conv=>lhs;rw[uO]
   rw[isName,<-uO]
  rw[LW];refine⟨⟨by omega,by omega⟩,?_⟩;rw[show Int.toNat 0=0 from rfl,zo];refine (p9 _ _).mono ?_;rintro v h3 ⟨rfl,rfl⟩;refine⟨_,rfl,aa (fun nY=>?_) (fun nY=>?_)⟩
  .refine⟨?_,rfl⟩;rw[show lt b=false from by rw[Bool.not_eq_true'] at nY;exact nY,Bool.and_false];rfl
  rw[show lt b=true from by rw[Bool.not_eq_false'] at nY;exact nY];refine aa (fun LP=>?_) (fun LP=>?_)
  .refine⟨?_,rfl⟩;rw[decide_eq_false (by have:=bM LP;omega)];rfl
  .have fR:L.length<=16:=by have:=eB LP;omega
   rw[decide_eq_true fR];refine cQ (n:=s.size) (fun i h'=>h'=h3/\∀(j:Nat) (b:UInt8),j<i->L[j]?=some b->(!inn b)=false) ⟨rfl,fun j b hj=>by omega⟩ ?_;rintro-i h8 hi ⟨rfl,hd⟩;refine aa (fun cG=>?_) (fun Kl=>?_)
   .have uL:=ba cG;obtain⟨y,hy,Ma⟩:=ir uL;rw[hL] at hy;refine⟨⟨by omega,by omega⟩,?_⟩;rw[show Int.toNat (i:Int)=i from rfl,Ma];refine (DZ _ _).mono ?_;rintro v xG ⟨rfl,rfl⟩;refine⟨_,rfl,aa (fun hp=>?_) (fun hp=>?_)⟩
    .refine⟨?_,rfl⟩;have:L.all inn=false:=by
      rw[<-Bool.not_eq_true,iV];intro hh;have:=hh y i hy;rw[Bool.not_eq_true'] at hp;rw[show inn y=false from hp] at this;cases this
     rw[this];rfl
    .exact Up.next uL (by omega) ⟨rfl,dn (p:=fun b=>!inn b) hy hp hd⟩
   .have Zc:=bd Kl;refine⟨?_,rfl⟩;rw[(iV inn L).2 fun b j hb=>by simpa using hd j b (by have:=(Ya.1 hb).1;omega) hb];rfl
theorem Rq(l:List Nm)(s:Sl)(x:ByteArray)(h:Heap)(hr:Rw h 1 s (l.map oE))(hm:l.length<=1048576):Fn Pz 177 #[.slice s.a s.n s.c,.string x] h fun v h'=>v=.bool (decide (x.data.toList∈l))/\h'=h:=by
 apply Qc;unfold Uw;have hn:=hr.ln;refine cQ (n:=s.n) (fun i h'=>h'=h/\x.data.toList∉l.take i) ⟨rfl,fun e=>by simp at e⟩ ?_;rintro-i h8 hi ⟨rfl,hd⟩;refine aa (fun c=>?_) (fun c=>?_)
 .replace c:=ba c;refine hr.aF (by omega) (by omega) fun b o d g t=>?_;replace g:l[i]?=some d:=g;refine⟨_,t.hd,?_⟩;rw[np,cH];refine aa (fun he=>?_) (fun bz=>?_)
  .replace he:=bM he;exact⟨by rw[decide_eq_true (by first | (rw[he];exact Yb g) | (rw[<-he];exact Yb g))],rfl⟩
  .replace bz:=eB bz;refine Up.next c (by omega) ⟨rfl,fun mi=>?_⟩;rw[List.take_add_one,g] at mi;rcases Yk.1 mi with mi | mi
   .exact hd mi
   .first | exact bz (Ye.1 mi) | exact bz (Ye.1 mi).symm
 .replace c:=bd c;refine⟨?_,rfl⟩;rw[Yj (by omega)] at hd;rw[decide_eq_false hd]
theorem D7(l:List Nm)(s:Sl)(x:ByteArray)(h:Heap)(hr:Rw h 1 s (l.map oE))(hm:l.length<=1048576):Fn Pz 101 #[.slice s.a s.n s.c,.string x] h fun v h'=>(∃k:Int,v=.int .i64 k/\(∀i:Nat,i<l.length->(k<(i:Int) ↔ x.data.toList∈l.take i\/x.data.toList∉l)))/\h'=h:=by
 apply QT;unfold Vd;have hn:=hr.ln;refine cQ (n:=s.n) (fun i h'=>h'=h/\x.data.toList∉l.take i) ⟨rfl,fun e=>by simp at e⟩ ?_;rintro-i h8 hi ⟨rfl,hd⟩;refine aa (fun c=>?_) (fun c=>?_)
 .replace c:=ba c;refine hr.aF (by omega) (by omega) fun b o d g t=>?_;replace g:l[i]?=some d:=g;refine⟨_,t.hd,?_⟩;rw[np,cH];refine aa (fun he=>?_) (fun bz=>?_)
  .replace he:=bM he;have he2:x.data.toList=d:=by first | exact he | exact he.symm
   have jY:x.data.toList∈l:=by rw[he2];exact Yb g
   refine⟨⟨_,rfl,fun k hk=>⟨fun hik=>.inl ?_,fun rG=>?_⟩⟩,rfl⟩
   .have:l[i]?=some x.data.toList:=by rw[he2];exact g
    exact Yb (i:=i) (by rw[vM,if_pos (by omega)];exact this)
   .rcases rG with rG | rG
    .apply Classical.byContradiction;intro LK;have:l.take k=(l.take i).take k:=by rw[List.take_take,Nat.min_eq_left (by omega)]
     rw[this] at rG;exact hd (List.mem_of_mem_take rG)
    .exact absurd jY rG
  .replace bz:=eB bz;refine Up.next c (by omega) ⟨rfl,fun mi=>?_⟩;rw[List.take_add_one,g] at mi;rcases Yk.1 mi with mi | mi
   .exact hd mi
   .first | exact bz (Ye.1 mi) | exact bz (Ye.1 mi).symm
 .replace c:=bd c;rw[Yj (by omega)] at hd;exact⟨⟨_,rfl,fun k hk=>⟨fun _=>.inr hd,fun _=>by omega⟩⟩,rfl⟩
def X3:List ByteArray:=[⟨#[97,103,97,105,110]⟩,⟨#[97,110,100]⟩,⟨#[97,115]⟩,⟨#[97,116]⟩,⟨#[99,97,108,108]⟩,⟨#[99,104,111,105,99,101]⟩,⟨#[101,108,115,101]⟩,⟨#[102,114,111,109]⟩,⟨#[105,102]⟩,⟨#[105,110,116]⟩,⟨#[108,101,110]⟩,⟨#[108,111,111,112]⟩,⟨#[109,101,115,115,97,103,101]⟩,⟨#[111,102]⟩,⟨#[111,102,102,101,114]⟩,⟨#[111,110]⟩,⟨#[111,114]⟩,⟨#[112,97,114]⟩,⟨#[112,108,97,121,115]⟩,⟨#[112,114,111,116,111,99,111,108]⟩,⟨#[115,101,114,118,105,99,101]⟩,⟨#[116,101,120,116]⟩,⟨#[116,105,109,101,115]⟩,⟨#[116,111]⟩,⟨#[118,97,114]⟩,⟨#[119,104,101,114,101]⟩,⟨#[119,104,105,108,101]⟩,⟨#[119,105,116,104,105,110]⟩]
theorem Lh:(X3.map fun b=>b.data.toList)=eJ:=rfl
theorem ur(h:Heap):Fn Pz 178 #[] h fun v h'=>Ext h h'/\∃s:Sl,v=.slice s.a s.n s.c/\Rw h' 1 s (eJ.map oE):=by
 apply Qb;unfold Uv;intro h1 e;have ho:Own h1 h.size (X3.map Value.string) 9:=by rw[e];exact Own.push
 have hl:X3.length=28:=rfl;rw[<-Lh];refine⟨by rw[e];exact Ext.push _ _,⟨some ⟨h.size,0,none⟩,28,28⟩,rfl,by rw[Yc,Yc,hl],fun _=>⟨h.size,0,rfl,fun i row hi=>?_⟩⟩;rw[List.map_map,Yd] at hi;obtain⟨x,Ln,rD⟩:=zL.1 hi;subst rD;refine ho.a8 fun j v hj=>?_
 match j,hj with
 | 0,hj=>cases hj;rw[show 0+i*1+0=i by omega,Yd,Ln];rfl
theorem iL(s:ByteArray)(h:Heap):Fn Pz 100 #[.string s] h fun v h'=>v=.bool (isWord s.data.toList)/\Ext h h':=by
 apply QU;unfold Ve;refine (Bk s h).mono ?_;rintro _ h3 ⟨rfl,rfl⟩;refine⟨_,rfl,aa (fun c=>?_) (fun c=>?_)⟩
 .refine (ur h3).mono ?_;rintro _ h6 ⟨E2,k,rfl,hk⟩;refine⟨_,rfl,?_⟩;refine (Rq _ k s h6 hk (by decide)).mono ?_;rintro _ h9 ⟨rfl,rfl⟩;exact⟨_,rfl,by rw[isWord,c];rfl,E2⟩
 .exact⟨by rw[isWord,c];rfl,.cD⟩
theorem ye(s:ByteArray)(h:Heap):Fn Pz 229 #[.string s] h fun v h'=>v=.bool (isWord s.data.toList)/\Ext h h':=by
 apply PS;unfold Ud;refine (iL s h).mono ?_;rintro _ h3 ⟨rfl,E⟩;exact⟨_,rfl,rfl,E⟩
theorem xk{l:Nm}:Lib.index l [46]=Lib.indexByte l 46:=Lib.index_one l 46
theorem tK{l:Nm}(hn:∀k:Nat,l[k]?≠some 46):pieces l=[l]:=by
 have h1:Lib.index l [46]=-1:=by
  have h0:=Lib.index_ge l [46];apply Classical.byContradiction;intro h2;obtain⟨o,ho⟩:∃o:Nat,Lib.index l [46]=o:=⟨(Lib.index l [46]).toNat,by omega⟩;rw[xk] at ho;exact hn o (Lib.indexByte_some ho).1
 unfold pieces Lib.split;rw[Lib.count_miss h1];rfl
theorem wH{l:Nm}{i:Nat}(hi:l[i]?=some 46)(hn:∀k:Nat,k<i->l[k]?≠some 46):pieces l=l.take i::pieces (l.drop (i+1)):=by
 have h1:Lib.index l [46]=(i:Int):=by
  have h0:=Lib.index_ge l [46];have h2:Lib.index l [46] ≠ -1:=fun h2=>by rw[xk] at h2;exact Lib.indexByte_none h2 i hi
  obtain⟨o,ho⟩:∃o:Nat,Lib.index l [46]=o:=⟨(Lib.index l [46]).toNat,by omega⟩;have h3:=Lib.indexByte_some (xk (l:=l) ▸ ho);have:o=i:=by
   rcases Nat.lt_trichotomy o i with h | h | h
   .exact absurd h3.1 (hn o h)
   .exact h
   .exact absurd hi (h3.2 i h)
  rw[ho,this]
 unfold pieces Lib.split;rw[Lib.count_hit (i:=i) (by decide) h1,Nat.add_comm 1,Lib.splitK,if_neg (by rw[h1];intro e;have:=eq_of_beq e;omega),h1];rfl
theorem Bj(s:ByteArray)(h:Heap)(hs:s.size<=1048576):Fn Pz 181 #[.string s] h fun v h'=>v=.bool (fX s.data.toList)/\Ext h h':=by
 apply P8;unfold Us GB;have eK:=ki s;generalize hL:s.data.toList=L at *;refine⟨fun f i h' m=>∃a b:Nat,f=a/\i=b/\a<=b/\b<=s.size+1/\m=s.size+1-b/\Ext h h'/\(b<=s.size->(∀k:Nat,a<=k->k<b->L[k]?≠some 46)/\(pieces L).all isWord=(pieces (L.drop a)).all isWord)/\(s.size<b->(pieces L).all isWord=true),⟨_,0,0,rfl,rfl,aY _,by omega,rfl,.cD,fun _=>⟨fun k _ hk=>by omega,rfl⟩,fun hb=>by omega⟩,?_⟩;rintro-_ _ h6 m ⟨a,b,rfl,rfl,iO,hb,rfl,E,hq,hz⟩;refine aa (fun c=>?_) (fun c=>?_)
 .replace c:=bM c;have hbs:b<=s.size:=by omega
  obtain⟨q1,q2⟩:=hq hbs;have hw:IntKind.wrap .i64 ((b:Int)+1)=((b+1:Nat):Int):=by rw[aZ (by omega) (by omega)];omega
  have pt:(s.extract (Int.toNat (a:Int)) (Int.toNat (b:Int))).data.toList=(L.drop a).take (b-a):=by
   rw[show Int.toNat (a:Int)=a from rfl,show Int.toNat (b:Int)=b from rfl,EY,hL]
  refine aa (fun c2=>?_) (fun c2=>?_)
  .have II:b=s.size:=by
    have:(b:Int)=s.size:=by simpa using c2
    omega
   have hp:pieces (L.drop a)=[L.drop a]:=tK fun k hk=>by
    rw[List.getElem?_drop] at hk;exact q1 (a+k) (by omega) (by have:=(Ya.1 hk).1;omega) hk
   have VG:(L.drop a).take (b-a)=L.drop a:=Yj (by rw[List.length_drop];omega);refine⟨⟨by omega,by omega,by omega⟩,?_⟩;refine (ye _ h6).mono ?_;rintro _ h9 ⟨rfl,E2⟩;rw[pt,VG];rw[hp,List.all_cons,List.all_nil,Bool.and_true] at q2;refine⟨_,rfl,aa (fun c3=>?_) (fun c3=>⟨_,by omega,b+1,b+1,hw,hw,by omega,by omega,rfl,E.trans E2,fun mj=>by omega,fun _=>?_⟩)⟩
   .refine⟨?_,E.trans E2⟩;rw[fX,q2,bF c3,Bool.and_false]
   .rw[q2,bT c3]
  .have bz:(b:Int)≠s.size:=by simpa using c2
   obtain⟨y,hy,zo⟩:=ir (s:=s) (i:=b) (by omega);rw[hL] at hy;refine⟨⟨by omega,by omega⟩,?_⟩;rw[show Int.toNat (b:Int)=b from rfl] at *;rw[zo];refine aa (fun c3=>?_) (fun c3=>⟨_,by omega,a,b+1,rfl,hw,by omega,by omega,rfl,E,fun _=>⟨fun k BA dV=>?_,q2⟩,fun mj=>by omega⟩)
   .have X6:y=46:=by
     have h4:(y.toNat:Int)=46:=by simpa using c3
     exact UInt8.toNat_inj.1 (by rw[show (46:UInt8).toNat=46 from rfl];omega)
    subst X6;have hp:pieces (L.drop a)=(L.drop a).take (b-a)::pieces ((L.drop a).drop (b-a+1)):=wH (by rw[List.getElem?_drop,show a+(b-a)=b by omega];exact hy) fun k hk=>by
     rw[List.getElem?_drop];exact q1 (a+k) (by omega) (by omega)
    rw[List.drop_drop,show a+(b-a+1)=b+1 by omega] at hp;rw[hp,List.all_cons] at q2;refine⟨⟨by omega,by omega,by omega⟩,?_⟩;refine (ye _ h6).mono ?_;rintro _ h9 ⟨rfl,E2⟩;rw[pt];refine⟨_,rfl,aa (fun c4=>?_) (fun c4=>⟨_,by omega,b+1,b+1,hw,hw,by omega,by omega,rfl,E.trans E2,fun mj=>⟨fun k _ _=>by omega,?_⟩,fun mj=>by omega⟩)⟩
    .refine⟨?_,E.trans E2⟩;rw[fX,q2,bF c4,Bool.false_and,Bool.and_false]
    .rw[q2,bT c4,Bool.true_and]
   .by_cases Bz:k=b
    .subst Bz;rw[hy];intro e;cases e;simp at c3
    .exact q1 k BA (by omega)
 .replace c:=eB c;refine⟨?_,E⟩;rw[fX,hz (by omega),Bool.and_true];first | rfl | (congr 1;rw[decide_eq_decide];omega)
theorem qM(ds:List Dc)(s:Sl)(h:Heap)(hd:DL h s ds):Fn Pz 179 #[.slice s.a s.n s.c] h fun v h'=>v=.int .i64 ((bt ds).length:Nat)/\(bt ds).length<=1099511627776/\h'=h:=by
 apply Qa;unfold Uu;have hn:=hd.r.ln;have hm:=hd.r.sm;have hle:∀i,i<=ds.length->(bt (ds.take i)).length<=i*1048576:=fun i hi=>by
  have:=sk (ds.take i) fun d hd2=>(hd.i d (List.mem_of_mem_take hd2)).pf.sm;rw[Yu,Nat.min_eq_left hi] at this;exact this
 have wg:∀i,i<=ds.length->(bt (ds.take i)).length<=1099511627776:=fun i hi=>by
  have:=hle i hi;have:i*1048576<=1048576*1048576:=Nat.mul_le_mul_right _ (by omega);omega
 refine⟨fun q i h' m=>∃b:Nat,i=b/\b<=s.n/\m=s.n-b/\h'=h/\q=((bt (ds.take b)).length:Nat),⟨_,0,rfl,by omega,rfl,rfl,rfl⟩,?_⟩;rintro-nn _ h6 m ⟨b,rfl,hb,rfl,rfl,rfl⟩;refine aa (fun c=>?_) (fun c=>?_)
 .replace c:=ba c;refine hd.r.rw.aF (by omega) (by omega) fun b7 o8 d g t=>?_;replace g:ds[b]?=some d:=g;have Ct:=(hd.i d (Yb g)).pf.ln;refine⟨_,t.nth 1 rfl,_,?_,b+1,by rw[aZ (by omega) (by omega)];omega,by omega,rfl,rfl,?_⟩
  .omega
  .have h1:=wg (b+1) (by omega);rw[List.take_add_one,g,Option.toList_some,fN,Yh] at h1 ⊢;rw[aZ (by omega) (by omega)];omega
 .replace c:=bd c;have h1:=wg ds.length (aY _);rw[xW] at h1;rw[Yj (by omega)];exact⟨rfl,h1,rfl⟩
theorem uV(a b c:Int)(h:Heap):Fn Pz 180 #[.agg ⟨[.int .i64 a,.int .i64 b,.int .i64 c]⟩] h (RP (oB a b c) h):=by
 apply P9;unfold Ut GC;refine (St.refl h).aq fun h4 hs=>?_;refine⟨fun l m h'=>h'=h4/\((a=2/\l=0/\m=40)\/(a≠2/\l=-1000/\m=1000)),⟨_,hs.rd 0 rfl rfl,aQ (fun c=>⟨rfl,.inl ⟨by simpa using c,rfl,rfl⟩⟩) (fun c=>⟨rfl,.inr ⟨by simpa using c,rfl,rfl⟩⟩)⟩,?_⟩;rintro-l m _ ⟨rfl,hlm⟩
 repeat' (first
  | (refine⟨_,hs.rd 0 rfl rfl,?_⟩)
  | (refine aQ (fun _=>?_) (fun _=>?_)))
 all_goals
  refine RP.e ?_ hs.ext;unfold oB;simp only[Bool.false_eq_true,decide_eq_true_eq,beq_iff_eq,false_iff,true_iff] at *;omega
theorem EU(ds:List Dc)(s:Sl)(p:Int)(h:Heap)(hd:DL h s ds)(h0:0<=p)(h1:p<(bt ds).length)(h2:(bt ds).length<=1099511627776):
  Fn Pz 276 #[.slice s.a s.n s.c,.int .i64 p] h fun v h'=>(∃f,(bt ds)[p.toNat]?=some f/\v=.agg ⟨f.cs⟩)/\Ext h h':=by
 apply Px;unfold TU Gw;have hn:=hd.r.ln;have hm:=hd.r.sm;refine (St.refl h).aq fun SQ hs=>?_;refine⟨fun x i h' m=>∃b:Nat,i=b/\b<=s.n/\m=s.n-b/\h'=SQ/\0<=x/\x+((bt (ds.take b)).length:Nat)=p,⟨_,0,rfl,by omega,rfl,rfl,h0,by show p+((0:Nat):Int)=p;omega⟩,?_⟩;rintro-x _ h7 m ⟨b,rfl,hb,rfl,rfl,jr,Ln⟩;refine aa (fun c=>?_) (fun c=>?_)
 .replace c:=ba c;have kF:=hd.r.rw.ext hs.ext;refine kF.aF (by omega) (by omega) fun b8 o9 d g t=>?_;replace g:ds[b]?=some d:=g;have zk:=hd.i d (Yb g);have Ct:=zk.pf.ln;have VR:=zk.pf.sm;have Cm:bt ds=bt (ds.take b)++(d.fs++bt (ds.drop (b+1))):=by
   have e:ds=ds.take b++d::ds.drop (b+1):=by
    have h3:=(List.take_append_drop b ds).symm;have hl:=(Ya.1 g).1;rw[List.drop_eq_getElem_cons hl,(Ya.1 g).2] at h3;exact h3
   conv=>lhs;rw[e]
   unfold bt;rw[List.flatMap_append,List.flatMap_cons]
  refine⟨_,t.nth 1 rfl,aa (fun c2=>?_) (fun c2=>?_)⟩
  .replace c2:=bM c2;refine kF.aF (by omega) (by omega) fun b11 o12 d2 g2 t2=>?_;replace g2:ds[b]?=some d2:=g2;rw[g] at g2;cases g2;refine⟨_,t2.nth 1 rfl,?_⟩;refine (zk.pf.rw.ext hs.ext).aF jr c2 fun b14 o15 f g3 t3=>?_;refine⟨_,_,_,_,t3,?_⟩;refine hs.put 0 rfl (o:=0) (vs:=f.cs) rfl (show 4<=4 by decide) fun aA hs=>?_;refine⟨_,_,_,_,hs.at 0 rfl (o:=0) (n:=4) rfl,⟨f,?_,rfl⟩,hs.ext⟩;have Ck:=(Ya.1 g3).1;rw[Cm,qJ (by omega),jw (by omega),<-g3];congr 1;omega
  .replace c2:=eB c2;refine kF.aF (by omega) (by omega) fun b11 o12 d2 g2 t2=>?_;replace g2:ds[b]?=some d2:=g2;rw[g] at g2;cases g2;refine⟨_,t2.nth 1 rfl,s.n-(b+1),by omega,b+1,by rw[aZ (by omega) (by omega)];omega,by omega,rfl,rfl,?_⟩;rw[aZ (by omega) (by omega)];refine⟨by omega,?_⟩;rw[List.take_add_one,g,Option.toList_some,fN,Yh];omega
 .replace c:=bd c;rw[Yj (by omega)] at Ln;omega
theorem yh(ds:List Dc)(s:Sl)(p:Int)(h:Heap)(hd:DL h s ds):Fn Pz 230 #[.slice s.a s.n s.c,.int .i64 p] h (RP (fO (bt ds) p) h):=by
 apply PR;unfold Uc;refine aa (fun c=>?_) (fun c=>?_)
 .replace c:=bM c;refine (qM ds s h hd).mono ?_;rintro _ h3 ⟨rfl,hk,rfl⟩;refine⟨_,rfl,aa (fun c2=>?_) (fun c2=>?_)⟩
  .replace c2:=bM c2;refine (EU ds s p _ hd (by omega) (by omega) hk).mono ?_;rintro _ h9 ⟨⟨f,hf,rfl⟩,E⟩;refine⟨_,_,_,_,rfl,RP.e ⟨fun hb=>⟨by omega,f,hf,by simpa using hb⟩,?_⟩ E⟩;rintro⟨_,f2,VS,dV⟩;rw[hf] at VS;cases VS;simpa using dV
  .replace c2:=eB c2;refine RP.f ?_ .cD;rintro⟨_,f2,VS,_⟩;have:=(Ya.1 VS).1;omega
 .replace c:=eB c;exact RP.f (fun hT=>by have:=hT.1;omega) .cD
theorem rU(ds:List Dc)(s:Sl)(d:Dc)(h:Heap)(hd:DL h s ds)(hi:DI h d):
  Fn Pz 182 #[.slice s.a s.n s.c,.agg ⟨[.slice d.hd.a d.hd.n d.hd.c,.slice d.he.a d.he.n d.he.c]⟩] h (RP (lV (bt ds) d.ds d.es) h):=by
 apply P7 s d.hd d.he;unfold Ur;have hdn:=hi.pd.ln;have LU:=hi.pd.sm;have qk:=hi.pe.ln;have Kn:=hi.pe.sm;refine (St.refl h).aq fun h3 hs=>?_;refine (qM ds s h3 (hd.ext hs.ext)).mono ?_;rintro _ h6 ⟨rfl,hk,rfl⟩;refine⟨_,rfl,?_⟩;refine aM (n:=d.hd.n) hs (fun i=>∀(j:Nat) (x:Df),j<i->d.ds[j]?=some x -> -1<=min x.x x.y/\max x.x x.y<(bt ds).length /\ -20000<=x.c/\x.c<=20000) (fun j x hj=>by omega) ?_;rintro-i xG dQ ⟨hs,hq⟩;refine⟨_,hs.rd 0 rfl rfl,aa (fun c=>?_) (fun c=>?_)⟩
 .replace c:=ba c;refine⟨_,hs.rd 0 rfl rfl,?_⟩;refine (hi.pd.rw.ext hs.ext).aF (by omega) (by omega) fun b o x g t=>?_;replace g:d.ds[i]?=some x:=g;refine⟨_,_,_,t,?_⟩;refine hs.ai (vs:=x.cs) rfl rfl fun aA hs=>?_
  repeat' (first
    | (refine⟨_,hs.rd 0 rfl rfl,?_⟩)
    | (refine⟨_,hs.rd 1 rfl rfl,?_⟩)
    | (refine aQ (fun _=>?_) (fun _=>?_))
    | (refine eh (fun _=>?_) (fun _=>?_))
    | (refine iC (fun _=>?_) (fun _=>?_)))
  all_goals first
   | exact RP.f (fun hG=>by have:=hG.d x (Yb g);omega) hs.ext
   | (refine Up.next c (by omega) ⟨hs.drop 1,fun j y hj hy=>?_⟩
      by_cases e:j=i
      .subst e;rw[g] at hy;cases hy;omega
      .exact hq j y (by omega) hy)
 .replace c:=bd c;have hqd:∀x∈d.ds,-1<=min x.x x.y/\max x.x x.y<(bt ds).length /\ -20000<=x.c/\x.c<=20000:=fun x hx=>by
   obtain⟨j,hj⟩:=Yf.1 hx;exact hq j x (by have:=(Ya.1 hj).1;omega) hj
  clear hq;refine aM (n:=d.he.n) hs (fun i=>∀(j:Nat) (x:sG),j<i->d.es[j]?=some x->fO (bt ds) x.x/\fO (bt ds) x.y) (fun j x hj=>by omega) ?_;rintro-i OZ dQ ⟨hs,hq⟩;refine⟨_,hs.rd 0 rfl rfl,aa (fun c=>?_) (fun c=>?_)⟩
  .replace c:=ba c;refine⟨_,hs.rd 0 rfl rfl,?_⟩;refine (hi.pe.rw.ext hs.ext).aF (by omega) (by omega) fun b o x g t=>?_;replace g:d.es[i]?=some x:=g;refine⟨⟨by omega,by omega⟩,_,t.nth 0 rfl,?_⟩;refine (yh ds s _ OZ (hd.ext hs.ext)).mono ?_;rintro _ uU ⟨⟨b1,rfl,rL⟩,E⟩;have hs:=hs.step E;refine⟨_,rfl,aa (fun c1=>RP.f (fun hG=>fg rL (bF c1) (hG.e x (Yb g)).1) hs.ext) (fun c1=>?_)⟩;refine⟨_,hs.rd 0 rfl rfl,?_⟩;refine (hi.pe.rw.ext hs.ext).aF (by omega) (by omega) fun b o x' g' t=>?_;replace g':d.es[i]?=some x':=g';rw[g] at g';cases g';refine⟨⟨by omega,by omega⟩,_,t.nth 1 rfl,?_⟩;refine (yh ds s _ uU (hd.ext hs.ext)).mono ?_;rintro _ pF ⟨⟨b2,rfl,mj⟩,E⟩;have hs:=hs.step E;refine⟨_,rfl,aa (fun c2=>RP.f (fun hG=>fg mj (bF c2) (hG.e x (Yb g)).2) hs.ext) (fun c2=>Up.next c (by omega) ⟨hs,fun j y hj hy=>?_⟩)⟩;by_cases e:j=i
   .subst e;rw[g] at hy;cases hy;exact⟨rL.1 (bT c1),mj.1 (bT c2)⟩
   .exact hq j y (by omega) hy
  .replace c:=bd c;have YO:∀x∈d.es,fO (bt ds) x.x/\fO (bt ds) x.y:=fun x hx=>by
    obtain⟨j,hj⟩:=Yf.1 hx;exact hq j x (by have:=(Ya.1 hj).1;omega) hj
   refine⟨_,hs.rd 0 rfl rfl,aa (fun c1=>⟨_,hs.rd 0 rfl rfl,?_⟩) (fun c1=>?_)⟩
   .replace c1:=bM c1;refine RP.e ⟨fun hb=>⟨by omega,by have:=bM hb;omega,hqd,YO⟩,fun hG=>?_⟩ hs.ext;have:=hG.ne;exact decide_eq_true (by omega)
   .replace c1:=eB c1;exact RP.f (fun hG=>by have:=hG.nd;omega) hs.ext
def Wq(ds:List Dc):Prop:=∀d∈ds,d.nm.length<=1048576
theorem mY{α:Type}{l:List α}{p:α->Bool}:(l.any p)=false ↔ ∀(j:Nat) (y:α),l[j]?=some y->p y=false:=by
 rw[List.any_eq_false];refine⟨fun h j y hj=>?_,fun h y hy=>?_⟩
 .have:=h y (Yb hj);cases hp:p y<;>simp_all
 .obtain⟨j,hj⟩:=Yf.1 hy;rw[h j y hj];decide
theorem tC(ds:List Dc)(s:Sl)(h:Heap)(hd:DL h s ds)(hN:Wq ds):Fn Pz 102 #[.slice s.a s.n s.c] h (RP (jy ds) h):=by
 apply QR;unfold Vc;have hn:=hd.r.ln;have hm:=hd.r.sm;refine aa (fun c0=>RP.f (fun hG=>by have:=hG.pn;have:=bM c0;omega) .cD) (fun c0=>?_);replace c0:=eB c0;refine (qM ds s h hd).mono ?_;rintro _ h3 ⟨rfl,hk,rfl⟩;refine⟨_,rfl,aa (fun O7=>RP.f (fun hG=>by have:=hG.pv;have:=bM O7;omega) .cD) (fun O7=>?_)⟩;replace O7:=eB O7;refine⟨fun f i h' m=>∃b:Nat,i=b/\b<=s.n/\m=s.n-b/\St h3 h' []/\f=((bt (ds.take b)).length:Nat)/\∀(j:Nat) (y:Dc),j<b->ds[j]?=some y->Ws ds j y,⟨_,0,rfl,by omega,rfl,St.refl _,rfl,fun j y hj=>by omega⟩,?_⟩;rintro-_ _ h9 m ⟨b,rfl,hb,rfl,hs,rfl,hq⟩;refine aa (fun c=>?_) (fun c=>RP.t ⟨by omega,by omega,fun j y hy=>hq j y (by have:=bd c;have:=(Ya.1 hy).1;omega) hy⟩ hs.ext);replace c:=ba c;refine (hd.r.rw.ext hs.ext).aF (by omega) (by omega) fun b10 Vw d g t=>?_;replace g:ds[b]?=some d:=g;have LU:=Yb g;have zk:=hd.i d LU;have Ct:=zk.pf.ln;have VR:=zk.pf.sm;refine⟨_,_,_,_,_,t,?_⟩;refine hs.ai (vs:=d.cs) rfl rfl fun xB hs=>?_;refine aM (n:=b) hs (fun i=>∀(j:Nat) (y:Dc),j<i->ds[j]?=some y->y.nm≠d.nm) (fun j y hj=>by omega) ?_;rintro-k1 qt BA ⟨hs,Bu⟩;refine aa (fun c1=>?_) (fun c1=>?_)
 .replace c1:=ba c1;refine (hd.r.rw.ext hs.ext).aF (by omega) (by omega) fun b24 o25 d2 g2 t2=>?_;replace g2:ds[k1]?=some d2:=g2;refine⟨_,t2.nth 0 rfl,_,hs.rd 0 rfl rfl,sBs (fun e=>?_) (fun e=>Up.next c1 (by omega) ⟨hs,fun j y hj hy=>?_⟩)⟩
  .refine RP.f (fun hG=>?_) hs.ext;have:=mY.1 (hG.pd b d g).pd k1 d2 (by rw[vM,if_pos c1];exact g2);exact eB this e
  .by_cases e2:j=k1
   .subst e2;rw[g2] at hy;cases hy;exact e
   .exact Bu j y (by omega) hy
 replace c1:=bd c1;have Zj:((ds.take b).any fun x=>decide (x.nm=d.nm))=false:=mY.2 fun j y hy=>by
  rw[vM] at hy;split at hy
  .exact decide_eq_false (Bu j y (by omega) hy)
  .cases hy
 clear Bu;refine aM (n:=d.hf.n) hs (fun i=>∀(j:Nat) (y:jx),j<i->d.fs[j]?=some y->GM d.fs j y) (fun j y hj=>by omega) ?_;rintro-k2 OY dV ⟨hs,jX⟩;refine⟨_,hs.rd 0 rfl rfl,aa (fun c2=>?_) (fun c2=>?_)⟩
 .replace c2:=ba c2;refine⟨_,hs.rd 0 rfl rfl,?_⟩;refine (zk.pf.rw.ext hs.ext).aF (by omega) (by omega) fun b36 o37 f g3 t3=>?_;replace g3:d.fs[k2]?=some f:=g3;refine⟨_,_,_,t3.sub 1 3 rfl,?_⟩;refine (uV _ _ _ OY).mono ?_;rintro _ SI ⟨⟨b1,rfl,rL⟩,E⟩;have hs:=hs.step E;refine⟨_,rfl,aa (fun c3=>RP.f (fun hG=>fg rL (bF c3) ((hG.pd b d g).KX k2 f g3).ps) hs.ext) (fun c3=>?_)⟩;refine⟨_,hs.rd 0 rfl rfl,?_⟩;refine (zk.pf.rw.ext hs.ext).aF (by omega) (by omega) fun b45 o46 f2 g4 t4=>?_;replace g4:d.fs[k2]?=some f2:=g4;rw[g3] at g4;cases g4;refine⟨_,t4.nth 0 rfl,?_⟩;refine (iL (bs f.nm) SI).mono ?_;rintro _ n4 ⟨rfl,E⟩;have hs:=hs.step E;refine⟨_,rfl,aa (fun c4=>RP.f (fun hG=>?_) hs.ext) (fun c4=>?_)⟩
  .have:=((hG.pd b d g).KX k2 f g3).pw;rw[cH,this] at c4;cases c4
  refine aM (n:=k2) hs (fun i=>∀(j:Nat) (y:jx),j<i->d.fs[j]?=some y->y.nm≠f.nm) (fun j y hj=>by omega) ?_;rintro-j1 OX hj1 ⟨hs,hq3⟩;refine aa (fun c5=>?_) (fun c5=>?_)
  .replace c5:=ba c5;refine⟨_,hs.rd 0 rfl rfl,?_⟩;refine (zk.pf.rw.ext hs.ext).aF (by omega) (by omega) fun b57 o58 f3 g5 t5=>?_;replace g5:d.fs[j1]?=some f3:=g5;refine⟨_,t5.nth 0 rfl,_,hs.rd 0 rfl rfl,?_⟩;refine (zk.pf.rw.ext hs.ext).aF (by omega) (by omega) fun b61 XP f4 g6 t6=>?_;replace g6:d.fs[k2]?=some f4:=g6;rw[g3] at g6;cases g6;refine⟨_,t6.nth 0 rfl,sBs (fun e=>?_) (fun e=>Up.next c5 (by omega) ⟨hs,fun j y hj hy=>?_⟩)⟩
   .refine RP.f (fun hG=>?_) hs.ext;have:=mY.1 ((hG.pd b d g).KX k2 f g3).pd j1 f3 (by rw[vM,if_pos c5];exact g5);exact eB this e
   .by_cases e2:j=j1
    .subst e2;rw[g5] at hy;cases hy;exact e
    .exact hq3 j y (by omega) hy
  .replace c5:=bd c5;refine Up.next c2 (by omega) ⟨hs,fun j y hj hy=>?_⟩;by_cases e2:j=k2
   .subst e2;rw[g3] at hy;cases hy;refine⟨?_,rL.1 (bT c3),mY.2 fun j' y' uD=>?_⟩
    .have:=bT c4;rw[cH] at this;exact this
    .rw[vM] at uD;split at uD
     .exact decide_eq_false (hq3 j' y' (by omega) uD)
     .cases uD
   .exact jX j y (by omega) hy
 .replace c2:d.hf.n<=k2:=by have:=eB c2;omega
  have ie:∀k f,d.fs[k]?=some f->GM d.fs k f:=fun k f hf=>jX k f (by have:=(Ya.1 hf).1;omega) hf;refine⟨_,hs.rd 0 rfl rfl,?_⟩;refine (Bj (bs d.nm) OY (hN d LU)).mono ?_;rintro _ V4 ⟨rfl,E⟩;have hs:=hs.step E;refine⟨_,rfl,aa (fun c3=>RP.f (fun hG=>?_) hs.ext) (fun c3=>?_)⟩
  .have:=(hG.pd b d g).pp;rw[cH,this] at c3;cases c3
  have hpp:fX d.nm=true:=by have:=bT c3;rw[cH] at this;exact this
  refine⟨_,hs.rd 0 rfl rfl,aa (fun c4=>RP.f (fun hG=>by have:=(hG.pd b d g).pn;have:=bM c4;omega) hs.ext) (fun c4=>?_)⟩;replace c4:=eB c4;refine⟨_,hs.rd 0 rfl rfl,iC (fun c5=>RP.f (fun hG=>by have:=(hG.pd b d g).pf;omega) hs.ext) (fun c5=>?_)⟩;refine⟨_,_,hs.at 0 rfl (o:=3) (n:=2) rfl,?_⟩;refine (rU ds s d V4 (hd.ext hs.ext) (zk.ext hs.ext)).mono ?_;rintro _ ZL ⟨⟨b2,rfl,mj⟩,E⟩;have hs:=hs.step E;refine⟨_,rfl,aa (fun c6=>RP.f (fun hG=>fg mj (bF c6) (hG.pd b d g).pg) hs.ext) (fun c6=>?_)⟩;refine⟨_,hs.rd 0 rfl rfl,s.n-(b+1),by omega,b+1,by rw[aZ (by omega) (by omega)];omega,by omega,rfl,hs.drop 1,?_,fun j y hj hy=>?_⟩
  .have h1:(bt (ds.take (b+1))).length<=(bt ds).length:=qI ds (b+1);rw[List.take_add_one,g,Option.toList_some,fN,Yh] at h1 ⊢;rw[aZ (by omega) (by omega)];omega
  .by_cases e2:j=b
   .subst e2;rw[g] at hy;cases hy;exact⟨hpp,by omega,by omega,Zj,ie,mj.1 (bT c6)⟩
   .exact hq j y (by omega) hy
theorem St.cut{h0 h:Heap}{L:List It}(hs:St h0 h L)(k:Nat){s:Sl}{e:TypeId}{n:Nat}{rows:List (List Value)}(hk:L[k]?=some (.sl s e n rows))(hn:0<n)(i:Nat)(hi:i<=s.n):
  St h0 h (L.set k (.sl ⟨s.a,i,s.c⟩ e n (rows.take i))):=by
 have jf:=hs.get hk;have R5:=(hs.rw k hk hn).1;refine hs.gC hk (aY _) (j:=.sl ⟨s.a,i,s.c⟩ e n (rows.take i)) ?_ (fun b hb=>.inr hb) (fun _ _ _=>rfl);have uH:∀r∈rows.take i,r.length=n:=fun r hr=>jf.2 r (List.mem_of_mem_take hr);have ie:(rows.take i).flatten=rows.flatten.take (i*n):=by
  have h5:rows=rows.take i++rows.drop i:=(List.take_append_drop i rows).symm;rw[congrArg List.flatten h5,List.flatten_append,O8 (by rw[aL _ uH,Yu,Nat.min_eq_left (by omega)];exact aY _)];rw[Yj (l:=(rows.take i).flatten) (by rw[aL _ uH,Yu,Nat.min_eq_left (by omega)];exact aY _)]
 have dQ:i*n<=s.n*n:=Nat.mul_le_mul_right _ hi;refine⟨⟨by rw[aL _ uH,Yu];show min i rows.length*n=i*n;rw[Nat.min_eq_left (by omega)],?_⟩,uH⟩;rcases jf.1.2 with ⟨ha,h2,h3⟩ | ⟨g,cur,ha,EA,hh,Bv,zm,eK,Lu⟩
 .exact .inl ⟨ha,by show i=0;omega,h3⟩
 .refine .inr ⟨g,cur,ha,EA,hh,by show i<=s.c;omega,zm,eK,?_⟩;show cur.toList.take (i*n)=_;rw[ie,<-Lu,List.take_take,Nat.min_eq_left dQ]
theorem nq{xs:List Value}{i:Nat}{v:Value}(h:i<xs.length):ay xs i [v]=xs.set i v:=by
 unfold ay;rw[List.set_eq_take_append_cons_drop,if_pos h];simp
theorem gQ(g:Gl)(p:Int)(h:Heap):Fn Pz 103 #[g.v,.int .i64 p] h (RP (0<=p/\p<g.n) h):=by
 apply QQ (bs g.nm) g.hr g.hd g.n g.s g.e g.he g.ht;unfold Vb;refine (St.refl h).aq fun h9 hs=>?_;refine aa (fun c=>?_) (fun c=>?_)
 .refine⟨_,hs.rd 0 rfl rfl,RP.e ?_ hs.ext⟩;have:=bM c;rw[decide_eq_true_eq];omega
 .exact RP.f (by have:=eB c;omega) hs.ext
structure N9 (g:Gl):Prop where
 n:1<=g.n/\g.n<=200
 s:0<=g.s/\g.s<g.n
 e:0<=g.e/\g.e<g.n
 es:∀x∈g.es,0<=x.f/\x.f<g.n/\0<=x.t/\x.t<g.n
theorem vT.R{g:Gl}(h:vT g):N9 g:=⟨⟨h.n.1,h.n.2.1⟩,⟨h.n.2.2.1,h.n.2.2.2.2.1⟩,⟨h.n.2.2.2.1,h.n.2.2.2.2.2⟩,fun x hx=>by
 have:=h.e x hx;unfold gN at this;omega⟩
theorem Be(g:Gl)(h:Heap)(hg:GI h g):Fn Pz 44 #[g.v] h (RP (vT g) h):=by
 apply Xe (bs g.nm) g.hr g.hd g.n g.s g.e g.he g.ht;unfold W44;have qk:=hg.e.ln;have Kn:=hg.e.sm;have uG:=hg.r.ln;have hdn:=hg.d.r.ln;refine (St.refl h).aq fun h9 hs=>?_;refine aM (n:=g.he.n) hs (fun i=>∀j x,j<i->g.es[j]?=some x->gN g x) (fun j x hj=>by omega) ?_;rintro-i zu hi ⟨hs,hq⟩;refine⟨_,hs.rd 0 rfl rfl,aa (fun c=>?_) (fun c=>?_)⟩
 .replace c:=ba c;refine⟨_,hs.rd 0 rfl rfl,?_⟩;refine (hg.e.rw.ext hs.ext).aF (by omega) (by omega) fun b o x gx t=>?_;replace gx:g.es[i]?=some x:=gx;refine⟨_,_,_,_,_,_,t,?_⟩;refine hs.ai (vs:=x.cs) rfl rfl fun G4 hs=>?_;refine⟨_,_,_,_,_,_,_,_,hs.at 1 rfl (o:=0) (n:=8) rfl,_,hs.rd 0 rfl rfl,?_⟩;refine (gQ g x.f G4).mono ?_;rintro _ sU ⟨⟨b1,rfl,rL⟩,E⟩;have hs:=hs.step E;refine⟨_,rfl,aa (fun c1=>RP.f (fun hG=>by have:=fg rL (bF c1);have:=hG.e x (Yb gx);unfold gN at this;omega) hs.ext) (fun c1=>?_)⟩;refine⟨_,_,_,_,_,_,_,_,hs.at 1 rfl (o:=0) (n:=8) rfl,_,hs.rd 0 rfl rfl,?_⟩;refine (gQ g x.t sU).mono ?_;rintro _ n4 ⟨⟨b2,rfl,mj⟩,E⟩;have hs:=hs.step E;refine⟨_,rfl,aa (fun c2=>RP.f (fun hG=>by have:=fg mj (bF c2);have:=hG.e x (Yb gx);unfold gN at this;omega) hs.ext) (fun c2=>?_)⟩;have f1:=rL.1 (bT c1);have f2:=mj.1 (bT c2)
  repeat' (first
     | (refine⟨_,hs.rd 0 rfl rfl,?_⟩)
     | (refine⟨_,hs.rd 1 rfl rfl,?_⟩)
     | (refine⟨_,hs.rd 2 rfl rfl,?_⟩)
     | (refine⟨_,_,_,hs.at 0 rfl (o:=1) (n:=3) rfl,?_⟩)
     | (refine⟨_,_,_,hs.at 1 rfl (o:=1) (n:=3) rfl,?_⟩)
     | (refine aQ (fun _=>?_) (fun _=>?_))
     | (refine eh (fun _=>?_) (fun _=>?_))
     | (refine iC (fun _=>?_) (fun _=>?_))
     | (refine aa (fun _=>?_) (fun _=>?_)))
  all_goals first
   | exact RP.f (fun hG=>by have:=hG.e x (Yb gx);unfold gN at this;omega) hs.ext
   | (refine Up.next c (by omega) ⟨hs.drop 1,fun j y hj hy=>?_⟩
      by_cases e:j=i
      .subst e;rw[gx] at hy;cases hy;unfold gN;omega
      .exact hq j y (by omega) hy)
 .replace c:=bd c;refine⟨_,hs.rd 0 rfl rfl,aa (fun c1=>?_) (fun c1=>RP.f (fun hG=>by have:=eB c1;have:=hG.n;omega) hs.ext)⟩;refine⟨_,hs.rd 0 rfl rfl,aa (fun c2=>?_) (fun c2=>RP.f (fun hG=>by have:=eB c2;have:=hG.n;omega) hs.ext)⟩;refine⟨_,_,_,_,_,_,_,_,hs.at 0 rfl (o:=0) (n:=8) rfl,_,hs.rd 0 rfl rfl,?_⟩;refine (gQ g g.s zu).mono ?_;rintro _ ZL ⟨⟨b3,rfl,Md⟩,E⟩;have hs:=hs.step E;refine⟨_,rfl,aa (fun c3=>?_) (fun c3=>RP.f (fun hG=>by have:=fg Md c3;have:=hG.n;omega) hs.ext)⟩;refine⟨_,_,_,_,_,_,_,_,hs.at 0 rfl (o:=0) (n:=8) rfl,_,hs.rd 0 rfl rfl,?_⟩;refine (gQ g g.e ZL).mono ?_;rintro _ ZK ⟨⟨b4,rfl,OP⟩,E⟩;have hs:=hs.step E;refine⟨_,rfl,aa (fun c4=>?_) (fun c4=>RP.f (fun hG=>by have:=fg OP c4;have:=hG.n;omega) hs.ext)⟩;have f1:=bM c1;have f2:=bM c2;have f3:=Md.1 c3;have f4:=OP.1 c4;refine⟨_,hs.rd 0 rfl rfl,RP.e ⟨fun hb=>⟨by omega,by have:=bM hb;omega,fun x hx=>?_⟩,fun hG=>decide_eq_true (by have:=hG.m;omega)⟩ hs.ext⟩;obtain⟨j,hj⟩:=Yf.1 hx;exact hq j x (by have:=(Ya.1 hj).1;omega) hj
structure ApS (g:Gl):Prop where
 s:∀x∈g.es,x.ag=true->x.f≠g.s
 p:∀i x,g.es[i]?=some x->∀k y,g.es[k]?=some y->¬cI i k x y
theorem Jt(g:Gl)(h:Heap)(hg:GI h g):Fn Pz 45 #[g.v] h (RP (ApS g) h):=by
 apply Xd (bs g.nm) g.hr g.hd g.n g.s g.e g.he g.ht;unfold W45 NY Jx;have qk:=hg.e.ln;have Kn:=hg.e.sm;refine (St.refl h).aq fun h9 hs=>?_;refine aM (n:=g.he.n) hs (fun i=>∀(j:Nat) (x:Ed),j<i->g.es[j]?=some x->(x.ag=true->x.f≠g.s)/\∀k y,g.es[k]?=some y->¬cI j k x y) (fun j y hj=>by omega) ?_;rintro-i zu hi ⟨hs,hq⟩;refine⟨_,hs.rd 0 rfl rfl,aa (fun c=>?_) (fun c=>RP.t ⟨fun x hx=>?_,fun j x hx=>?_⟩ hs.ext)⟩
 .replace c:=ba c;refine⟨_,hs.rd 0 rfl rfl,?_⟩;refine (hg.e.rw.ext hs.ext).aF (by omega) (by omega) fun b o x gx t=>?_;replace gx:g.es[i]?=some x:=gx;refine⟨_,_,_,_,_,_,t,?_⟩;refine hs.ai (vs:=x.cs) rfl rfl fun G4 hs=>?_;refine⟨_,hs.rd 0 rfl rfl,aa (fun cg=>?_) (fun cg=>?_)⟩;refine⟨_,hs.rd 0 rfl rfl,_,hs.rd 1 rfl rfl,eh (fun cs=>RP.f (fun hG=>hG.s x (Yb gx) cg cs) hs.ext) (fun cs=>?_)⟩;rotate_left;all_goals
   refine aM (n:=g.he.n) hs (fun k=>∀(j:Nat) (y:Ed),j<k->g.es[j]?=some y->¬cI i j x y) (fun j y hj=>by omega) ?_;rintro-k mm hk ⟨hs,jX⟩;refine⟨_,hs.rd 1 rfl rfl,aa (fun c2=>?_) (fun c2=>?_)⟩
   .replace c2:=ba c2;refine⟨_,hs.rd 1 rfl rfl,?_⟩;refine (hg.e.rw.ext hs.ext).aF (by omega) (by omega) fun b o y gy ty=>?_;replace gy:g.es[k]?=some y:=gy;refine⟨_,_,_,_,_,_,ty,?_⟩;refine hs.ai (vs:=y.cs) rfl rfl fun oL hs=>?_
    repeat' (first
       | (refine⟨_,hs.rd 0 rfl rfl,?_⟩)
       | (refine⟨_,hs.rd 1 rfl rfl,?_⟩)
       | (refine⟨_,hs.rd 2 rfl rfl,?_⟩)
       | (refine⟨_,_,_,hs.at 0 rfl (o:=1) (n:=3) rfl,?_⟩)
       | (refine⟨_,_,_,hs.at 1 rfl (o:=1) (n:=3) rfl,?_⟩)
       | (refine aQ (fun _=>?_) (fun _=>?_))
       | (refine eh (fun _=>?_) (fun _=>?_))
       | (refine iC (fun _=>?_) (fun _=>?_))
       | (refine aa (fun _=>?_) (fun _=>?_)))
    all_goals first
     | (refine RP.f (fun hG=>hG.p i x gx k y gy ?_) hs.ext;clear hq jX hs hg t ty;unfold cI;grind)
     | (refine Up.next c2 (by omega) ⟨hs.drop 1,fun j z hj hz=>?_⟩
        by_cases e:j=k
        .subst e;rw[gy] at hz;cases hz;clear hq jX hs hg t ty;unfold cI;grind
        .exact jX j z (by omega) hz)
   .replace c2:g.he.n<=k:=by have:=eB c2;omega
    refine Up.next c (by omega) ⟨hs.drop 1,fun j z hj hz=>?_⟩;by_cases e:j=i
    .subst e;rw[gx] at hz;cases hz;exact⟨by grind,fun k' y' uD=>jX k' y' (by have:=(Ya.1 uD).1;omega) uD⟩
    .exact hq j z (by omega) hz
 .obtain⟨j,hj⟩:=Yf.1 hx;exact (hq j x (by have:=bd c;have:=(Ya.1 hj).1;omega) hj).1
 .exact (hq j x (by have:=bd c;have:=(Ya.1 hx).1;omega) hx).2
theorem Hm(g:Gl)(h:Heap)(hg:GI h g)(hN:vT g):Fn Pz 47 #[g.v] h (RP (vQ g) h):=by
 apply Xb (bs g.nm) g.hr g.hd g.n g.s g.e g.he g.ht;unfold W47 NX;have qk:=hg.e.ln;have Kn:=hg.e.sm;have Lr:=hg.t.ln;have Bq:=hg.t.sm;refine (St.refl h).aq fun h9 hs=>?_;refine aM (n:=g.ht.n) hs (fun i=>∀(j:Nat) (x:To),j<i->g.ts[j]?=some x->Wm g j x) (fun j y hj=>by omega) ?_;rintro-i zu hi ⟨hs,hq⟩;refine⟨_,hs.rd 0 rfl rfl,aa (fun c=>?_) (fun c=>RP.t (fun j x hx=>hq j x (by have:=bd c;have:=(Ya.1 hx).1;omega) hx) hs.ext)⟩;replace c:=ba c;refine⟨_,hs.rd 0 rfl rfl,?_⟩;refine (hg.t.rw.ext hs.ext).aF (by omega) (by omega) fun b o x gx t=>?_;replace gx:g.ts[i]?=some x:=gx;have no:∀ {q:Prop},(Wm g i x->q)->vQ g->q:=fun f hT=>f (hT i x gx);refine⟨_,_,_,t,?_⟩;refine hs.ai (vs:=x.cs) rfl rfl fun qt hs=>?_;refine⟨_,_,_,_,_,_,_,_,hs.at 1 rfl (o:=0) (n:=8) rfl,_,hs.rd 0 rfl rfl,?_⟩;refine (gQ g x.s qt).mono ?_;rintro _ bx ⟨⟨b1,rfl,rL⟩,E⟩;have hs:=hs.step E;refine⟨_,rfl,aa (fun c1=>RP.f (no fun hT=>?_) hs.ext) (fun c1=>?_)⟩
 .obtain⟨_,y,hy,hf,_⟩:=hT.e;have:=fg rL (bF c1);have:=hN.R.es y (Yb hy);omega
 have f1:=rL.1 (bT c1);refine aQ (fun c2=>?_) (fun c2=>?_);have hw:IntKind.wrap .i64 ((i:Int)-1)=((i-1:Nat):Int):=by rw[aZ (by omega) (by omega)];omega
 refine⟨_,hs.rd 0 rfl rfl,_,hs.rd 1 rfl rfl,?_⟩;rw[hw];refine (hg.t.rw.ext hs.ext).aF (by omega) (by omega) fun b o z gz tz=>?_;replace gz:g.ts[i-1]?=some z:=gz;have hl:jq g.ts i=z.s:=by unfold jq;rw[if_neg (by omega),gz]
 refine⟨_,tz.nth 0 rfl,aQ (fun d0=>RP.f (no fun hT=>by have:=hT.o;omega) hs.ext) (fun d0=>?_)⟩;have ho:jq g.ts i<x.s:=by omega
 rotate_left;have ho:jq g.ts i<x.s:=by unfold jq;rw[if_pos (by omega)];omega
 all_goals
  refine⟨_,hs.rd 0 rfl rfl,aQ (fun d1=>RP.f (no fun hT=>by have:=hT.k;omega) hs.ext) (fun d1=>?_)⟩;refine⟨_,hs.rd 0 rfl rfl,aQ (fun d2=>RP.f (no fun hT=>by have:=hT.k;omega) hs.ext) (fun d2=>?_)⟩;refine⟨_,hs.rd 0 rfl rfl,aQ (fun d3=>RP.f (no fun hT=>by have:=hT.e.1;omega) hs.ext) (fun d3=>?_)⟩;refine⟨_,hs.rd 0 rfl rfl,_,hs.rd 1 rfl rfl,aQ (fun d4=>RP.f (no fun hT=>by obtain⟨_,y,hy,_⟩:=hT.e;have:=(Ya.1 hy).1;omega) hs.ext) (fun d4=>?_)⟩;refine⟨_,hs.rd 1 rfl rfl,_,hs.rd 0 rfl rfl,?_⟩;refine (hg.e.rw.ext hs.ext).aF (by omega) (by omega) fun b o y gy ty=>?_;refine⟨_,ty.nth 0 rfl,_,hs.rd 0 rfl rfl,iC (fun d5=>RP.f (no fun hT=>by obtain⟨_,z,hz,hf,_⟩:=hT.e;rw[gy] at hz;cases hz;omega) hs.ext) (fun d5=>⟨_,hs.rd 1 rfl rfl,_,hs.rd 0 rfl rfl,?_⟩)⟩;refine (hg.e.rw.ext hs.ext).aF (by omega) (by omega) fun b o y2 gy2 ty=>?_;rw[gy] at gy2;cases gy2;refine⟨_,ty.nth 5 rfl,aa (fun d6=>RP.f (no fun hT=>by obtain⟨_,z,hz,_,hf⟩:=hT.e;rw[gy] at hz;cases hz;rw[hf] at d6;cases d6) hs.ext) (fun d6=>?_)⟩;refine Up.next c (by omega) ⟨hs.drop 1,fun j z hj hz=>?_⟩;by_cases e:j=i
  .subst e;rw[gx] at hz;cases hz;exact⟨ho,by omega,by omega,y,gy,by omega,d6⟩
  .exact hq j z (by omega) hz
theorem B6(g:Gl)(p q:Int)(h:Heap)(hg:GI h g)(Ej:0<=p)(hp1:p<g.es.length)(OD:0<=q)(Bu:q<g.es.length):Fn Pz 183 #[g.v,.int .i64 p,.int .i64 q] h (RBo h):=by
 apply P6 (bs g.nm) g.hr g.hd g.n g.s g.e g.he g.ht;unfold Uq GA;have qk:=hg.e.ln;refine (St.refl h).aq fun h9 hs=>?_;have kF:=hg.e.rw.ext hs.ext;have eK:h.size<h9.size:=Ez (hs.rd 0 rfl (i:=0) rfl);refine⟨_,hs.rd 0 rfl rfl,?_⟩;refine kF.aF (by omega) (by omega) fun b1 o1 x _ t1=>?_;refine⟨_,_,_,t1.sub 1 3 rfl,_,hs.rd 0 rfl rfl,?_⟩;refine kF.aF (by omega) (by omega) fun b2 o2 y _ t2=>?_;have mj:b2<h9.size:=Ez t2.hd;refine⟨_,_,_,t2.sub 1 3 rfl,?_,?_⟩
 .intro fK e22;have E22:Ext h9 fK:=by rw[e22];exact Ext.push _ _
  refine⟨Vp E22,?_⟩;have hs:St h fK [.af h9.size [.int .i64 0,.int .i64 0,.int .i64 0] 65,.af h.size g.cs 27]:=hs.aq (K:=fun fK=>St h fK [.af h9.size [.int .i64 0,.int .i64 0,.int .i64 0] 65,.af h.size g.cs 27]) (fun _ hs=>hs) fK e22;intro qt e23;have E23:Ext fK qt:=by rw[e23];exact Ext.push _ _
  refine⟨Vp E23,?_⟩;have hs:St h qt [.af fK.size [.int .i64 0,.int .i64 0,.int .i64 0] 65,.af h9.size [.int .i64 0,.int .i64 0,.int .i64 0] 65,.af h.size g.cs 27]:=hs.aq (K:=fun qt=>St h qt [.af fK.size [.int .i64 0,.int .i64 0,.int .i64 0] 65,.af h9.size [.int .i64 0,.int .i64 0,.int .i64 0] 65,.af h.size g.cs 27]) (fun _ hs=>hs) qt e23;obtain⟨k1,k2⟩:=hs.put (K:=fun h'=>St h h' [.af fK.size [.int .i64 0,.int .i64 0,.int .i64 0] 65,.af h9.size [.int .i64 x.a,.int .i64 x.b,.int .i64 x.l] 65,.af h.size g.cs 27]) 1 rfl (o:=0) (vs:=[.int .i64 x.a,.int .i64 x.b,.int .i64 x.l]) (n:=3) rfl (show 3<=3 by decide) (fun h' hs=>hs);refine⟨k1,fun EI e24=>?_⟩;have hs:=k2 EI e24;have hB:jz h9.size qt EI:=by rw[e24];exact jz.bh (a:=⟨h9.size,0,none⟩) _ _ _
  refine⟨GH hB (fun a ha=>?_),?_⟩
  .simp only[Yr,List.not_mem_nil,or_false] at ha;rcases ha with rfl | rfl
   .show b2≠h9.size;omega
   .show h.size≠h9.size;omega
  refine hs.put 0 rfl (o:=0) (vs:=[.int .i64 y.a,.int .i64 y.b,.int .i64 y.l]) rfl (show 3<=3 by decide) fun h25 hs=>?_
  repeat' (first
    | exact .mk hs.ext
    | (refine aa (fun _=>?_) (fun _=>?_))
    | (refine⟨_,hs.rd 0 rfl rfl,?_⟩)
    | (refine⟨_,hs.rd 1 rfl rfl,?_⟩))
 .intro mm e34;have E34:Ext h9 mm:=by rw[e34];exact Ext.push _ _
  refine⟨Vp E34,?_⟩;have hs:St h mm [.af h9.size [.int .i64 0,.int .i64 0,.int .i64 0] 65,.af h.size g.cs 27]:=hs.aq (K:=fun mm=>St h mm [.af h9.size [.int .i64 0,.int .i64 0,.int .i64 0] 65,.af h.size g.cs 27]) (fun _ hs=>hs) mm e34;intro bx e35;have E35:Ext mm bx:=by rw[e35];exact Ext.push _ _
  refine⟨Vp E35,?_⟩;have aaB:h9.size<mm.size:=by rw[e34];simp
  have hs:St h bx [.af mm.size [.int .i64 0,.int .i64 0,.int .i64 0] 65,.af h9.size [.int .i64 0,.int .i64 0,.int .i64 0] 65,.af h.size g.cs 27]:=hs.aq (K:=fun bx=>St h bx [.af mm.size [.int .i64 0,.int .i64 0,.int .i64 0] 65,.af h9.size [.int .i64 0,.int .i64 0,.int .i64 0] 65,.af h.size g.cs 27]) (fun _ hs=>hs) bx e35;obtain⟨k1,k2⟩:=hs.put (K:=fun h'=>St h h' [.af mm.size [.int .i64 x.a,.int .i64 x.b,.int .i64 x.l] 65,.af h9.size [.int .i64 0,.int .i64 0,.int .i64 0] 65,.af h.size g.cs 27]) 0 rfl (o:=0) (vs:=[.int .i64 x.a,.int .i64 x.b,.int .i64 x.l]) (n:=3) rfl (show 3<=3 by decide) (fun h' hs=>hs);refine⟨k1,fun fA e36=>?_⟩;have hs:=k2 fA e36;have hB:jz mm.size bx fA:=by rw[e36];exact jz.bh (a:=⟨mm.size,0,none⟩) _ _ _
  refine⟨GH hB (fun a ha=>?_),?_⟩
  .simp only[Yr,List.not_mem_nil,or_false] at ha;rcases ha with rfl | rfl
   .show b2≠mm.size;omega
   .show h.size≠mm.size;omega
  refine hs.put 1 rfl (o:=0) (vs:=[.int .i64 y.a,.int .i64 y.b,.int .i64 y.l]) rfl (show 3<=3 by decide) fun qs hs=>?_
  repeat' (first
    | exact .mk hs.ext
    | (refine aa (fun _=>?_) (fun _=>?_))
    | (refine⟨_,hs.rd 0 rfl rfl,?_⟩)
    | (refine⟨_,hs.rd 1 rfl rfl,?_⟩))
theorem Ro{h:Heap}{s:Sl}{L:List Int}(hr:Rw h 1 s (L.map a6))(hc:s.n<=s.c){i:Nat}(hi:i<=s.n):Rw h 1 ⟨bg s.a i s.c 1,s.n-i,s.c-i⟩ ((L.drop i).map a6):=by
 have hn:=hr.ln;rw[List.map_drop];by_cases h0:i=s.n
 .rw[List.drop_eq_nil_of_le (by rw[Yc];omega)];exact Rw.empty (by show s.n-i=0;omega)
 .exact hr.from hc (by omega)
theorem CR{s:Sl}{i:Nat}(Ek:s.a=none->s.n=0/\s.c=0)(h:bg s.a i s.c 1=none):s.n-i=0/\s.c-i=0:=by
 unfold bg at h;split at h
 .have:=Ek h;omega
 .cases ha:s.a with
  | none=>have:=Ek ha;omega
  | some a=>rw[ha] at h;cases h
def LOk(g:Gl)(p:Int)(i:Nat)(L:List Int):Prop:=(∀y∈L,0<=y/\y<g.es.length)/\(L=[] ↔ ∀(j:Nat) (x:Ed),j<i->g.es[j]?=some x->x.f≠p)
theorem Fe(g:Gl)(p:Int)(h:Heap)(hg:GI h g):Fn Pz 105 #[g.v,.int .i64 p] h fun v h'=>(∃s:Sl,v=.slice s.a s.n s.c/\(s.n=0 ↔ ∀x∈g.es,x.f≠p))/\Ext h h':=by
 apply QO (bs g.nm) g.hr g.hd g.n g.s g.e g.he g.ht;unfold U9 GG;have qk:=hg.e.ln;have Kn:=hg.e.sm;refine (St.refl h).aq fun h9 hs=>?_;have hs:=hs.cN 3 1;refine⟨fun out x h' m=>∃(i:Nat) (L:List Int),x=i/\i<=g.he.n/\m=g.he.n-i/\L.length<=i/\LOk g p i L/\St h h' [.sl out 3 1 (L.map a6),.af h.size g.cs 27],
  ⟨_,0,[],rfl,by omega,rfl,aY _,⟨(fun y hy=>by cases hy),iff_of_true rfl fun j x hj=>by omega⟩,hs⟩,?_⟩
 rintro-out _ mq m ⟨i,L,rfl,hi,rfl,IK,hL,hs⟩;refine⟨_,hs.rd 1 rfl rfl,aa (fun c=>?_) (fun c=>⟨⟨_,rfl,?_⟩,hs.ext⟩)⟩;rotate_left
 .replace c:=bd c;have we:=hs.len 0 rfl (by omega);rw[Yc] at we;have ZE:out.n=0 ↔ L=[]:=by rw[<-List.length_eq_zero_iff];omega
  rw[ZE,hL.2];exact⟨fun hq x hx=>by obtain⟨j,hj⟩:=Yf.1 hx;exact hq j x (by have:=(Ya.1 hj).1;omega) hj,fun hq j x _ hj=>hq x (Yb hj)⟩
 replace c:=ba c;refine⟨_,hs.rd 1 rfl rfl,?_⟩;refine (hg.e.rw.ext hs.ext).aF (by omega) (by omega) fun b18 o19 x gx t=>?_;replace gx:g.es[i]?=some x:=gx;refine⟨_,t.nth 0 rfl,iC (fun cf=>?_) (fun cf=>?_)⟩
 .refine⟨_,by omega,i+1,L,by rw[aZ (by omega) (by omega)];omega,by omega,rfl,by omega,⟨hL.1,hL.2.trans ⟨fun hq j y hj hy=>?_,fun hq j y hj hy=>hq j y (by omega) hy⟩⟩,hs⟩;by_cases e:j=i
  .subst e;rw[gx] at hy;cases hy;exact cf
  .exact hq j y (by omega) hy
 have we:=hs.len 0 rfl (by omega);rw[Yc] at we
 have ins:∀(a:Nat) (uU:Heap),a<=out.n->St h uU [.sl out 3 1 (L.map a6),.af h.size g.cs 27]->∀xA:Heap,xA=uU.push (.cells ⟨[.int .i64 i]⟩ 3) ->
   App Pz 102 102 (.slice (some ⟨uU.size,0,none⟩) 1 1) (.slice (bg out.a a out.c 1) (out.n-a) (out.c-a)) xA fun HE xz=>
    App Pz 102 102 (.slice out.a a out.c) (.slice HE.a HE.n HE.c) xz fun XA oL=>∃m47,m47<g.he.n-i/\(∃(i':Nat) (L:List Int),IntKind.wrap .i64 ((i:Int)+1)=i'/\i'<=g.he.n/\m47=g.he.n-i'/\L.length<=i'/\LOk g p i' L/\St h oL [.sl XA 3 1 (L.map a6),.af h.size g.cs 27]):=by
  intro a uU ha hs;refine hs.aq fun xA hs=>?_;have cp:=hs.fx 1 1 ([(i:Int)].map a6) rfl (cy _) rfl (by decide);refine cp.oz 0 rfl jv (y:=⟨bg out.a a out.c 1,out.n-a,out.c-a⟩) (Ro (cp.rows 1 rfl (by omega)) we.2.1 ha) (cy _) (fun hn=>CR we.2.2 hn) (by rw[List.all_eq_true];intro v hv;obtain⟨r,hr,Rz⟩:=List.mem_flatten.1 hv;obtain⟨z,_,rfl⟩:=Yp.1 hr;rw[Ye.1 Rz];rfl) (by show (1+(out.n-a))*8<=_;omega) (by show 1+(out.n-a)<=9223372036854775807;omega) fun HE xz RY hs=>?_;replace hs:St h xz [.sl HE 3 1 (((i:Int)::L.drop a).map a6),.sl out 3 1 (L.map a6),.af h.size g.cs 27]:=hs;have BC:=hs.cut 1 rfl (by omega) a ha;rw[<-List.map_take] at BC;replace BC:St h xz [.sl HE 3 1 (((i:Int)::L.drop a).map a6),.sl ⟨out.a,a,out.c⟩ 3 1 ((L.take a).map a6),.af h.size g.cs 27]:=BC;have SI:=BC.len 0 rfl (by omega);refine BC.oz 1 rfl jv (BC.rows 0 rfl (by omega)) (cy _) SI.2.2 (by rw[List.all_eq_true];intro v hv;obtain⟨r,hr,Rz⟩:=List.mem_flatten.1 hv;obtain⟨z,_,rfl⟩:=Yp.1 hr;rw[Ye.1 Rz];rfl) (by show (a+HE.n)*8<=_;rw[RY];show (a+(1+(out.n-a)))*8<=_;omega) (by show a+HE.n<=9223372036854775807;rw[RY];show a+(1+(out.n-a))<=_;omega) fun XA oL abW hs=>?_;replace hs:St h oL [.sl HE 3 1 (((i:Int)::L.drop a).map a6),.sl XA 3 1 ((L.take a).map a6++((i:Int)::L.drop a).map a6),.af h.size g.cs 27]:=hs;rw[<-Ym] at hs;refine⟨g.he.n-(i+1),by omega,i+1,L.take a++((i:Int)::L.drop a),by rw[aZ (by omega) (by omega)];omega,by omega,rfl,?_,⟨fun y hy=>?_,iff_of_false (by simp) fun hq=>hq i x (by omega) gx cf⟩,hs.drop 1⟩
  .rw[Yh,mD,Yu,List.length_drop];omega
  .rcases Yk.1 hy with hy | hy
   .exact hL.1 y (List.mem_of_mem_take hy)
   .rcases Yr.1 hy with rfl | hy
    .omega
    .exact hL.1 y (List.mem_of_mem_drop hy)
 refine aM (n:=out.n) hs (fun _=>True) trivial ?_;rintro-a G4 ha ⟨hs,-⟩;have YE:Int.toNat ((a:Nat):Int)=a:=by simp
 have ht2:Int.toNat ((out.n:Nat):Int)=out.n:=by simp
 refine aa (fun c1=>?_) (fun c1=>?_)
 .replace c1:=ba c1;refine⟨_,_,_,_,_,_,_,_,hs.at 1 rfl (o:=0) (n:=8) rfl,?_⟩;refine (hs.rows 0 rfl (by omega)).aF (by omega) (by omega) fun b35 o36 y gy ty=>?_;have hy:=hL.1 y (Yb gy);refine⟨_,ty.nth 0 rfl,?_⟩;refine (B6 g y i G4 (hg.ext hs.ext) hy.1 hy.2 (by omega) (by omega)).mono ?_;rintro _ uU ⟨⟨bb,rfl⟩,E⟩;have hs:=hs.step E;refine⟨_,rfl,aa (fun _=>Up.next c1 (by omega) ⟨hs,trivial⟩) (fun _=>?_)⟩;refine⟨⟨by omega,by omega,by omega⟩,⟨by omega,by omega,by omega⟩,?_⟩;rw[YE,ht2,show Int.toNat 0=0 from rfl,cC,Nat.sub_zero,Nat.sub_zero];exact ins a uU (by omega) hs
 .replace c1:=bd c1;refine⟨⟨by omega,by omega,by omega⟩,⟨by omega,by omega,by omega⟩,?_⟩;rw[YE,ht2,show Int.toNat 0=0 from rfl,cC,Nat.sub_zero,Nat.sub_zero];exact ins a G4 (by omega) hs
end Go.VC
end
