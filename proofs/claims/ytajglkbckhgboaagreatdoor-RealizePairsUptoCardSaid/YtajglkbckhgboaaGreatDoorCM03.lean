/- SxVcA LexSpec SxSpec SxMem SxA SxI0 SxJ0 SxK0 SxL0 SxO0 SxQ0 SxR0 SxT0 SxVcJ SxCa SxVcJ2 SxLsA SxVcU SxVcV SxVcM SxX0 SxVcD SxShelf SxSh SxVcF SxStA SxVcB SxG0. -/
import Derived.Test.YtajglkbckhgboaaGreatDoorCM02
import Derived.Lib.Split
import Derived.Shelf.Strings.Split
import Derived.Shelf.Bits.Mul64
import Derived.Shelf.Spec.TrailingZeros
import Derived.Shelf.SlLaysF0
import Derived.Ground.NamesProg
import Derived.Ground.Names7Prog
import Derived.Ground.SlsfProg
set_option linter.all false
set_option maxRecDepth 100000
set_option maxHeartbeats 8000000

section
namespace Go.VC
open Go.Proofs
/- farandole/lex.IsName
   loop rrlrb: x_7:Int -/
def W222 (p0:ByteArray) (h:Heap) (R:Value->Heap->Prop):Prop:=
 (sB ((ByteArray.toList p0)==(ByteArray.toList ⟨#[]⟩)) 
  (R (.bool false) h) 
  ((sB (decide ((ByteArray.size p0:Int)>16)) 
  (R (.bool false) h) 
  (((0<=(0:Int)/\(0:Int)<(ByteArray.size p0:Nat)) /\ 
  (Fn Pz 265 #[.int .u8 (byteAt p0 (Int.toNat 0):Int)] h 
  (fun v1 h3=>∃x2:Bool,v1=.bool x2 /\ 
  (sB (!x2) 
   (R (.bool false) h3) 
   ((∃I4:Int->Heap->Nat->Prop,(∃m5,I4 0 h3 m5) /\ 
   (∀(_:Env) (x_7:Int) (h8:Heap) (m6:Nat),I4 x_7 h8 m6 -> 
   (sB (decide (x_7<(ByteArray.size p0:Int))) 
    (((0<=(x_7:Int)/\(x_7:Int)<(ByteArray.size p0:Nat)) /\ 
    (Fn Pz 266 #[.int .u8 (byteAt p0 (Int.toNat x_7):Int)] h8 
    (fun v9 h11=>∃x10:Bool,v9=.bool x10 /\ 
    (sB (!x10) 
    (R (.bool false) h11) 
    ((∃m12,m12<m6/\I4 (IntKind.wrap .i64 (x_7+1)) h11 m12))))))) 
    (R (.bool true) h8)))))))))))))
theorem vc222e (p0:ByteArray) (h:Heap) (R:Value->Heap->Prop):W222 p0 h R=fnW Pz 222 (.s .z (.s .z (.s (.s .z (.b (.l [(19,.one (.int .i64))] .z))) .z))) #[.string p0] h R:=by kernel_rfl
theorem vc222 (p0:ByteArray) (h:Heap) (R:Value->Heap->Prop) (H:W222 p0 h R):Fn Pz 222 #[.string p0] h R:=fnI (vc222e p0 h R) H
/- farandole/lex.IsWord -/
def W160 (p0:ByteArray) (h:Heap) (R:Value->Heap->Prop):Prop:=
 (∀h1:Heap,h1=h.push (.cells ⟨[.string ⟨#[]⟩,.string ⟨#[]⟩,.string ⟨#[]⟩,.string ⟨#[]⟩,.string ⟨#[]⟩,.string ⟨#[]⟩,.string ⟨#[]⟩,.string ⟨#[]⟩,.string ⟨#[]⟩,.string ⟨#[]⟩,.string ⟨#[]⟩,.string ⟨#[]⟩,.string ⟨#[]⟩,.string ⟨#[]⟩,.string ⟨#[]⟩,.string ⟨#[]⟩,.string ⟨#[]⟩,.string ⟨#[]⟩,.string ⟨#[]⟩,.string ⟨#[]⟩,.string ⟨#[]⟩,.string ⟨#[]⟩,.string ⟨#[]⟩,.string ⟨#[]⟩,.string ⟨#[]⟩,.string ⟨#[]⟩,.string ⟨#[]⟩,.string ⟨#[]⟩]⟩ 348) -> 
 (okAt h1 ⟨h.size,0,none⟩ 28/\∀h2:Heap,h2=hputs h1 ⟨h.size,0,none⟩ 0 [.string ⟨#[97,103,97,105,110]⟩,.string ⟨#[97,110,100]⟩,.string ⟨#[97,115]⟩,.string ⟨#[97,116]⟩,.string ⟨#[99,97,108,108]⟩,.string ⟨#[99,104,111,105,99,101]⟩,.string ⟨#[101,108,115,101]⟩,.string ⟨#[102,114,111,109]⟩,.string ⟨#[105,102]⟩,.string ⟨#[105,110,116]⟩,.string ⟨#[108,101,110]⟩,.string ⟨#[108,111,111,112]⟩,.string ⟨#[109,101,115,115,97,103,101]⟩,.string ⟨#[111,102]⟩,.string ⟨#[111,102,102,101,114]⟩,.string ⟨#[111,110]⟩,.string ⟨#[111,114]⟩,.string ⟨#[112,97,114]⟩,.string ⟨#[112,108,97,121,115]⟩,.string ⟨#[112,114,111,116,111,99,111,108]⟩,.string ⟨#[115,101,114,118,105,99,101]⟩,.string ⟨#[116,101,120,116]⟩,.string ⟨#[116,105,109,101,115]⟩,.string ⟨#[116,111]⟩,.string ⟨#[118,97,114]⟩,.string ⟨#[119,104,101,114,101]⟩,.string ⟨#[119,104,105,108,101]⟩,.string ⟨#[119,105,116,104,105,110]⟩] -> 
 (Fn Pz 222 #[.string p0] h2 
 (fun v3 h5=>∃x4:Bool,v3=.bool x4 /\ 
 (sB x4 
  ((((0:Int)<=(0:Int)/\(0:Int)<=((28:Nat):Int)/\((28:Nat):Int)<=(28:Nat)) /\ 
  (Fn Pz 161 #[.slice (subA (some ⟨h.size,0,none⟩) (Int.toNat 0) 28 1) (Int.toNat (28:Nat)-Int.toNat 0) (28-Int.toNat 0),.string p0] h5 
  (fun v6 h8=>∃x7:Bool,v6=.bool x7 /\ 
  R (.bool (!x7)) h8)))) 
  (R (.bool false) h5))))))
theorem vc160e (p0:ByteArray) (h:Heap) (R:Value->Heap->Prop):W160 p0 h R=fnW Pz 160 .z #[.string p0] h R:=by kernel_rfl
theorem vc160 (p0:ByteArray) (h:Heap) (R:Value->Heap->Prop) (H:W160 p0 h R):Fn Pz 160 #[.string p0] h R:=fnI (vc160e p0 h R) H
/- farandole/lex.letter -/
def W265 (p0:Int) (h:Heap) (R:Value->Heap->Prop):Prop:=
 (sB (decide ((97:Int)<=p0)) 
  ((sB (decide (p0<=122)) 
  (R (.bool true) h) 
  ((sB (decide ((65:Int)<=p0)) 
   (R (.bool (decide (p0<=90))) h) 
   (R (.bool false) h))))) 
  ((sB (decide ((65:Int)<=p0)) 
  (R (.bool (decide (p0<=90))) h) 
  (R (.bool false) h))))
theorem vc265e (p0:Int) (h:Heap) (R:Value->Heap->Prop):W265 p0 h R=fnW Pz 265 .z #[.int .u8 p0] h R:=by kernel_rfl
theorem vc265 (p0:Int) (h:Heap) (R:Value->Heap->Prop) (H:W265 p0 h R):Fn Pz 265 #[.int .u8 p0] h R:=fnI (vc265e p0 h R) H
/- farandole/lex.inner -/
def W266 (p0:Int) (h:Heap) (R:Value->Heap->Prop):Prop:=
 (Fn Pz 265 #[.int .u8 p0] h 
 (fun v1 h3=>∃x2:Bool,v1=.bool x2 /\ 
 (sB x2 
  (R (.bool true) h3) 
  ((Fn Pz 296 #[.int .u8 p0] h3 
  (fun v4 h6=>∃x5:Bool,v4=.bool x5 /\ 
  (sB x5 
  (R (.bool true) h6) 
  (R (.bool (p0==95)) h6))))))))
theorem vc266e (p0:Int) (h:Heap) (R:Value->Heap->Prop):W266 p0 h R=fnW Pz 266 .z #[.int .u8 p0] h R:=by kernel_rfl
theorem vc266 (p0:Int) (h:Heap) (R:Value->Heap->Prop) (H:W266 p0 h R):Fn Pz 266 #[.int .u8 p0] h R:=fnI (vc266e p0 h R) H
/- farandole/lex.digit -/
def W296 (p0:Int) (h:Heap) (R:Value->Heap->Prop):Prop:=
 (sB (decide ((48:Int)<=p0)) 
  (R (.bool (decide (p0<=57))) h) 
  (R (.bool false) h))
theorem vc296e (p0:Int) (h:Heap) (R:Value->Heap->Prop):W296 p0 h R=fnW Pz 296 .z #[.int .u8 p0] h R:=by kernel_rfl
theorem vc296 (p0:Int) (h:Heap) (R:Value->Heap->Prop) (H:W296 p0 h R):Fn Pz 296 #[.int .u8 p0] h R:=fnI (vc296e p0 h R) H
/- slices.Index[[]string,string]
   loop rlrb: x_4:Int -/
def W223 (p0:Sl) (p1:ByteArray) (h:Heap) (R:Value->Heap->Prop):Prop:=
 (∃I1:Int->Heap->Nat->Prop,(∃m2,I1 0 h m2) /\ 
 (∀(_:Env) (x_4:Int) (h5:Heap) (m3:Nat),I1 x_4 h5 m3 -> 
 (sB (decide (x_4<(p0.n:Int))) 
  ((NB p0.a fun b6 o7=>((0<=(x_4:Int)/\(x_4:Int)<(p0.n:Nat)) /\ 
  (∃x8:ByteArray,hc h5 ⟨b6,o7+Int.toNat x_4*1,none⟩=some (.string x8) /\ 
  (sB ((ByteArray.toList p1)==(ByteArray.toList x8)) 
   (R (.int .i64 x_4) h5) 
   ((∃m9,m9<m3/\I1 (IntKind.wrap .i64 (x_4+1)) h5 m9))))))) 
  (R (.int .i64 (-1)) h5))))
theorem vc223e (p0:Sl) (p1:ByteArray) (h:Heap) (R:Value->Heap->Prop):W223 p0 p1 h R=fnW Pz 223 (.s .z (.s (.s .z (.b (.l [(8,.one (.int .i64))] .z))) .z)) #[.slice p0.a p0.n p0.c,.string p1] h R:=by kernel_rfl
theorem vc223 (p0:Sl) (p1:ByteArray) (h:Heap) (R:Value->Heap->Prop) (H:W223 p0 p1 h R):Fn Pz 223 #[.slice p0.a p0.n p0.c,.string p1] h R:=fnI (vc223e p0 p1 h R) H
/- slices.Contains[[]string,string] -/
def W161 (p0:Sl) (p1:ByteArray) (h:Heap) (R:Value->Heap->Prop):Prop:=
 (Fn Pz 223 #[.slice p0.a p0.n p0.c,.string p1] h 
 (fun v1 h3=>∃x2:Int,v1=.int .i64 x2 /\ 
 R (.bool (decide (x2>=0))) h3))
theorem vc161e (p0:Sl) (p1:ByteArray) (h:Heap) (R:Value->Heap->Prop):W161 p0 p1 h R=fnW Pz 161 .z #[.slice p0.a p0.n p0.c,.string p1] h R:=by kernel_rfl
theorem vc161 (p0:Sl) (p1:ByteArray) (h:Heap) (R:Value->Heap->Prop) (H:W161 p0 p1 h R):Fn Pz 161 #[.slice p0.a p0.n p0.c,.string p1] h R:=fnI (vc161e p0 p1 h R) H
/- slices.IndexFunc[[]string,string]
   loop rlrb: x_4:Int -/
def W308 (p0:Sl) (p1:FuncId) (h:Heap) (R:Value->Heap->Prop):Prop:=
 (∃I1:Int->Heap->Nat->Prop,(∃m2,I1 0 h m2) /\ 
 (∀(_:Env) (x_4:Int) (h5:Heap) (m3:Nat),I1 x_4 h5 m3 -> 
 (sB (decide (x_4<(p0.n:Int))) 
  ((NB p0.a fun b6 o7=>((0<=(x_4:Int)/\(x_4:Int)<(p0.n:Nat)) /\ 
  (∃x8:ByteArray,hc h5 ⟨b6,o7+Int.toNat x_4*1,none⟩=some (.string x8) /\ 
  (bif callable Pz p1 then Fn Pz p1 #[.string x8] h5 
  (fun v9 h11=>∃x10:Bool,v9=.bool x10 /\ 
  (sB x10 
   (R (.int .i64 x_4) h11) 
   ((∃m12,m12<m3/\I1 (IntKind.wrap .i64 (x_4+1)) h11 m12)))) else ExtW Pz p1 #[.string x8] h5 
  (fun v9 h11=>∃x10:Bool,v9=.bool x10 /\ 
  (sB x10 
   (R (.int .i64 x_4) h11) 
   ((∃m12,m12<m3/\I1 (IntKind.wrap .i64 (x_4+1)) h11 m12))))))))) 
  (R (.int .i64 (-1)) h5))))
theorem vc308e (p0:Sl) (p1:FuncId) (h:Heap) (R:Value->Heap->Prop):W308 p0 p1 h R=fnW Pz 308 (.s .z (.s (.s .z (.b (.l [(8,.one (.int .i64))] .z))) .z)) #[.slice p0.a p0.n p0.c,.func (.func p1) #[] #[]] h R:=by kernel_rfl
theorem vc308 (p0:Sl) (p1:FuncId) (h:Heap) (R:Value->Heap->Prop) (H:W308 p0 p1 h R):Fn Pz 308 #[.slice p0.a p0.n p0.c,.func (.func p1) #[] #[]] h R:=fnI (vc308e p0 p1 h R) H
/- slices.ContainsFunc[[]string,string] -/
def W297 (p0:Sl) (p1:Value) (h:Heap) (R:Value->Heap->Prop):Prop:=
 (Fn Pz 308 #[.slice p0.a p0.n p0.c,p1] h 
 (fun v1 h3=>∃x2:Int,v1=.int .i64 x2 /\ 
 R (.bool (decide (x2>=0))) h3))
theorem vc297e (p0:Sl) (p1:Value) (h:Heap) (R:Value->Heap->Prop):W297 p0 p1 h R=fnW Pz 297 .z #[.slice p0.a p0.n p0.c,p1] h R:=by kernel_rfl
theorem vc297 (p0:Sl) (p1:Value) (h:Heap) (R:Value->Heap->Prop) (H:W297 p0 p1 h R):Fn Pz 297 #[.slice p0.a p0.n p0.c,p1] h R:=fnI (vc297e p0 p1 h R) H
/- farandole/syntax.IsPath$1 -/
def W299 (p0:ByteArray) (h:Heap) (R:Value->Heap->Prop):Prop:=
 (Fn Pz 160 #[.string p0] h 
 (fun v1 h3=>∃x2:Bool,v1=.bool x2 /\ 
 R (.bool (!x2)) h3))
theorem vc299e (p0:ByteArray) (h:Heap) (R:Value->Heap->Prop):W299 p0 h R=fnW Pz 299 .z #[.string p0] h R:=by kernel_rfl
theorem vc299 (p0:ByteArray) (h:Heap) (R:Value->Heap->Prop) (H:W299 p0 h R):Fn Pz 299 #[.string p0] h R:=fnI (vc299e p0 h R) H
/- farandole/syntax.IsPath -/
def W268 (p0:ByteArray) (h:Heap) (R:Value->Heap->Prop):Prop:=
 (sB (decide ((ByteArray.size p0:Int)<=50)) 
  ((Fn Pz 298 #[.string p0,.string ⟨#[46]⟩] h 
  (fun v1 h3=>∃x2:Sl,v1=.slice x2.a x2.n x2.c /\ 
  (Fn Pz 297 #[.slice x2.a x2.n x2.c,.func (.func 299) #[] #[]] h3 
  (fun v4 h6=>∃x5:Bool,v4=.bool x5 /\ 
  R (.bool (!x5)) h6))))) 
  (R (.bool false) h))
theorem vc268e (p0:ByteArray) (h:Heap) (R:Value->Heap->Prop):W268 p0 h R=fnW Pz 268 .z #[.string p0] h R:=by kernel_rfl
theorem vc268 (p0:ByteArray) (h:Heap) (R:Value->Heap->Prop) (H:W268 p0 h R):Fn Pz 268 #[.string p0] h R:=fnI (vc268e p0 h R) H
/- farandole/guard.fields
   loop rrlrb: out_4:Sl, x_5:Int -/
def W267 (p0:Sl) (h:Heap) (R:Value->Heap->Prop):Prop:=
 (∃I1:Sl->Int->Heap->Nat->Prop,(∃m2,I1 ⟨none,0,0⟩ 0 h m2) /\ 
 (∀(_:Env) (out_4:Sl) (x_5:Int) (h6:Heap) (m3:Nat),I1 out_4 x_5 h6 m3 -> 
 (sB (decide (x_5<(p0.n:Int))) 
  ((NB p0.a fun b7 o8=>((0<=(x_5:Int)/\(x_5:Int)<(p0.n:Nat)) /\ 
  (∃x9:ByteArray,∃x10:Sl,∃x11:Int,∃x12:Sl,∃x13:Sl,atC h6 ⟨b7,o8+Int.toNat x_5*5,none⟩ [.string x9,.slice x10.a x10.n x10.c,.int .i64 x11,.slice x12.a x12.n x12.c,.slice x13.a x13.n x13.c] /\ 
  (∀h14:Heap,h14=h6.push (.cells ⟨[.string ⟨#[]⟩,.slice none 0 0,.int .i64 0,.slice none 0 0,.slice none 0 0]⟩ 171) -> 
  (okAt h14 ⟨h6.size,0,none⟩ 5/\∀h15:Heap,h15=hputs h14 ⟨h6.size,0,none⟩ 0 [.string x9,.slice x10.a x10.n x10.c,.int .i64 x11,.slice x12.a x12.n x12.c,.slice x13.a x13.n x13.c] -> 
  (∃x16:Sl,hc h15 ⟨h6.size,1,none⟩=some (.slice x16.a x16.n x16.c) /\ 
  (App Pz 166 166 (.slice out_4.a out_4.n out_4.c) (.slice x16.a x16.n x16.c) h15 fun s17 h18=>
  (∃m19,m19<m3/\I1 s17 (IntKind.wrap .i64 (x_5+1)) h18 m19))))))))) 
  (R (.slice out_4.a out_4.n out_4.c) h6))))
theorem vc267e (p0:Sl) (h:Heap) (R:Value->Heap->Prop):W267 p0 h R=fnW Pz 267 (.s .z (.s .z (.s (.s .z (.b (.l [(3,.one (.slice)),(8,.one (.int .i64))] .z))) .z))) #[.slice p0.a p0.n p0.c] h R:=by kernel_rfl
theorem vc267 (p0:Sl) (h:Heap) (R:Value->Heap->Prop) (H:W267 p0 h R):Fn Pz 267 #[.slice p0.a p0.n p0.c] h R:=fnI (vc267e p0 h R) H
/- farandole/guard.valid$1 -/
def W270 (p0_1:ByteArray) (p0_2:Sl) (p0_3:Int) (p0_4:Sl) (p0_5:Sl) (c0:Addr) (h:Heap) (R:Value->Heap->Prop):Prop:=
 (∀h6:Heap,h6=h.push (.cells ⟨[.string p0_1,.slice p0_2.a p0_2.n p0_2.c,.int .i64 p0_3,.slice p0_4.a p0_4.n p0_4.c,.slice p0_5.a p0_5.n p0_5.c]⟩ 171) -> 
 (∃x7:ByteArray,hc h6 ⟨h.size,0,none⟩=some (.string x7) /\ 
 (∃x8:ByteArray,hc h6 c0=some (.string x8) /\ 
 R (.bool ((ByteArray.toList x7)==(ByteArray.toList x8))) h6)))
theorem vc270e (p0_1:ByteArray) (p0_2:Sl) (p0_3:Int) (p0_4:Sl) (p0_5:Sl) (c0:Addr) (h:Heap) (R:Value->Heap->Prop):W270 p0_1 p0_2 p0_3 p0_4 p0_5 c0 h R=fnW Pz 270 .z #[.agg ⟨[.string p0_1,.slice p0_2.a p0_2.n p0_2.c,.int .i64 p0_3,.slice p0_4.a p0_4.n p0_4.c,.slice p0_5.a p0_5.n p0_5.c]⟩,.pointer (some c0)] h R:=by kernel_rfl
theorem vc270 (p0_1:ByteArray) (p0_2:Sl) (p0_3:Int) (p0_4:Sl) (p0_5:Sl) (c0:Addr) (h:Heap) (R:Value->Heap->Prop) (H:W270 p0_1 p0_2 p0_3 p0_4 p0_5 c0 h R):Fn Pz 270 #[.agg ⟨[.string p0_1,.slice p0_2.a p0_2.n p0_2.c,.int .i64 p0_3,.slice p0_4.a p0_4.n p0_4.c,.slice p0_5.a p0_5.n p0_5.c]⟩,.pointer (some c0)] h R:=fnI (vc270e p0_1 p0_2 p0_3 p0_4 p0_5 c0 h R) H
/- farandole/guard.valid$2 -/
def W273 (p0_1:ByteArray) (p0_2:Int) (p0_3:Int) (p0_4:Int) (c0:Addr) (h:Heap) (R:Value->Heap->Prop):Prop:=
 (∀h5:Heap,h5=h.push (.cells ⟨[.string p0_1,.int .i64 p0_2,.int .i64 p0_3,.int .i64 p0_4]⟩ 260) -> 
 (∃x6:ByteArray,hc h5 ⟨h.size,0,none⟩=some (.string x6) /\ 
 (∃x7:ByteArray,hc h5 c0=some (.string x7) /\ 
 R (.bool ((ByteArray.toList x6)==(ByteArray.toList x7))) h5)))
theorem vc273e (p0_1:ByteArray) (p0_2:Int) (p0_3:Int) (p0_4:Int) (c0:Addr) (h:Heap) (R:Value->Heap->Prop):W273 p0_1 p0_2 p0_3 p0_4 c0 h R=fnW Pz 273 .z #[.agg ⟨[.string p0_1,.int .i64 p0_2,.int .i64 p0_3,.int .i64 p0_4]⟩,.pointer (some c0)] h R:=by kernel_rfl
theorem vc273 (p0_1:ByteArray) (p0_2:Int) (p0_3:Int) (p0_4:Int) (c0:Addr) (h:Heap) (R:Value->Heap->Prop) (H:W273 p0_1 p0_2 p0_3 p0_4 c0 h R):Fn Pz 273 #[.agg ⟨[.string p0_1,.int .i64 p0_2,.int .i64 p0_3,.int .i64 p0_4]⟩,.pointer (some c0)] h R:=fnI (vc273e p0_1 p0_2 p0_3 p0_4 c0 h R) H
/- farandole/guard.sorted -/
def W271 (p0_1:Int) (p0_2:Int) (p0_3:Int) (h:Heap) (R:Value->Heap->Prop):Prop:=
 (∀h4:Heap,h4=h.push (.cells ⟨[.int .i64 p0_1,.int .i64 p0_2,.int .i64 p0_3]⟩ 258) -> 
 (∃x5:Int,hc h4 ⟨h.size,0,none⟩=some (.int .i64 x5) /\ 
 (sB (x5==1) 
  ((∃x6:Int,hc h4 ⟨h.size,1,none⟩=some (.int .i64 x6) /\ 
  (sB (decide (x6>=(-1000))) 
  ((∃x7:Int,hc h4 ⟨h.size,1,none⟩=some (.int .i64 x7) /\ 
  (∃x8:Int,hc h4 ⟨h.size,2,none⟩=some (.int .i64 x8) /\ 
  (sB (decide (x7<=x8)) 
   ((∃x9:Int,hc h4 ⟨h.size,2,none⟩=some (.int .i64 x9) /\ 
   R (.bool (decide (x9<=1000))) h4)) 
   (R (.bool false) h4))))) 
  (R (.bool false) h4)))) 
  ((sB (x5==2) 
  ((∃x10:Int,hc h4 ⟨h.size,1,none⟩=some (.int .i64 x10) /\ 
  (sB (decide (x10>=0)) 
   ((∃x11:Int,hc h4 ⟨h.size,1,none⟩=some (.int .i64 x11) /\ 
   (∃x12:Int,hc h4 ⟨h.size,2,none⟩=some (.int .i64 x12) /\ 
   (sB (decide (x11<=x12)) 
   ((∃x13:Int,hc h4 ⟨h.size,2,none⟩=some (.int .i64 x13) /\ 
   R (.bool (decide (x13<=40))) h4)) 
   (R (.bool false) h4))))) 
   (R (.bool false) h4)))) 
  (R (.bool false) h4))))))
theorem vc271e (p0_1:Int) (p0_2:Int) (p0_3:Int) (h:Heap) (R:Value->Heap->Prop):W271 p0_1 p0_2 p0_3 h R=fnW Pz 271 .z #[.agg ⟨[.int .i64 p0_1,.int .i64 p0_2,.int .i64 p0_3]⟩] h R:=by kernel_rfl
theorem vc271 (p0_1:Int) (p0_2:Int) (p0_3:Int) (h:Heap) (R:Value->Heap->Prop) (H:W271 p0_1 p0_2 p0_3 h R):Fn Pz 271 #[.agg ⟨[.int .i64 p0_1,.int .i64 p0_2,.int .i64 p0_3]⟩] h R:=fnI (vc271e p0_1 p0_2 p0_3 h R) H
/- slices.IndexFunc[[]farandole/api.Decl,farandole/api.Decl]
   loop rlrb: x_4:Int -/
def W300 (p0:Sl) (p1:FuncId) (p1c:Option Addr) (h:Heap) (R:Value->Heap->Prop):Prop:=
 (∃I1:Int->Heap->Nat->Prop,(∃m2,I1 0 h m2) /\ 
 (∀(_:Env) (x_4:Int) (h5:Heap) (m3:Nat),I1 x_4 h5 m3 -> 
 (sB (decide (x_4<(p0.n:Int))) 
  ((NB p0.a fun b6 o7=>((0<=(x_4:Int)/\(x_4:Int)<(p0.n:Nat)) /\ 
  (∃x8:ByteArray,∃x9:Sl,∃x10:Int,∃x11:Sl,∃x12:Sl,atC h5 ⟨b6,o7+Int.toNat x_4*5,none⟩ [.string x8,.slice x9.a x9.n x9.c,.int .i64 x10,.slice x11.a x11.n x11.c,.slice x12.a x12.n x12.c] /\ 
  (bif callable Pz p1 then Fn Pz p1 #[.agg ⟨[.string x8,.slice x9.a x9.n x9.c,.int .i64 x10,.slice x11.a x11.n x11.c,.slice x12.a x12.n x12.c]⟩,.pointer p1c] h5 
  (fun v13 h15=>∃x14:Bool,v13=.bool x14 /\ 
  (sB x14 
   (R (.int .i64 x_4) h15) 
   ((∃m16,m16<m3/\I1 (IntKind.wrap .i64 (x_4+1)) h15 m16)))) else ExtW Pz p1 #[.agg ⟨[.string x8,.slice x9.a x9.n x9.c,.int .i64 x10,.slice x11.a x11.n x11.c,.slice x12.a x12.n x12.c]⟩,.pointer p1c] h5 
  (fun v13 h15=>∃x14:Bool,v13=.bool x14 /\ 
  (sB x14 
   (R (.int .i64 x_4) h15) 
   ((∃m16,m16<m3/\I1 (IntKind.wrap .i64 (x_4+1)) h15 m16))))))))) 
  (R (.int .i64 (-1)) h5))))
theorem vc300e (p0:Sl) (p1:FuncId) (p1c:Option Addr) (h:Heap) (R:Value->Heap->Prop):W300 p0 p1 p1c h R=fnW Pz 300 (.s .z (.s (.s .z (.b (.l [(8,.one (.int .i64))] .z))) .z)) #[.slice p0.a p0.n p0.c,.func (.func p1) #[] #[.pointer p1c]] h R:=by kernel_rfl
theorem vc300 (p0:Sl) (p1:FuncId) (p1c:Option Addr) (h:Heap) (R:Value->Heap->Prop) (H:W300 p0 p1 p1c h R):Fn Pz 300 #[.slice p0.a p0.n p0.c,.func (.func p1) #[] #[.pointer p1c]] h R:=fnI (vc300e p0 p1 p1c h R) H
/- slices.IndexFunc[[]farandole/api.Field,farandole/api.Field]
   loop rlrb: x_4:Int -/
def W301 (p0:Sl) (p1:FuncId) (p1c:Option Addr) (h:Heap) (R:Value->Heap->Prop):Prop:=
 (∃I1:Int->Heap->Nat->Prop,(∃m2,I1 0 h m2) /\ 
 (∀(_:Env) (x_4:Int) (h5:Heap) (m3:Nat),I1 x_4 h5 m3 -> 
 (sB (decide (x_4<(p0.n:Int))) 
  ((NB p0.a fun b6 o7=>((0<=(x_4:Int)/\(x_4:Int)<(p0.n:Nat)) /\ 
  (∃x8:ByteArray,∃x9:Int,∃x10:Int,∃x11:Int,atC h5 ⟨b6,o7+Int.toNat x_4*4,none⟩ [.string x8,.int .i64 x9,.int .i64 x10,.int .i64 x11] /\ 
  (bif callable Pz p1 then Fn Pz p1 #[.agg ⟨[.string x8,.int .i64 x9,.int .i64 x10,.int .i64 x11]⟩,.pointer p1c] h5 
  (fun v12 h14=>∃x13:Bool,v12=.bool x13 /\ 
  (sB x13 
   (R (.int .i64 x_4) h14) 
   ((∃m15,m15<m3/\I1 (IntKind.wrap .i64 (x_4+1)) h14 m15)))) else ExtW Pz p1 #[.agg ⟨[.string x8,.int .i64 x9,.int .i64 x10,.int .i64 x11]⟩,.pointer p1c] h5 
  (fun v12 h14=>∃x13:Bool,v12=.bool x13 /\ 
  (sB x13 
   (R (.int .i64 x_4) h14) 
   ((∃m15,m15<m3/\I1 (IntKind.wrap .i64 (x_4+1)) h14 m15))))))))) 
  (R (.int .i64 (-1)) h5))))
theorem vc301e (p0:Sl) (p1:FuncId) (p1c:Option Addr) (h:Heap) (R:Value->Heap->Prop):W301 p0 p1 p1c h R=fnW Pz 301 (.s .z (.s (.s .z (.b (.l [(8,.one (.int .i64))] .z))) .z)) #[.slice p0.a p0.n p0.c,.func (.func p1) #[] #[.pointer p1c]] h R:=by kernel_rfl
theorem vc301 (p0:Sl) (p1:FuncId) (p1c:Option Addr) (h:Heap) (R:Value->Heap->Prop) (H:W301 p0 p1 p1c h R):Fn Pz 301 #[.slice p0.a p0.n p0.c,.func (.func p1) #[] #[.pointer p1c]] h R:=fnI (vc301e p0 p1 p1c h R) H
/- slices.ContainsFunc[[]farandole/api.Decl,farandole/api.Decl] -/
def W269 (p0:Sl) (p1:Value) (h:Heap) (R:Value->Heap->Prop):Prop:=
 (Fn Pz 300 #[.slice p0.a p0.n p0.c,p1] h 
 (fun v1 h3=>∃x2:Int,v1=.int .i64 x2 /\ 
 R (.bool (decide (x2>=0))) h3))
theorem vc269e (p0:Sl) (p1:Value) (h:Heap) (R:Value->Heap->Prop):W269 p0 p1 h R=fnW Pz 269 .z #[.slice p0.a p0.n p0.c,p1] h R:=by kernel_rfl
theorem vc269 (p0:Sl) (p1:Value) (h:Heap) (R:Value->Heap->Prop) (H:W269 p0 p1 h R):Fn Pz 269 #[.slice p0.a p0.n p0.c,p1] h R:=fnI (vc269e p0 p1 h R) H
/- slices.ContainsFunc[[]farandole/api.Field,farandole/api.Field] -/
def W272 (p0:Sl) (p1:Value) (h:Heap) (R:Value->Heap->Prop):Prop:=
 (Fn Pz 301 #[.slice p0.a p0.n p0.c,p1] h 
 (fun v1 h3=>∃x2:Int,v1=.int .i64 x2 /\ 
 R (.bool (decide (x2>=0))) h3))
theorem vc272e (p0:Sl) (p1:Value) (h:Heap) (R:Value->Heap->Prop):W272 p0 p1 h R=fnW Pz 272 .z #[.slice p0.a p0.n p0.c,p1] h R:=by kernel_rfl
theorem vc272 (p0:Sl) (p1:Value) (h:Heap) (R:Value->Heap->Prop) (H:W272 p0 p1 h R):Fn Pz 272 #[.slice p0.a p0.n p0.c,p1] h R:=fnI (vc272e p0 p1 h R) H
/- farandole/guard.guarded
   loop rrrlrborrlbrrb: x_43:Int
   loop rrrlrb: x_30:Int
   loop rrlrb: x_10:Int -/
def W274 (p0_1:Sl) (p0_2:Sl) (p1:Sl) (h:Heap) (R:Value->Heap->Prop):Prop:=
 (Wn h [vS p0_1,vS p0_2] 169 fun h3=>
 (∃x4,rS h3 (aS h 0) x4 /\ 
 (sB (decide ((x4.n:Int)>20)) 
 (R (.bool false) h3) 
 ((∃x5,rS h3 (aS h 1) x5 /\ 
 (sB (decide ((x5.n:Int)>20)) 
 (R (.bool false) h3) 
 ((∃x6,rS h3 (aS h 0) x6 /\ 
 (QI 0 h3 fun I7 x_10 h11 m9=>(
 (sB (decide (x_10<(x6.n:Int))) 
 ((NB x6.a fun b12 o13=>(Ib x_10 x6.n /\ 
 (∃x14:Int,∃x15:Int,∃x16:Int,atC h11 ⟨b12,o13+Int.toNat x_10*3,none⟩ [vI x14,vI x15,vI x16] /\ 
 (Wn h11 [vI 0,vI 0,vI 0] 263 fun h17=>
 (Wp h17 (aS h11 0) 3 [vI x14,vI x15,vI x16] fun h18=>
 (∃x19,rI h18 (aS h11 0) x19 /\ 
 (∃x20,rI h18 (aS h11 1) x20 /\ 
 (sB (decide ((imin x19 x20)<(-1))) 
 (R (.bool false) h18) 
 ((∃x21,rI h18 (aS h11 0) x21 /\ 
 (∃x22,rI h18 (aS h11 1) x22 /\ 
 (sB (decide ((imax x21 x22)>=(p1.n:Int))) 
 (R (.bool false) h18) 
 ((∃x23,rI h18 (aS h11 2) x23 /\ 
 (sB (decide (x23<(-20000))) 
 (R (.bool false) h18) 
 ((∃x24,rI h18 (aS h11 2) x24 /\ 
 (sB (decide (x24>20000)) 
 (R (.bool false) h18) 
 ((∃m25,m25<m9/\I7 (IntKind.wrap .i64 (x_10+1)) h18 m25))))))))))))))))))))) 
 ((∃x26,rS h11 (aS h 1) x26 /\ 
 (QI 0 h11 fun I27 x_30 h31 m29=>(
 (sB (decide (x_30<(x26.n:Int))) 
 ((NB x26.a fun b32 o33=>(Ib x_30 x26.n /\ 
 (∃x34:Int,∃x35:Int,atC h31 ⟨b32,o33+Int.toNat x_30*2,none⟩ [vI x34,vI x35] /\ 
 (Wn h31 [vI 0,vI 0] 52 fun h36=>
 (Wp h36 (aS h31 0) 2 [vI x34,vI x35] fun h37=>
 (∃x38:Int,∃x39:Int,atC h37 (aS h31 0) [vI x38,vI x39] /\ 
 (QI 0 h37 fun I40 x_43 h44 m42=>(
 (sB (decide (x_43<2)) 
 ((Ib x_43 2/\∃x45:Int,List.take 1 (List.drop (Int.toNat x_43*1) ([vI x38,vI x39]:List Value))=[vI x45] /\ 
 (sB (decide (x45<0)) 
 (R (.bool false) h44) 
 ((sB (decide (x45>=(p1.n:Int))) 
 (R (.bool false) h44) 
 ((NB p1.a fun b46 o47=>(Ib x45 p1.n /\ 
 (∃x48,rI h44 ⟨b46,o47+Int.toNat x45*4+1,none⟩ x48 /\ 
 (sB (x48 != 2) 
 (R (.bool false) h44) 
 ((∃m49,m49<m42/\I40 (IntKind.wrap .i64 (x_43+1)) h44 m49)))))))))))) 
 ((∃m50,m50<m29/\I27 (IntKind.wrap .i64 (x_30+1)) h44 m50)))))))))))) 
 (R (.bool true) h31)))))))))))))))))
theorem vc274e (p0_1:Sl) (p0_2:Sl) (p1:Sl) (h:Heap) (R:Value->Heap->Prop):W274 p0_1 p0_2 p1 h R=fnW Pz 274 (.s .z (.s .z (.s (.s .z (.b (.l [(24,.one (.int .i64))] .z))) (.s (.s .z (.b (.l [(58,.one (.int .i64))] (.s .z (.s .z (.s (.b (.s .z (.s .z (.b (.l [(63,.one (.int .i64))] .z))))) .z)))))) .z)))) #[.agg ⟨[.slice p0_1.a p0_1.n p0_1.c,.slice p0_2.a p0_2.n p0_2.c]⟩,.slice p1.a p1.n p1.c] h R:=by kernel_rfl
theorem vc274 (p0_1:Sl) (p0_2:Sl) (p1:Sl) (h:Heap) (R:Value->Heap->Prop) (H:W274 p0_1 p0_2 p1 h R):Fn Pz 274 #[.agg ⟨[.slice p0_1.a p0_1.n p0_1.c,.slice p0_2.a p0_2.n p0_2.c]⟩,.slice p1.a p1.n p1.c] h R:=fnI (vc274e p0_1 p0_2 p1 h R) H
/- farandole/guard.valid
   loop rrrrrlrborrlbrrrlrb: x_33:Int
   loop rrrrrlrb: at_7:Int, x_8:Int -/
def W224 (p0:Sl) (h:Heap) (R:Value->Heap->Prop):Prop:=
 (sB (decide ((p0.n:Int)>40)) 
 (R (.bool false) h) 
 ((Fn Pz 267 #[vS p0] h 
 (fun v1 h3=>∃x2,iS v1 x2 /\ 
 (sB (decide ((x2.n:Int)>24)) 
 (R (.bool false) h3) 
 ((QII 0 0 h3 fun I4 at_7 x_8 h9 m6=>(
 (sB (decide (x_8<(p0.n:Int))) 
 ((NB p0.a fun b10 o11=>(Ib x_8 p0.n /\ 
 (∃x12:ByteArray,∃x13:Sl,∃x14:Int,∃x15:Sl,∃x16:Sl,atC h9 ⟨b10,o11+Int.toNat x_8*5,none⟩ [.string x12,vS x13,vI x14,vS x15,vS x16] /\ 
 (Wn h9 [.string ⟨#[]⟩,.slice none 0 0,vI 0,.slice none 0 0,.slice none 0 0] 171 fun h17=>
 (Wp h17 (aS h9 0) 5 [.string x12,vS x13,vI x14,vS x15,vS x16] fun h18=>
 (∃x19,rT h18 (aS h9 0) x19 /\ 
 (Fn Pz 268 #[.string x19] h18 
 (fun v20 h22=>∃x21,iB v20 x21 /\ 
 (sB (!x21) 
 (R (.bool false) h22) 
 ((∃x23,rS h22 (aS h9 1) x23 /\ 
 (sB (decide ((x23.n:Int)>4)) 
 (R (.bool false) h22) 
 ((∃x24,rI h22 (aS h9 2) x24 /\ 
 (sB (x24 != at_7) 
 (R (.bool false) h22) 
 ((((0:Int)<=(0:Int)/\(0:Int)<=(x_8:Int)/\(x_8:Int)<=(p0.c:Nat)) /\ 
 (Fn Pz 269 #[.slice (subA p0.a (Int.toNat 0) p0.c 5) (Int.toNat x_8-Int.toNat 0) (p0.c-Int.toNat 0),.func (.func 270) #[] #[.pointer (some (aS h9 0))]] h22 
 (fun v25 h27=>∃x26,iB v25 x26 /\ 
 (sB x26 
 (R (.bool false) h27) 
 ((∃x28,rS h27 (aS h9 1) x28 /\ 
 (∃x29,rS h27 (aS h9 1) x29 /\ 
 (QI 0 h27 fun I30 x_33 h34 m32=>(
 (sB (decide (x_33<(x29.n:Int))) 
 ((NB x29.a fun b35 o36=>(Ib x_33 x29.n /\ 
 (∃x37:ByteArray,∃x38:Int,∃x39:Int,∃x40:Int,atC h34 ⟨b35,o36+Int.toNat x_33*4,none⟩ [.string x37,vI x38,vI x39,vI x40] /\ 
 (Wn h34 [.string ⟨#[]⟩,vI 0,vI 0,vI 0] 260 fun h41=>
 (Wp h41 (aS h34 0) 4 [.string x37,vI x38,vI x39,vI x40] fun h42=>
 (∃x43,rT h42 (aS h34 0) x43 /\ 
 (Fn Pz 160 #[.string x43] h42 
 (fun v44 h46=>∃x45,iB v44 x45 /\ 
 (sB (!x45) 
 (R (.bool false) h46) 
 ((∃x47:Int,∃x48:Int,∃x49:Int,atC h46 (aS h34 1) [vI x47,vI x48,vI x49] /\ 
 (Fn Pz 271 #[.agg ⟨[vI x47,vI x48,vI x49]⟩] h46 
 (fun v50 h52=>∃x51,iB v50 x51 /\ 
 (sB (!x51) 
 (R (.bool false) h52) 
 ((∃x53,rS h52 (aS h9 1) x53 /\ 
 (((0:Int)<=(0:Int)/\(0:Int)<=(x_33:Int)/\(x_33:Int)<=(x53.c:Nat)) /\ 
 (Fn Pz 272 #[.slice (subA x53.a (Int.toNat 0) x53.c 4) (Int.toNat x_33-Int.toNat 0) (x53.c-Int.toNat 0),.func (.func 273) #[] #[.pointer (some (aS h34 0))]] h52 
 (fun v54 h56=>∃x55,iB v54 x55 /\ 
 (sB x55 
 (R (.bool false) h56) 
 ((∃m57,m57<m32/\I30 (IntKind.wrap .i64 (x_33+1)) h56 m57))))))))))))))))))))))) 
 ((∃x58:Sl,∃x59:Sl,atC h34 (aS h9 3) [vS x58,vS x59] /\ 
 (Fn Pz 274 #[.agg ⟨[vS x58,vS x59]⟩,vS x2] h34 
 (fun v60 h62=>∃x61,iB v60 x61 /\ 
 (sB (!x61) 
 (R (.bool false) h62) 
 ((∃m63,m63<m6/\I4 (IntKind.wrap .i64 (at_7+(x28.n:Int))) (IntKind.wrap .i64 (x_8+1)) h62 m63)))))))))))))))))))))))))))))))))) 
 (R (.bool true) h9))))))))))
theorem vc224e (p0:Sl) (h:Heap) (R:Value->Heap->Prop):W224 p0 h R=fnW Pz 224 (.s .z (.s .z (.s .z (.s .z (.s .z (.s (.s .z (.b (.l [(4,.one (.int .i64)),(19,.one (.int .i64))] (.s .z (.s .z (.s (.b (.s .z (.s .z (.s .z (.s (.s .z (.b (.l [(55,.one (.int .i64))] .z))) .z))))) .z)))))) .z)))))) #[.slice p0.a p0.n p0.c] h R:=by kernel_rfl
theorem vc224 (p0:Sl) (h:Heap) (R:Value->Heap->Prop) (H:W224 p0 h R):Fn Pz 224 #[.slice p0.a p0.n p0.c] h R:=fnI (vc224e p0 h R) H
/- farandole/guard.bounds
   loop rrrrlrb: out_37:Sl, x_38:Int
   loop rrlrb: out_11:Sl, x_12:Int -/
def W225 (p0_1:ByteArray) (p0_2:Sl) (p0_3:Int) (p0_4:Sl) (p0_5:Sl) (h:Heap) (R:Value->Heap->Prop):Prop:=
 (Wn h [.string p0_1,vS p0_2,vI p0_3,vS p0_4,vS p0_5] 171 fun h6=>
 (∃x7,rS h6 (aS h 1) x7 /\ 
 (QSI ⟨none,0,0⟩ 0 h6 fun I8 out_11 x_12 h13 m10=>(
 (sB (decide (x_12<(x7.n:Int))) 
 ((NB x7.a fun b14 o15=>(Ib x_12 x7.n /\ 
 (∃x16:ByteArray,∃x17:Int,∃x18:Int,∃x19:Int,atC h13 ⟨b14,o15+Int.toNat x_12*4,none⟩ [.string x16,vI x17,vI x18,vI x19] /\ 
 (Wn h13 [.string ⟨#[]⟩,vI 0,vI 0,vI 0] 260 fun h20=>
 (Wp h20 (aS h13 0) 4 [.string x16,vI x17,vI x18,vI x19] fun h21=>
 (∃x22,rI h21 (aS h 2) x22 /\ 
 (∃x23,rI h21 (aS h13 (1+2)) x23 /\ 
 (∃x24,rI h21 (aS h 2) x24 /\ 
 (∃x25,rI h21 (aS h13 (1+1)) x25 /\ 
 (Wn h21 [vI (IntKind.wrap .i64 (x22+x_12)),vI (-1),vI x23,vI (-1),vI (IntKind.wrap .i64 (x24+x_12)),vI (IntKind.wrap .i64 (0-x25))] 263 fun h26=>
 (App Pz 167 167 (vS out_11) (.slice (some (aS h21 0)) 2 2) h26 fun s27 h28=>
 (∃m29,m29<m10/\I8 s27 (IntKind.wrap .i64 (x_12+1)) h28 m29))))))))))))) 
 ((∃x30,rS h13 (aS h 3) x30 /\ 
 (App Pz 167 167 (vS out_11) (vS x30) h13 fun s31 h32=>
 (∃x33,rS h32 (aS h (3+1)) x33 /\ 
 (QSI s31 0 h32 fun I34 out_37 x_38 h39 m36=>(
 (sB (decide (x_38<(x33.n:Int))) 
 ((NB x33.a fun b40 o41=>(Ib x_38 x33.n /\ 
 (∃x42:Int,∃x43:Int,atC h39 ⟨b40,o41+Int.toNat x_38*2,none⟩ [vI x42,vI x43] /\ 
 (Wn h39 [vI 0,vI 0] 52 fun h44=>
 (Wp h44 (aS h39 0) 2 [vI x42,vI x43] fun h45=>
 (Ib 0 2 /\ 
 (∃x46,rI h45 (aS h39 (0+Int.toNat 0*1)) x46 /\ 
 (Ib 1 2 /\ 
 (∃x47,rI h45 (aS h39 (0+Int.toNat 1*1)) x47 /\ 
 (Ib 1 2 /\ 
 (∃x48,rI h45 (aS h39 (0+Int.toNat 1*1)) x48 /\ 
 (Ib 0 2 /\ 
 (∃x49,rI h45 (aS h39 (0+Int.toNat 0*1)) x49 /\ 
 (Wn h45 [vI x46,vI x47,vI 0,vI x48,vI x49,vI 0] 263 fun h50=>
 (App Pz 167 167 (vS out_37) (.slice (some (aS h45 0)) 2 2) h50 fun s51 h52=>
 (∃m53,m53<m36/\I34 s51 (IntKind.wrap .i64 (x_38+1)) h52 m53))))))))))))))))) 
 (R (vS out_37) h39)))))))))))))
theorem vc225e (p0_1:ByteArray) (p0_2:Sl) (p0_3:Int) (p0_4:Sl) (p0_5:Sl) (h:Heap) (R:Value->Heap->Prop):W225 p0_1 p0_2 p0_3 p0_4 p0_5 h R=fnW Pz 225 (.s .z (.s .z (.s (.s .z (.b (.l [(3,.one (.slice)),(11,.one (.int .i64))] .z))) (.s .z (.s (.s .z (.b (.l [(3,.one (.slice)),(46,.one (.int .i64))] .z))) .z))))) #[.agg ⟨[.string p0_1,.slice p0_2.a p0_2.n p0_2.c,.int .i64 p0_3,.slice p0_4.a p0_4.n p0_4.c,.slice p0_5.a p0_5.n p0_5.c]⟩] h R:=by kernel_rfl
theorem vc225 (p0_1:ByteArray) (p0_2:Sl) (p0_3:Int) (p0_4:Sl) (p0_5:Sl) (h:Heap) (R:Value->Heap->Prop) (H:W225 p0_1 p0_2 p0_3 p0_4 p0_5 h R):Fn Pz 225 #[.agg ⟨[.string p0_1,.slice p0_2.a p0_2.n p0_2.c,.int .i64 p0_3,.slice p0_4.a p0_4.n p0_4.c,.slice p0_5.a p0_5.n p0_5.c]⟩] h R:=fnI (vc225e p0_1 p0_2 p0_3 p0_4 p0_5 h R) H
/- farandole/guard.Bounds -/
def W162 (p0:Sl) (p1:Int) (h:Heap) (R:Value->Heap->Prop):Prop:=
 (sB (decide (p1<0)) 
  (R (.tuple ⟨[.slice none 0 0,.int .i64 1]⟩) h) 
  ((sB (decide (p1>=(p0.n:Int))) 
  (R (.tuple ⟨[.slice none 0 0,.int .i64 1]⟩) h) 
  ((Fn Pz 224 #[.slice p0.a p0.n p0.c] h 
  (fun v1 h3=>∃x2:Bool,v1=.bool x2 /\ 
  (sB (!x2) 
   (R (.tuple ⟨[.slice none 0 0,.int .i64 1]⟩) h3) 
   ((NB p0.a fun b4 o5=>((0<=(p1:Int)/\(p1:Int)<(p0.n:Nat)) /\ 
   (∃x6:ByteArray,∃x7:Sl,∃x8:Int,∃x9:Sl,∃x10:Sl,atC h3 ⟨b4,o5+Int.toNat p1*5,none⟩ [.string x6,.slice x7.a x7.n x7.c,.int .i64 x8,.slice x9.a x9.n x9.c,.slice x10.a x10.n x10.c] /\ 
   (Fn Pz 225 #[.agg ⟨[.string x6,.slice x7.a x7.n x7.c,.int .i64 x8,.slice x9.a x9.n x9.c,.slice x10.a x10.n x10.c]⟩] h3 
   (fun v11 h13=>∃x12:Sl,v11=.slice x12.a x12.n x12.c /\ 
   R (.tuple ⟨[.slice x12.a x12.n x12.c,.int .i64 0]⟩) h13)))))))))))))
theorem vc162e (p0:Sl) (p1:Int) (h:Heap) (R:Value->Heap->Prop):W162 p0 p1 h R=fnW Pz 162 .z #[.slice p0.a p0.n p0.c,.int .i64 p1] h R:=by kernel_rfl
theorem vc162 (p0:Sl) (p1:Int) (h:Heap) (R:Value->Heap->Prop) (H:W162 p0 p1 h R):Fn Pz 162 #[.slice p0.a p0.n p0.c,.int .i64 p1] h R:=fnI (vc162e p0 p1 h R) H
end Go.VC
end

section
namespace Go.LexS
def isLetter (n:Int):Bool:=decide (97<=n)&&decide (n<=122)||decide (65<=n)&&decide (n<=90)
def isDigit (n:Int):Bool:=decide (48<=n)&&decide (n<=57)
def isInner (n:Int):Bool:=isLetter n||isDigit n||(n==95)
def isSpace (n:Int):Bool:=n==32||n==9||n==10||n==13
def lt (c:UInt8):Bool:=isLetter c.toNat
def dg (c:UInt8):Bool:=isDigit c.toNat
def inn (c:UInt8):Bool:=isInner c.toNat
def sp (c:UInt8):Bool:=isSpace c.toNat
structure T where
 kind:Nat
 text:List UInt8
 val:Nat
 deriving DecidableEq
def keywords:List (List UInt8):=[[97,103,97,105,110],[97,110,100],[97,115],[97,116],[99,97,108,108],[99,104,111,105,99,101],[101,108,115,101],[102,114,111,109],[105,102],[105,110,116],[108,101,110],[108,111,111,112],[109,101,115,115,97,103,101],[111,102],[111,102,102,101,114],[111,110],[111,114],[112,97,114],[112,108,97,121,115],[112,114,111,116,111,99,111,108],[115,101,114,118,105,99,101],[116,101,120,116],[116,105,109,101,115],[116,111],[118,97,114],[119,104,101,114,101],[119,104,105,108,101],[119,105,116,104,105,110]]
def isName (l:List UInt8):Bool:=match l with
 | []=>false
 | c::_=>decide (l.length<=16)&&lt c&&l.all inn
def isWord (l:List UInt8):Bool:=isName l && !decide (l∈keywords)
end Go.LexS
end

section
namespace Go.VC
open Go.LexS
abbrev Nm:=List UInt8
def i64 (n:Int):Value:=.int .i64 n
def slV (s:Sl):Value:=.slice s.a s.n s.c
structure Fld where
 nm:Nm
 k:Int
 lo:Int
 hi:Int
def Fld.cs (f:Fld):List Value:=[.string (bs f.nm),.int .i64 f.k,.int .i64 f.lo,.int .i64 f.hi]
structure Df where
 x:Int
 y:Int
 c:Int
def Df.cs (d:Df):List Value:=[.int .i64 d.x,.int .i64 d.y,.int .i64 d.c]
structure Eqs where
 x:Int
 y:Int
def Eqs.cs (d:Eqs):List Value:=[.int .i64 d.x,.int .i64 d.y]
structure Dc where
 nm:Nm
 hf:Sl
 first:Int
 hd:Sl
 he:Sl
 fs:List Fld
 ds:List Df
 es:List Eqs
def Dc.cs (d:Dc):List Value:=[.string (bs d.nm),.slice d.hf.a d.hf.n d.hf.c,.int .i64 d.first,.slice d.hd.a d.hd.n d.hd.c,.slice d.he.a d.he.n d.he.c]
structure Ed where
 f:Int
 a:Int
 b:Int
 l:Int
 t:Int
 ag:Bool
def Ed.cs (x:Ed):List Value:=[.int .i64 x.f,.int .i64 x.a,.int .i64 x.b,.int .i64 x.l,.int .i64 x.t,.bool x.ag]
structure To where
 s:Int
 k:Int
 e:Int
def To.cs (x:To):List Value:=[.int .i64 x.s,.int .i64 x.k,.int .i64 x.e]
structure Gl where
 nm:Nm
 hr:Sl
 hd:Sl
 n:Int
 s:Int
 e:Int
 he:Sl
 ht:Sl
 rs:List Nm
 ds:List Dc
 es:List Ed
 ts:List To
def Gl.cs (g:Gl):List Value:=[.string (bs g.nm),.slice g.hr.a g.hr.n g.hr.c,.slice g.hd.a g.hd.n g.hd.c,.int .i64 g.n,.int .i64 g.s,.int .i64 g.e,.slice g.he.a g.he.n g.he.c,.slice g.ht.a g.ht.n g.ht.c]
def Gl.v (g:Gl):Value:=.agg ⟨g.cs⟩
def nmC (x:Nm):List Value:=[.string (bs x)]
structure RL {α:Type} (h:Heap) (k:Nat) (s:Sl) (cs:α->List Value) (L:List α):Prop where
 rw:Rw h k s (L.map cs)
 cap:s.n<=s.c
 nil:s.a=none->s.n=0/\s.c=0
 sm:L.length<=1048576
theorem RL.ext {α:Type} {h h':Heap} {k:Nat} {s:Sl} {cs:α->List Value} {L:List α} (hr:RL h k s cs L) (E:Ext h h'):RL h' k s cs L:=⟨hr.rw.ext E,hr.cap,hr.nil,hr.sm⟩
theorem RL.ln {α:Type} {h:Heap} {k:Nat} {s:Sl} {cs:α->List Value} {L:List α} (hr:RL h k s cs L):s.n=L.length:=hr.rw.ln
structure DI (h:Heap) (d:Dc):Prop where
 pf:RL h 4 d.hf Fld.cs d.fs
 pd:RL h 3 d.hd Df.cs d.ds
 pe:RL h 2 d.he Eqs.cs d.es
theorem DI.ext {h h':Heap} {d:Dc} (hd:DI h d) (E:Ext h h'):DI h' d:=⟨hd.pf.ext E,hd.pd.ext E,hd.pe.ext E⟩
structure DL (h:Heap) (s:Sl) (L:List Dc):Prop where
 r:RL h 5 s Dc.cs L
 i:∀d∈L,DI h d
theorem DL.ext {h h':Heap} {s:Sl} {L:List Dc} (hd:DL h s L) (E:Ext h h'):DL h' s L:=⟨hd.r.ext E,fun d hm=>(hd.i d hm).ext E⟩
structure GI (h:Heap) (g:Gl):Prop where
 r:RL h 1 g.hr nmC g.rs
 d:DL h g.hd g.ds
 e:RL h 6 g.he Ed.cs g.es
 t:RL h 3 g.ht To.cs g.ts
theorem GI.ext {h h':Heap} {g:Gl} (hg:GI h g) (E:Ext h h'):GI h' g:=⟨hg.r.ext E,hg.d.ext E,hg.e.ext E,hg.t.ext E⟩
theorem RL.take {α:Type} {h:Heap} {k:Nat} {s:Sl} {cs:α->List Value} {L:List α} (hr:RL h k s cs L) {i:Nat} (hi:i<=s.n):RL h k ⟨subA s.a (Int.toNat 0) s.c k,Int.toNat (i:Int)-Int.toNat 0,s.c-Int.toNat 0⟩ cs (L.take i):=by
 have h1:=hr.rw.1;have e:subA s.a (Int.toNat 0) s.c k=s.a:=subA_zero _ _ _;rw[e];refine⟨⟨by rw[Yc,Yu];simp only[Yc] at h1;show i-0=_;omega,fun hp=>?_⟩,by have:=hr.cap;show i-0<=s.c-0;omega,fun ha=>?_,by have:=hr.sm;rw[Yu];omega⟩
 .rw[Yc,Yu] at hp;obtain⟨b,o,ha,hall⟩:=hr.rw.2 (by rw[Yc];omega);refine⟨b,o,ha,fun j row hj=>hall j row ?_⟩;rw[List.map_take,Yyf] at hj;split at hj
  .exact hj
  .cases hj
 .have:=hr.nil ha;exact⟨by show i-0=0;omega,by show s.c-0=0;omega⟩
end Go.VC
end

section
namespace Go.VC
open Go.Proofs Go.LexS
theorem letter221 (b:UInt8) (h:Heap):Fn Pz 265 #[.int .u8 b.toNat] h fun v h'=>v=.bool (lt b)/\h'=h:=by
 apply vc265;unfold W265;unfold lt isLetter;generalize (b.toNat:Int)=n
 repeat' first
  | refine sBi (fun _=>?_) (fun _=>?_)
 all_goals
  refine⟨?_,rfl⟩;congr 1;rw[Bool.eq_iff_iff];simp only[Bool.or_eq_true,Yt,decide_eq_true_eq,Bool.false_eq_true,true_iff,false_iff];omega
theorem digit253 (b:UInt8) (h:Heap):Fn Pz 296 #[.int .u8 b.toNat] h fun v h'=>v=.bool (dg b)/\h'=h:=by
 apply vc296;unfold W296;unfold dg isDigit;refine sBi (fun c=>⟨?_,rfl⟩) (fun c=>⟨?_,rfl⟩)
 .rw[decide_eq_true (p:=(48:Int)<=b.toNat) c,Bool.true_and]
 .rw[decide_eq_false (p:=(48:Int)<=b.toNat) c,Bool.false_and]
theorem inner222 (b:UInt8) (h:Heap):Fn Pz 266 #[.int .u8 b.toNat] h fun v h'=>v=.bool (inn b)/\h'=h:=by
 apply vc266;unfold W266;refine (letter221 b h).mono ?_;rintro _ h3 ⟨rfl,rfl⟩;refine⟨_,rfl,sB_intro (fun c=>?_) (fun c=>?_)⟩
 .exact⟨by rw[show inn b=(lt b||dg b||((b.toNat:Int)==95)) from rfl,c];rfl,rfl⟩
 .refine (digit253 b _).mono ?_;rintro _ h6 ⟨rfl,rfl⟩;refine⟨_,rfl,sB_intro (fun d=>?_) (fun d=>?_)⟩
  .exact⟨by rw[show inn b=(lt b||dg b||((b.toNat:Int)==95)) from rfl,c,d];rfl,rfl⟩
  .exact⟨by rw[show inn b=(lt b||dg b||((b.toNat:Int)==95)) from rfl,c,d];rfl,rfl⟩
theorem isname189 (s:ByteArray) (h:Heap):Fn Pz 222 #[.string s] h fun v h'=>v=.bool (isName s.data.toList)/\h'=h:=by
 apply vc222;unfold W222;have hsz:=size_len s;rw[strEq];generalize hL:s.data.toList=L at *;refine sB_intro (fun he=>?_) (fun he=>?_)
 .have:L=[]:=Yyn he;subst this;exact⟨rfl,rfl⟩
 .have hne:L≠[]:=Yyo he;have hpos:0<L.length:=List.length_pos_iff.2 hne;obtain⟨b,hb,hby⟩:=byte_get (s:=s) (i:=0) (by omega);rw[hL] at hb;have hcons:L=b::L.drop 1:=by have:=drop_cons hb;rwa [List.drop_zero] at this
  have hdef:isName L=(decide (L.length<=16)&&lt b&&L.all inn):=by
   conv=>lhs;rw[hcons]
   rw[isName,<-hcons]
  rw[hdef];refine sB_intro (fun hgt=>?_) (fun hgt=>?_)
  .refine⟨?_,rfl⟩;rw[decide_eq_false (by have:=Yyn hgt;omega)];rfl
  .have h16:L.length<=16:=by have:=Yyo hgt;omega
   rw[decide_eq_true h16];refine⟨⟨by omega,by omega⟩,?_⟩;rw[show Int.toNat 0=0 from rfl,hby];refine (letter221 _ _).mono ?_;rintro v h3 ⟨rfl,rfl⟩;refine⟨_,rfl,sB_intro (fun hlet=>?_) (fun hlet=>?_)⟩
   .refine⟨?_,rfl⟩;rw[show lt b=false from by rw[Bool.not_eq_true'] at hlet;exact hlet];rfl
   .rw[show lt b=true from by rw[Bool.not_eq_false'] at hlet;exact hlet];refine up_loop (n:=s.size) (fun i h'=>h'=h3/\∀(j:Nat) (b:UInt8),j<i->L[j]?=some b->(!inn b)=false) ⟨rfl,fun j b hj=>by omega⟩ ?_;rintro-i h8 hi ⟨rfl,hd⟩;refine sB_intro (fun hlt=>?_) (fun hge=>?_)
    .have hlt':=lt_t hlt;obtain⟨y,hy,hby2⟩:=byte_get hlt';rw[hL] at hy;refine⟨⟨by omega,by omega⟩,?_⟩;rw[show Int.toNat (i:Int)=i from rfl,hby2];refine (inner222 _ _).mono ?_;rintro v h11 ⟨rfl,rfl⟩;refine⟨_,rfl,sB_intro (fun hp=>?_) (fun hp=>?_)⟩
     .refine⟨?_,rfl⟩;have:L.all inn=false:=by
       rw[<-Bool.not_eq_true,all_split];intro hh;have:=hh y i hy;rw[Bool.not_eq_true'] at hp;rw[show inn y=false from hp] at this;cases this
      rw[this];rfl
     .exact Up.next hlt' (by omega) ⟨rfl,scan_next (p:=fun b=>!inn b) hy hp hd⟩
    .have hge':=lt_f hge;refine⟨?_,rfl⟩;rw[(all_split inn L).2 fun b j hb=>by simpa using hd j b (by have:=(Ya.1 hb).1;omega) hb];rfl
theorem index190 (L:List Nm) (x:ByteArray) (s:Sl) (h:Heap) (hr:RL h 1 s nmC L) :
  Fn Pz 223 #[.slice s.a s.n s.c,.string x] h fun v h'=>(∃k:Int,v=.int .i64 k/\decide (k>=0)=decide (x.data.toList∈L))/\h'=h:=by
 apply vc223;unfold W223;have hn:=hr.ln;have hm:=hr.sm;refine up_loop (n:=s.n) (fun i h'=>h'=h/\∀(j:Nat) (y:Nm),j<i->L[j]?=some y->decide (x.data.toList=y)=false) ⟨rfl,fun j y hj=>by omega⟩ ?_;rintro-i h5 hi ⟨rfl,hd⟩;refine sB_intro (fun l=>?_) (fun l=>?_)
 .replace l:=lt_t l;refine hr.rw.nbI (by omega) (by omega) fun b o d g t=>?_;replace g:L[i]?=some d:=g;refine⟨_,t.hd,?_⟩;rw[strEq,bs_list];refine sB_intro (fun he=>?_) (fun hne=>?_)
  .have:=Yyn he;exact⟨⟨_,rfl,by rw[decide_eq_true (show (i:Int)>=0 by omega),decide_eq_true (by rw[this];exact Yb g)]⟩,rfl⟩
  .exact Up.next l (by omega) ⟨rfl,scan_next (p:=fun y=>decide (x.data.toList=y)) g hne hd⟩
 .replace l:=lt_f l;refine⟨⟨_,rfl,?_⟩,rfl⟩;rw[decide_eq_false (show ¬((-1:Int)>=0) by omega),decide_eq_false];intro hm;obtain⟨j,hj⟩:=Yf.1 hm;exact Yyo (hd j _ (by have:=(Ya.1 hj).1;omega) hj) rfl
theorem has133 (L:List Nm) (x:ByteArray) (s:Sl) (h:Heap) (hr:RL h 1 s nmC L) :
  Fn Pz 161 #[.slice s.a s.n s.c,.string x] h fun v h'=>v=.bool (decide (x.data.toList∈L))/\h'=h:=by
 apply vc161;unfold W161;refine (index190 L x s h hr).mono ?_;rintro v h3 ⟨⟨k,rfl,hk⟩,rfl⟩;exact⟨_,rfl,by rw[hk],rfl⟩
theorem own_rl {α:Type} {h:Heap} {b:Nat} {e:TypeId} {k:Nat} {cs:α->List Value} {L:List α} {xs:List Value} (hx:xs=(L.map cs).flatten) (ho:Own h b xs e) (hk:∀x,(cs x).length=k) (hl:L.length<=1048576) {n c:Nat} (hn:n=L.length) (hc:n<=c):RL h k ⟨some ⟨b,0,none⟩,n,c⟩ cs L:=by
 subst hx;refine⟨⟨by rw[Yc];exact hn,fun _=>⟨b,0,rfl,fun i row hi j v hj=>?_⟩⟩,hc,fun e=>by (cases e),hl⟩;have hr:∀r∈L.map cs,r.length=k:=fun r hr=>by obtain⟨x,_,rfl⟩:=Yp.1 hr;exact hk x
 have hjl:=(Ya.1 hj).1;rw[hr row (Yb hi)] at hjl;rw[addk_at,Nat.zero_add,ho.hc,getElem?_flatten _ i j row hr hi hjl];exact hj
theorem isword132 (s:ByteArray) (h:Heap):Fn Pz 160 #[.string s] h fun v h'=>v=.bool (isWord s.data.toList)/\Ext h h':=by
 apply vc160;unfold W160;refine newput (vs:=(keywords.map nmC).flatten) rfl fun h2 E o=>?_;refine (isname189 s h2).mono ?_;rintro _ h5 ⟨rfl,rfl⟩;refine⟨_,rfl,sB_intro (fun c=>?_) (fun c=>?_)⟩
 .refine⟨by decide,?_⟩;refine (has133 keywords s ⟨subA (some ⟨h.size,0,none⟩) (Int.toNat 0) 28 1,Int.toNat (28:Nat)-Int.toNat 0,28-Int.toNat 0⟩ h5 (own_rl rfl o (fun _=>rfl) (by decide) rfl (by decide))).mono ?_;rintro _ h8 ⟨rfl,rfl⟩;exact⟨_,rfl,by rw[show isWord s.data.toList=(isName s.data.toList && !decide (s.data.toList∈keywords)) from rfl,c];rfl,E⟩
 .exact⟨by rw[show isWord s.data.toList=(isName s.data.toList && !decide (s.data.toList∈keywords)) from rfl,c];rfl,E⟩
end Go.VC
end

section
namespace Go.VC
def inC (n:Int):List Value:=[.int .i64 n]
def wC (w:Nat):List Value:=[.int .u64 w]
end Go.VC
end

section
namespace Go.VC
open Go.RowKit
structure Ev where
 send:Bool
 peer:Int
 label:Int
 deriving DecidableEq
def Ev.cs (x:Ev):List Value:=[.bool x.send,.int .i64 x.peer,.int .i64 x.label]
structure Ar where
 x:Ev
 to:Int
def Ar.cs (a:Ar):List Value:=[.bool a.x.send,.int .i64 a.x.peer,.int .i64 a.x.label,.int .i64 a.to]
def slC (s:Sl):List Value:=[.slice s.a s.n s.c]
def vis1 (role:Int) (x:Ed):Option Ev:=if role=x.a then some ⟨true,x.b,x.l⟩ else if role=x.b then some ⟨false,x.a,x.l⟩ else none
def quietL (es:List Ed) (role:Int) (n:Nat):List Int:=es.filterMap fun x=>if x.f=(n:Int) then (match vis1 role x with | none=>some x.t | some _=>none) else none
def visL (es:List Ed) (role:Int) (n:Nat):List Ar:=es.filterMap fun x=>if x.f=(n:Int) then (vis1 role x).map fun e=>⟨e,x.t⟩ else none
def nest {α:Type} (e:TypeId) (k:Nat) (cs:α->List Value) (q:Sl × List α):It:=.sl q.1 e k (q.2.map cs)
theorem set_mid {α:Type} {P R:List α} {Q:List α} {i:Nat} (hi:i<Q.length) (x:α):(P++Q++R).set (P.length+i) x=P++Q.set i x++R:=by
 rw[Yz,List.set_append_right _ _ (by omega),Nat.add_sub_cancel_left,List.set_append_left _ _ hi,Yz]
theorem get_mid {α:Type} {P R:List α} {Q:List α} {i:Nat} (hi:i<Q.length):(P++Q++R)[P.length+i]?=Q[i]?:=by
 rw[Yz,Yyc (by omega),Nat.add_sub_cancel_left,Yyi hi]
theorem St.nestAt {α:Type} {P:Program} {h0 h:Heap} {A B:List It} {Q:List (Sl × List α)} {e:TypeId} {n:Nat} {cs:α->List Value} (hs:St h0 h (A++Q.map (nest e n cs)++B)) {i:Nat} {q:Sl × List α} (hi:Q[i]?=some q)
  {t bytes:Nat} (hT:appB P t e n bytes=true) (d:α) {a:Addr} (ha:atC h a (cs d)) (hn:(cs d).length=n) (h1:(cs d).all oneB=true) (hb:(q.1.n+1)*bytes<=140737488355328) (h63:q.1.n+1<=maxLen)
  {K:Sl->Heap->Prop} (hK:∀(r:Sl) (h':Heap),r.n=q.1.n+1->St h0 h' (A++(Q.set i (r,q.2++[d])).map (nest e n cs)++B)->K r h') :
  App P t t (.slice q.1.a q.1.n q.1.c) (.slice (some a) 1 1) h K:=by
 have hil:i<Q.length:=(Ya.1 hi).1;have hil':i<(Q.map (nest e n cs)).length:=by rw[Yc];exact hil
 refine hs.appended (A.length+i) (rows:=q.2.map cs) (by rw[get_mid hil',Yd,hi];rfl) hT (news:=[cs d]) (by simpa using ha) rfl (fun r hr=>by rw[Ye] at hr;rw[hr];exact hn) (by simpa using h1) hb h63 fun r h' hrn h3=>hK r h' hrn ?_;rw[set_mid hil'] at h3;have e1:(Q.map (nest e n cs)).set i (.sl r e n (q.2.map cs++[cs d]))=(Q.set i (r,q.2++[d])).map (nest e n cs):=by
  rw[List.map_set];congr 1;unfold nest;simp
 rw[e1] at h3;exact h3
theorem St.newbE {h0 h:Heap} {L:List It} (hs:St h0 h L) {xs:List Value} {e:TypeId} {K:Heap->Prop} (hK:∀h2,Ext h h2->St h0 h2 (.blk h.size xs e::L)->K h2):∀h2:Heap,h2=h.push (.cells ⟨xs⟩ e)->K h2:=
 VC.newb fun h2 E o=>hK h2 E (hs.more E (i:=.blk h.size xs e) o fun b hb=>by cases hb;exact Yyt _)
theorem St.perm {h0 h:Heap} {L L':List It} (hs:St h0 h L) (hp:L.Perm L'):St h0 h L':=
 ⟨hs.ext,fun i hi=>hs.ok i (hp.mem_iff.2 hi),(hp.pairwise_iff (fun {a b} hab x hx hy=>hab x hy hx)).1 hs.ap⟩
theorem St.nests {α:Type} {h0 h:Heap} {A B:List It} {e:TypeId} {k:Nat} {cs:α->List Value} (hs:St h0 h (A++B)):∀n:Nat,St h0 h (A++(List.replicate n ((⟨.none,0,0⟩,[]):Sl × List α)).map (nest e k cs)++B)
 | 0=>by simpa using hs
 | n+1=>by
  have h1:=(hs.nests (α:=α) (e:=e) (k:=k) (cs:=cs) n).nil_ e k;refine h1.perm ?_;rw[List.replicate_succ,Yyl,Yz,Yz];have:nest e k cs ((⟨.none,0,0⟩,[]):Sl × List α)=.sl ⟨.none,0,0⟩ e k []:=rfl;rw[this];exact List.perm_middle.symm
theorem sm_nil {h h':Heap}:Sm [] h h':=fun a ha=>by cases ha
theorem sm_cons {h h':Heap} {a:Addr} {al:List Addr} (hb:h'[a.block]?=h[a.block]?) (hr:Sm al h h'):Sm (a::al) h h':=by
 intro x hx k v hv;rcases Yr.1 hx with rfl | hx
 .rw[hc_of_block (h:=h) (by rw[addk_block'];exact hb)];exact hv
 .exact hr x hx k v hv
theorem St.same {h0 h h':Heap} {L L':List It} (hs:St h0 h L) (hs':St h0 h' L') (k k':Nat) {b:Nat} {xs:List Value} {e:TypeId} (hk:L[k]?=some (.blk b xs e)) (hk':L'[k']?=some (.blk b xs e)):h'[b]?=h[b]?:=(hs'.get hk').trans (hs.get hk).symm
end Go.VC
end

section
namespace Go.VC
theorem map_get {α β:Type} (f:α->β) (L:List α) (i:Nat):(L.map f)[i]?=(L[i]?).map f:=Yd
theorem map_splice {α:Type} (f:α->Value) {L:List α} {i:Nat} (hi:i<L.length) (y:α):splice (L.map f) i [f y]=(L.set i y).map f:=by
 unfold splice;rw[List.map_set,List.set_eq_take_append_cons_drop,if_pos (by rw[Yc];exact hi)];simp
inductive Qr (es:List Ed) (role:Int) (l:List Int):Int->Prop where
 | base {a:Int}:a∈l->Qr es role l a
 | step {a b:Int}:Qr es role l a->(∃x∈es,vis1 role x=none/\x.f=a/\x.t=b)->Qr es role l b
structure CL (es:List Ed) (role:Int) (n:Nat) (l:List Int) (D:List Bool) (T:List Int):Prop where
 len:D.length=n
 cnt:T.length=D.count true
 mem:∀v,v∈T ↔ 0<=v/\D[v.toNat]?=some true
 r:∀v∈T,Qr es role l v
theorem CL.start (es:List Ed) (role:Int) (n:Nat) (l:List Int):CL es role n l (List.replicate n false) []:=by
 refine⟨by rw[Yg],by rw[List.count_replicate];rfl,fun v=>⟨fun h=>(by cases h),fun ⟨_,h⟩=>?_⟩,fun v h=>by cases h⟩;have:=List.eq_of_mem_replicate (Yb h);cases this
theorem CL.push {es:List Ed} {role:Int} {n:Nat} {l:List Int} {D:List Bool} {T:List Int} (h:CL es role n l D T) {b:Int} (h0:0<=b) (hb:D[b.toNat]?=some false) (hr:Qr es role l b):CL es role n l (D.set b.toNat true) (T++[b]):=by
 have hbl:=(Ya.1 hb).1;have hbe:=(Ya.1 hb).2;refine⟨by rw[Yyh];exact h.len,?_,fun v=>?_,fun v hv=>?_⟩
 .rw[List.count_set hbl,hbe,Yh,h.cnt];rfl
 .rw[Yk,Ye,h.mem];constructor
  .rintro (⟨h1,h2⟩ | rfl)
   .refine⟨h1,?_⟩;by_cases e:b.toNat=v.toNat
    .rw[e,Yq (by omega)]
    .rw[Yy e];exact h2
   .exact⟨h0,by rw[Yq hbl]⟩
  .rintro⟨h1,h2⟩;by_cases e:b.toNat=v.toNat
   .right;omega
   .left;rw[Yy e] at h2;exact⟨h1,h2⟩
 .rcases Yk.1 hv with hv | hv
  .exact h.r v hv
  .rw[Ye] at hv;rw[hv];exact hr
theorem CL.le {es:List Ed} {role:Int} {n:Nat} {l:List Int} {D:List Bool} {T:List Int} (h:CL es role n l D T):T.length<=n:=by
 rw[h.cnt,<-h.len];exact List.count_le_length
theorem quietL_mem {es:List Ed} {role:Int} {n:Nat} {b:Int}:b∈quietL es role n ↔ ∃x∈es,vis1 role x=none/\x.f=n/\x.t=b:=by
 unfold quietL;rw[Yym];constructor
 .rintro⟨x,hx,h⟩;split at h
  .rename_i hf;cases hv:vis1 role x with
   | none=>rw[hv] at h;exact⟨x,hx,hv,hf,Yyp h⟩
   | some e=>rw[hv] at h;cases h
  .cases h
 .rintro⟨x,hx,hv,hf,rfl⟩;exact⟨x,hx,by rw[if_pos hf,hv]⟩
theorem CL.end_ {es:List Ed} {role:Int} {n:Nat} {l:List Int} {D:List Bool} {T:List Int} (h:CL es role n l D T) (hl:∀x∈l,x∈T) (hc:∀v∈T,∀b∈quietL es role v.toNat,b∈T) (v:Int):v∈T ↔ Qr es role l v:=by
 refine⟨h.r v,fun hq=>?_⟩
 induction hq with
 | base hm=>exact hl _ hm
 | @step a b _ hx ih=>
  obtain⟨x,hx,hv,hf,rfl⟩:=hx;exact hc _ ih _ (quietL_mem.2 ⟨x,hx,hv,by have:=((h.mem a).1 ih).1;omega,rfl⟩)
noncomputable def clo (es:List Ed) (role:Int) (l:List Int):Nat->Bool:=fun j=>by classical exact decide (Qr es role l (j:Int))
theorem clo_iff {es:List Ed} {role:Int} {l:List Int} {j:Nat}:clo es role l j=true ↔ Qr es role l (j:Int):=by unfold clo;simp
def cmpI (x y:Int):Int:=if x<y then -1 else if x>y then 1 else 0
def orI3 (x y:Int):Int:=if x≠0 then x else y
def cmpE (x y:Ev):Int:=if x.send≠y.send then (if x.send then -1 else 1) else orI3 (cmpI x.peer y.peer) (cmpI x.label y.label)
def evLt (x y:Ev):Prop:=(x.send=true/\y.send=false)\/(x.send=y.send/\(x.peer<y.peer\/(x.peer=y.peer/\x.label<y.label)))
instance (x y:Ev):Decidable (evLt x y):=by unfold evLt;infer_instance
theorem cmpE_neg {x y:Ev}:cmpE x y<0 ↔ evLt x y:=by
 unfold cmpE evLt orI3 cmpI;obtain⟨s,p,l⟩:=x;obtain⟨t,q,m⟩:=y;cases s<;>cases t<;>simp<;>(repeat' split)<;>omega
theorem ev_ext {x y:Ev} (h1:x.send=y.send) (h2:x.peer=y.peer) (h3:x.label=y.label):x=y:=by
 obtain⟨s,p,l⟩:=x;obtain⟨t,q,m⟩:=y
 simp_all
theorem evLt_irr (x:Ev):¬evLt x x:=by unfold evLt;intro h;rcases h with ⟨h1,h2⟩ | ⟨_,h | ⟨_,h⟩⟩<;>first | (rw[h1] at h2;cases h2) | omega
theorem evLt_trans {x y z:Ev} (h1:evLt x y) (h2:evLt y z):evLt x z:=by
 unfold evLt at *;obtain⟨s,p,l⟩:=x;obtain⟨t,q,m⟩:=y;obtain⟨u,r,n⟩:=z;cases s<;>cases t<;>cases u<;>simp_all<;>omega
theorem evLt_tri (x y:Ev):evLt x y\/x=y\/evLt y x:=by
 unfold evLt;obtain⟨s,p,l⟩:=x;obtain⟨t,q,m⟩:=y;cases s<;>cases t<;>simp<;>omega
def compactL:List Ev->List Ev
 | []=>[]
 | x::r=>match compactL r with
  | []=>[x]
  | y::t=>if x=y then y::t else x::y::t
theorem compactL_mem:∀(l:List Ev) (x:Ev),x∈compactL l ↔ x∈l
 | [],x=>by simp[compactL]
 | a::r,x=>by
  have ih:=compactL_mem r;rw[compactL];split
  .rename_i h;rw[h] at ih;have:=ih x
   simp_all
  .rename_i y t h;rw[h] at ih;have h1:=ih x;split
   .rename_i e;subst e;have h2:=(ih a).1 (by simp);rw[h1];simp only[Yr];constructor
    .exact .inr
    .rintro (rfl | h)
     .exact h2
     .exact h
   .rw[Yr,h1,Yr]
theorem compactL_sorted:∀(l:List Ev),l.Pairwise (fun a b=>¬evLt b a)->(compactL l).Pairwise evLt
 | [],_=>by simp[compactL]
 | a::r,h=>by
  obtain⟨h1,h2⟩:=List.pairwise_cons.1 h;have ih:=compactL_sorted r h2;rw[compactL];split
  .simp
  .rename_i y t hc;rw[hc] at ih;split
   .exact ih
   .rename_i hne;refine List.pairwise_cons.2 ⟨fun z hz=>?_,ih⟩;have hay:evLt a y:=by
     have hy:y∈r:=(compactL_mem r y).1 (by rw[hc];simp);rcases evLt_tri a y with h3 | h3 | h3
     .exact h3
     .exact absurd h3 hne
     .exact absurd h3 (h1 y hy)
    rcases Yr.1 hz with rfl | hz
    .exact hay
    .exact evLt_trans hay ((List.pairwise_cons.1 ih).1 z hz)
theorem sorted_ext:∀(l m:List Ev),l.Pairwise evLt->m.Pairwise evLt->(∀x,x∈l ↔ x∈m)->l=m
 | [],[],_,_,_=>rfl
 | [],b::m,_,_,h=>absurd ((h b).2 (by simp)) (by simp)
 | a::l,[],_,_,h=>absurd ((h a).1 (by simp)) (by simp)
 | a::l,b::m,hl,hm,h=>by
  obtain⟨h1,h2⟩:=List.pairwise_cons.1 hl;obtain⟨h3,h4⟩:=List.pairwise_cons.1 hm;have hab:a=b:=by
   rcases Yr.1 ((h a).1 (by simp)) with e | ha
   .exact e
   .rcases Yr.1 ((h b).2 (by simp)) with e | hb
    .exact e.symm
    .exact absurd (evLt_trans (h1 b hb) (h3 a ha)) (evLt_irr a)
  subst hab;congr 1;refine sorted_ext l m h2 h4 fun x=>?_;have hx:=h x;rw[Yr,Yr] at hx;constructor
  .intro hm';rcases hx.1 (.inr hm') with rfl | h5
   .exact absurd (h1 x hm') (evLt_irr x)
   .exact h5
  .intro hm';rcases hx.2 (.inr hm') with rfl | h5
   .exact absurd (h3 x hm') (evLt_irr x)
   .exact h5
def insE (x:Ev):List Ev->List Ev
 | []=>[x]
 | y::r=>if evLt y x then y::insE x r else if x=y then y::r else x::y::r
theorem insE_mem (x z:Ev):∀l:List Ev,z∈insE x l ↔ z=x\/z∈l
 | []=>by simp[insE]
 | y::r=>by
  rw[insE];split
  .rw[Yr,insE_mem x z r,Yr];constructor
   .rintro (h | h | h)
    .exact .inr (.inl h)
    .exact .inl h
    .exact .inr (.inr h)
   .rintro (h | h | h)
    .exact .inr (.inl h)
    .exact .inl h
    .exact .inr (.inr h)
  .split
   .rename_i e;subst e;simp
   .simp
theorem insE_sorted (x:Ev):∀l:List Ev,l.Pairwise evLt->(insE x l).Pairwise evLt
 | [],_=>by simp[insE]
 | y::r,h=>by
  obtain⟨h1,h2⟩:=List.pairwise_cons.1 h;rw[insE];split
  .rename_i hyx;refine List.pairwise_cons.2 ⟨fun z hz=>?_,insE_sorted x r h2⟩;rcases (insE_mem x z r).1 hz with rfl | hz
   .exact hyx
   .exact h1 z hz
  .split
   .exact h
   .rename_i hyx hne;have hxy:evLt x y:=by
     rcases evLt_tri x y with h3 | h3 | h3
     .exact h3
     .exact absurd h3 hne
     .exact absurd h3 hyx
    refine List.pairwise_cons.2 ⟨fun z hz=>?_,h⟩;rcases Yr.1 hz with rfl | hz
    .exact hxy
    .exact evLt_trans hxy (h1 z hz)
def sortE (l:List Ev):List Ev:=l.foldr insE []
theorem sortE_mem (l:List Ev) (x:Ev):x∈sortE l ↔ x∈l:=by
 unfold sortE
 induction l with
 | nil=>simp
 | cons a l ih=>rw[List.foldr_cons,insE_mem,ih,Yr]
theorem sortE_sorted (l:List Ev):(sortE l).Pairwise evLt:=by
 unfold sortE
 induction l with
 | nil=>simp
 | cons a l ih=>exact insE_sorted a _ ih
theorem compact_sortE {l l':List Ev} (hp:l'.Perm l) (hs:l'.Pairwise fun a b=>¬evLt b a):compactL l'=sortE l:=
 sorted_ext _ _ (compactL_sorted l' hs) (sortE_sorted l) fun x=>by rw[compactL_mem,sortE_mem,hp.mem_iff]
def elems (p:Nat->Bool):List Nat:=(List.range 4096).filter p
theorem elems_mem {p:Nat->Bool} {j:Nat}:j∈elems p ↔ j<4096/\p j=true:=by unfold elems;rw[List.mem_filter,List.mem_range]
def toL (es:List Ed) (role:Int) (p:Nat->Bool) (x:Ev):List Int:=(elems p).flatMap fun n=>(visL es role n).filterMap fun a=>if a.x=x then some a.to else none
def evL (es:List Ed) (role:Int) (p:Nat->Bool):List Ev:=(elems p).flatMap fun n=>(visL es role n).map (·.x)
def evs (es:List Ed) (role:Int) (p:Nat->Bool):List Ev:=sortE (evL es role p)
end Go.VC
end

section
namespace Go.VC
structure Mv where
 f:Int
 send:Bool
 peer:Int
 label:Int
 t:Int
 ag:Bool
 deriving DecidableEq
def Mv.cs (m:Mv):List Value:=[.int .i64 m.f,.bool m.send,.int .i64 m.peer,.int .i64 m.label,.int .i64 m.t,.bool m.ag]
abbrev PSet:=Nat->Bool
open Classical in
noncomputable def rowI:List PSet->PSet->Nat
 | [],_=>0
 | q::r,p=>if q=p then 0 else rowI r p+1
open Classical in
noncomputable def rowS (S:List PSet) (p:PSet):List PSet:=if p∈S then S else S++[p]
noncomputable def arcsF (es:List Ed) (role:Int) (i:Nat) (p:PSet):List Ev->List PSet->List Mv->List PSet × List Mv
 | [],S,M=>(S,M)
 | x::r,S,M=>arcsF es role i p r (rowS S (clo es role (toL es role p x))) (M++[⟨i,x.send,x.peer,x.label,rowI S (clo es role (toL es role p x)),false⟩])
noncomputable def viewsF (es:List Ed) (role:Int):Nat->Nat->List PSet->List Mv->Option (List PSet × List Mv)
 | 0,_,_,_=>none
 | f+1,i,S,M=>match S[i]? with
  | none=>some (S,M)
  | some p=>if (arcsF es role i p (evs es role p) S M).1.length>200 then none else viewsF es role f (i+1) (arcsF es role i p (evs es role p) S M).1 (arcsF es role i p (evs es role p) S M).2
noncomputable def views (g:Gl) (role:Int):Option (List PSet × List Mv):=viewsF g.es role 202 0 [clo g.es role [g.s]] []
end Go.VC
end

section
namespace Go.VC
structure Ti where
 ag:Bool
 k:Int
 x:Ev
 deriving DecidableEq
def Ti.cs (t:Ti):List Value:=[.bool t.ag,.int .i64 t.k,.bool t.x.send,.int .i64 t.x.peer,.int .i64 t.x.label]
def ti0:Ti:=⟨false,0,⟨false,0,0⟩⟩
def updT (T:List Ti) (n:Nat) (f:Ti->Ti):List Ti:=match T[n]? with | some t=>T.set n (f t) | none=>T
def own1 (role:Int) (s:List Bool × List Ti) (x:Ed):List Bool × List Ti:=
 if x.a=role then (s.1.set x.f.toNat true,updT s.2 x.f.toNat fun t=>{ t with ag:=x.ag }) else s
def own2 (es:List Ed) (O:List Bool) (T:List Ti) (t:To):List Ti:=
 match O[t.s.toNat]?,es[t.e.toNat]? with
 | some true,some x=>updT T t.s.toNat fun q=>⟨q.ag,t.k,⟨true,x.b,x.l⟩⟩
 | _,_=>T
def ownE (es:List Ed) (role:Int) (n:Nat):List Bool × List Ti:=es.foldl (own1 role) (List.replicate n false,List.replicate n ti0)
def ownT (es:List Ed) (ts:List To) (role:Int) (n:Nat):List Ti:=ts.foldl (own2 es (ownE es role n).1) (ownE es role n).2
def sndAt (L:List Ev) (i:Nat):Bool:=match L[i]? with | some x=>x.send | none=>false
def badV (F:Nat->List Ev) (en:Nat->Bool) (l:List Nat) (n:Nat):Bool:=sndAt (F n) 0&&(en n || !sndAt (F n) ((F n).length-1)||l.any fun k=>en k||decide (F n≠F k))
def stepV (F:Nat->List Ev) (en:Nat->Bool) (O:List Bool) (T:List Ti) (l:List Nat) (st:Option (Bool × Ti)) (n:Nat):Option (Bool × Ti):=
 match st with
 | none=>none
 | some (k,o)=>if badV F en l n then none else match O[n]?,T[n]? with
  | some true,some t=>if k&&decide (t≠o) then none else some (true,t)
  | _,_=>some (k,o)
def viewV (F:Nat->List Ev) (en:Nat->Bool) (O:List Bool) (T:List Ti) (l:List Nat):Option Ti:=(l.foldl (stepV F en O T l) (some (false,ti0))).map Prod.snd
structure Mch where
 role:Int
 n:Int
 s:Int
 fin:List Bool
 mv:List Mv
 li:List To
def updR (n:Nat) (x:Ti) (y:Mv):Mv:=if y.f=n/\y.send=true then { y with ag:=x.ag } else y
def limC (n:Nat) (x:Ti) (q:Mv × Nat):Option To:=if q.1.f=n/\q.1.send=true/\x.k>0/\x.x=⟨true,q.1.peer,q.1.label⟩ then some ⟨n,x.k,q.2⟩ else none
def limR (n:Nat) (x:Ti) (M:List Mv):List To:=M.zipIdx.filterMap (limC n x)
def rawL (vw:List Nat->Option Ti):Nat->List PSet->List Mv->List To->Option (List Mv × List To)
 | _,[],M,L=>some (M,L)
 | n,p::S,M,L=>match vw (elems p) with
  | none=>none
  | some x=>rawL vw (n+1) S (M.map (updR n x)) (L++limR n x M)
end Go.VC
end

section
namespace Go.VC
section
variable {K K':Type} [DecidableEq K] [DecidableEq K']
end
structure Sg where
 b:Int
 k:Int
 x:Ev
 ag:Bool
 num:Int
 deriving DecidableEq
def Sg.v (s:Sg):Value:=.agg ⟨[.int .i64 s.b,.int .i64 s.k,.bool s.x.send,.int .i64 s.x.peer,.int .i64 s.x.label,.bool s.ag,.int .i64 s.num]⟩
def Mv.ev (x:Mv):Ev:=⟨x.send,x.peer,x.label⟩
end Go.VC
end

section
namespace Go.VC
open Go.Proofs
variable [Mono]
namespace M
/- cmp.isNaN[int] -/
def W111 (p0:Int) (h:Heap) (R:Value->Heap->Prop):Prop:=
 R (.bool (p0 != p0)) h
theorem vc111e (p0:Int) (h:Heap) (R:Value->Heap->Prop):W111 p0 h R=fnW Pz 111 .z #[.int .i64 p0] h R:=by kernel_rfl
theorem vc111 (p0:Int) (h:Heap) (R:Value->Heap->Prop) (H:W111 p0 h R):Fn Pz 111 #[.int .i64 p0] h R:=fnI (vc111e p0 h R) H
/- cmp.Compare[int] -/
def W54 (p0:Int) (p1:Int) (h:Heap) (R:Value->Heap->Prop):Prop:=
 (Fn Pz 111 #[.int .i64 p0] h 
 (fun v1 h3=>∃x2:Bool,v1=.bool x2 /\ 
 (Fn Pz 111 #[.int .i64 p1] h3 
 (fun v4 h6=>∃x5:Bool,v4=.bool x5 /\ 
 (sB x2 
  ((sB x5 
  (R (.int .i64 0) h6) 
  (R (.int .i64 (-1)) h6))) 
  ((sB x5 
  (R (.int .i64 1) h6) 
  ((sB (decide (p0<p1)) 
   (R (.int .i64 (-1)) h6) 
   ((sB (decide (p0>p1)) 
   (R (.int .i64 1) h6) 
   (R (.int .i64 0) h6))))))))))))
theorem vc54e (p0:Int) (p1:Int) (h:Heap) (R:Value->Heap->Prop):W54 p0 p1 h R=fnW Pz 54 .z #[.int .i64 p0,.int .i64 p1] h R:=by kernel_rfl
theorem vc54 (p0:Int) (p1:Int) (h:Heap) (R:Value->Heap->Prop) (H:W54 p0 p1 h R):Fn Pz 54 #[.int .i64 p0,.int .i64 p1] h R:=fnI (vc54e p0 p1 h R) H
/- cmp.Or[int]
   loop rrlrb: x_4:Int -/
def W53 (p0:Sl) (h:Heap) (R:Value->Heap->Prop):Prop:=
 (∃I1:Int->Heap->Nat->Prop,(∃m2,I1 0 h m2) /\ 
 (∀(_:Env) (x_4:Int) (h5:Heap) (m3:Nat),I1 x_4 h5 m3 -> 
 (sB (decide (x_4<(p0.n:Int))) 
  ((NB p0.a fun b6 o7=>((0<=(x_4:Int)/\(x_4:Int)<(p0.n:Nat)) /\ 
  (∃x8:Int,hc h5 ⟨b6,o7+Int.toNat x_4*1,none⟩=some (.int .i64 x8) /\ 
  (sB (x8 != 0) 
   (R (.int .i64 x8) h5) 
   ((∃m9,m9<m3/\I1 (IntKind.wrap .i64 (x_4+1)) h5 m9))))))) 
  (R (.int .i64 0) h5))))
theorem vc53e (p0:Sl) (h:Heap) (R:Value->Heap->Prop):W53 p0 h R=fnW Pz 53 (.s .z (.s .z (.s (.s .z (.b (.l [(8,.one (.int .i64))] .z))) .z))) #[.slice p0.a p0.n p0.c] h R:=by kernel_rfl
theorem vc53 (p0:Sl) (h:Heap) (R:Value->Heap->Prop) (H:W53 p0 h R):Fn Pz 53 #[.slice p0.a p0.n p0.c] h R:=fnI (vc53e p0 h R) H
/- (farandole/view.event).compare -/
end M
end Go.VC
end

section
namespace Go.VC
open Go.Proofs Go.LexS
namespace M
theorem inrows (L:List Int):∀r∈L.map inC,r.length=1:=fun r hr=>by obtain⟨x,_,rfl⟩:=Yp.1 hr;rfl
end M
variable [Mono]
namespace M
theorem nan151 (x:Int) (h:Heap):Fn Pz 111 #[.int .i64 x] h fun v h'=>v=.bool false/\h'=h:=by
 apply vc111;unfold W111;exact⟨by rw[bne_self_eq_false],rfl⟩
theorem cmp110 (x y:Int) (h:Heap):Fn Pz 54 #[.int .i64 x,.int .i64 y] h fun v h'=>v=.int .i64 (cmpI x y)/\h'=h:=by
 apply vc54;unfold W54;refine (nan151 x h).mono ?_;rintro _ _ ⟨rfl,rfl⟩;refine⟨_,rfl,?_⟩;refine (nan151 y _).mono ?_;rintro _ _ ⟨rfl,rfl⟩;refine⟨_,rfl,?_⟩;refine sB_f rfl (sB_f rfl ?_);unfold cmpI;refine sBi (fun c=>?_) (fun c=>sBi (fun d=>?_) (fun d=>?_))
 .exact⟨by rw[if_pos c],rfl⟩
 .exact⟨by rw[if_neg c,if_pos d],rfl⟩
 .exact⟨by rw[if_neg c,if_neg d],rfl⟩
theorem or109 (l:List Int) (s:Sl) (h:Heap) (hr:Rw h 1 s (l.map inC)) (hm:l.length<=1048576) :
  Fn Pz 53 #[.slice s.a s.n s.c] h fun v h'=>v=.int .i64 (l.foldr orI3 0)/\h'=h:=by
 apply vc53;unfold W53;have hn:=hr.ln;refine up_loop (n:=s.n) (fun i h'=>h'=h/\l.foldr orI3 0=(l.drop i).foldr orI3 0) ⟨rfl,rfl⟩ ?_;rintro-i h5 hi ⟨rfl,hq⟩;refine sB_intro (fun l2=>?_) (fun l2=>?_)
 .replace l2:=lt_t l2;refine hr.nbI (by omega) (by omega) fun b o d g t=>?_;replace g:l[i]?=some d:=g;have hd:l.drop i=d::l.drop (i+1):=by
   obtain⟨hl,he⟩:=Ya.1 g;rw[List.drop_eq_getElem_cons hl,he]
  rw[hd,List.foldr_cons] at hq;refine⟨_,t.hd,?_⟩;refine sBn (fun c=>?_) (fun c=>?_)
  .refine⟨?_,rfl⟩;rw[hq];unfold orI3;rw[if_pos c]
  .refine Up.next l2 (by omega) ⟨rfl,?_⟩;rw[hq];unfold orI3;rw[if_neg (by omega)]
 .replace l2:=lt_f l2;rw[List.drop_eq_nil_of_le (by omega)] at hq;exact⟨by rw[hq];rfl,rfl⟩
end M
end Go.VC
end

section
namespace Go.VC
open Go.Proofs
variable [Mono]
namespace M
/- (farandole/realize.event).compare -/
def W185 (p0_1:Bool) (p0_2:Int) (p0_3:Int) (p1_4:Bool) (p1_5:Int) (p1_6:Int) (h:Heap) (R:Value->Heap->Prop):Prop:=
 (∀h7:Heap,h7=h.push (.cells ⟨[.bool p0_1,.int .i64 p0_2,.int .i64 p0_3]⟩ 188) -> 
 (∀h8:Heap,h8=h7.push (.cells ⟨[.bool p1_4,.int .i64 p1_5,.int .i64 p1_6]⟩ 188) -> 
 (∃x9:Bool,hc h8 ⟨h.size,0,none⟩=some (.bool x9) /\ 
 (∃x10:Bool,hc h8 ⟨h7.size,0,none⟩=some (.bool x10) /\ 
 (sB (!(x9==x10)) 
  ((∃x11:Bool,hc h8 ⟨h.size,0,none⟩=some (.bool x11) /\ 
  (sB x11 
  (R (.int .i64 (-1)) h8) 
  (R (.int .i64 1) h8)))) 
  ((∃x12:Int,hc h8 ⟨h.size,1,none⟩=some (.int .i64 x12) /\ 
  (∃x13:Int,hc h8 ⟨h7.size,1,none⟩=some (.int .i64 x13) /\ 
  (∃x14:Int,hc h8 ⟨h.size,2,none⟩=some (.int .i64 x14) /\ 
  (∃x15:Int,hc h8 ⟨h7.size,2,none⟩=some (.int .i64 x15) /\ 
  (Fn Pz 54 #[.int .i64 x12,.int .i64 x13] h8 
  (fun v16 h18=>∃x17:Int,v16=.int .i64 x17 /\ 
  (Sm [⟨h7.size,2,none⟩,⟨h.size,2,none⟩] h8 h18 /\ 
  (Fn Pz 54 #[.int .i64 x14,.int .i64 x15] h18 
  (fun v19 h21=>∃x20:Int,v19=.int .i64 x20 /\ 
  (Sm [⟨h7.size,1,none⟩,⟨h.size,1,none⟩] h18 h21 /\ 
  (∀h22:Heap,h22=h21.push (.cells ⟨[.int .i64 x17,.int .i64 x20]⟩ 3) -> 
  (Fn Pz 53 #[.slice (some ⟨h21.size,0,none⟩) 2 2] h22 
  (fun v23 h25=>∃x24:Int,v23=.int .i64 x24 /\ 
  R (.int .i64 x24) h25)))))))))))))))))))
theorem vc185e (p0_1:Bool) (p0_2:Int) (p0_3:Int) (p1_4:Bool) (p1_5:Int) (p1_6:Int) (h:Heap) (R:Value->Heap->Prop):W185 p0_1 p0_2 p0_3 p1_4 p1_5 p1_6 h R=fnW Pz 185 .z #[.agg ⟨[.bool p0_1,.int .i64 p0_2,.int .i64 p0_3]⟩,.agg ⟨[.bool p1_4,.int .i64 p1_5,.int .i64 p1_6]⟩] h R:=by kernel_rfl
theorem vc185 (p0_1:Bool) (p0_2:Int) (p0_3:Int) (p1_4:Bool) (p1_5:Int) (p1_6:Int) (h:Heap) (R:Value->Heap->Prop) (H:W185 p0_1 p0_2 p0_3 p1_4 p1_5 p1_6 h R):Fn Pz 185 #[.agg ⟨[.bool p0_1,.int .i64 p0_2,.int .i64 p0_3]⟩,.agg ⟨[.bool p1_4,.int .i64 p1_5,.int .i64 p1_6]⟩] h R:=fnI (vc185e p0_1 p0_2 p0_3 p1_4 p1_5 p1_6 h R) H
/- farandole/early.Early$1 -/
def W70 (p0_1:Int) (p0_2:Int) (p1_3:Int) (p1_4:Int) (h:Heap) (R:Value->Heap->Prop):Prop:=
 (∀h5:Heap,h5=h.push (.cells ⟨[.int .i64 p0_1,.int .i64 p0_2]⟩ 72) -> 
 (∀h6:Heap,h6=h5.push (.cells ⟨[.int .i64 p1_3,.int .i64 p1_4]⟩ 72) -> 
 (∃x7:Int,hc h6 ⟨h.size,0,none⟩=some (.int .i64 x7) /\ 
 (∃x8:Int,hc h6 ⟨h5.size,0,none⟩=some (.int .i64 x8) /\ 
 (∃x9:Int,hc h6 ⟨h.size,1,none⟩=some (.int .i64 x9) /\ 
 (∃x10:Int,hc h6 ⟨h5.size,1,none⟩=some (.int .i64 x10) /\ 
 (Fn Pz 54 #[.int .i64 x7,.int .i64 x8] h6 
 (fun v11 h13=>∃x12:Int,v11=.int .i64 x12 /\ 
 (Sm [⟨h5.size,1,none⟩,⟨h.size,1,none⟩] h6 h13 /\ 
 (Fn Pz 54 #[.int .i64 x9,.int .i64 x10] h13 
 (fun v14 h16=>∃x15:Int,v14=.int .i64 x15 /\ 
 (Sm [⟨h5.size,0,none⟩,⟨h.size,0,none⟩] h13 h16 /\ 
 (∀h17:Heap,h17=h16.push (.cells ⟨[.int .i64 x12,.int .i64 x15]⟩ 3) -> 
 (Fn Pz 53 #[.slice (some ⟨h16.size,0,none⟩) 2 2] h17 
 (fun v18 h20=>∃x19:Int,v18=.int .i64 x19 /\ 
 R (.int .i64 x19) h20)))))))))))))))
theorem vc70e (p0_1:Int) (p0_2:Int) (p1_3:Int) (p1_4:Int) (h:Heap) (R:Value->Heap->Prop):W70 p0_1 p0_2 p1_3 p1_4 h R=fnW Pz 70 .z #[.agg ⟨[.int .i64 p0_1,.int .i64 p0_2]⟩,.agg ⟨[.int .i64 p1_3,.int .i64 p1_4]⟩] h R:=by kernel_rfl
theorem vc70 (p0_1:Int) (p0_2:Int) (p1_3:Int) (p1_4:Int) (h:Heap) (R:Value->Heap->Prop) (H:W70 p0_1 p0_2 p1_3 p1_4 h R):Fn Pz 70 #[.agg ⟨[.int .i64 p0_1,.int .i64 p0_2]⟩,.agg ⟨[.int .i64 p1_3,.int .i64 p1_4]⟩] h R:=fnI (vc70e p0_1 p0_2 p1_3 p1_4 h R) H
/- farandole/early.search$1 -/
def W129 (p0_1:Int) (p0_2:Int) (p0_3:Int) (p0_4:Int) (p0_5:Int) (p0_6:Bool) (p1_7:Int) (p1_8:Int) (p1_9:Int) (p1_10:Int) (p1_11:Int) (p1_12:Bool) (h:Heap) (R:Value->Heap->Prop):Prop:=
 (∀h13:Heap,h13=h.push (.cells ⟨[.int .i64 p0_1,.int .i64 p0_2,.int .i64 p0_3,.int .i64 p0_4,.int .i64 p0_5,.bool p0_6]⟩ 67) -> 
 (∀h14:Heap,h14=h13.push (.cells ⟨[.int .i64 p1_7,.int .i64 p1_8,.int .i64 p1_9,.int .i64 p1_10,.int .i64 p1_11,.bool p1_12]⟩ 67) -> 
 (∃x15:Int,∃x16:Int,∃x17:Int,atC h14 ⟨h.size,1,none⟩ [.int .i64 x15,.int .i64 x16,.int .i64 x17] /\ 
 (∃x18:Int,∃x19:Int,∃x20:Int,atC h14 ⟨h13.size,1,none⟩ [.int .i64 x18,.int .i64 x19,.int .i64 x20] /\ 
 (Fn Pz 130 #[.agg ⟨[.int .i64 x15,.int .i64 x16,.int .i64 x17]⟩,.agg ⟨[.int .i64 x18,.int .i64 x19,.int .i64 x20]⟩] h14 
 (fun v21 h23=>∃x22:Int,v21=.int .i64 x22 /\ 
 R (.int .i64 x22) h23))))))
theorem vc129e (p0_1:Int) (p0_2:Int) (p0_3:Int) (p0_4:Int) (p0_5:Int) (p0_6:Bool) (p1_7:Int) (p1_8:Int) (p1_9:Int) (p1_10:Int) (p1_11:Int) (p1_12:Bool) (h:Heap) (R:Value->Heap->Prop):W129 p0_1 p0_2 p0_3 p0_4 p0_5 p0_6 p1_7 p1_8 p1_9 p1_10 p1_11 p1_12 h R=fnW Pz 129 .z #[.agg ⟨[.int .i64 p0_1,.int .i64 p0_2,.int .i64 p0_3,.int .i64 p0_4,.int .i64 p0_5,.bool p0_6]⟩,.agg ⟨[.int .i64 p1_7,.int .i64 p1_8,.int .i64 p1_9,.int .i64 p1_10,.int .i64 p1_11,.bool p1_12]⟩] h R:=by kernel_rfl
theorem vc129 (p0_1:Int) (p0_2:Int) (p0_3:Int) (p0_4:Int) (p0_5:Int) (p0_6:Bool) (p1_7:Int) (p1_8:Int) (p1_9:Int) (p1_10:Int) (p1_11:Int) (p1_12:Bool) (h:Heap) (R:Value->Heap->Prop) (H:W129 p0_1 p0_2 p0_3 p0_4 p0_5 p0_6 p1_7 p1_8 p1_9 p1_10 p1_11 p1_12 h R):Fn Pz 129 #[.agg ⟨[.int .i64 p0_1,.int .i64 p0_2,.int .i64 p0_3,.int .i64 p0_4,.int .i64 p0_5,.bool p0_6]⟩,.agg ⟨[.int .i64 p1_7,.int .i64 p1_8,.int .i64 p1_9,.int .i64 p1_10,.int .i64 p1_11,.bool p1_12]⟩] h R:=fnI (vc129e p0_1 p0_2 p0_3 p0_4 p0_5 p0_6 p1_7 p1_8 p1_9 p1_10 p1_11 p1_12 h R) H
/- farandole/early.order -/
def W130 (p0_1:Int) (p0_2:Int) (p0_3:Int) (p1_4:Int) (p1_5:Int) (p1_6:Int) (h:Heap) (R:Value->Heap->Prop):Prop:=
 (∀h7:Heap,h7=h.push (.cells ⟨[.int .i64 p0_1,.int .i64 p0_2,.int .i64 p0_3]⟩ 65) -> 
 (∀h8:Heap,h8=h7.push (.cells ⟨[.int .i64 p1_4,.int .i64 p1_5,.int .i64 p1_6]⟩ 65) -> 
 (∃x9:Int,hc h8 ⟨h.size,0,none⟩=some (.int .i64 x9) /\ 
 (∃x10:Int,hc h8 ⟨h7.size,0,none⟩=some (.int .i64 x10) /\ 
 (∃x11:Int,hc h8 ⟨h.size,1,none⟩=some (.int .i64 x11) /\ 
 (∃x12:Int,hc h8 ⟨h7.size,1,none⟩=some (.int .i64 x12) /\ 
 (∃x13:Int,hc h8 ⟨h.size,2,none⟩=some (.int .i64 x13) /\ 
 (∃x14:Int,hc h8 ⟨h7.size,2,none⟩=some (.int .i64 x14) /\ 
 (Fn Pz 54 #[.int .i64 x9,.int .i64 x10] h8 
 (fun v15 h17=>∃x16:Int,v15=.int .i64 x16 /\ 
 (Sm [⟨h7.size,2,none⟩,⟨h.size,2,none⟩,⟨h7.size,1,none⟩,⟨h.size,1,none⟩] h8 h17 /\ 
 (Fn Pz 54 #[.int .i64 x11,.int .i64 x12] h17 
 (fun v18 h20=>∃x19:Int,v18=.int .i64 x19 /\ 
 (Sm [⟨h7.size,2,none⟩,⟨h.size,2,none⟩,⟨h7.size,0,none⟩,⟨h.size,0,none⟩] h17 h20 /\ 
 (Fn Pz 54 #[.int .i64 x13,.int .i64 x14] h20 
 (fun v21 h23=>∃x22:Int,v21=.int .i64 x22 /\ 
 (Sm [⟨h7.size,1,none⟩,⟨h.size,1,none⟩,⟨h7.size,0,none⟩,⟨h.size,0,none⟩] h20 h23 /\ 
 (∀h24:Heap,h24=h23.push (.cells ⟨[.int .i64 x16,.int .i64 x19,.int .i64 x22]⟩ 3) -> 
 (Fn Pz 53 #[.slice (some ⟨h23.size,0,none⟩) 3 3] h24 
 (fun v25 h27=>∃x26:Int,v25=.int .i64 x26 /\ 
 R (.int .i64 x26) h27))))))))))))))))))))
theorem vc130e (p0_1:Int) (p0_2:Int) (p0_3:Int) (p1_4:Int) (p1_5:Int) (p1_6:Int) (h:Heap) (R:Value->Heap->Prop):W130 p0_1 p0_2 p0_3 p1_4 p1_5 p1_6 h R=fnW Pz 130 .z #[.agg ⟨[.int .i64 p0_1,.int .i64 p0_2,.int .i64 p0_3]⟩,.agg ⟨[.int .i64 p1_4,.int .i64 p1_5,.int .i64 p1_6]⟩] h R:=by kernel_rfl
theorem vc130 (p0_1:Int) (p0_2:Int) (p0_3:Int) (p1_4:Int) (p1_5:Int) (p1_6:Int) (h:Heap) (R:Value->Heap->Prop) (H:W130 p0_1 p0_2 p0_3 p1_4 p1_5 p1_6 h R):Fn Pz 130 #[.agg ⟨[.int .i64 p0_1,.int .i64 p0_2,.int .i64 p0_3]⟩,.agg ⟨[.int .i64 p1_4,.int .i64 p1_5,.int .i64 p1_6]⟩] h R:=fnI (vc130e p0_1 p0_2 p0_3 p1_4 p1_5 p1_6 h R) H
end M
end Go.VC
end

section
namespace Go.VC
open Go.Proofs Go.LexS
structure Ms where
 p:Int
 l:Int
 deriving DecidableEq
def Ms.cs (x:Ms):List Value:=[.int .i64 x.p,.int .i64 x.l]
structure Ac where
 a:Int
 b:Int
 l:Int
 deriving DecidableEq
def Ac.cs (x:Ac):List Value:=[.int .i64 x.a,.int .i64 x.b,.int .i64 x.l]
def Ed.act (x:Ed):Ac:=⟨x.a,x.b,x.l⟩
def cmpMs (x y:Ms):Int:=orI3 (cmpI x.p y.p) (orI3 (cmpI x.l y.l) 0)
def cmpA (x y:Ac):Int:=orI3 (cmpI x.a y.a) (orI3 (cmpI x.b y.b) (orI3 (cmpI x.l y.l) 0))
def cmpEd (x y:Ed):Int:=cmpA x.act y.act
def msLt (x y:Ms):Prop:=x.p<y.p\/(x.p=y.p/\x.l<y.l)
instance (x y:Ms):Decidable (msLt x y):=by unfold msLt;infer_instance
def acLt (x y:Ac):Prop:=x.a<y.a\/(x.a=y.a/\(x.b<y.b\/(x.b=y.b/\x.l<y.l)))
instance (x y:Ac):Decidable (acLt x y):=by unfold acLt;infer_instance
theorem cmpMs_neg {x y:Ms}:cmpMs x y<0 ↔ msLt x y:=by
 unfold cmpMs msLt orI3 cmpI
 repeat' split
 all_goals omega
theorem cmpA_neg {x y:Ac}:cmpA x y<0 ↔ acLt x y:=by
 unfold cmpA acLt orI3 cmpI
 repeat' split
 all_goals omega
variable [Mono]
namespace M
theorem compareR204 (x y:Ev) (h:Heap):Fn Pz 185 #[.agg ⟨x.cs⟩,.agg ⟨y.cs⟩] h fun v h'=>v=.int .i64 (cmpE x y)/\Ext h h':=by
 apply vc185 x.send x.peer x.label y.send y.peer y.label;unfold W185;have hs:=St.refl h;refine hs.newb fun h7 hs=>?_;refine hs.newb fun h8 hs=>?_;refine⟨_,hs.rd 1 rfl rfl,?_⟩;refine⟨_,hs.rd 0 rfl rfl,?_⟩;refine sB_intro (fun c=>?_) (fun c=>?_)
 .have hne:x.send≠y.send:=by simpa using c
  refine⟨_,hs.rd 1 rfl rfl,?_⟩;unfold cmpE;rw[if_pos hne];refine sB_intro (fun d=>?_) (fun d=>?_)
  .exact⟨by rw[if_pos d],hs.ext⟩
  .exact⟨by rw[if_neg (by rw[d];simp)],hs.ext⟩
 .have he:x.send=y.send:=by simpa using c
  refine⟨_,hs.rd 1 rfl rfl,_,hs.rd 0 rfl rfl,_,hs.rd 1 rfl rfl,_,hs.rd 0 rfl rfl,?_⟩;refine (cmp110 _ _ _).mono ?_;rintro _ _ ⟨rfl,rfl⟩;refine⟨_,rfl,fun _ _ _ _ hv=>hv,?_⟩;refine (cmp110 _ _ _).mono ?_;rintro _ _ ⟨rfl,rfl⟩;refine⟨_,rfl,fun _ _ _ _ hv=>hv,?_⟩;refine hs.newb fun h22 hs=>?_;have hs2:=hs.blkS 2 1 ([cmpI x.peer y.peer,cmpI x.label y.label].map inC) rfl (inrows _) rfl (by decide);refine (or109 [cmpI x.peer y.peer,cmpI x.label y.label] _ h22 (hs2.rows 0 rfl (by omega)) (show 2<=1048576 by decide)).mono ?_;rintro _ _ ⟨rfl,rfl⟩;refine⟨_,rfl,?_,hs.ext⟩;unfold cmpE;rw[if_neg (by simpa using he)];show Value.int .i64 (orI3 _ (orI3 _ 0))=_;congr 1;unfold orI3;split
  .rfl
  .split<;>omega
theorem cmpM208 (x y:Ms) (h:Heap):Fn Pz 70 #[.agg ⟨x.cs⟩,.agg ⟨y.cs⟩] h fun v h'=>v=.int .i64 (cmpMs x y)/\Ext h h':=by
 apply vc70 x.p x.l y.p y.l;unfold W70;have hs:=St.refl h;refine hs.newb fun h7 hs=>?_;refine hs.newb fun h8 hs=>?_;refine⟨_,hs.rd 1 rfl rfl,_,hs.rd 0 rfl rfl,_,hs.rd 1 rfl rfl,_,hs.rd 0 rfl rfl,?_⟩;refine (cmp110 _ _ _).mono ?_;rintro _ _ ⟨rfl,rfl⟩;refine⟨_,rfl,fun _ _ _ _ hv=>hv,?_⟩;refine (cmp110 _ _ _).mono ?_;rintro _ _ ⟨rfl,rfl⟩;refine⟨_,rfl,fun _ _ _ _ hv=>hv,?_⟩;refine hs.newb fun h22 hs=>?_;have hs2:=hs.blkS 2 1 ([cmpI x.p y.p,cmpI x.l y.l].map inC) rfl (inrows _) rfl (by decide);refine (or109 [cmpI x.p y.p,cmpI x.l y.l] _ h22 (hs2.rows 0 rfl (by omega)) (show 2<=1048576 by decide)).mono ?_;rintro _ _ ⟨rfl,rfl⟩;exact⟨_,rfl,rfl,hs.ext⟩
theorem order245 (x y:Ac) (h:Heap):Fn Pz 130 #[.agg ⟨x.cs⟩,.agg ⟨y.cs⟩] h fun v h'=>v=.int .i64 (cmpA x y)/\Ext h h':=by
 apply vc130 x.a x.b x.l y.a y.b y.l;unfold W130;have hs:=St.refl h;refine hs.newb fun h7 hs=>?_;refine hs.newb fun h8 hs=>?_;refine⟨_,hs.rd 1 rfl rfl,_,hs.rd 0 rfl rfl,_,hs.rd 1 rfl rfl,_,hs.rd 0 rfl rfl,_,hs.rd 1 rfl rfl,_,hs.rd 0 rfl rfl,?_⟩;refine (cmp110 _ _ _).mono ?_;rintro _ _ ⟨rfl,rfl⟩;refine⟨_,rfl,fun _ _ _ _ hv=>hv,?_⟩;refine (cmp110 _ _ _).mono ?_;rintro _ _ ⟨rfl,rfl⟩;refine⟨_,rfl,fun _ _ _ _ hv=>hv,?_⟩;refine (cmp110 _ _ _).mono ?_;rintro _ _ ⟨rfl,rfl⟩;refine⟨_,rfl,fun _ _ _ _ hv=>hv,?_⟩;refine hs.newb fun h22 hs=>?_;have hs2:=hs.blkS 3 1 ([cmpI x.a y.a,cmpI x.b y.b,cmpI x.l y.l].map inC) rfl (inrows _) rfl (by decide);refine (or109 [cmpI x.a y.a,cmpI x.b y.b,cmpI x.l y.l] _ h22 (hs2.rows 0 rfl (by omega)) (show 3<=1048576 by decide)).mono ?_;rintro _ _ ⟨rfl,rfl⟩;exact⟨_,rfl,rfl,hs.ext⟩
theorem cmpE244 (x y:Ed) (h:Heap):Fn Pz 129 #[.agg ⟨x.cs⟩,.agg ⟨y.cs⟩] h fun v h'=>v=.int .i64 (cmpEd x y)/\Ext h h':=by
 apply vc129 x.f x.a x.b x.l x.t x.ag y.f y.a y.b y.l y.t y.ag;unfold W129;have hs:=St.refl h;refine hs.newb fun h7 hs=>?_;refine hs.newb fun h8 hs=>?_;refine⟨x.a,x.b,x.l,hs.at 1 rfl (o:=1) (n:=3) rfl,y.a,y.b,y.l,hs.at 0 rfl (o:=1) (n:=3) rfl,?_⟩;refine (order245 x.act y.act h8).mono ?_;rintro _ h23 ⟨rfl,E⟩;exact⟨_,rfl,rfl,(hs.step E).ext⟩
end M
end Go.VC
end

section
namespace Go.VC
open Go.Proofs
/- farandole/farandoleref21.SameEvent -/
def W42 (p0_1:Int) (p0_2:Bool) (p0_3:Int) (p0_4:Int) (p0_5:Sl) (p1_6:Int) (p1_7:Bool) (p1_8:Int) (p1_9:Int) (p1_10:Sl) (h:Heap) (R:Value->Heap->Prop):Prop:=
 (∀h11:Heap,h11=h.push (.cells ⟨[.int .i64 p0_1,.bool p0_2,.int .i64 p0_3,.int .i64 p0_4,.slice p0_5.a p0_5.n p0_5.c]⟩ 33) -> 
 (∀h12:Heap,h12=h11.push (.cells ⟨[.int .i64 p1_6,.bool p1_7,.int .i64 p1_8,.int .i64 p1_9,.slice p1_10.a p1_10.n p1_10.c]⟩ 33) -> 
 (∃x13:Int,hc h12 ⟨h.size,0,none⟩=some (.int .i64 x13) /\ 
 (∃x14:Int,hc h12 ⟨h11.size,0,none⟩=some (.int .i64 x14) /\ 
 (sB (x13==x14) 
  ((∃x15:Bool,hc h12 ⟨h.size,1,none⟩=some (.bool x15) /\ 
  (∃x16:Bool,hc h12 ⟨h11.size,1,none⟩=some (.bool x16) /\ 
  (sB (x15==x16) 
  ((∃x17:Int,hc h12 ⟨h.size,2,none⟩=some (.int .i64 x17) /\ 
  (∃x18:Int,hc h12 ⟨h11.size,2,none⟩=some (.int .i64 x18) /\ 
  (sB (x17==x18) 
   ((∃x19:Int,hc h12 ⟨h.size,3,none⟩=some (.int .i64 x19) /\ 
   (∃x20:Int,hc h12 ⟨h11.size,3,none⟩=some (.int .i64 x20) /\ 
   R (.bool (x19==x20)) h12))) 
   (R (.bool false) h12))))) 
  (R (.bool false) h12))))) 
  (R (.bool false) h12))))))
theorem vc42e (p0_1:Int) (p0_2:Bool) (p0_3:Int) (p0_4:Int) (p0_5:Sl) (p1_6:Int) (p1_7:Bool) (p1_8:Int) (p1_9:Int) (p1_10:Sl) (h:Heap) (R:Value->Heap->Prop):W42 p0_1 p0_2 p0_3 p0_4 p0_5 p1_6 p1_7 p1_8 p1_9 p1_10 h R=fnW Pz 42 .z #[.agg ⟨[.int .i64 p0_1,.bool p0_2,.int .i64 p0_3,.int .i64 p0_4,.slice p0_5.a p0_5.n p0_5.c]⟩,.agg ⟨[.int .i64 p1_6,.bool p1_7,.int .i64 p1_8,.int .i64 p1_9,.slice p1_10.a p1_10.n p1_10.c]⟩] h R:=by kernel_rfl
theorem vc42 (p0_1:Int) (p0_2:Bool) (p0_3:Int) (p0_4:Int) (p0_5:Sl) (p1_6:Int) (p1_7:Bool) (p1_8:Int) (p1_9:Int) (p1_10:Sl) (h:Heap) (R:Value->Heap->Prop) (H:W42 p0_1 p0_2 p0_3 p0_4 p0_5 p1_6 p1_7 p1_8 p1_9 p1_10 h R):Fn Pz 42 #[.agg ⟨[.int .i64 p0_1,.bool p0_2,.int .i64 p0_3,.int .i64 p0_4,.slice p0_5.a p0_5.n p0_5.c]⟩,.agg ⟨[.int .i64 p1_6,.bool p1_7,.int .i64 p1_8,.int .i64 p1_9,.slice p1_10.a p1_10.n p1_10.c]⟩] h R:=fnI (vc42e p0_1 p0_2 p0_3 p0_4 p0_5 p1_6 p1_7 p1_8 p1_9 p1_10 h R) H
/- farandole/farandoleref03.Has
   loop rlrb: i_4:Int -/
/- farandole/farandoleref21.Before -/
/- farandole/farandoleref03.With
   loop rrrlrb: out_4:Sl, done_5:Bool, i_6:Int -/
/- farandole/farandoleref03.Same
   loop rrlrb: i_4:Int -/
/- farandole/farandoleref21.SameEvents
   loop rrlrb: i_4:Int -/
def W25 (p0:Sl) (p1:Sl) (h:Heap) (R:Value->Heap->Prop):Prop:=
 (sB ((p0.n:Int) != (p1.n:Int)) 
  (R (.bool false) h) 
  ((∃I1:Int->Heap->Nat->Prop,(∃m2,I1 0 h m2) /\ 
  (∀(_:Env) (i_4:Int) (h5:Heap) (m3:Nat),I1 i_4 h5 m3 -> 
  (sB (decide (i_4<(p0.n:Int))) 
   ((NB p0.a fun b6 o7=>((0<=(i_4:Int)/\(i_4:Int)<(p0.n:Nat)) /\ 
   (∃x8:Int,∃x9:Bool,∃x10:Int,∃x11:Int,∃x12:Sl,atC h5 ⟨b6,o7+Int.toNat i_4*5,none⟩ [.int .i64 x8,.bool x9,.int .i64 x10,.int .i64 x11,.slice x12.a x12.n x12.c] /\ 
   (NB p1.a fun b13 o14=>((0<=(i_4:Int)/\(i_4:Int)<(p1.n:Nat)) /\ 
   (∃x15:Int,∃x16:Bool,∃x17:Int,∃x18:Int,∃x19:Sl,atC h5 ⟨b13,o14+Int.toNat i_4*5,none⟩ [.int .i64 x15,.bool x16,.int .i64 x17,.int .i64 x18,.slice x19.a x19.n x19.c] /\ 
   (Fn Pz 42 #[.agg ⟨[.int .i64 x8,.bool x9,.int .i64 x10,.int .i64 x11,.slice x12.a x12.n x12.c]⟩,.agg ⟨[.int .i64 x15,.bool x16,.int .i64 x17,.int .i64 x18,.slice x19.a x19.n x19.c]⟩] h5 
   (fun v20 h22=>∃x21:Bool,v20=.bool x21 /\ 
   (sB (!x21) 
   (R (.bool false) h22) 
   ((∃m23,m23<m3/\I1 (IntKind.wrap .i64 (i_4+1)) h22 m23)))))))))))) 
   (R (.bool true) h5))))))
theorem vc25e (p0:Sl) (p1:Sl) (h:Heap) (R:Value->Heap->Prop):W25 p0 p1 h R=fnW Pz 25 (.s .z (.s .z (.s (.s .z (.b (.l [(5,.one (.int .i64))] .z))) .z))) #[.slice p0.a p0.n p0.c,.slice p1.a p1.n p1.c] h R:=by kernel_rfl
theorem vc25 (p0:Sl) (p1:Sl) (h:Heap) (R:Value->Heap->Prop) (H:W25 p0 p1 h R):Fn Pz 25 #[.slice p0.a p0.n p0.c,.slice p1.a p1.n p1.c] h R:=fnI (vc25e p0 p1 h R) H
/- farandole/farandoleref23.Sender -/
/- farandole/farandoleref23.limit
   loop rlrb: i_14:Int -/
/- farandole/farandoleref21.states
   loop rlrb: i_13:Int -/
/- farandole/farandoleref21.closure
   loop rrlrborlbrlrb: out_23:Sl, i_24:Int
   loop rrlrb: out_16:Sl, n_17:Int -/
/- farandole/farandoleref21.Insert
   loop rrrlrb: out_10:Sl, done_11:Bool, i_12:Int -/
/- farandole/farandoleref21.events
   loop rrlrb: out_13:Sl, i_14:Int -/
/- farandole/farandoleref21.after
   loop rrlrb: out_19:Sl, i_20:Int -/
/- farandole/farandoleref21.find
   loop rlrb: i_4:Int -/
/- farandole/farandoleref21.Start -/
/- farandole/farandoleref21.Closure -/
/- farandole/farandoleref21.First -/
/- farandole/farandoleref21.Word
   loop rrrlrb: out_14:Sl, at_15:Int, i_16:Int -/
def W24 (p0_1:ByteArray) (p0_2:Sl) (p0_3:Sl) (p0_4:Int) (p0_5:Int) (p0_6:Int) (p0_7:Sl) (p0_8:Sl) (p1:Sl) (h:Heap) (R:Value->Heap->Prop):Prop:=
 (Wn h [.string p0_1,vS p0_2,vS p0_3,vI p0_4,vI p0_5,vI p0_6,vS p0_7,vS p0_8] 27 fun h9=>
 (∃x10,rI h9 (aS h 4) x10 /\ 
 (QSII ⟨none,0,0⟩ x10 0 h9 fun I11 out_14 at_15 i_16 h17 m13=>(
 (sB (decide (i_16<(p1.n:Int))) 
 ((∃x18:ByteArray,∃x19:Sl,∃x20:Sl,∃x21:Int,∃x22:Int,∃x23:Int,∃x24:Sl,∃x25:Sl,atC h17 (aS h 0) [.string x18,vS x19,vS x20,vI x21,vI x22,vI x23,vS x24,vS x25] /\ 
 (Fn Pz 55 #[.agg ⟨[.string x18,vS x19,vS x20,vI x21,vI x22,vI x23,vS x24,vS x25]⟩,vI at_15] h17 
 (fun v26 h28=>∃x27,iS v26 x27 /\ 
 (sB ((x27.n:Int)==0) 
 (R (.tuple ⟨[vS out_14,vI at_15]⟩) h28) 
 ((∃x29,rS h28 (aS h 6) x29 /\ 
 (NB p1.a fun b30 o31=>(Ib i_16 p1.n /\ 
 (∃x32:Int,hc h28 ⟨b30,o31+Int.toNat i_16*1,none⟩=some (.int .u8 x32) /\ 
 ((x27.n:Int)≠0/\(NB x27.a fun b33 o34=>((0<=((Int.tmod (IntKind.wrap .i64 x32) (x27.n:Int)):Int)/\((Int.tmod (IntKind.wrap .i64 x32) (x27.n:Int)):Int)<(x27.n:Nat)) /\ 
 (∃x35,rI h28 ⟨b33,o34+Int.toNat (Int.tmod (IntKind.wrap .i64 x32) (x27.n:Int))*1,none⟩ x35 /\ 
 (NB x29.a fun b36 o37=>(Ib x35 x29.n /\ 
 (∃x38:Int,∃x39:Int,∃x40:Int,∃x41:Int,∃x42:Int,∃x43:Bool,atC h28 ⟨b36,o37+Int.toNat x35*6,none⟩ [vI x38,vI x39,vI x40,vI x41,vI x42,.bool x43] /\ 
 (Wn h28 [vI 0,vI 0,vI 0,vI 0,vI 0,.bool false] 67 fun h44=>
 (Sm [⟨b36,o37+Int.toNat x35*6,none⟩,⟨b33,o34+Int.toNat (Int.tmod (IntKind.wrap .i64 x32) (x27.n:Int))*1,none⟩,⟨b30,o31+Int.toNat i_16*1,none⟩,(aS h 6)] h28 h44 /\ 
 (Wp h44 (aS h28 0) 6 [vI x38,vI x39,vI x40,vI x41,vI x42,.bool x43] fun h45=>
 (∃x46:Int,∃x47:Int,∃x48:Int,atC h45 (aS h28 1) [vI x46,vI x47,vI x48] /\ 
 (Wn h45 [vI x46,vI x47,vI x48] 65 fun h49=>
 (App Pz 30 30 (vS out_14) (.slice (some (aS h45 0)) 1 1) h49 fun s50 h51=>
 (∃x52,rI h51 (aS h28 4) x52 /\ 
 (∃m53,m53<m13/\I11 s50 x52 (IntKind.wrap .i64 (i_16+1)) h51 m53))))))))))))))))))))))))) 
 (R (.tuple ⟨[vS out_14,vI at_15]⟩) h17))))))
theorem vc24e (p0_1:ByteArray) (p0_2:Sl) (p0_3:Sl) (p0_4:Int) (p0_5:Int) (p0_6:Int) (p0_7:Sl) (p0_8:Sl) (p1:Sl) (h:Heap) (R:Value->Heap->Prop):W24 p0_1 p0_2 p0_3 p0_4 p0_5 p0_6 p0_7 p0_8 p1 h R=fnW Pz 24 (.s .z (.s .z (.s .z (.s (.s .z (.b (.l [(6,.one (.slice)),(7,.one (.int .i64)),(8,.one (.int .i64))] .z))) .z)))) #[.agg ⟨[.string p0_1,.slice p0_2.a p0_2.n p0_2.c,.slice p0_3.a p0_3.n p0_3.c,.int .i64 p0_4,.int .i64 p0_5,.int .i64 p0_6,.slice p0_7.a p0_7.n p0_7.c,.slice p0_8.a p0_8.n p0_8.c]⟩,.slice p1.a p1.n p1.c] h R:=by kernel_rfl
theorem vc24 (p0_1:ByteArray) (p0_2:Sl) (p0_3:Sl) (p0_4:Int) (p0_5:Int) (p0_6:Int) (p0_7:Sl) (p0_8:Sl) (p1:Sl) (h:Heap) (R:Value->Heap->Prop) (H:W24 p0_1 p0_2 p0_3 p0_4 p0_5 p0_6 p0_7 p0_8 p1 h R):Fn Pz 24 #[.agg ⟨[.string p0_1,.slice p0_2.a p0_2.n p0_2.c,.slice p0_3.a p0_3.n p0_3.c,.int .i64 p0_4,.int .i64 p0_5,.int .i64 p0_6,.slice p0_7.a p0_7.n p0_7.c,.slice p0_8.a p0_8.n p0_8.c]⟩,.slice p1.a p1.n p1.c] h R:=fnI (vc24e p0_1 p0_2 p0_3 p0_4 p0_5 p0_6 p0_7 p0_8 p1 h R) H
/- farandole/farandoleref21.Out
   loop rrlrb: out_13:Sl, i_14:Int -/
def W55 (p0_1:ByteArray) (p0_2:Sl) (p0_3:Sl) (p0_4:Int) (p0_5:Int) (p0_6:Int) (p0_7:Sl) (p0_8:Sl) (p1:Int) (h:Heap) (R:Value->Heap->Prop):Prop:=
 (∀h9:Heap,h9=h.push (.cells ⟨[.string p0_1,.slice p0_2.a p0_2.n p0_2.c,.slice p0_3.a p0_3.n p0_3.c,.int .i64 p0_4,.int .i64 p0_5,.int .i64 p0_6,.slice p0_7.a p0_7.n p0_7.c,.slice p0_8.a p0_8.n p0_8.c]⟩ 27) -> 
 (∃I10:Sl->Int->Heap->Nat->Prop,(∃m11,I10 ⟨none,0,0⟩ 0 h9 m11) /\ 
 (∀(_:Env) (out_13:Sl) (i_14:Int) (h15:Heap) (m12:Nat),I10 out_13 i_14 h15 m12 -> 
 (∃x16:Sl,hc h15 ⟨h.size,6,none⟩=some (.slice x16.a x16.n x16.c) /\ 
  (sB (decide (i_14<(x16.n:Int))) 
  ((∃x17:Sl,hc h15 ⟨h.size,6,none⟩=some (.slice x17.a x17.n x17.c) /\ 
  (NB x17.a fun b18 o19=>((0<=(i_14:Int)/\(i_14:Int)<(x17.n:Nat)) /\ 
  (∃x20:Int,hc h15 ⟨b18,o19+Int.toNat i_14*6,none⟩=some (.int .i64 x20) /\ 
  (sB (x20==p1) 
   ((∀h21:Heap,h21=h15.push (.cells ⟨[.int .i64 i_14]⟩ 3) -> 
   (App Pz 102 102 (.slice out_13.a out_13.n out_13.c) (.slice (some ⟨h15.size,0,none⟩) 1 1) h21 fun s22 h23=>
   (∃m24,m24<m12/\I10 s22 (IntKind.wrap .i64 (i_14+1)) h23 m24)))) 
   ((∃m25,m25<m12/\I10 out_13 (IntKind.wrap .i64 (i_14+1)) h15 m25)))))))) 
  (R (.slice out_13.a out_13.n out_13.c) h15))))))
theorem vc55e (p0_1:ByteArray) (p0_2:Sl) (p0_3:Sl) (p0_4:Int) (p0_5:Int) (p0_6:Int) (p0_7:Sl) (p0_8:Sl) (p1:Int) (h:Heap) (R:Value->Heap->Prop):W55 p0_1 p0_2 p0_3 p0_4 p0_5 p0_6 p0_7 p0_8 p1 h R=fnW Pz 55 (.s .z (.s .z (.s (.s .z (.b (.l [(5,.one (.slice)),(6,.one (.int .i64))] .z))) .z))) #[.agg ⟨[.string p0_1,.slice p0_2.a p0_2.n p0_2.c,.slice p0_3.a p0_3.n p0_3.c,.int .i64 p0_4,.int .i64 p0_5,.int .i64 p0_6,.slice p0_7.a p0_7.n p0_7.c,.slice p0_8.a p0_8.n p0_8.c]⟩,.int .i64 p1] h R:=by kernel_rfl
theorem vc55 (p0_1:ByteArray) (p0_2:Sl) (p0_3:Sl) (p0_4:Int) (p0_5:Int) (p0_6:Int) (p0_7:Sl) (p0_8:Sl) (p1:Int) (h:Heap) (R:Value->Heap->Prop) (H:W55 p0_1 p0_2 p0_3 p0_4 p0_5 p0_6 p0_7 p0_8 p1 h R):Fn Pz 55 #[.agg ⟨[.string p0_1,.slice p0_2.a p0_2.n p0_2.c,.slice p0_3.a p0_3.n p0_3.c,.int .i64 p0_4,.int .i64 p0_5,.int .i64 p0_6,.slice p0_7.a p0_7.n p0_7.c,.slice p0_8.a p0_8.n p0_8.c]⟩,.int .i64 p1] h R:=fnI (vc55e p0_1 p0_2 p0_3 p0_4 p0_5 p0_6 p0_7 p0_8 p1 h R) H
/- farandole/farandoleref21.Project
   loop rrlrb: out_4:Sl, i_5:Int -/
def W26 (p0:Sl) (p1:Int) (h:Heap) (R:Value->Heap->Prop):Prop:=
 (∃I1:Sl->Int->Heap->Nat->Prop,(∃m2,I1 ⟨none,0,0⟩ 0 h m2) /\ 
 (∀(_:Env) (out_4:Sl) (i_5:Int) (h6:Heap) (m3:Nat),I1 out_4 i_5 h6 m3 -> 
 (sB (decide (i_5<(p0.n:Int))) 
  ((NB p0.a fun b7 o8=>((0<=(i_5:Int)/\(i_5:Int)<(p0.n:Nat)) /\ 
  (∃x9:Int,∃x10:Int,∃x11:Int,atC h6 ⟨b7,o8+Int.toNat i_5*3,none⟩ [.int .i64 x9,.int .i64 x10,.int .i64 x11] /\ 
  (∀h12:Heap,h12=h6.push (.cells ⟨[.int .i64 0,.int .i64 0,.int .i64 0,.int .i64 0,.int .i64 0,.bool false]⟩ 67) -> 
  (okAt h12 ⟨h6.size,0,none⟩ 6/\∀h13:Heap,h13=hputs h12 ⟨h6.size,0,none⟩ 0 [.int .i64 0,.int .i64 x9,.int .i64 x10,.int .i64 x11,.int .i64 0,.bool false] -> 
  (∃x14:Int,∃x15:Int,∃x16:Int,∃x17:Int,∃x18:Int,∃x19:Bool,atC h13 ⟨h6.size,0,none⟩ [.int .i64 x14,.int .i64 x15,.int .i64 x16,.int .i64 x17,.int .i64 x18,.bool x19] /\ 
  (Fn Pz 56 #[.agg ⟨[.int .i64 x14,.int .i64 x15,.int .i64 x16,.int .i64 x17,.int .i64 x18,.bool x19]⟩,.int .i64 p1] h13 
  (fun v20 h22=>∃x21:Bool,v20=.bool x21 /\ 
  (sB x21 
   ((∃x23:Int,∃x24:Int,∃x25:Int,∃x26:Int,∃x27:Int,∃x28:Bool,atC h22 ⟨h6.size,0,none⟩ [.int .i64 x23,.int .i64 x24,.int .i64 x25,.int .i64 x26,.int .i64 x27,.bool x28] /\ 
   (Fn Pz 57 #[.agg ⟨[.int .i64 x23,.int .i64 x24,.int .i64 x25,.int .i64 x26,.int .i64 x27,.bool x28]⟩,.int .i64 p1] h22 
   (fun v29 h35=>∃x30:Int,∃x31:Bool,∃x32:Int,∃x33:Int,∃x34:Sl,v29=.agg ⟨[.int .i64 x30,.bool x31,.int .i64 x32,.int .i64 x33,.slice x34.a x34.n x34.c]⟩ /\ 
   (∀h36:Heap,h36=h35.push (.cells ⟨[.int .i64 x30,.bool x31,.int .i64 x32,.int .i64 x33,.slice x34.a x34.n x34.c]⟩ 33) -> 
   (App Pz 57 57 (.slice out_4.a out_4.n out_4.c) (.slice (some ⟨h35.size,0,none⟩) 1 1) h36 fun s37 h38=>
   (∃m39,m39<m3/\I1 s37 (IntKind.wrap .i64 (i_5+1)) h38 m39))))))) 
   ((∃m40,m40<m3/\I1 out_4 (IntKind.wrap .i64 (i_5+1)) h22 m40)))))))))))) 
  (R (.slice out_4.a out_4.n out_4.c) h6))))
theorem vc26e (p0:Sl) (p1:Int) (h:Heap) (R:Value->Heap->Prop):W26 p0 p1 h R=fnW Pz 26 (.s .z (.s .z (.s (.s .z (.b (.l [(5,.one (.slice)),(6,.one (.int .i64))] .z))) .z))) #[.slice p0.a p0.n p0.c,.int .i64 p1] h R:=by kernel_rfl
theorem vc26 (p0:Sl) (p1:Int) (h:Heap) (R:Value->Heap->Prop) (H:W26 p0 p1 h R):Fn Pz 26 #[.slice p0.a p0.n p0.c,.int .i64 p1] h R:=fnI (vc26e p0 p1 h R) H
/- farandole/farandoleref21.Sees -/
def W56 (p0_1:Int) (p0_2:Int) (p0_3:Int) (p0_4:Int) (p0_5:Int) (p0_6:Bool) (p1:Int) (h:Heap) (R:Value->Heap->Prop):Prop:=
 (∀h7:Heap,h7=h.push (.cells ⟨[.int .i64 p0_1,.int .i64 p0_2,.int .i64 p0_3,.int .i64 p0_4,.int .i64 p0_5,.bool p0_6]⟩ 67) -> 
 (∃x8:Int,hc h7 ⟨h.size,1,none⟩=some (.int .i64 x8) /\ 
 (sB (x8==p1) 
  (R (.bool true) h7) 
  ((∃x9:Int,hc h7 ⟨h.size,1+1,none⟩=some (.int .i64 x9) /\ 
  R (.bool (x9==p1)) h7)))))
theorem vc56e (p0_1:Int) (p0_2:Int) (p0_3:Int) (p0_4:Int) (p0_5:Int) (p0_6:Bool) (p1:Int) (h:Heap) (R:Value->Heap->Prop):W56 p0_1 p0_2 p0_3 p0_4 p0_5 p0_6 p1 h R=fnW Pz 56 .z #[.agg ⟨[.int .i64 p0_1,.int .i64 p0_2,.int .i64 p0_3,.int .i64 p0_4,.int .i64 p0_5,.bool p0_6]⟩,.int .i64 p1] h R:=by kernel_rfl
theorem vc56 (p0_1:Int) (p0_2:Int) (p0_3:Int) (p0_4:Int) (p0_5:Int) (p0_6:Bool) (p1:Int) (h:Heap) (R:Value->Heap->Prop) (H:W56 p0_1 p0_2 p0_3 p0_4 p0_5 p0_6 p1 h R):Fn Pz 56 #[.agg ⟨[.int .i64 p0_1,.int .i64 p0_2,.int .i64 p0_3,.int .i64 p0_4,.int .i64 p0_5,.bool p0_6]⟩,.int .i64 p1] h R:=fnI (vc56e p0_1 p0_2 p0_3 p0_4 p0_5 p0_6 p1 h R) H
/- farandole/farandoleref21.Event -/
def W57 (p0_1:Int) (p0_2:Int) (p0_3:Int) (p0_4:Int) (p0_5:Int) (p0_6:Bool) (p1:Int) (h:Heap) (R:Value->Heap->Prop):Prop:=
 (∀h7:Heap,h7=h.push (.cells ⟨[.int .i64 p0_1,.int .i64 p0_2,.int .i64 p0_3,.int .i64 p0_4,.int .i64 p0_5,.bool p0_6]⟩ 67) -> 
 (∀h8:Heap,h8=h7.push (.cells ⟨[.int .i64 0,.bool false,.int .i64 0,.int .i64 0,.slice none 0 0]⟩ 33) -> 
 (∃x9:Int,hc h8 ⟨h.size,1,none⟩=some (.int .i64 x9) /\ 
 (sB (x9==p1) 
  ((∃x10:Int,hc h8 ⟨h.size,1+1,none⟩=some (.int .i64 x10) /\ 
  (∃x11:Int,hc h8 ⟨h.size,1+2,none⟩=some (.int .i64 x11) /\ 
  (okAt h8 ⟨h7.size,0,none⟩ 5/\∀h12:Heap,h12=hputs h8 ⟨h7.size,0,none⟩ 0 [.int .i64 p1,.bool true,.int .i64 x10,.int .i64 x11,.slice none 0 0] -> 
  (∃x13:Int,∃x14:Bool,∃x15:Int,∃x16:Int,∃x17:Sl,atC h12 ⟨h7.size,0,none⟩ [.int .i64 x13,.bool x14,.int .i64 x15,.int .i64 x16,.slice x17.a x17.n x17.c] /\ 
  R (.agg ⟨[.int .i64 x13,.bool x14,.int .i64 x15,.int .i64 x16,.slice x17.a x17.n x17.c]⟩) h12))))) 
  ((∃x18:Int,hc h8 ⟨h.size,1,none⟩=some (.int .i64 x18) /\ 
  (∃x19:Int,hc h8 ⟨h.size,1+2,none⟩=some (.int .i64 x19) /\ 
  (okAt h8 ⟨h7.size,0,none⟩ 5/\∀h20:Heap,h20=hputs h8 ⟨h7.size,0,none⟩ 0 [.int .i64 p1,.bool false,.int .i64 x18,.int .i64 x19,.slice none 0 0] -> 
  (∃x21:Int,∃x22:Bool,∃x23:Int,∃x24:Int,∃x25:Sl,atC h20 ⟨h7.size,0,none⟩ [.int .i64 x21,.bool x22,.int .i64 x23,.int .i64 x24,.slice x25.a x25.n x25.c] /\ 
  R (.agg ⟨[.int .i64 x21,.bool x22,.int .i64 x23,.int .i64 x24,.slice x25.a x25.n x25.c]⟩) h20)))))))))
theorem vc57e (p0_1:Int) (p0_2:Int) (p0_3:Int) (p0_4:Int) (p0_5:Int) (p0_6:Bool) (p1:Int) (h:Heap) (R:Value->Heap->Prop):W57 p0_1 p0_2 p0_3 p0_4 p0_5 p0_6 p1 h R=fnW Pz 57 .z #[.agg ⟨[.int .i64 p0_1,.int .i64 p0_2,.int .i64 p0_3,.int .i64 p0_4,.int .i64 p0_5,.bool p0_6]⟩,.int .i64 p1] h R:=by kernel_rfl
theorem vc57 (p0_1:Int) (p0_2:Int) (p0_3:Int) (p0_4:Int) (p0_5:Int) (p0_6:Bool) (p1:Int) (h:Heap) (R:Value->Heap->Prop) (H:W57 p0_1 p0_2 p0_3 p0_4 p0_5 p0_6 p1 h R):Fn Pz 57 #[.agg ⟨[.int .i64 p0_1,.int .i64 p0_2,.int .i64 p0_3,.int .i64 p0_4,.int .i64 p0_5,.bool p0_6]⟩,.int .i64 p1] h R:=fnI (vc57e p0_1 p0_2 p0_3 p0_4 p0_5 p0_6 p1 h R) H
end Go.VC
end

section
namespace Go.VC
def setOf (L:List Nat):PSet:=fun j=>decide (j∈L)
def Can (n:Nat) (L:List Nat):Prop:=L=(List.range n).filter fun j=>decide (j∈L)
theorem Can.mk (n:Nat) (p:Nat->Bool):Can n ((List.range n).filter p):=by
 unfold Can;apply List.filter_congr;intro x hx;by_cases hm:x∈(List.range n).filter p
 .rw[decide_eq_true hm];exact (List.mem_filter.1 hm).2
 .rw[decide_eq_false hm];cases hp:p x
  .rfl
  .exact absurd (List.mem_filter.2 ⟨hx,hp⟩) hm
theorem Can.lt {n:Nat} {L:List Nat} (h:Can n L):∀j∈L,j<n:=by
 intro j hj;rw[h,List.mem_filter,List.mem_range] at hj;exact hj.1
theorem elems_setOf {n:Nat} {L:List Nat} (h:Can n L) (hn:n<=4096):elems (setOf L)=L:=by
 unfold elems;have e:List.range 4096=List.range n++(List.range (4096-n)).map (n + ·):=by rw[<-List.range_add];congr 1;omega
 rw[e,List.filter_append];have e2:((List.range (4096-n)).map (n + ·)).filter (setOf L)=[]:=by
  rw[List.filter_eq_nil_iff];intro x hx;obtain⟨y,_,rfl⟩:=Yp.1 hx;unfold setOf;simp only[decide_eq_true_eq];intro hm;have:=h.lt _ hm;omega
 rw[e2,Yw];exact h.symm
def evsC (es:List Ed) (role:Int) (L:List Nat):List Ev:=sortE (L.flatMap fun n=>(visL es role n).map (·.x))
theorem evs_setOf {n:Nat} {L:List Nat} (h:Can n L) (hn:n<=4096) (es:List Ed) (role:Int):evs es role (setOf L)=evsC es role L:=by unfold evs evL evsC;rw[elems_setOf h hn]
def addC (es:List Ed) (role:Int) (L:List Nat):List Nat:=es.foldl (fun L x=>if (vis1 role x).isNone&&decide (x.f.toNat∈L) && !decide (x.t.toNat∈L) then L++[x.t.toNat] else L) L
def bfsC (es:List Ed) (role:Int):Nat->List Nat->List Nat
 | 0,L=>L
 | f+1,L=>bfsC es role f (addC es role L)
def okC (es:List Ed) (role:Int) (l:List Int) (L:List Nat):Bool:=
 l.all (fun v=>decide (0<=v)&&decide (v.toNat∈L))&&es.all (fun x=>!(vis1 role x).isNone || !decide (x.f.toNat∈L)||decide (x.t.toNat∈L)) &&
  (List.range L.length).all fun i=>match L[i]? with
   | some j=>l.any (fun v=>decide (v=(j:Int)))||es.any fun x=>(vis1 role x).isNone&&decide (x.f.toNat∈L.take i)&&decide (x.t=(j:Int))
   | none=>false
theorem okC_clo {es:List Ed} {role:Int} {l:List Int} {L:List Nat} (hes:∀x∈es,0<=x.f/\0<=x.t) (h:okC es role l L=true) (j:Nat):clo es role l j=decide (j∈L):=by
 unfold okC at h;simp only[Yt,List.all_eq_true,List.mem_range] at h;obtain⟨⟨h1,h2⟩,h3⟩:=h;have fwd:∀a:Int,Qr es role l a->0<=a/\a.toNat∈L:=by
  intro a ha
  induction ha with
  | base hm=>have:=h1 _ hm;simpa using this
  | step _ hx ih=>
   obtain⟨x,hx,hv,hf,rfl⟩:=hx;refine⟨(hes x hx).2,?_⟩;have:=h2 x hx;simp only[Bool.or_eq_true,Bool.not_eq_true',decide_eq_false_iff_not,decide_eq_true_eq] at this;rcases this with (h4 | h4) | h4
   .rw[hv] at h4;cases h4
   .exact absurd (by rw[hf];exact ih.2) h4
   .exact h4
 have bwd:∀i,i<=L.length->∀j∈L.take i,Qr es role l (j:Int):=by
  intro i
  induction i with
  | zero=>intro _ j hj;rw[Yyk] at hj;cases hj
  | succ i ih=>
   intro hi j hj;obtain⟨y,hy⟩:=get_some (l:=L) (i:=i) (by omega);rw[take_snoc hy,Yk,Ye] at hj;rcases hj with hj | rfl
   .exact ih (by omega) j hj
   .have:=h3 i (by omega);rw[hy] at this;simp only[Bool.or_eq_true,List.any_eq_true,decide_eq_true_eq,Yt] at this;rcases this with ⟨v,hv,rfl⟩ | ⟨x,hx,⟨h4,h5⟩,h6⟩
    .exact .base hv
    .have hq:=ih (by omega) _ h5;rw[show ((x.f.toNat:Nat):Int)=x.f by have:=hes x hx;omega] at hq;exact .step hq ⟨x,hx,Option.isNone_iff_eq_none.1 h4,rfl,h6⟩
 have hiff:clo es role l j=true ↔ j∈L:=by
  rw[clo_iff];constructor
  .intro h;have:=(fwd _ h).2;rwa [Ys] at this
  .intro h;exact bwd L.length (Yyt _) j (by rw[Yye];exact h)
 by_cases hj:j∈L
 .rw[decide_eq_true hj];exact hiff.2 hj
 .rw[decide_eq_false hj];cases hc:clo es role l j
  .rfl
  .exact absurd (hiff.1 hc) hj
def cloC (es:List Ed) (role:Int) (n:Nat) (l:List Int):Option (List Nat):=
 let L:=bfsC es role n (l.map Int.toNat).eraseDups
 if okC es role l L then some ((List.range n).filter fun j=>decide (j∈L)) else none
theorem cloC_ok {es:List Ed} {role:Int} {n:Nat} {l:List Int} {L:List Nat} (hes:∀x∈es,0<=x.f/\0<=x.t) (hlt:∀j:Nat,clo es role l j=true->j<n) (h:cloC es role n l=some L):Can n L/\clo es role l=setOf L:=by
 unfold cloC at h;simp only at h;split at h
 .rename_i hk;cases h;refine⟨Can.mk _ _,?_⟩
  funext j
  rw[okC_clo hes hk];unfold setOf;by_cases hj:j∈bfsC es role n (l.map Int.toNat).eraseDups
  .rw[decide_eq_true hj,decide_eq_true];have:clo es role l j=true:=by rw[okC_clo hes hk,decide_eq_true hj]
   exact List.mem_filter.2 ⟨List.mem_range.2 (hlt j this),decide_eq_true hj⟩
  .rw[decide_eq_false hj,decide_eq_false];intro hm;exact hj (Yyn (List.mem_filter.1 hm).2)
 .cases h
end Go.VC
end

section
namespace Go.VC
open Go.Proofs
/- farandole/view.look
   loop rrrlrb: x_39:Int
   loop rrrlrb: x_109:Int -/
/- (*farandole/view.looker).closed
   loop rrrrlrborlbrb: todo_35:Sl, x_36:Int
   loop rrrrlrb: todo_22:Sl, head_23:Int
   loop rrrlrb: todo_6:Sl, x_7:Int -/
/- (*farandole/view.looker).after
   loop rrlrborrlbrrb: to_24:Sl, x_25:Int
   loop rrlrb: to_11:Sl, x_12:Int -/
/- (*farandole/view.looker).events
   loop rrlrborrlbrrb: out_20:Sl, x_21:Int
   loop rrlrb: out_7:Sl, x_8:Int -/
/- (farandole/view.event).compare -/
/- (*farandole/view.looker).full
   loop rrlrb: out_4:Sl, x_5:Int -/
/- (farandole/view.event).full -/
/- farandole/view.First -/
/- slices.IndexFunc[[]farandole/bits.Set,farandole/bits.Set]
   loop rlrb: x_4:Int -/
/- farandole/view.Views$1$1 -/
/- farandole/view.Views$1 -/
/- farandole/view.Views
   loop rrrrrrlrborlblrb: x_52:Int
   loop rrrrrrlrb: i_39:Int -/
/- cmp.Or[int]
   loop rrlrb: x_4:Int -/
def W53 (p0:Sl) (h:Heap) (R:Value->Heap->Prop):Prop:=
 (∃I1:Int->Heap->Nat->Prop,(∃m2,I1 0 h m2) /\ 
 (∀(_:Env) (x_4:Int) (h5:Heap) (m3:Nat),I1 x_4 h5 m3 -> 
 (sB (decide (x_4<(p0.n:Int))) 
  ((NB p0.a fun b6 o7=>((0<=(x_4:Int)/\(x_4:Int)<(p0.n:Nat)) /\ 
  (∃x8:Int,hc h5 ⟨b6,o7+Int.toNat x_4*1,none⟩=some (.int .i64 x8) /\ 
  (sB (x8 != 0) 
   (R (.int .i64 x8) h5) 
   ((∃m9,m9<m3/\I1 (IntKind.wrap .i64 (x_4+1)) h5 m9))))))) 
  (R (.int .i64 0) h5))))
theorem vc53e (p0:Sl) (h:Heap) (R:Value->Heap->Prop):W53 p0 h R=fnW Pz 53 (.s .z (.s .z (.s (.s .z (.b (.l [(8,.one (.int .i64))] .z))) .z))) #[.slice p0.a p0.n p0.c] h R:=by kernel_rfl
theorem vc53 (p0:Sl) (h:Heap) (R:Value->Heap->Prop) (H:W53 p0 h R):Fn Pz 53 #[.slice p0.a p0.n p0.c] h R:=fnI (vc53e p0 h R) H
/- cmp.Compare[int] -/
def W54 (p0:Int) (p1:Int) (h:Heap) (R:Value->Heap->Prop):Prop:=
 (Fn Pz 111 #[.int .i64 p0] h 
 (fun v1 h3=>∃x2:Bool,v1=.bool x2 /\ 
 (Fn Pz 111 #[.int .i64 p1] h3 
 (fun v4 h6=>∃x5:Bool,v4=.bool x5 /\ 
 (sB x2 
  ((sB x5 
  (R (.int .i64 0) h6) 
  (R (.int .i64 (-1)) h6))) 
  ((sB x5 
  (R (.int .i64 1) h6) 
  ((sB (decide (p0<p1)) 
   (R (.int .i64 (-1)) h6) 
   ((sB (decide (p0>p1)) 
   (R (.int .i64 1) h6) 
   (R (.int .i64 0) h6))))))))))))
theorem vc54e (p0:Int) (p1:Int) (h:Heap) (R:Value->Heap->Prop):W54 p0 p1 h R=fnW Pz 54 .z #[.int .i64 p0,.int .i64 p1] h R:=by kernel_rfl
theorem vc54 (p0:Int) (p1:Int) (h:Heap) (R:Value->Heap->Prop) (H:W54 p0 p1 h R):Fn Pz 54 #[.int .i64 p0,.int .i64 p1] h R:=fnI (vc54e p0 p1 h R) H
/- cmp.isNaN[int] -/
def W111 (p0:Int) (h:Heap) (R:Value->Heap->Prop):Prop:=
 R (.bool (p0 != p0)) h
theorem vc111e (p0:Int) (h:Heap) (R:Value->Heap->Prop):W111 p0 h R=fnW Pz 111 .z #[.int .i64 p0] h R:=by kernel_rfl
theorem vc111 (p0:Int) (h:Heap) (R:Value->Heap->Prop) (H:W111 p0 h R):Fn Pz 111 #[.int .i64 p0] h R:=fnI (vc111e p0 h R) H
end Go.VC
end

section
namespace Go.Proofs
open Go.Shelf
def Tryz.lays146_ren:Go.Shelf.Ren:=⟨fun | 146=>298 | 221=>309 | 268=>311 | 138=>312 | 143=>313 | 195=>314 | 197=>315 | 218=>316 | 219=>317 | 260=>318 | 217=>319 | 225=>320 | 224=>321 | 267=>322 | 266=>323 | 314=>324 | n=>n,fun | 9=>9 | 31=>22 | 3=>3 | 4=>4 | 0=>0 | 105=>419 | 21=>21 | 5=>5 | 46=>204 | 119=>423 | 139=>426 | 138=>425 | 146=>338 | 51=>324 | n=>n,fun | 1=>1 | 3=>2 | 4=>3 | n=>n⟩
theorem Tryz.lays146:Go.Proofs.Lays.n146 Tryz.prog Tryz.lays146_ren:={
 mixed:=by kernel_rfl
 f138:=Tryz.func312.trans (congrArg some (by kernel_rfl))
 f143:=Tryz.func313.trans (congrArg some (by kernel_rfl))
 f146:=Tryz.func298.trans (congrArg some (by kernel_rfl))
 f195:=Tryz.func314.trans (congrArg some (by kernel_rfl))
 f197:=Tryz.func315.trans (congrArg some (by kernel_rfl))
 f217:=Tryz.func319.trans (congrArg some (by kernel_rfl))
 f218:=Tryz.func316.trans (congrArg some (by kernel_rfl))
 f219:=Tryz.func317.trans (congrArg some (by kernel_rfl))
 f221:=Tryz.func309.trans (congrArg some (by kernel_rfl))
 f224:=Tryz.func321.trans (congrArg some (by kernel_rfl))
 f225:=Tryz.func320.trans (congrArg some (by kernel_rfl))
 f260:=Tryz.func318.trans (congrArg some (by kernel_rfl))
 f266:=Tryz.func323.trans (congrArg some (by kernel_rfl))
 f267:=Tryz.func322.trans (congrArg some (by kernel_rfl))
 f268:=Tryz.func311.trans (congrArg some (by kernel_rfl))
 f314:=Tryz.func324.trans (congrArg some (by kernel_rfl))
 t0:=Tryz.underlying0
 a0:=Tryz.isAgg0
 z0:=Tryz.sizeOf0
 v0:=Tryz.zeroValue0
 t3:=Tryz.underlying3
 a3:=Tryz.isAgg3
 z3:=Tryz.sizeOf3
 v3:=Tryz.zeroValue3
 t4:=Tryz.underlying4
 a4:=Tryz.isAgg4
 z4:=Tryz.sizeOf4
 v4:=Tryz.zeroValue4
 t5:=Tryz.underlying5
 a5:=Tryz.isAgg5
 z5:=Tryz.sizeOf5
 v5:=Tryz.zeroValue5
 t9:=Tryz.underlying9
 a9:=Tryz.isAgg9
 z9:=Tryz.sizeOf9
 v9:=Tryz.zeroValue9
 t21:=Tryz.underlying21
 a21:=Tryz.isAgg21
 z21:=Tryz.sizeOf21
 v21:=Tryz.zeroValue21
 t31:=Tryz.underlying22
 a31:=Tryz.isAgg22
 z31:=Tryz.sizeOf22
 v31:=Tryz.zeroValue22
 t46:=Tryz.underlying204
 a46:=Tryz.isAgg204
 z46:=Tryz.sizeOf204
 v46:=Tryz.zeroValue204
 t51:=Tryz.underlying324
 a51:=Tryz.isAgg324
 z51:=Tryz.sizeOf324
 v51:=Tryz.zeroValue324
 t105:=Tryz.underlying419
 a105:=Tryz.isAgg419
 z105:=Tryz.sizeOf419
 v105:=Tryz.zeroValue419
 t119:=Tryz.underlying423
 a119:=Tryz.isAgg423
 z119:=Tryz.sizeOf423
 t138:=Tryz.underlying425
 a138:=Tryz.isAgg425
 z138:=Tryz.sizeOf425
 v138:=Tryz.zeroValue425
 t139:=Tryz.underlying426
 a139:=Tryz.isAgg426
 z139:=Tryz.sizeOf426
 v139:=Tryz.zeroValue426
 t146:=Tryz.underlying338
 a146:=Tryz.isAgg338
 z146:=Tryz.sizeOf338
 v146:=Tryz.zeroValue338
 g1:=by kernel_rfl
 g3:=by kernel_rfl
 g4:=by kernel_rfl }
def Tryz.lays212_ren:Go.Shelf.Ren:=⟨fun | 212=>141 | 263=>210 | 264=>211 | n=>n,fun | 46=>204 | 51=>324 | 146=>338 | 53=>144 | 148=>340 | n=>n,fun | n=>n⟩
theorem Tryz.lays212:Go.Proofs.Lays.n212 Tryz.prog Tryz.lays212_ren:={
 mixed:=by kernel_rfl
 f212:=Tryz.func141.trans (congrArg some (by kernel_rfl))
 f263:=Tryz.func210.trans (congrArg some (by kernel_rfl))
 f264:=Tryz.func211.trans (congrArg some (by kernel_rfl))
 t46:=Tryz.underlying204
 a46:=Tryz.isAgg204
 z46:=Tryz.sizeOf204
 v46:=Tryz.zeroValue204
 t51:=Tryz.underlying324
 a51:=Tryz.isAgg324
 z51:=Tryz.sizeOf324
 v51:=Tryz.zeroValue324
 t53:=Tryz.underlying144
 a53:=Tryz.isAgg144
 z53:=Tryz.sizeOf144
 v53:=Tryz.zeroValue144
 t146:=Tryz.underlying338
 a146:=Tryz.isAgg338
 z146:=Tryz.sizeOf338
 v146:=Tryz.zeroValue338
 t148:=Tryz.underlying340
 a148:=Tryz.isAgg340
 z148:=Tryz.sizeOf340
 v148:=Tryz.zeroValue340 }
def Tryz.sortL137_ren:Go.Shelf.Ren:=⟨fun | 6=>124 | 15=>110 | 14=>200 | 28=>196 | 29=>197 | 20=>242 | 21=>243 | 22=>244 | 23=>245 | 24=>246 | 25=>247 | 26=>248 | 27=>249 | 46=>287 | 47=>234 | 48=>235 | 49=>288 | 50=>289 | 57=>305 | n=>n,fun | 22=>127 | 24=>140 | 25=>236 | 3=>3 | 39=>204 | 0=>0 | 53=>324 | 55=>144 | 4=>4 | 46=>318 | 45=>317 | 50=>296 | 5=>5 | 9=>9 | 66=>357 | 70=>361 | 76=>396 | 77=>216 | n=>n,fun | n=>n⟩
def Tryz.sortL203_ren:Go.Shelf.Ren:=⟨fun | 6=>184 | 15=>110 | 14=>231 | 28=>196 | 29=>197 | 20=>277 | 21=>278 | 22=>279 | 23=>280 | 24=>281 | 25=>282 | 26=>283 | 27=>284 | 46=>302 | 47=>234 | 48=>235 | 49=>303 | 50=>304 | 57=>310 | n=>n,fun | 22=>193 | 24=>188 | 25=>312 | 3=>3 | 39=>204 | 0=>0 | 53=>324 | 55=>144 | 4=>4 | 46=>318 | 45=>317 | 50=>296 | 5=>5 | 9=>9 | 66=>357 | 70=>361 | 76=>396 | 77=>216 | n=>n,fun | n=>n⟩
theorem Tryz.sortL203:Go.Proofs.SlLaysF0.n6 Tryz.prog Tryz.sortL203_ren:={
 mixed:=by kernel_rfl
 f6:=⟨Tryz.f184.name,by decide,Tryz.func184.trans (congrArg some (by kernel_rfl))⟩
 f14:=⟨Tryz.f231.name,by decide,Tryz.func231.trans (congrArg some (by kernel_rfl))⟩
 f15:=Tryz.func110.trans (congrArg some (by kernel_rfl))
 f20:=⟨Tryz.f277.name,by decide,Tryz.func277.trans (congrArg some (by kernel_rfl))⟩
 f21:=⟨Tryz.f278.name,by decide,Tryz.func278.trans (congrArg some (by kernel_rfl))⟩
 f22:=⟨Tryz.f279.name,by decide,Tryz.func279.trans (congrArg some (by kernel_rfl))⟩
 f23:=⟨Tryz.f280.name,by decide,Tryz.func280.trans (congrArg some (by kernel_rfl))⟩
 f24:=⟨Tryz.f281.name,by decide,Tryz.func281.trans (congrArg some (by kernel_rfl))⟩
 f25:=⟨Tryz.f282.name,by decide,Tryz.func282.trans (congrArg some (by kernel_rfl))⟩
 f26:=⟨Tryz.f283.name,by decide,Tryz.func283.trans (congrArg some (by kernel_rfl))⟩
 f27:=⟨Tryz.f284.name,by decide,Tryz.func284.trans (congrArg some (by kernel_rfl))⟩
 f28:=Tryz.func196.trans (congrArg some (by kernel_rfl))
 f29:=Tryz.func197.trans (congrArg some (by kernel_rfl))
 f46:=⟨Tryz.f302.name,by decide,Tryz.func302.trans (congrArg some (by kernel_rfl))⟩
 f47:=Tryz.func234.trans (congrArg some (by kernel_rfl))
 f48:=Tryz.func235.trans (congrArg some (by kernel_rfl))
 f49:=⟨Tryz.f303.name,by decide,Tryz.func303.trans (congrArg some (by kernel_rfl))⟩
 f50:=⟨Tryz.f304.name,by decide,Tryz.func304.trans (congrArg some (by kernel_rfl))⟩
 f57:=⟨Tryz.f310.name,by decide,Tryz.func310.trans (congrArg some (by kernel_rfl))⟩
 t0:=Tryz.underlying0
 a0:=Tryz.isAgg0
 z0:=Tryz.sizeOf0
 v0:=Tryz.zeroValue0
 t3:=Tryz.underlying3
 a3:=Tryz.isAgg3
 z3:=Tryz.sizeOf3
 v3:=Tryz.zeroValue3
 t4:=Tryz.underlying4
 a4:=Tryz.isAgg4
 z4:=Tryz.sizeOf4
 v4:=Tryz.zeroValue4
 t5:=Tryz.underlying5
 a5:=Tryz.isAgg5
 z5:=Tryz.sizeOf5
 v5:=Tryz.zeroValue5
 t9:=Tryz.underlying9
 a9:=Tryz.isAgg9
 z9:=Tryz.sizeOf9
 v9:=Tryz.zeroValue9
 t22:=Tryz.underlying193
 a22:=Tryz.isAgg193
 z22:=Tryz.sizeOf193
 v22:=Tryz.zeroValue193
 t25:=Tryz.underlying312
 a25:=Tryz.isAgg312
 z25:=Tryz.sizeOf312
 v25:=Tryz.zeroValue312
 t39:=Tryz.underlying204
 a39:=Tryz.isAgg204
 z39:=Tryz.sizeOf204
 v39:=Tryz.zeroValue204
 t45:=Tryz.underlying317
 a45:=Tryz.isAgg317
 z45:=Tryz.sizeOf317
 v45:=Tryz.zeroValue317
 t46:=Tryz.underlying318
 a46:=Tryz.isAgg318
 z46:=Tryz.sizeOf318
 v46:=Tryz.zeroValue318
 t50:=Tryz.underlying296
 a50:=Tryz.isAgg296
 z50:=Tryz.sizeOf296
 v50:=Tryz.zeroValue296
 t53:=Tryz.underlying324
 a53:=Tryz.isAgg324
 z53:=Tryz.sizeOf324
 v53:=Tryz.zeroValue324
 t55:=Tryz.underlying144
 a55:=Tryz.isAgg144
 z55:=Tryz.sizeOf144
 v55:=Tryz.zeroValue144
 t66:=Tryz.underlying357
 a66:=Tryz.isAgg357
 z66:=Tryz.sizeOf357
 v66:=Tryz.zeroValue357
 t70:=Tryz.underlying361
 a70:=Tryz.isAgg361
 z70:=Tryz.sizeOf361
 v70:=Tryz.zeroValue361
 t76:=Tryz.underlying396
 a76:=Tryz.isAgg396
 z76:=Tryz.sizeOf396
 v76:=Tryz.zeroValue396
 t77:=Tryz.underlying216
 a77:=Tryz.isAgg216
 z77:=Tryz.sizeOf216
 v77:=Tryz.zeroValue216 }
def Tryz.sortL207_ren:Go.Shelf.Ren:=⟨fun | 6=>69 | 15=>110 | 14=>134 | 28=>196 | 29=>197 | 20=>202 | 21=>203 | 22=>204 | 23=>205 | 24=>206 | 25=>207 | 26=>208 | 27=>209 | 46=>258 | 47=>234 | 48=>235 | 49=>259 | 50=>260 | 57=>293 | n=>n,fun | 22=>68 | 24=>72 | 25=>136 | 3=>3 | 39=>204 | 0=>0 | 53=>324 | 55=>144 | 4=>4 | 46=>318 | 45=>317 | 50=>296 | 5=>5 | 9=>9 | 66=>357 | 70=>361 | 76=>396 | 77=>216 | n=>n,fun | n=>n⟩
theorem Tryz.sortL207:Go.Proofs.SlLaysF0.n6 Tryz.prog Tryz.sortL207_ren:={
 mixed:=by kernel_rfl
 f6:=⟨Tryz.f69.name,by decide,Tryz.func69.trans (congrArg some (by kernel_rfl))⟩
 f14:=⟨Tryz.f134.name,by decide,Tryz.func134.trans (congrArg some (by kernel_rfl))⟩
 f15:=Tryz.func110.trans (congrArg some (by kernel_rfl))
 f20:=⟨Tryz.f202.name,by decide,Tryz.func202.trans (congrArg some (by kernel_rfl))⟩
 f21:=⟨Tryz.f203.name,by decide,Tryz.func203.trans (congrArg some (by kernel_rfl))⟩
 f22:=⟨Tryz.f204.name,by decide,Tryz.func204.trans (congrArg some (by kernel_rfl))⟩
 f23:=⟨Tryz.f205.name,by decide,Tryz.func205.trans (congrArg some (by kernel_rfl))⟩
 f24:=⟨Tryz.f206.name,by decide,Tryz.func206.trans (congrArg some (by kernel_rfl))⟩
 f25:=⟨Tryz.f207.name,by decide,Tryz.func207.trans (congrArg some (by kernel_rfl))⟩
 f26:=⟨Tryz.f208.name,by decide,Tryz.func208.trans (congrArg some (by kernel_rfl))⟩
 f27:=⟨Tryz.f209.name,by decide,Tryz.func209.trans (congrArg some (by kernel_rfl))⟩
 f28:=Tryz.func196.trans (congrArg some (by kernel_rfl))
 f29:=Tryz.func197.trans (congrArg some (by kernel_rfl))
 f46:=⟨Tryz.f258.name,by decide,Tryz.func258.trans (congrArg some (by kernel_rfl))⟩
 f47:=Tryz.func234.trans (congrArg some (by kernel_rfl))
 f48:=Tryz.func235.trans (congrArg some (by kernel_rfl))
 f49:=⟨Tryz.f259.name,by decide,Tryz.func259.trans (congrArg some (by kernel_rfl))⟩
 f50:=⟨Tryz.f260.name,by decide,Tryz.func260.trans (congrArg some (by kernel_rfl))⟩
 f57:=⟨Tryz.f293.name,by decide,Tryz.func293.trans (congrArg some (by kernel_rfl))⟩
 t0:=Tryz.underlying0
 a0:=Tryz.isAgg0
 z0:=Tryz.sizeOf0
 v0:=Tryz.zeroValue0
 t3:=Tryz.underlying3
 a3:=Tryz.isAgg3
 z3:=Tryz.sizeOf3
 v3:=Tryz.zeroValue3
 t4:=Tryz.underlying4
 a4:=Tryz.isAgg4
 z4:=Tryz.sizeOf4
 v4:=Tryz.zeroValue4
 t5:=Tryz.underlying5
 a5:=Tryz.isAgg5
 z5:=Tryz.sizeOf5
 v5:=Tryz.zeroValue5
 t9:=Tryz.underlying9
 a9:=Tryz.isAgg9
 z9:=Tryz.sizeOf9
 v9:=Tryz.zeroValue9
 t22:=Tryz.underlying68
 a22:=Tryz.isAgg68
 z22:=Tryz.sizeOf68
 v22:=Tryz.zeroValue68
 t25:=Tryz.underlying136
 a25:=Tryz.isAgg136
 z25:=Tryz.sizeOf136
 v25:=Tryz.zeroValue136
 t39:=Tryz.underlying204
 a39:=Tryz.isAgg204
 z39:=Tryz.sizeOf204
 v39:=Tryz.zeroValue204
 t45:=Tryz.underlying317
 a45:=Tryz.isAgg317
 z45:=Tryz.sizeOf317
 v45:=Tryz.zeroValue317
 t46:=Tryz.underlying318
 a46:=Tryz.isAgg318
 z46:=Tryz.sizeOf318
 v46:=Tryz.zeroValue318
 t50:=Tryz.underlying296
 a50:=Tryz.isAgg296
 z50:=Tryz.sizeOf296
 v50:=Tryz.zeroValue296
 t53:=Tryz.underlying324
 a53:=Tryz.isAgg324
 z53:=Tryz.sizeOf324
 v53:=Tryz.zeroValue324
 t55:=Tryz.underlying144
 a55:=Tryz.isAgg144
 z55:=Tryz.sizeOf144
 v55:=Tryz.zeroValue144
 t66:=Tryz.underlying357
 a66:=Tryz.isAgg357
 z66:=Tryz.sizeOf357
 v66:=Tryz.zeroValue357
 t70:=Tryz.underlying361
 a70:=Tryz.isAgg361
 z70:=Tryz.sizeOf361
 v70:=Tryz.zeroValue361
 t76:=Tryz.underlying396
 a76:=Tryz.isAgg396
 z76:=Tryz.sizeOf396
 v76:=Tryz.zeroValue396
 t77:=Tryz.underlying216
 a77:=Tryz.isAgg216
 z77:=Tryz.sizeOf216
 v77:=Tryz.zeroValue216 }
def Tryz.sortL243_ren:Go.Shelf.Ren:=⟨fun | 6=>128 | 15=>110 | 14=>201 | 28=>196 | 29=>197 | 20=>250 | 21=>251 | 22=>252 | 23=>253 | 24=>254 | 25=>255 | 26=>256 | 27=>257 | 46=>290 | 47=>234 | 48=>235 | 49=>291 | 50=>292 | 57=>306 | n=>n,fun | 22=>24 | 24=>67 | 25=>243 | 3=>3 | 39=>204 | 0=>0 | 53=>324 | 55=>144 | 4=>4 | 46=>318 | 45=>317 | 50=>296 | 5=>5 | 9=>9 | 66=>357 | 70=>361 | 76=>396 | 77=>216 | n=>n,fun | n=>n⟩
theorem Tryz.sortL243:Go.Proofs.SlLaysF0.n6 Tryz.prog Tryz.sortL243_ren:={
 mixed:=by kernel_rfl
 f6:=⟨Tryz.f128.name,by decide,Tryz.func128.trans (congrArg some (by kernel_rfl))⟩
 f14:=⟨Tryz.f201.name,by decide,Tryz.func201.trans (congrArg some (by kernel_rfl))⟩
 f15:=Tryz.func110.trans (congrArg some (by kernel_rfl))
 f20:=⟨Tryz.f250.name,by decide,Tryz.func250.trans (congrArg some (by kernel_rfl))⟩
 f21:=⟨Tryz.f251.name,by decide,Tryz.func251.trans (congrArg some (by kernel_rfl))⟩
 f22:=⟨Tryz.f252.name,by decide,Tryz.func252.trans (congrArg some (by kernel_rfl))⟩
 f23:=⟨Tryz.f253.name,by decide,Tryz.func253.trans (congrArg some (by kernel_rfl))⟩
 f24:=⟨Tryz.f254.name,by decide,Tryz.func254.trans (congrArg some (by kernel_rfl))⟩
 f25:=⟨Tryz.f255.name,by decide,Tryz.func255.trans (congrArg some (by kernel_rfl))⟩
 f26:=⟨Tryz.f256.name,by decide,Tryz.func256.trans (congrArg some (by kernel_rfl))⟩
 f27:=⟨Tryz.f257.name,by decide,Tryz.func257.trans (congrArg some (by kernel_rfl))⟩
 f28:=Tryz.func196.trans (congrArg some (by kernel_rfl))
 f29:=Tryz.func197.trans (congrArg some (by kernel_rfl))
 f46:=⟨Tryz.f290.name,by decide,Tryz.func290.trans (congrArg some (by kernel_rfl))⟩
 f47:=Tryz.func234.trans (congrArg some (by kernel_rfl))
 f48:=Tryz.func235.trans (congrArg some (by kernel_rfl))
 f49:=⟨Tryz.f291.name,by decide,Tryz.func291.trans (congrArg some (by kernel_rfl))⟩
 f50:=⟨Tryz.f292.name,by decide,Tryz.func292.trans (congrArg some (by kernel_rfl))⟩
 f57:=⟨Tryz.f306.name,by decide,Tryz.func306.trans (congrArg some (by kernel_rfl))⟩
 t0:=Tryz.underlying0
 a0:=Tryz.isAgg0
 z0:=Tryz.sizeOf0
 v0:=Tryz.zeroValue0
 t3:=Tryz.underlying3
 a3:=Tryz.isAgg3
 z3:=Tryz.sizeOf3
 v3:=Tryz.zeroValue3
 t4:=Tryz.underlying4
 a4:=Tryz.isAgg4
 z4:=Tryz.sizeOf4
 v4:=Tryz.zeroValue4
 t5:=Tryz.underlying5
 a5:=Tryz.isAgg5
 z5:=Tryz.sizeOf5
 v5:=Tryz.zeroValue5
 t9:=Tryz.underlying9
 a9:=Tryz.isAgg9
 z9:=Tryz.sizeOf9
 v9:=Tryz.zeroValue9
 t22:=Tryz.underlying24
 a22:=Tryz.isAgg24
 z22:=Tryz.sizeOf24
 v22:=Tryz.zeroValue24
 t25:=Tryz.underlying243
 a25:=Tryz.isAgg243
 z25:=Tryz.sizeOf243
 v25:=Tryz.zeroValue243
 t39:=Tryz.underlying204
 a39:=Tryz.isAgg204
 z39:=Tryz.sizeOf204
 v39:=Tryz.zeroValue204
 t45:=Tryz.underlying317
 a45:=Tryz.isAgg317
 z45:=Tryz.sizeOf317
 v45:=Tryz.zeroValue317
 t46:=Tryz.underlying318
 a46:=Tryz.isAgg318
 z46:=Tryz.sizeOf318
 v46:=Tryz.zeroValue318
 t50:=Tryz.underlying296
 a50:=Tryz.isAgg296
 z50:=Tryz.sizeOf296
 v50:=Tryz.zeroValue296
 t53:=Tryz.underlying324
 a53:=Tryz.isAgg324
 z53:=Tryz.sizeOf324
 v53:=Tryz.zeroValue324
 t55:=Tryz.underlying144
 a55:=Tryz.isAgg144
 z55:=Tryz.sizeOf144
 v55:=Tryz.zeroValue144
 t66:=Tryz.underlying357
 a66:=Tryz.isAgg357
 z66:=Tryz.sizeOf357
 v66:=Tryz.zeroValue357
 t70:=Tryz.underlying361
 a70:=Tryz.isAgg361
 z70:=Tryz.sizeOf361
 v70:=Tryz.zeroValue361
 t76:=Tryz.underlying396
 a76:=Tryz.isAgg396
 z76:=Tryz.sizeOf396
 v76:=Tryz.zeroValue396
 t77:=Tryz.underlying216
 a77:=Tryz.isAgg216
 z77:=Tryz.sizeOf216
 v77:=Tryz.zeroValue216 }
def Tryz.sortL51_ren:Go.Shelf.Ren:=⟨fun | 6=>51 | 15=>110 | 14=>109 | 28=>196 | 29=>197 | 20=>188 | 21=>189 | 22=>190 | 23=>191 | 24=>192 | 25=>193 | 26=>194 | 27=>195 | 46=>233 | 47=>234 | 48=>235 | 49=>236 | 50=>237 | 57=>285 | n=>n,fun | 22=>49 | 24=>52 | 25=>101 | 3=>3 | 39=>204 | 0=>0 | 53=>324 | 55=>144 | 4=>4 | 46=>318 | 45=>317 | 50=>296 | 5=>5 | 9=>9 | 66=>357 | 70=>361 | 76=>396 | 77=>216 | n=>n,fun | n=>n⟩
theorem Tryz.sortL51:Go.Proofs.SlLaysF0.n6 Tryz.prog Tryz.sortL51_ren:={
 mixed:=by kernel_rfl
 f6:=⟨Tryz.f51.name,by decide,Tryz.func51.trans (congrArg some (by kernel_rfl))⟩
 f14:=⟨Tryz.f109.name,by decide,Tryz.func109.trans (congrArg some (by kernel_rfl))⟩
 f15:=Tryz.func110.trans (congrArg some (by kernel_rfl))
 f20:=⟨Tryz.f188.name,by decide,Tryz.func188.trans (congrArg some (by kernel_rfl))⟩
 f21:=⟨Tryz.f189.name,by decide,Tryz.func189.trans (congrArg some (by kernel_rfl))⟩
 f22:=⟨Tryz.f190.name,by decide,Tryz.func190.trans (congrArg some (by kernel_rfl))⟩
 f23:=⟨Tryz.f191.name,by decide,Tryz.func191.trans (congrArg some (by kernel_rfl))⟩
 f24:=⟨Tryz.f192.name,by decide,Tryz.func192.trans (congrArg some (by kernel_rfl))⟩
 f25:=⟨Tryz.f193.name,by decide,Tryz.func193.trans (congrArg some (by kernel_rfl))⟩
 f26:=⟨Tryz.f194.name,by decide,Tryz.func194.trans (congrArg some (by kernel_rfl))⟩
 f27:=⟨Tryz.f195.name,by decide,Tryz.func195.trans (congrArg some (by kernel_rfl))⟩
 f28:=Tryz.func196.trans (congrArg some (by kernel_rfl))
 f29:=Tryz.func197.trans (congrArg some (by kernel_rfl))
 f46:=⟨Tryz.f233.name,by decide,Tryz.func233.trans (congrArg some (by kernel_rfl))⟩
 f47:=Tryz.func234.trans (congrArg some (by kernel_rfl))
 f48:=Tryz.func235.trans (congrArg some (by kernel_rfl))
 f49:=⟨Tryz.f236.name,by decide,Tryz.func236.trans (congrArg some (by kernel_rfl))⟩
 f50:=⟨Tryz.f237.name,by decide,Tryz.func237.trans (congrArg some (by kernel_rfl))⟩
 f57:=⟨Tryz.f285.name,by decide,Tryz.func285.trans (congrArg some (by kernel_rfl))⟩
 t0:=Tryz.underlying0
 a0:=Tryz.isAgg0
 z0:=Tryz.sizeOf0
 v0:=Tryz.zeroValue0
 t3:=Tryz.underlying3
 a3:=Tryz.isAgg3
 z3:=Tryz.sizeOf3
 v3:=Tryz.zeroValue3
 t4:=Tryz.underlying4
 a4:=Tryz.isAgg4
 z4:=Tryz.sizeOf4
 v4:=Tryz.zeroValue4
 t5:=Tryz.underlying5
 a5:=Tryz.isAgg5
 z5:=Tryz.sizeOf5
 v5:=Tryz.zeroValue5
 t9:=Tryz.underlying9
 a9:=Tryz.isAgg9
 z9:=Tryz.sizeOf9
 v9:=Tryz.zeroValue9
 t22:=Tryz.underlying49
 a22:=Tryz.isAgg49
 z22:=Tryz.sizeOf49
 v22:=Tryz.zeroValue49
 t25:=Tryz.underlying101
 a25:=Tryz.isAgg101
 z25:=Tryz.sizeOf101
 v25:=Tryz.zeroValue101
 t39:=Tryz.underlying204
 a39:=Tryz.isAgg204
 z39:=Tryz.sizeOf204
 v39:=Tryz.zeroValue204
 t45:=Tryz.underlying317
 a45:=Tryz.isAgg317
 z45:=Tryz.sizeOf317
 v45:=Tryz.zeroValue317
 t46:=Tryz.underlying318
 a46:=Tryz.isAgg318
 z46:=Tryz.sizeOf318
 v46:=Tryz.zeroValue318
 t50:=Tryz.underlying296
 a50:=Tryz.isAgg296
 z50:=Tryz.sizeOf296
 v50:=Tryz.zeroValue296
 t53:=Tryz.underlying324
 a53:=Tryz.isAgg324
 z53:=Tryz.sizeOf324
 v53:=Tryz.zeroValue324
 t55:=Tryz.underlying144
 a55:=Tryz.isAgg144
 z55:=Tryz.sizeOf144
 v55:=Tryz.zeroValue144
 t66:=Tryz.underlying357
 a66:=Tryz.isAgg357
 z66:=Tryz.sizeOf357
 v66:=Tryz.zeroValue357
 t70:=Tryz.underlying361
 a70:=Tryz.isAgg361
 z70:=Tryz.sizeOf361
 v70:=Tryz.zeroValue361
 t76:=Tryz.underlying396
 a76:=Tryz.isAgg396
 z76:=Tryz.sizeOf396
 v76:=Tryz.zeroValue396
 t77:=Tryz.underlying216
 a77:=Tryz.isAgg216
 z77:=Tryz.sizeOf216
 v77:=Tryz.zeroValue216 }
end Go.Proofs
end

section
namespace Go.VC
open Go.Proofs Go.LexS Go.Shelf
structure Gm (h:Heap):Prop where
 m:∃m:Int,hc h ⟨1,0,none⟩=some (.int .i64 m)
theorem Gm.ext {h h':Heap} (hx:Gm h) (E:Ext h h'):Gm h':=by
 obtain⟨m,hm⟩:=hx.m;exact⟨⟨m,hc_ext E hm⟩⟩
structure Gx (h:Heap):Prop where
 m:∃m:Int,hc h ⟨1,0,none⟩=some (.int .i64 m)
 t:∀j,j<Lib.deBruijn64tab.length->hc h ⟨0,j,none⟩=some (.int .u8 (Lib.deBruijn64tab.getD j 0))
instance {h:Heap}:Coe (Gx h) (Gm h):=⟨fun hx=>⟨hx.m⟩⟩
theorem mul106 (x y:Nat) (hx:x<18446744073709551616) (hy:y<18446744073709551616) (h:Heap):Fn Pz 141 #[.int .u64 x,.int .u64 y] h fun v h'=>v=.tuple ⟨[.int .u64 ((x*y/18446744073709551616:Nat):Int),.int .u64 ((x*y%18446744073709551616:Nat):Int)]⟩/\h'=h:=
 Fn.of_same fun w=>Any.bits_Mul Tryz.lays212 x y hx hy w
def pieces (l:Nm):List Nm:=Go.Lib.split l [46]
theorem split255 (l:Nm) (h:Heap) (hx:Gm h) (hl:l.length<=50):Fn Pz 298 #[.string (bs l),.string (bs [46])] h fun v h'=>Ext h h'/\∃s:Sl,v=.slice s.a s.n s.c/\RL h' 1 s nmC (pieces l):=by
 intro w hw;subst hw;obtain⟨m,hm⟩:=hx.m;have hle:=Lib.countB_le (bs [46]) (by decide) (bs l).size (bs l) (Yyt _);have hlen:=Lib.splitB_all (bs [46]) (by decide) 0 _ (bs l) rfl;have hdat:=Lib.splitB_data (bs [46]) 0 (Lib.countB (bs l) (bs [46])) (bs l);have hp:pieces l=(Lib.splitB (bs [46]) 0 (Lib.countB (bs l) (bs [46])) (bs l)).map (·.data.toList):=hdat.symm;have hcells:(Lib.splitB (bs [46]) 0 (Lib.countB (bs l) (bs [46])) (bs l)).map Value.string=(pieces l).map fun x=>Value.string (bs x):=by
  rw[hp,List.map_map];rfl
 have hpl:(pieces l).length=Lib.countB (bs l) (bs [46])+1:=by rw[hp,Yc,hlen]
 rw[bs_size] at hle;refine (Any.strings_Split Tryz.lays146 (by kernel_rfl) (bs l) (bs [46]) m w (by rw[bs_size];omega) hm (by decide)).mono ?_;rintro e w' ⟨rfl,rfl⟩;rw[hcells];have ho:Own (w.alloc (.cells ((pieces l).map fun x=>Value.string (bs x)).toArray (Tryz.lays146_ren.t 9))).heap w.heap.size ((pieces l).map fun x=>Value.string (bs x)) (Tryz.lays146_ren.t 9):=Own.push;refine⟨_,rfl,⟨Ext.push _ _,⟨some ⟨w.heap.size,0,none⟩,Lib.countB (bs l) (bs [46])+1,Lib.countB (bs l) (bs [46])+1⟩,rfl,⟨⟨by rw[Yc,hpl],fun _=>⟨w.heap.size,0,rfl,fun i row hi=>?_⟩⟩,Yyt _,(fun e=>by cases e),by rw[hpl];omega⟩⟩,rfl,rfl,rfl,trivial⟩;rw[Yd] at hi;obtain⟨x,hx1,hx2⟩:=Yya.1 hi;subst hx2;refine ho.atC fun j v hj=>?_
 match j,hj with
 | 0,hj=>cases hj;rw[show 0+i*1+0=i by omega,Yd,hx1];rfl
theorem swoE:Go.Sort.SWO (ltOf cmpE) where
 irrefl x:=by unfold ltOf;rw[decide_eq_false_iff_not,cmpE_neg];exact evLt_irr x
 trans x y z h1 h2:=by unfold ltOf at *;rw[decide_eq_true_eq,cmpE_neg] at *;exact evLt_trans h1 h2
 ntrans x y z h1 h2:=by
  unfold ltOf at *;rw[decide_eq_false_iff_not,cmpE_neg] at *;obtain⟨a,b,c⟩:=x;obtain⟨a',b',c'⟩:=y;obtain⟨a'',b'',c''⟩:=z;unfold evLt at *;cases a<;>cases a'<;>cases a''<;>simp at *<;>omega
instance:Inhabited Ev:=⟨⟨false,0,0⟩⟩
instance:Inhabited Mv:=⟨⟨0,false,0,0,0,false⟩⟩
end Go.VC
end

section
namespace Go.VC
open Go.Proofs
/- slices.Compact[[]farandole/view.event,farandole/view.event]
   loop rrlrborlbrtrlrb: k_19:Int, x_20:Int
   loop rrlrb: k_4:Int -/
/- slices.SortFunc[[]farandole/view.event,farandole/view.event] -/
end Go.VC
end

section
namespace Go.VC
open Go.Proofs Go.LexS
theorem compactL_ne {l:List Ev} (h:l≠[]):compactL l≠[]:=by
 cases l with
 | nil=>exact absurd rfl h
 | cons a r=>
  intro e;have:=(compactL_mem (a::r) a).2 (by simp);rw[e] at this;cases this
theorem compactL_snoc:∀(l:List Ev) (x:Ev),compactL (l++[x])=if l.getLast?=some x then compactL l else compactL l++[x]
 | [],x=>by simp[compactL]
 | a::r,x=>by
  have ih:=compactL_snoc r x;cases r with
  | nil=>
   by_cases h:a=x
   .subst h;simp[compactL]
   .simp[compactL,h]
  | cons b r'=>
   have hne:=compactL_ne (l:=b::r') (by simp);have hl:(a::b::r').getLast?=(b::r').getLast?:=by simp[List.getLast?_cons_cons]
   rw[List.cons_append,compactL,ih,hl];by_cases h:(b::r').getLast?=some x
   .rw[if_pos h,if_pos h]
    conv=>rhs;rw[compactL]
   .rw[if_neg h,if_neg h]
    conv=>rhs;rw[compactL]
    cases hc:compactL (b::r') with
    | nil=>exact absurd hc hne
    | cons y t=>
     simp only[List.cons_append];split<;>rfl
theorem compactL_step {l:List Ev} {k:Nat} {x y:Ev} (hx:l[k]?=some x) (hk:1<=k) (hy:l[k-1]?=some y):compactL (l.take (k+1))=if x=y then compactL (l.take k) else compactL (l.take k)++[x]:=by
 rw[take_snoc hx,compactL_snoc];have hl:(l.take k).getLast?=some y:=by
  have hkl:=(Ya.1 hx).1;rw[List.getLast?_eq_getElem?,Yu,Nat.min_eq_left (by omega),Yyf,if_pos (by omega)];exact hy
 rw[hl];by_cases e:x=y
 .rw[if_pos e,if_pos (by rw[e])]
 .rw[if_neg e,if_neg (fun h=>e (by cases h;rfl))]
theorem evEq (x y:Ev):((x.send==y.send)&&((x.peer==y.peer)&&((x.label==y.label)&&true)))=decide (x=y):=by
 obtain⟨a,b,c⟩:=x;obtain⟨d,e,f⟩:=y;rw[Bool.eq_iff_iff];simp
end Go.VC
end

section
namespace Go.VC
open Go.Proofs
/- farandole/global.named
   loop rrlrb: x_20:Int -/
def W88 (p0_1:ByteArray) (p0_2:Sl) (p0_3:Sl) (p0_4:Int) (p0_5:Int) (p0_6:Int) (p0_7:Sl) (p0_8:Sl) (h:Heap) (R:Value->Heap->Prop):Prop:=
 (∀h9:Heap,h9=h.push (.cells ⟨[.string p0_1,.slice p0_2.a p0_2.n p0_2.c,.slice p0_3.a p0_3.n p0_3.c,.int .i64 p0_4,.int .i64 p0_5,.int .i64 p0_6,.slice p0_7.a p0_7.n p0_7.c,.slice p0_8.a p0_8.n p0_8.c]⟩ 27) -> 
 (∃x10:ByteArray,hc h9 ⟨h.size,0,none⟩=some (.string x10) /\ 
 (Fn Pz 160 #[.string x10] h9 
 (fun v11 h13=>∃x12:Bool,v11=.bool x12 /\ 
 (sB (!x12) 
  (R (.bool false) h13) 
  ((∃x14:Sl,hc h13 ⟨h.size,1,none⟩=some (.slice x14.a x14.n x14.c) /\ 
  (sB (decide ((x14.n:Int)<1)) 
  (R (.bool false) h13) 
  ((∃x15:Sl,hc h13 ⟨h.size,1,none⟩=some (.slice x15.a x15.n x15.c) /\ 
  (sB (decide ((x15.n:Int)>6)) 
   (R (.bool false) h13) 
   ((∃x16:Sl,hc h13 ⟨h.size,1,none⟩=some (.slice x16.a x16.n x16.c) /\ 
   (∃I17:Int->Heap->Nat->Prop,(∃m18,I17 0 h13 m18) /\ 
   (∀(_:Env) (x_20:Int) (h21:Heap) (m19:Nat),I17 x_20 h21 m19 -> 
   (sB (decide (x_20<(x16.n:Int))) 
    ((NB x16.a fun b22 o23=>((0<=(x_20:Int)/\(x_20:Int)<(x16.n:Nat)) /\ 
    (∃x24:ByteArray,hc h21 ⟨b22,o23+Int.toNat x_20*1,none⟩=some (.string x24) /\ 
    (Fn Pz 160 #[.string x24] h21 
    (fun v25 h27=>∃x26:Bool,v25=.bool x26 /\ 
    (sB (!x26) 
    (R (.bool false) h27) 
    ((∃x28:Sl,hc h27 ⟨h.size,1,none⟩=some (.slice x28.a x28.n x28.c) /\ 
    (((0:Int)<=(0:Int)/\(0:Int)<=(x_20:Int)/\(x_20:Int)<=(x28.c:Nat)) /\ 
    (Fn Pz 161 #[.slice (subA x28.a (Int.toNat 0) x28.c 1) (Int.toNat x_20-Int.toNat 0) (x28.c-Int.toNat 0),.string x24] h27 
    (fun v29 h31=>∃x30:Bool,v29=.bool x30 /\ 
    (sB x30 
     (R (.bool false) h31) 
     ((∃m32,m32<m19/\I17 (IntKind.wrap .i64 (x_20+1)) h31 m32))))))))))))))) 
    (R (.bool true) h21)))))))))))))))))
theorem vc88e (p0_1:ByteArray) (p0_2:Sl) (p0_3:Sl) (p0_4:Int) (p0_5:Int) (p0_6:Int) (p0_7:Sl) (p0_8:Sl) (h:Heap) (R:Value->Heap->Prop):W88 p0_1 p0_2 p0_3 p0_4 p0_5 p0_6 p0_7 p0_8 h R=fnW Pz 88 (.s .z (.s .z (.s (.s .z (.b (.l [(24,.one (.int .i64))] .z))) .z))) #[.agg ⟨[.string p0_1,.slice p0_2.a p0_2.n p0_2.c,.slice p0_3.a p0_3.n p0_3.c,.int .i64 p0_4,.int .i64 p0_5,.int .i64 p0_6,.slice p0_7.a p0_7.n p0_7.c,.slice p0_8.a p0_8.n p0_8.c]⟩] h R:=by kernel_rfl
theorem vc88 (p0_1:ByteArray) (p0_2:Sl) (p0_3:Sl) (p0_4:Int) (p0_5:Int) (p0_6:Int) (p0_7:Sl) (p0_8:Sl) (h:Heap) (R:Value->Heap->Prop) (H:W88 p0_1 p0_2 p0_3 p0_4 p0_5 p0_6 p0_7 p0_8 h R):Fn Pz 88 #[.agg ⟨[.string p0_1,.slice p0_2.a p0_2.n p0_2.c,.slice p0_3.a p0_3.n p0_3.c,.int .i64 p0_4,.int .i64 p0_5,.int .i64 p0_6,.slice p0_7.a p0_7.n p0_7.c,.slice p0_8.a p0_8.n p0_8.c]⟩] h R:=fnI (vc88e p0_1 p0_2 p0_3 p0_4 p0_5 p0_6 p0_7 p0_8 h R) H
/- farandole/global.numbered
   loop rrlrb: x_22:Int -/
def W89 (p0_1:ByteArray) (p0_2:Sl) (p0_3:Sl) (p0_4:Int) (p0_5:Int) (p0_6:Int) (p0_7:Sl) (p0_8:Sl) (h:Heap) (R:Value->Heap->Prop):Prop:=
 (Wn h [.string p0_1,vS p0_2,vS p0_3,vI p0_4,vI p0_5,vI p0_6,vS p0_7,vS p0_8] 27 fun h9=>
 (∃x10,rI h9 (aS h 3) x10 /\ 
 (sB (decide (x10<1)) 
 (R (.bool false) h9) 
 ((∃x11,rI h9 (aS h 3) x11 /\ 
 (sB (decide (x11>200)) 
 (R (.bool false) h9) 
 ((∃x12,rI h9 (aS h 4) x12 /\ 
 (∃x13,rI h9 (aS h 5) x13 /\ 
 (sB (decide ((imin x12 x13)<0)) 
 (R (.bool false) h9) 
 ((∃x14,rI h9 (aS h 4) x14 /\ 
 (∃x15,rI h9 (aS h 5) x15 /\ 
 (∃x16,rI h9 (aS h 3) x16 /\ 
 (sB (decide ((imax x14 x15)>=x16)) 
 (R (.bool false) h9) 
 ((∃x17,rS h9 (aS h 6) x17 /\ 
 (sB (decide ((x17.n:Int)>400)) 
 (R (.bool false) h9) 
 ((∃x18,rS h9 (aS h 6) x18 /\ 
 (QI 0 h9 fun I19 x_22 h23 m21=>(
 (sB (decide (x_22<(x18.n:Int))) 
 ((NB x18.a fun b24 o25=>(Ib x_22 x18.n /\ 
 (∃x26:Int,∃x27:Int,∃x28:Int,∃x29:Int,∃x30:Int,∃x31:Bool,atC h23 ⟨b24,o25+Int.toNat x_22*6,none⟩ [vI x26,vI x27,vI x28,vI x29,vI x30,.bool x31] /\ 
 (Wn h23 [vI 0,vI 0,vI 0,vI 0,vI 0,.bool false] 67 fun h32=>
 (Wp h32 (aS h23 0) 6 [vI x26,vI x27,vI x28,vI x29,vI x30,.bool x31] fun h33=>
 (∃x34:Int,∃x35:Int,∃x36:Int,atC h33 (aS h23 1) [vI x34,vI x35,vI x36] /\ 
 (Wn h33 [vI 0,vI 0,vI 0] 65 fun h37=>
 (Wp h37 (aS h33 0) 3 [vI x34,vI x35,vI x36] fun h38=>
 (∃x39,rI h38 (aS h23 0) x39 /\ 
 (∃x40,rI h38 (aS h23 4) x40 /\ 
 (∃x41,rI h38 (aS h33 0) x41 /\ 
 (∃x42,rI h38 (aS h33 1) x42 /\ 
 (∃x43,rI h38 (aS h33 2) x43 /\ 
 (sB (decide ((imin (imin (imin (imin x39 x40) x41) x42) x43)<0)) 
 (R (.bool false) h38) 
 ((∃x44,rI h38 (aS h23 0) x44 /\ 
 (∃x45,rI h38 (aS h23 4) x45 /\ 
 (∃x46,rI h38 (aS h 3) x46 /\ 
 (sB (decide ((imax x44 x45)>=x46)) 
 (R (.bool false) h38) 
 ((∃x47,rI h38 (aS h33 0) x47 /\ 
 (∃x48,rI h38 (aS h33 1) x48 /\ 
 (∃x49,rS h38 (aS h 1) x49 /\ 
 (sB (decide ((imax x47 x48)>=(x49.n:Int))) 
 (R (.bool false) h38) 
 ((∃x50,rI h38 (aS h33 0) x50 /\ 
 (∃x51,rI h38 (aS h33 1) x51 /\ 
 (sB (x50==x51) 
 (R (.bool false) h38) 
 ((∃x52,rI h38 (aS h33 2) x52 /\ 
 (∃x53,rS h38 (aS h 2) x53 /\ 
 (sB (decide (x52>=(x53.n:Int))) 
 (R (.bool false) h38) 
 ((∃m54,m54<m21/\I19 (IntKind.wrap .i64 (x_22+1)) h38 m54))))))))))))))))))))))))))))))))))) 
 (R (.bool true) h23))))))))))))))))))))))))
theorem vc89e (p0_1:ByteArray) (p0_2:Sl) (p0_3:Sl) (p0_4:Int) (p0_5:Int) (p0_6:Int) (p0_7:Sl) (p0_8:Sl) (h:Heap) (R:Value->Heap->Prop):W89 p0_1 p0_2 p0_3 p0_4 p0_5 p0_6 p0_7 p0_8 h R=fnW Pz 89 (.s .z (.s .z (.s (.s .z (.b (.l [(41,.one (.int .i64))] .z))) .z))) #[.agg ⟨[.string p0_1,.slice p0_2.a p0_2.n p0_2.c,.slice p0_3.a p0_3.n p0_3.c,.int .i64 p0_4,.int .i64 p0_5,.int .i64 p0_6,.slice p0_7.a p0_7.n p0_7.c,.slice p0_8.a p0_8.n p0_8.c]⟩] h R:=by kernel_rfl
theorem vc89 (p0_1:ByteArray) (p0_2:Sl) (p0_3:Sl) (p0_4:Int) (p0_5:Int) (p0_6:Int) (p0_7:Sl) (p0_8:Sl) (h:Heap) (R:Value->Heap->Prop) (H:W89 p0_1 p0_2 p0_3 p0_4 p0_5 p0_6 p0_7 p0_8 h R):Fn Pz 89 #[.agg ⟨[.string p0_1,.slice p0_2.a p0_2.n p0_2.c,.slice p0_3.a p0_3.n p0_3.c,.int .i64 p0_4,.int .i64 p0_5,.int .i64 p0_6,.slice p0_7.a p0_7.n p0_7.c,.slice p0_8.a p0_8.n p0_8.c]⟩] h R:=fnI (vc89e p0_1 p0_2 p0_3 p0_4 p0_5 p0_6 p0_7 p0_8 h R) H
/- farandole/global.declared -/
def W90 (p0:Sl) (h:Heap) (R:Value->Heap->Prop):Prop:=
 (sB ((p0.n:Int)==0) 
  (R (.bool true) h) 
  ((Fn Pz 162 #[.slice p0.a p0.n p0.c,.int .i64 0] h 
  (fun v1 h4=>∃x2:Sl,∃x3:Int,v1=.tuple ⟨[.slice x2.a x2.n x2.c,.int .i64 x3]⟩ /\ 
  R (.bool (x3==0)) h4))))
theorem vc90e (p0:Sl) (h:Heap) (R:Value->Heap->Prop):W90 p0 h R=fnW Pz 90 .z #[.slice p0.a p0.n p0.c] h R:=by kernel_rfl
theorem vc90 (p0:Sl) (h:Heap) (R:Value->Heap->Prop) (H:W90 p0 h R):Fn Pz 90 #[.slice p0.a p0.n p0.c] h R:=fnI (vc90e p0 h R) H
/- farandole/global.ordered
   loop rlrborrlbrrrb: x_35:Int
   loop rlrborrlbrrrb: x_93:Int
   loop rlrb: x_14:Int -/
def W91 (p0_1:ByteArray) (p0_2:Sl) (p0_3:Sl) (p0_4:Int) (p0_5:Int) (p0_6:Int) (p0_7:Sl) (p0_8:Sl) (h:Heap) (R:Value->Heap->Prop):Prop:=
 (Wn h [.string p0_1,vS p0_2,vS p0_3,vI p0_4,vI p0_5,vI p0_6,vS p0_7,vS p0_8] 27 fun h9=>
 (∃x10,rS h9 (aS h 6) x10 /\ 
 (QI 0 h9 fun I11 x_14 h15 m13=>(
 (sB (decide (x_14<(x10.n:Int))) 
 ((NB x10.a fun b16 o17=>(Ib x_14 x10.n /\ 
 (∃x18:Int,∃x19:Int,∃x20:Int,∃x21:Int,∃x22:Int,∃x23:Bool,atC h15 ⟨b16,o17+Int.toNat x_14*6,none⟩ [vI x18,vI x19,vI x20,vI x21,vI x22,.bool x23] /\ 
 (Wn h15 [vI 0,vI 0,vI 0,vI 0,vI 0,.bool false] 67 fun h24=>
 (Wp h24 (aS h15 0) 6 [vI x18,vI x19,vI x20,vI x21,vI x22,.bool x23] fun h25=>
 (∃x26,rI h25 (aS h15 0) x26 /\ 
 (∃x27,rI h25 (aS h 5) x27 /\ 
 (sB (x26==x27) 
 (R (.bool false) h25) 
 ((∃x28,rB h25 (aS h15 5) x28 /\ 
 (sB x28 
 ((∃x29,rI h25 (aS h15 0) x29 /\ 
 (∃x30,rI h25 (aS h 4) x30 /\ 
 (sB (x29==x30) 
 (R (.bool false) h25) 
 ((∃x31,rS h25 (aS h 6) x31 /\ 
 (QI 0 h25 fun I32 x_35 h36 m34=>(
 (sB (decide (x_35<(x31.n:Int))) 
 ((NB x31.a fun b37 o38=>(Ib x_35 x31.n /\ 
 (∃x39:Int,∃x40:Int,∃x41:Int,∃x42:Int,∃x43:Int,∃x44:Bool,atC h36 ⟨b37,o38+Int.toNat x_35*6,none⟩ [vI x39,vI x40,vI x41,vI x42,vI x43,.bool x44] /\ 
 (Wn h36 [vI 0,vI 0,vI 0,vI 0,vI 0,.bool false] 67 fun h45=>
 (Wp h45 (aS h36 0) 6 [vI x39,vI x40,vI x41,vI x42,vI x43,.bool x44] fun h46=>
 (sB (x_14 != x_35) 
 ((∃x47,rI h46 (aS h15 0) x47 /\ 
 (∃x48,rI h46 (aS h36 0) x48 /\ 
 (sB (x47==x48) 
 ((∃x49:Int,∃x50:Int,∃x51:Int,atC h46 (aS h15 1) [vI x49,vI x50,vI x51] /\ 
 (∃x52:Int,∃x53:Int,∃x54:Int,atC h46 (aS h36 1) [vI x52,vI x53,vI x54] /\ 
 (sB ((x49==x52)&&((x50==x53)&&((x51==x54)&&true))) 
 (R (.bool false) h46) 
 ((∃x55,rI h46 (aS h15 1) x55 /\ 
 (∃x56,rI h46 (aS h36 1) x56 /\ 
 (sB (x55 != x56) 
 (R (.bool false) h46) 
 ((∃x57,rB h46 (aS h15 5) x57 /\ 
 (sB x57 
 (R (.bool false) h46) 
 ((∃x58,rB h46 (aS h15 5) x58 /\ 
 (sB x58 
 ((∃x59,rI h46 (aS h36 4) x59 /\ 
 (∃x60,rI h46 (aS h15 0) x60 /\ 
 (sB (x59==x60) 
 ((∃x61,rI h46 (aS h15 1) x61 /\ 
 (∃x62,rI h46 (aS h36 1) x62 /\ 
 (sB (x61 != x62) 
 (R (.bool false) h46) 
 ((∃x63,rI h46 (aS h15 (1+2)) x63 /\ 
 (∃x64,rI h46 (aS h36 (1+2)) x64 /\ 
 (sB (x63 != x64) 
 (R (.bool false) h46) 
 ((∃m65,m65<m34/\I32 (IntKind.wrap .i64 (x_35+1)) h46 m65)))))))))) 
 ((∃m66,m66<m34/\I32 (IntKind.wrap .i64 (x_35+1)) h46 m66)))))) 
 ((∃m67,m67<m34/\I32 (IntKind.wrap .i64 (x_35+1)) h46 m67)))))))))))))))) 
 ((∃x68,rB h46 (aS h15 5) x68 /\ 
 (sB x68 
 ((∃x69,rI h46 (aS h36 4) x69 /\ 
 (∃x70,rI h46 (aS h15 0) x70 /\ 
 (sB (x69==x70) 
 ((∃x71,rI h46 (aS h15 1) x71 /\ 
 (∃x72,rI h46 (aS h36 1) x72 /\ 
 (sB (x71 != x72) 
 (R (.bool false) h46) 
 ((∃x73,rI h46 (aS h15 (1+2)) x73 /\ 
 (∃x74,rI h46 (aS h36 (1+2)) x74 /\ 
 (sB (x73 != x74) 
 (R (.bool false) h46) 
 ((∃m75,m75<m34/\I32 (IntKind.wrap .i64 (x_35+1)) h46 m75)))))))))) 
 ((∃m76,m76<m34/\I32 (IntKind.wrap .i64 (x_35+1)) h46 m76)))))) 
 ((∃m77,m77<m34/\I32 (IntKind.wrap .i64 (x_35+1)) h46 m77))))))))) 
 ((∃x78,rB h46 (aS h15 5) x78 /\ 
 (sB x78 
 ((∃x79,rI h46 (aS h36 4) x79 /\ 
 (∃x80,rI h46 (aS h15 0) x80 /\ 
 (sB (x79==x80) 
 ((∃x81,rI h46 (aS h15 1) x81 /\ 
 (∃x82,rI h46 (aS h36 1) x82 /\ 
 (sB (x81 != x82) 
 (R (.bool false) h46) 
 ((∃x83,rI h46 (aS h15 (1+2)) x83 /\ 
 (∃x84,rI h46 (aS h36 (1+2)) x84 /\ 
 (sB (x83 != x84) 
 (R (.bool false) h46) 
 ((∃m85,m85<m34/\I32 (IntKind.wrap .i64 (x_35+1)) h46 m85)))))))))) 
 ((∃m86,m86<m34/\I32 (IntKind.wrap .i64 (x_35+1)) h46 m86)))))) 
 ((∃m87,m87<m34/\I32 (IntKind.wrap .i64 (x_35+1)) h46 m87)))))))))))) 
 ((∃m88,m88<m13/\I11 (IntKind.wrap .i64 (x_14+1)) h36 m88))))))))))) 
 ((∃x89,rS h25 (aS h 6) x89 /\ 
 (QI 0 h25 fun I90 x_93 h94 m92=>(
 (sB (decide (x_93<(x89.n:Int))) 
 ((NB x89.a fun b95 o96=>(Ib x_93 x89.n /\ 
 (∃x97:Int,∃x98:Int,∃x99:Int,∃x100:Int,∃x101:Int,∃x102:Bool,atC h94 ⟨b95,o96+Int.toNat x_93*6,none⟩ [vI x97,vI x98,vI x99,vI x100,vI x101,.bool x102] /\ 
 (Wn h94 [vI 0,vI 0,vI 0,vI 0,vI 0,.bool false] 67 fun h103=>
 (Wp h103 (aS h94 0) 6 [vI x97,vI x98,vI x99,vI x100,vI x101,.bool x102] fun h104=>
 (sB (x_14 != x_93) 
 ((∃x105,rI h104 (aS h15 0) x105 /\ 
 (∃x106,rI h104 (aS h94 0) x106 /\ 
 (sB (x105==x106) 
 ((∃x107:Int,∃x108:Int,∃x109:Int,atC h104 (aS h15 1) [vI x107,vI x108,vI x109] /\ 
 (∃x110:Int,∃x111:Int,∃x112:Int,atC h104 (aS h94 1) [vI x110,vI x111,vI x112] /\ 
 (sB ((x107==x110)&&((x108==x111)&&((x109==x112)&&true))) 
 (R (.bool false) h104) 
 ((∃x113,rI h104 (aS h15 1) x113 /\ 
 (∃x114,rI h104 (aS h94 1) x114 /\ 
 (sB (x113 != x114) 
 (R (.bool false) h104) 
 ((∃x115,rB h104 (aS h15 5) x115 /\ 
 (sB x115 
 (R (.bool false) h104) 
 ((∃x116,rB h104 (aS h15 5) x116 /\ 
 (sB x116 
 ((∃x117,rI h104 (aS h94 4) x117 /\ 
 (∃x118,rI h104 (aS h15 0) x118 /\ 
 (sB (x117==x118) 
 ((∃x119,rI h104 (aS h15 1) x119 /\ 
 (∃x120,rI h104 (aS h94 1) x120 /\ 
 (sB (x119 != x120) 
 (R (.bool false) h104) 
 ((∃x121,rI h104 (aS h15 (1+2)) x121 /\ 
 (∃x122,rI h104 (aS h94 (1+2)) x122 /\ 
 (sB (x121 != x122) 
 (R (.bool false) h104) 
 ((∃m123,m123<m92/\I90 (IntKind.wrap .i64 (x_93+1)) h104 m123)))))))))) 
 ((∃m124,m124<m92/\I90 (IntKind.wrap .i64 (x_93+1)) h104 m124)))))) 
 ((∃m125,m125<m92/\I90 (IntKind.wrap .i64 (x_93+1)) h104 m125)))))))))))))))) 
 ((∃x126,rB h104 (aS h15 5) x126 /\ 
 (sB x126 
 ((∃x127,rI h104 (aS h94 4) x127 /\ 
 (∃x128,rI h104 (aS h15 0) x128 /\ 
 (sB (x127==x128) 
 ((∃x129,rI h104 (aS h15 1) x129 /\ 
 (∃x130,rI h104 (aS h94 1) x130 /\ 
 (sB (x129 != x130) 
 (R (.bool false) h104) 
 ((∃x131,rI h104 (aS h15 (1+2)) x131 /\ 
 (∃x132,rI h104 (aS h94 (1+2)) x132 /\ 
 (sB (x131 != x132) 
 (R (.bool false) h104) 
 ((∃m133,m133<m92/\I90 (IntKind.wrap .i64 (x_93+1)) h104 m133)))))))))) 
 ((∃m134,m134<m92/\I90 (IntKind.wrap .i64 (x_93+1)) h104 m134)))))) 
 ((∃m135,m135<m92/\I90 (IntKind.wrap .i64 (x_93+1)) h104 m135))))))))) 
 ((∃x136,rB h104 (aS h15 5) x136 /\ 
 (sB x136 
 ((∃x137,rI h104 (aS h94 4) x137 /\ 
 (∃x138,rI h104 (aS h15 0) x138 /\ 
 (sB (x137==x138) 
 ((∃x139,rI h104 (aS h15 1) x139 /\ 
 (∃x140,rI h104 (aS h94 1) x140 /\ 
 (sB (x139 != x140) 
 (R (.bool false) h104) 
 ((∃x141,rI h104 (aS h15 (1+2)) x141 /\ 
 (∃x142,rI h104 (aS h94 (1+2)) x142 /\ 
 (sB (x141 != x142) 
 (R (.bool false) h104) 
 ((∃m143,m143<m92/\I90 (IntKind.wrap .i64 (x_93+1)) h104 m143)))))))))) 
 ((∃m144,m144<m92/\I90 (IntKind.wrap .i64 (x_93+1)) h104 m144)))))) 
 ((∃m145,m145<m92/\I90 (IntKind.wrap .i64 (x_93+1)) h104 m145)))))))))))) 
 ((∃m146,m146<m13/\I11 (IntKind.wrap .i64 (x_14+1)) h94 m146))))))))))))))))))) 
 (R (.bool true) h15))))))
theorem vc91e (p0_1:ByteArray) (p0_2:Sl) (p0_3:Sl) (p0_4:Int) (p0_5:Int) (p0_6:Int) (p0_7:Sl) (p0_8:Sl) (h:Heap) (R:Value->Heap->Prop):W91 p0_1 p0_2 p0_3 p0_4 p0_5 p0_6 p0_7 p0_8 h R=fnW Pz 91 (.s .z (.s (.s .z (.b (.l [(10,.one (.int .i64))] (.s .z (.s .z (.s (.b (.s .z (.s .z (.s .z (.b (.l [(34,.one (.int .i64))] .z)))))) .z)))))) .z)) #[.agg ⟨[.string p0_1,.slice p0_2.a p0_2.n p0_2.c,.slice p0_3.a p0_3.n p0_3.c,.int .i64 p0_4,.int .i64 p0_5,.int .i64 p0_6,.slice p0_7.a p0_7.n p0_7.c,.slice p0_8.a p0_8.n p0_8.c]⟩] h R:=by kernel_rfl
theorem vc91 (p0_1:ByteArray) (p0_2:Sl) (p0_3:Sl) (p0_4:Int) (p0_5:Int) (p0_6:Int) (p0_7:Sl) (p0_8:Sl) (h:Heap) (R:Value->Heap->Prop) (H:W91 p0_1 p0_2 p0_3 p0_4 p0_5 p0_6 p0_7 p0_8 h R):Fn Pz 91 #[.agg ⟨[.string p0_1,.slice p0_2.a p0_2.n p0_2.c,.slice p0_3.a p0_3.n p0_3.c,.int .i64 p0_4,.int .i64 p0_5,.int .i64 p0_6,.slice p0_7.a p0_7.n p0_7.c,.slice p0_8.a p0_8.n p0_8.c]⟩] h R:=fnI (vc91e p0_1 p0_2 p0_3 p0_4 p0_5 p0_6 p0_7 p0_8 h R) H
/- farandole/global.timed
   loop rrlrb: last_14:Int, x_15:Int -/
def W92 (p0_1:ByteArray) (p0_2:Sl) (p0_3:Sl) (p0_4:Int) (p0_5:Int) (p0_6:Int) (p0_7:Sl) (p0_8:Sl) (h:Heap) (R:Value->Heap->Prop):Prop:=
 (∀h9:Heap,h9=h.push (.cells ⟨[.string p0_1,.slice p0_2.a p0_2.n p0_2.c,.slice p0_3.a p0_3.n p0_3.c,.int .i64 p0_4,.int .i64 p0_5,.int .i64 p0_6,.slice p0_7.a p0_7.n p0_7.c,.slice p0_8.a p0_8.n p0_8.c]⟩ 27) -> 
 (∃x10:Sl,hc h9 ⟨h.size,7,none⟩=some (.slice x10.a x10.n x10.c) /\ 
 (∃I11:Int->Int->Heap->Nat->Prop,(∃m12,I11 (-1) 0 h9 m12) /\ 
 (∀(_:Env) (last_14:Int) (x_15:Int) (h16:Heap) (m13:Nat),I11 last_14 x_15 h16 m13 -> 
 (sB (decide (x_15<(x10.n:Int))) 
  ((NB x10.a fun b17 o18=>((0<=(x_15:Int)/\(x_15:Int)<(x10.n:Nat)) /\ 
  (∃x19:Int,∃x20:Int,∃x21:Int,atC h16 ⟨b17,o18+Int.toNat x_15*3,none⟩ [.int .i64 x19,.int .i64 x20,.int .i64 x21] /\ 
  (∀h22:Heap,h22=h16.push (.cells ⟨[.int .i64 0,.int .i64 0,.int .i64 0]⟩ 149) -> 
  (okAt h22 ⟨h16.size,0,none⟩ 3/\∀h23:Heap,h23=hputs h22 ⟨h16.size,0,none⟩ 0 [.int .i64 x19,.int .i64 x20,.int .i64 x21] -> 
  (∃x24:Int,hc h23 ⟨h16.size,0,none⟩=some (.int .i64 x24) /\ 
  (sB (decide (x24<=last_14)) 
   (R (.bool false) h23) 
   ((∃x25:Int,hc h23 ⟨h16.size,1,none⟩=some (.int .i64 x25) /\ 
   (sB (decide (x25<1)) 
   (R (.bool false) h23) 
   ((∃x26:Int,hc h23 ⟨h16.size,1,none⟩=some (.int .i64 x26) /\ 
   (sB (decide (x26>1000)) 
    (R (.bool false) h23) 
    ((∃x27:Int,hc h23 ⟨h16.size,2,none⟩=some (.int .i64 x27) /\ 
    (sB (decide (x27<0)) 
    (R (.bool false) h23) 
    ((∃x28:Int,hc h23 ⟨h16.size,2,none⟩=some (.int .i64 x28) /\ 
    (∃x29:Sl,hc h23 ⟨h.size,6,none⟩=some (.slice x29.a x29.n x29.c) /\ 
    (sB (decide (x28>=(x29.n:Int))) 
     (R (.bool false) h23) 
     ((∃x30:Sl,hc h23 ⟨h.size,6,none⟩=some (.slice x30.a x30.n x30.c) /\ 
     (∃x31:Int,hc h23 ⟨h16.size,2,none⟩=some (.int .i64 x31) /\ 
     (NB x30.a fun b32 o33=>((0<=(x31:Int)/\(x31:Int)<(x30.n:Nat)) /\ 
     (∃x34:Int,hc h23 ⟨b32,o33+Int.toNat x31*6,none⟩=some (.int .i64 x34) /\ 
     (∃x35:Int,hc h23 ⟨h16.size,0,none⟩=some (.int .i64 x35) /\ 
     (sB (x34 != x35) 
     (R (.bool false) h23) 
     ((∃x36:Sl,hc h23 ⟨h.size,6,none⟩=some (.slice x36.a x36.n x36.c) /\ 
     (∃x37:Int,hc h23 ⟨h16.size,2,none⟩=some (.int .i64 x37) /\ 
     (NB x36.a fun b38 o39=>((0<=(x37:Int)/\(x37:Int)<(x36.n:Nat)) /\ 
     (∃x40:Bool,hc h23 ⟨b38,o39+Int.toNat x37*6+5,none⟩=some (.bool x40) /\ 
     (sB x40 
      (R (.bool false) h23) 
      ((∃x41:Int,hc h23 ⟨h16.size,0,none⟩=some (.int .i64 x41) /\ 
      (∃m42,m42<m13/\I11 x41 (IntKind.wrap .i64 (x_15+1)) h23 m42))))))))))))))))))))))))))))))))))))))) 
  (R (.bool true) h16))))))
theorem vc92e (p0_1:ByteArray) (p0_2:Sl) (p0_3:Sl) (p0_4:Int) (p0_5:Int) (p0_6:Int) (p0_7:Sl) (p0_8:Sl) (h:Heap) (R:Value->Heap->Prop):W92 p0_1 p0_2 p0_3 p0_4 p0_5 p0_6 p0_7 p0_8 h R=fnW Pz 92 (.s .z (.s .z (.s (.s .z (.b (.l [(3,.one (.int .i64)),(9,.one (.int .i64))] .z))) .z))) #[.agg ⟨[.string p0_1,.slice p0_2.a p0_2.n p0_2.c,.slice p0_3.a p0_3.n p0_3.c,.int .i64 p0_4,.int .i64 p0_5,.int .i64 p0_6,.slice p0_7.a p0_7.n p0_7.c,.slice p0_8.a p0_8.n p0_8.c]⟩] h R:=by kernel_rfl
theorem vc92 (p0_1:ByteArray) (p0_2:Sl) (p0_3:Sl) (p0_4:Int) (p0_5:Int) (p0_6:Int) (p0_7:Sl) (p0_8:Sl) (h:Heap) (R:Value->Heap->Prop) (H:W92 p0_1 p0_2 p0_3 p0_4 p0_5 p0_6 p0_7 p0_8 h R):Fn Pz 92 #[.agg ⟨[.string p0_1,.slice p0_2.a p0_2.n p0_2.c,.slice p0_3.a p0_3.n p0_3.c,.int .i64 p0_4,.int .i64 p0_5,.int .i64 p0_6,.slice p0_7.a p0_7.n p0_7.c,.slice p0_8.a p0_8.n p0_8.c]⟩] h R:=fnI (vc92e p0_1 p0_2 p0_3 p0_4 p0_5 p0_6 p0_7 p0_8 h R) H
/- slices.Index[[]int,int]
   loop rlrb: x_4:Int -/
def W163 (p0:Sl) (p1:Int) (h:Heap) (R:Value->Heap->Prop):Prop:=
 (∃I1:Int->Heap->Nat->Prop,(∃m2,I1 0 h m2) /\ 
 (∀(_:Env) (x_4:Int) (h5:Heap) (m3:Nat),I1 x_4 h5 m3 -> 
 (sB (decide (x_4<(p0.n:Int))) 
  ((NB p0.a fun b6 o7=>((0<=(x_4:Int)/\(x_4:Int)<(p0.n:Nat)) /\ 
  (∃x8:Int,hc h5 ⟨b6,o7+Int.toNat x_4*1,none⟩=some (.int .i64 x8) /\ 
  (sB (p1==x8) 
   (R (.int .i64 x_4) h5) 
   ((∃m9,m9<m3/\I1 (IntKind.wrap .i64 (x_4+1)) h5 m9))))))) 
  (R (.int .i64 (-1)) h5))))
theorem vc163e (p0:Sl) (p1:Int) (h:Heap) (R:Value->Heap->Prop):W163 p0 p1 h R=fnW Pz 163 (.s .z (.s (.s .z (.b (.l [(8,.one (.int .i64))] .z))) .z)) #[.slice p0.a p0.n p0.c,.int .i64 p1] h R:=by kernel_rfl
theorem vc163 (p0:Sl) (p1:Int) (h:Heap) (R:Value->Heap->Prop) (H:W163 p0 p1 h R):Fn Pz 163 #[.slice p0.a p0.n p0.c,.int .i64 p1] h R:=fnI (vc163e p0 p1 h R) H
/- slices.Contains[[]int,int] -/
def W93 (p0:Sl) (p1:Int) (h:Heap) (R:Value->Heap->Prop):Prop:=
 (Fn Pz 163 #[.slice p0.a p0.n p0.c,.int .i64 p1] h 
 (fun v1 h3=>∃x2:Int,v1=.int .i64 x2 /\ 
 R (.bool (decide (x2>=0))) h3))
theorem vc93e (p0:Sl) (p1:Int) (h:Heap) (R:Value->Heap->Prop):W93 p0 p1 h R=fnW Pz 93 .z #[.slice p0.a p0.n p0.c,.int .i64 p1] h R:=by kernel_rfl
theorem vc93 (p0:Sl) (p1:Int) (h:Heap) (R:Value->Heap->Prop) (H:W93 p0 p1 h R):Fn Pz 93 #[.slice p0.a p0.n p0.c,.int .i64 p1] h R:=fnI (vc93e p0 p1 h R) H
/- slices.Repeat[[]int,int]
   loop rrrrrrlb: n_15:Int
   join rrr: 
   join r:  -/
def W77 (p0:Sl) (p1:Int) (h:Heap) (R:Value->Heap->Prop):Prop:=
 (∃J1:Heap->Prop, 
 ((sB (decide (p1<0)) 
  (False) 
  ((J1 h)))) /\ 
 (∀(_:Env) (h2:Heap),J1 h2 -> 
 (Fn Pz 141 #[.int .u64 (IntKind.wrap .u64 (p0.n:Int)),.int .u64 (IntKind.wrap .u64 p1)] h2 
  (fun v3 h6=>∃x4:Int,∃x5:Int,v3=.tuple ⟨[.int .u64 x4,.int .u64 x5]⟩ /\ 
  (∃J7:Heap->Prop, 
  ((sB (decide (x4>0)) 
   (False) 
   ((sB (decide (x5>9223372036854775807)) 
   (False) 
   ((J7 h6)))))) /\ 
  (∀(_:Env) (h8:Heap),J7 h8 -> 
  (((0:Int)<=(IntKind.wrap .i64 x5)/\((IntKind.wrap .i64 x5):Int)<=(IntKind.wrap .i64 x5)/\((8:Nat):Int)*(IntKind.wrap .i64 x5)<=140737488355328)/\∀h9:Heap,h9=h8.push (.cells ⟨madeL Pz 3 (Int.toNat (IntKind.wrap .i64 x5))⟩ 3) -> 
  (Cpy Pz 102 102 (.slice (some ⟨h8.size,0,none⟩) (Int.toNat (IntKind.wrap .i64 x5)) (Int.toNat (IntKind.wrap .i64 x5))) (.slice p0.a p0.n p0.c) h9 fun n10 h11=>
  (∃I12:Int->Heap->Nat->Prop,(∃m13,I12 n10 h11 m13) /\ 
  (∀(_:Env) (n_15:Int) (h16:Heap) (m14:Nat),I12 n_15 h16 m14 -> 
  (sB (decide (n_15<((Int.toNat (IntKind.wrap .i64 x5)):Int))) 
   ((((0:Int)<=(n_15:Int)/\(n_15:Int)<=(((Int.toNat (IntKind.wrap .i64 x5)):Nat):Int)/\(((Int.toNat (IntKind.wrap .i64 x5)):Nat):Int)<=((Int.toNat (IntKind.wrap .i64 x5)):Nat)) /\ 
   (((0:Int)<=(0:Int)/\(0:Int)<=(n_15:Int)/\(n_15:Int)<=((Int.toNat (IntKind.wrap .i64 x5)):Nat)) /\ 
   (Cpy Pz 102 102 (.slice (subA (some ⟨h8.size,0,none⟩) (Int.toNat n_15) (Int.toNat (IntKind.wrap .i64 x5)) 1) (Int.toNat ((Int.toNat (IntKind.wrap .i64 x5)):Nat)-Int.toNat n_15) ((Int.toNat (IntKind.wrap .i64 x5))-Int.toNat n_15)) (.slice (subA (some ⟨h8.size,0,none⟩) (Int.toNat 0) (Int.toNat (IntKind.wrap .i64 x5)) 1) (Int.toNat n_15-Int.toNat 0) ((Int.toNat (IntKind.wrap .i64 x5))-Int.toNat 0)) h16 fun n17 h18=>
   (∃m19,m19<m14/\I12 (IntKind.wrap .i64 (n_15+n17)) h18 m19))))) 
   (R (.slice (some ⟨h8.size,0,none⟩) (Int.toNat (IntKind.wrap .i64 x5)) (Int.toNat (IntKind.wrap .i64 x5))) h16))))))))))))
theorem vc77e (p0:Sl) (p1:Int) (h:Heap) (R:Value->Heap->Prop):W77 p0 p1 h R=fnW Pz 77 (.s .z (.j [] .z (.s .z (.j [] .z (.s .z (.s .z (.s (.b (.l [(8,.one (.int .i64))] .z)) .z))))))) #[.slice p0.a p0.n p0.c,.int .i64 p1] h R:=by kernel_rfl
theorem vc77 (p0:Sl) (p1:Int) (h:Heap) (R:Value->Heap->Prop) (H:W77 p0 p1 h R):Fn Pz 77 #[.slice p0.a p0.n p0.c,.int .i64 p1] h R:=fnI (vc77e p0 p1 h R) H
/- farandole/global.spread
   join rrrlrborlbrborrlbrr: a_44:Int, b_45:Int
   loop rrrlrborlbrb: todo_28:Sl, x_29:Int
   loop rrrlrb: todo_22:Sl -/
def W94 (p0_1:ByteArray) (p0_2:Sl) (p0_3:Sl) (p0_4:Int) (p0_5:Int) (p0_6:Int) (p0_7:Sl) (p0_8:Sl) (p1:Int) (p2:Bool) (h:Heap) (R:Value->Heap->Prop):Prop:=
 (Wn h [.string p0_1,vS p0_2,vS p0_3,vI p0_4,vI p0_5,vI p0_6,vS p0_7,vS p0_8] 27 fun h9=>
 (Wn h9 [vI (-1)] 3 fun h10=>
 (∃x11,rI h10 (aS h 3) x11 /\ 
 (Fn Pz 77 #[.slice (some (aS h9 0)) 1 1,vI x11] h10 
 (fun v12 h14=>∃x13,iS v12 x13 /\ 
 (NB x13.a fun b15 o16=>(Ib p1 x13.n /\ 
 (Wp h14 ⟨b15,o16+Int.toNat p1*1,none⟩ 1 [vI 0] fun h17=>
 (Wn h17 [vI p1] 3 fun h18=>
 (QS ⟨(some (aS h17 0)),1,1⟩ h18 fun I19 todo_22 h23 m21=>(
 (sB (decide ((todo_22.n:Int)>0)) 
 ((∃x24,rS h23 (aS h 6) x24 /\ 
 (QSI todo_22 0 h23 fun I25 todo_28 x_29 h30 m27=>(
 (sB (decide (x_29<(x24.n:Int))) 
 ((NB x24.a fun b31 o32=>(Ib x_29 x24.n /\ 
 (∃x33:Int,∃x34:Int,∃x35:Int,∃x36:Int,∃x37:Int,∃x38:Bool,atC h30 ⟨b31,o32+Int.toNat x_29*6,none⟩ [vI x33,vI x34,vI x35,vI x36,vI x37,.bool x38] /\ 
 (Wn h30 [vI 0,vI 0,vI 0,vI 0,vI 0,.bool false] 67 fun h39=>
 (Wp h39 (aS h30 0) 6 [vI x33,vI x34,vI x35,vI x36,vI x37,.bool x38] fun h40=>
 (∃x41,rI h40 (aS h30 0) x41 /\ 
 (∃x42,rI h40 (aS h30 4) x42 /\ 
 (∃J43:Int->Int->Heap->Prop, 
 ((sB p2 
 ((J43 x42 x41 h40)) 
 ((J43 x41 x42 h40)))) /\ 
 (∀(_:Env) (a_44:Int) (b_45:Int) (h46:Heap),J43 a_44 b_45 h46 -> 
 (NB todo_28.a fun b47 o48=>(Ib 0 todo_28.n /\ 
 (∃x49,rI h46 ⟨b47,o48+Int.toNat 0*1,none⟩ x49 /\ 
 (sB (a_44==x49) 
 ((NB x13.a fun b50 o51=>(Ib b_45 x13.n /\ 
 (∃x52,rI h46 ⟨b50,o51+Int.toNat b_45*1,none⟩ x52 /\ 
 (sB (decide (x52<0)) 
 ((NB x13.a fun b53 o54=>(Ib a_44 x13.n /\ 
 (∃x55,rI h46 ⟨b53,o54+Int.toNat a_44*1,none⟩ x55 /\ 
 (NB x13.a fun b56 o57=>(Ib b_45 x13.n /\ 
 (Wp h46 ⟨b56,o57+Int.toNat b_45*1,none⟩ 1 [vI (IntKind.wrap .i64 (x55+1))] fun h58=>
 (Wn h58 [vI b_45] 3 fun h59=>
 (App Pz 102 102 (vS todo_28) (.slice (some (aS h58 0)) 1 1) h59 fun s60 h61=>
 (∃m62,m62<m27/\I25 s60 (IntKind.wrap .i64 (x_29+1)) h61 m62)))))))))) 
 ((∃m63,m63<m27/\I25 todo_28 (IntKind.wrap .i64 (x_29+1)) h46 m63))))))) 
 ((∃m64,m64<m27/\I25 todo_28 (IntKind.wrap .i64 (x_29+1)) h46 m64)))))))))))))))) 
 ((((0:Int)<=(1:Int)/\(1:Int)<=((todo_28.n:Nat):Int)/\((todo_28.n:Nat):Int)<=(todo_28.c:Nat)) /\ 
 (∃m65,m65<m21/\I19 ⟨(subA todo_28.a (Int.toNat 1) todo_28.c 1),(Int.toNat (todo_28.n:Nat)-Int.toNat 1),(todo_28.c-Int.toNat 1)⟩ h30 m65)))))))) 
 (R (vS x13) h23)))))))))))))
theorem vc94e (p0_1:ByteArray) (p0_2:Sl) (p0_3:Sl) (p0_4:Int) (p0_5:Int) (p0_6:Int) (p0_7:Sl) (p0_8:Sl) (p1:Int) (p2:Bool) (h:Heap) (R:Value->Heap->Prop):W94 p0_1 p0_2 p0_3 p0_4 p0_5 p0_6 p0_7 p0_8 p1 p2 h R=fnW Pz 94 (.s .z (.s .z (.s .z (.s (.s .z (.b (.l [(8,.one (.slice))] (.s .z (.s (.b (.s .z (.b (.l [(8,.one (.slice)),(30,.one (.int .i64))] (.s .z (.s .z (.s (.b (.s .z (.s .z (.j [(11,.one (.int .i64)),(12,.one (.int .i64))] .z .z)))) .z))))))) .z))))) .z)))) #[.agg ⟨[.string p0_1,.slice p0_2.a p0_2.n p0_2.c,.slice p0_3.a p0_3.n p0_3.c,.int .i64 p0_4,.int .i64 p0_5,.int .i64 p0_6,.slice p0_7.a p0_7.n p0_7.c,.slice p0_8.a p0_8.n p0_8.c]⟩,.int .i64 p1,.bool p2] h R:=by kernel_rfl
theorem vc94 (p0_1:ByteArray) (p0_2:Sl) (p0_3:Sl) (p0_4:Int) (p0_5:Int) (p0_6:Int) (p0_7:Sl) (p0_8:Sl) (p1:Int) (p2:Bool) (h:Heap) (R:Value->Heap->Prop) (H:W94 p0_1 p0_2 p0_3 p0_4 p0_5 p0_6 p0_7 p0_8 p1 p2 h R):Fn Pz 94 #[.agg ⟨[.string p0_1,.slice p0_2.a p0_2.n p0_2.c,.slice p0_3.a p0_3.n p0_3.c,.int .i64 p0_4,.int .i64 p0_5,.int .i64 p0_6,.slice p0_7.a p0_7.n p0_7.c,.slice p0_8.a p0_8.n p0_8.c]⟩,.int .i64 p1,.bool p2] h R:=fnI (vc94e p0_1 p0_2 p0_3 p0_4 p0_5 p0_6 p0_7 p0_8 p1 p2 h R) H
/- farandole/global.Valid -/
def W40 (p0_1:ByteArray) (p0_2:Sl) (p0_3:Sl) (p0_4:Int) (p0_5:Int) (p0_6:Int) (p0_7:Sl) (p0_8:Sl) (h:Heap) (R:Value->Heap->Prop):Prop:=
 (∀h9:Heap,h9=h.push (.cells ⟨[.string p0_1,.slice p0_2.a p0_2.n p0_2.c,.slice p0_3.a p0_3.n p0_3.c,.int .i64 p0_4,.int .i64 p0_5,.int .i64 p0_6,.slice p0_7.a p0_7.n p0_7.c,.slice p0_8.a p0_8.n p0_8.c]⟩ 27) -> 
 (∃x10:ByteArray,∃x11:Sl,∃x12:Sl,∃x13:Int,∃x14:Int,∃x15:Int,∃x16:Sl,∃x17:Sl,atC h9 ⟨h.size,0,none⟩ [.string x10,.slice x11.a x11.n x11.c,.slice x12.a x12.n x12.c,.int .i64 x13,.int .i64 x14,.int .i64 x15,.slice x16.a x16.n x16.c,.slice x17.a x17.n x17.c] /\ 
 (Fn Pz 88 #[.agg ⟨[.string x10,.slice x11.a x11.n x11.c,.slice x12.a x12.n x12.c,.int .i64 x13,.int .i64 x14,.int .i64 x15,.slice x16.a x16.n x16.c,.slice x17.a x17.n x17.c]⟩] h9 
 (fun v18 h20=>∃x19:Bool,v18=.bool x19 /\ 
 (sB x19 
  ((∃x21:ByteArray,∃x22:Sl,∃x23:Sl,∃x24:Int,∃x25:Int,∃x26:Int,∃x27:Sl,∃x28:Sl,atC h20 ⟨h.size,0,none⟩ [.string x21,.slice x22.a x22.n x22.c,.slice x23.a x23.n x23.c,.int .i64 x24,.int .i64 x25,.int .i64 x26,.slice x27.a x27.n x27.c,.slice x28.a x28.n x28.c] /\ 
  (Fn Pz 89 #[.agg ⟨[.string x21,.slice x22.a x22.n x22.c,.slice x23.a x23.n x23.c,.int .i64 x24,.int .i64 x25,.int .i64 x26,.slice x27.a x27.n x27.c,.slice x28.a x28.n x28.c]⟩] h20 
  (fun v29 h31=>∃x30:Bool,v29=.bool x30 /\ 
  (sB x30 
  ((∃x32:Sl,hc h31 ⟨h.size,2,none⟩=some (.slice x32.a x32.n x32.c) /\ 
  (Fn Pz 90 #[.slice x32.a x32.n x32.c] h31 
  (fun v33 h35=>∃x34:Bool,v33=.bool x34 /\ 
  (sB x34 
   ((∃x36:ByteArray,∃x37:Sl,∃x38:Sl,∃x39:Int,∃x40:Int,∃x41:Int,∃x42:Sl,∃x43:Sl,atC h35 ⟨h.size,0,none⟩ [.string x36,.slice x37.a x37.n x37.c,.slice x38.a x38.n x38.c,.int .i64 x39,.int .i64 x40,.int .i64 x41,.slice x42.a x42.n x42.c,.slice x43.a x43.n x43.c] /\ 
   (Fn Pz 91 #[.agg ⟨[.string x36,.slice x37.a x37.n x37.c,.slice x38.a x38.n x38.c,.int .i64 x39,.int .i64 x40,.int .i64 x41,.slice x42.a x42.n x42.c,.slice x43.a x43.n x43.c]⟩] h35 
   (fun v44 h46=>∃x45:Bool,v44=.bool x45 /\ 
   (sB x45 
   ((∃x47:ByteArray,∃x48:Sl,∃x49:Sl,∃x50:Int,∃x51:Int,∃x52:Int,∃x53:Sl,∃x54:Sl,atC h46 ⟨h.size,0,none⟩ [.string x47,.slice x48.a x48.n x48.c,.slice x49.a x49.n x49.c,.int .i64 x50,.int .i64 x51,.int .i64 x52,.slice x53.a x53.n x53.c,.slice x54.a x54.n x54.c] /\ 
   (Fn Pz 92 #[.agg ⟨[.string x47,.slice x48.a x48.n x48.c,.slice x49.a x49.n x49.c,.int .i64 x50,.int .i64 x51,.int .i64 x52,.slice x53.a x53.n x53.c,.slice x54.a x54.n x54.c]⟩] h46 
   (fun v55 h57=>∃x56:Bool,v55=.bool x56 /\ 
   (sB x56 
    ((∃x58:ByteArray,∃x59:Sl,∃x60:Sl,∃x61:Int,∃x62:Int,∃x63:Int,∃x64:Sl,∃x65:Sl,atC h57 ⟨h.size,0,none⟩ [.string x58,.slice x59.a x59.n x59.c,.slice x60.a x60.n x60.c,.int .i64 x61,.int .i64 x62,.int .i64 x63,.slice x64.a x64.n x64.c,.slice x65.a x65.n x65.c] /\ 
    (∃x66:Int,hc h57 ⟨h.size,4,none⟩=some (.int .i64 x66) /\ 
    (Fn Pz 94 #[.agg ⟨[.string x58,.slice x59.a x59.n x59.c,.slice x60.a x60.n x60.c,.int .i64 x61,.int .i64 x62,.int .i64 x63,.slice x64.a x64.n x64.c,.slice x65.a x65.n x65.c]⟩,.int .i64 x66,.bool false] h57 
    (fun v67 h69=>∃x68:Sl,v67=.slice x68.a x68.n x68.c /\ 
    (Fn Pz 93 #[.slice x68.a x68.n x68.c,.int .i64 (-1)] h69 
    (fun v70 h72=>∃x71:Bool,v70=.bool x71 /\ 
    (sB (!x71) 
    ((∃x73:ByteArray,∃x74:Sl,∃x75:Sl,∃x76:Int,∃x77:Int,∃x78:Int,∃x79:Sl,∃x80:Sl,atC h72 ⟨h.size,0,none⟩ [.string x73,.slice x74.a x74.n x74.c,.slice x75.a x75.n x75.c,.int .i64 x76,.int .i64 x77,.int .i64 x78,.slice x79.a x79.n x79.c,.slice x80.a x80.n x80.c] /\ 
    (∃x81:Int,hc h72 ⟨h.size,5,none⟩=some (.int .i64 x81) /\ 
    (Fn Pz 94 #[.agg ⟨[.string x73,.slice x74.a x74.n x74.c,.slice x75.a x75.n x75.c,.int .i64 x76,.int .i64 x77,.int .i64 x78,.slice x79.a x79.n x79.c,.slice x80.a x80.n x80.c]⟩,.int .i64 x81,.bool true] h72 
    (fun v82 h84=>∃x83:Sl,v82=.slice x83.a x83.n x83.c /\ 
    (Fn Pz 93 #[.slice x83.a x83.n x83.c,.int .i64 (-1)] h84 
    (fun v85 h87=>∃x86:Bool,v85=.bool x86 /\ 
    R (.bool (!x86)) h87))))))) 
    (R (.bool false) h72))))))))) 
    (R (.bool false) h57)))))) 
   (R (.bool false) h46)))))) 
   (R (.bool false) h35)))))) 
  (R (.bool false) h31)))))) 
  (R (.bool false) h20))))))
theorem vc40e (p0_1:ByteArray) (p0_2:Sl) (p0_3:Sl) (p0_4:Int) (p0_5:Int) (p0_6:Int) (p0_7:Sl) (p0_8:Sl) (h:Heap) (R:Value->Heap->Prop):W40 p0_1 p0_2 p0_3 p0_4 p0_5 p0_6 p0_7 p0_8 h R=fnW Pz 40 .z #[.agg ⟨[.string p0_1,.slice p0_2.a p0_2.n p0_2.c,.slice p0_3.a p0_3.n p0_3.c,.int .i64 p0_4,.int .i64 p0_5,.int .i64 p0_6,.slice p0_7.a p0_7.n p0_7.c,.slice p0_8.a p0_8.n p0_8.c]⟩] h R:=by kernel_rfl
theorem vc40 (p0_1:ByteArray) (p0_2:Sl) (p0_3:Sl) (p0_4:Int) (p0_5:Int) (p0_6:Int) (p0_7:Sl) (p0_8:Sl) (h:Heap) (R:Value->Heap->Prop) (H:W40 p0_1 p0_2 p0_3 p0_4 p0_5 p0_6 p0_7 p0_8 h R):Fn Pz 40 #[.agg ⟨[.string p0_1,.slice p0_2.a p0_2.n p0_2.c,.slice p0_3.a p0_3.n p0_3.c,.int .i64 p0_4,.int .i64 p0_5,.int .i64 p0_6,.slice p0_7.a p0_7.n p0_7.c,.slice p0_8.a p0_8.n p0_8.c]⟩] h R:=fnI (vc40e p0_1 p0_2 p0_3 p0_4 p0_5 p0_6 p0_7 p0_8 h R) H
end Go.VC
end

section
namespace Go.VC
def src_ (bk:Bool) (x:Ed):Int:=if bk then x.t else x.f
def dst_ (bk:Bool) (x:Ed):Int:=if bk then x.f else x.t
def Adj (es:List Ed) (bk:Bool) (a b:Int):Prop:=∃x∈es,src_ bk x=a/\dst_ bk x=b
inductive Rch (es:List Ed) (bk:Bool) (a:Int):Int->Prop where
 | refl:Rch es bk a a
 | step {b c:Int}:Rch es bk a b->Adj es bk b c->Rch es bk a c
def Vis (D:List Int) (v:Int):Prop:=0<=v/\∃d,D[v.toNat]?=some d/\0<=d
structure BF (es:List Ed) (bk:Bool) (n:Nat) (s:Int) (D T:List Int):Prop where
 len:D.length=n
 src:Vis D s
 r:∀v,Vis D v->Rch es bk s v
 t:∀t∈T,Vis D t
 c:∀v w,Vis D v->v∉T->Adj es bk v w->Vis D w
 b:∀d∈D,-1<=d/\d+D.count (-1)<=200
theorem vis_set {D:List Int} {b d v:Int} (hb0:0<=b) (hb:b<D.length) (hd:0<=d):Vis (D.set b.toNat d) v ↔ v=b\/Vis D v:=by
 unfold Vis;constructor
 .rintro⟨h0,e,he,h1⟩;by_cases hvb:v=b
  .exact .inl hvb
  .rw[Yy (by omega)] at he;exact .inr ⟨h0,e,he,h1⟩
 .rintro (rfl | ⟨h0,e,he,h1⟩)
  .exact⟨hb0,d,by rw[Yq (by omega)],hd⟩
  .by_cases hvb:v=b
   .subst hvb;exact⟨hb0,d,by rw[Yq (by omega)],hd⟩
   .exact⟨h0,e,by rw[Yy (by omega)];exact he,h1⟩
theorem BF.push {es:List Ed} {bk:Bool} {n:Nat} {s:Int} {D T:List Int} (h:BF es bk n s D T) {a b da db:Int} (ha:Vis D a) (hda:D[a.toNat]?=some da) (hb0:0<=b) (hb:D[b.toNat]?=some db) (hneg:db<0) (hab:Adj es bk a b) :
  BF es bk n s (D.set b.toNat (da+1)) (T++[b])/\(D.set b.toNat (da+1)).count (-1)+1=D.count (-1)/\0<=da/\da+1<=200:=by
 have hbl:=(Ya.1 hb).1;have hbe:=(Ya.1 hb).2;have hda0:0<=da:=by
  obtain⟨_,e,he,h1⟩:=ha;rw[hda] at he;cases he;exact h1
 have hdb:db=-1:=by have:=(h.b db (Yb hb)).1;omega
 subst hdb;have hvs:∀v,Vis (D.set b.toNat (da+1)) v ↔ v=b\/Vis D v:=fun v=>vis_set hb0 (by omega) (by omega);have hpos:0<D.count (-1):=List.count_pos_iff.2 (Yb hb);have hcnt:(D.set b.toNat (da+1)).count (-1)+1=D.count (-1):=by
  rw[List.count_set hbl,hbe];have:((da+1)==(-1:Int))=false:=by simp;omega
  rw[this];simp;omega
 have hub:=(h.b da (Yb hda)).2;refine⟨⟨by rw[Yyh];exact h.len,(hvs s).2 (.inr h.src),fun v hv=>?_,fun t ht=>?_,fun v w hv hn hvw=>?_,fun d hd=>?_⟩,hcnt,hda0,by omega⟩
 .rcases (hvs v).1 hv with rfl | hv
  .exact (h.r a ha).step hab
  .exact h.r v hv
 .rcases Yk.1 ht with ht | ht
  .exact (hvs t).2 (.inr (h.t t ht))
  .rw[Ye] at ht;exact (hvs t).2 (.inl ht)
 .rw[Yk,Ye,not_or] at hn;rcases (hvs v).1 hv with rfl | hv
  .exact absurd rfl hn.2
  .exact (hvs w).2 (.inr (h.c v w hv hn.1 hvw))
 .rcases List.mem_or_eq_of_mem_set hd with hd | rfl
  .have:=h.b d hd;omega
  .omega
theorem BF.start {es:List Ed} {bk:Bool} {n:Nat} {s:Int} (h0:0<=s) (h1:s<n) (hn:n<=200):BF es bk n s ((List.replicate n (-1:Int)).set s.toNat 0) [s]:=by
 have hl:s<(List.replicate n (-1:Int)).length:=by rw[Yg];exact h1
 have hv:∀v,Vis ((List.replicate n (-1:Int)).set s.toNat 0) v ↔ v=s:=fun v=>by
  rw[vis_set h0 hl (by omega)];refine⟨fun h=>h.elim id fun h=>?_,.inl⟩;obtain⟨_,d,hd,h2⟩:=h;have:=List.eq_of_mem_replicate (Yb hd);omega
 have hc:((List.replicate n (-1:Int)).set s.toNat 0).count (-1)<=200:=Yys List.count_le_length (by rw[Yyh,Yg];exact hn);refine⟨by rw[Yyh,Yg],(hv s).2 rfl,fun v h=>?_,fun t ht=>?_,fun v w h hn=>?_,fun d hd=>?_⟩
 .rw[(hv v).1 h];exact .refl
 .rw[Ye] at ht;exact (hv t).2 ht
 .rw[(hv v).1 h] at hn;exact absurd (Ye.2 rfl) hn
 .rcases List.mem_or_eq_of_mem_set hd with hd | rfl
  .rw[List.eq_of_mem_replicate hd];omega
  .omega
theorem BF.end_ {es:List Ed} {bk:Bool} {n:Nat} {s:Int} {D:List Int} (h:BF es bk n s D []) (v:Int):Vis D v ↔ Rch es bk s v:=by
 refine⟨h.r v,fun hr=>?_⟩
 induction hr with
 | refl=>exact h.src
 | step _ hbc ih=>exact h.c _ _ ih (by simp) hbc
theorem BF.all {es:List Ed} {bk:Bool} {n:Nat} {s:Int} {D:List Int} (h:BF es bk n s D []):(-1:Int)∈D ↔ ¬∀v:Int,0<=v->v<n->Rch es bk s v:=by
 constructor
 .intro hm hall;obtain⟨j,hj⟩:=Yf.1 hm;have hl:=(Ya.1 hj).1;obtain⟨_,d,hd,h0⟩:=(h.end_ (j:Int)).2 (hall j (by omega) (by have:=h.len;omega));rw[show ((j:Int)).toNat=j from rfl,hj] at hd;cases hd;omega
 .intro hn;apply Classical.byContradiction;intro hm;apply hn;intro v h0 hv;have hl:v.toNat<D.length:=by have:=h.len;omega
  refine (h.end_ v).1 ⟨h0,D[v.toNat],Yi hl,?_⟩;have h1:=(h.b _ (List.getElem_mem hl)).1;have h2:D[v.toNat] ≠ -1:=fun e=>hm (e ▸ List.getElem_mem hl);omega
end Go.VC
end
