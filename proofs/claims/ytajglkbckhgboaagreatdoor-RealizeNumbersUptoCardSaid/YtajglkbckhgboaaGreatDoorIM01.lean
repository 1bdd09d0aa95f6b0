/- VcCore VcAbb VcAbp VcSound1 VcSound2 VcSound3 VcSound4 VcSound5 VcSound6 VcSound7 VcLib VcAbj VcLib2. -/
import Derived.Calls
import Derived.Orders
import Derived.Test.YtajglkbckhgboaaGreatDoorProg
import Derived.OrdersHeld
import Derived.WalkKit
import Derived.WalkLawsBesides
import Derived.Scope
import Derived.KernelRfl
set_option linter.all false
set_option maxRecDepth 100000
set_option maxHeartbeats 8000000

section
namespace Go.VC
abbrev Heap:=Array Obj
abbrev Env:=Nat->Value
def hc(h:Heap)(a:Addr):Option Value:=
  match h[a.block]? with
  | some (.cells c _ _)=>if a.spot.isSome then none else c[a.off]?
  | _=>none
def fz(h:Heap)(a:Addr):Bool:=
  match h[a.block]? with
  | some (.cells _ _ (lo,hi))=>lo<=a.off&&a.off<hi
  | _=>false
def dH(h:Heap)(a:Addr)(v:Value):Heap:=
  h.modify a.block fun
    | .cells c elem frozen=>.cells (if a.spot.isSome then c else c.setIfInBounds a.off v) elem frozen
    | o=>o
def Ext(h h':Heap):Prop:=h.size<=h'.size/\∀b,b<h.size->h'[b]?=h[b]?
def Hk(ρ:Env)(d:Nat)(v:Value):Env:=fun j=>bif Nat.beq j d then v else ρ j
def bw(ρ:Env):Operand->Value
  | .tmp t=>ρ t
  | .const v=>v
  | .global g=>.pointer (some ⟨g,0,none⟩)
  | .func f=>.func (.func f) #[] #[]
inductive Kd where
  | int (k:IntKind) | bool | str | ptr | slice | map | any
structure Sl where
  a:Option Addr
  n:Nat
  c:Nat
def Kd.T:Kd->Type
  | .int _=>Int | .bool=>Bool | .str=>ByteArray | .ptr=>Option Addr | .slice=>Sl | .map=>Option Nat | .any=>Value
def Kd.val:(k:Kd)->k.T->Value
  | .int k,x=>.int k x
  | .bool,x=>.bool x
  | .str,x=>.string x
  | .ptr,x=>.pointer x
  | .slice,x=>.slice x.a x.n x.c
  | .map,x=>.map x
  | .any,x=>x
def Kd.ex:Kd->(Value->Prop)->Prop
  | .int k,F=>∃x:Int,F (.int k x)
  | .bool,F=>∃x:Bool,F (.bool x)
  | .str,F=>∃x:ByteArray,F (.string x)
  | .ptr,F=>∃x:Option Addr,F (.pointer x)
  | .slice,F=>∃x:Sl,F (.slice x.a x.n x.c)
  | .map,F=>∃x:Option Nat,F (.map x)
  | .any,F=>∃x:Value,F x
def xL:List Kd->(List Value->Prop)->Prop
  | [],F=>F []
  | k::r,F=>k.ex fun v=>xL r fun vs=>F (v::vs)
def qg:IntKind->IntKind->Bool
  | .i8,.i8 | .i16,.i16 | .i32,.i32 | .i64,.i64 | .u8,.u8 | .u16,.u16 | .u32,.u32 | .u64,.u64=>true
  | _,_=>false
def Kd.Hi:(k:Kd)->Value->(k.T->Prop)->Prop
  | .int k,.int k' x,F=>bif qg k k' then F x else False
  | .bool,.bool x,F=>F x
  | .str,.string x,F=>F x
  | .ptr,.pointer x,F=>F x
  | .slice,.slice a n c,F=>F ⟨a,n,c⟩
  | .map,.map x,F=>F x
  | .any,x,F=>F x
  | _,_,_=>False
def flat(P:Program):Nat->TypeId->List Kd
  | 0,_=>[.any]
  | d+1,t=>match P.underlying t with
    | some (.struct fs)=>fs.toList.flatMap fun f=>flat P d f.type
    | some (.array n e)=>(List.replicate n (flat P d e)).flatten
    | some (.int k)=>[.int k]
    | some .bool=>[.bool]
    | some .string=>[.str]
    | some (.pointer _)=>[.ptr]
    | some (.slice _)=>[.slice]
    | some (.map _ _)=>[.map]
    | _=>[.any]
def j9(P:Program)(t:TypeId):Bool:=match P.underlying t with | some (.struct _) | some (.array _ _)=>true | _=>false
def aO(P:Program)(t:TypeId):Nat:=match P.info? t with | some i=>i.size | none=>0
def vv(P:Program)(t:TypeId):Nat:=match P.info? t with | some i=>i.bytes | none=>0
def jR(P:Program)(t:TypeId):Bool:=(P.info? t).isSome&&(P.underlying t).isSome
def bL(P:Program)(t:TypeId):List Value:=match (P.info? t).bind (·.zero) with | some z=>z.cells.toList | none=>[]
def ef(a:Addr)(i:Nat):Addr:=match i with | 0=>a | i+1=>⟨a.block,a.off+(i+1),none⟩
def a8(h:Heap)(a:Addr)(vs:List Value):Prop:=∀i v,vs[i]?=some v->hc h (ef a i)=some v
def nc(h:Heap)(a:Addr)(vs:List Value)(K:Prop):Prop:=match vs with | [v]=>hc h a=some v/\K | vs=>a8 h a vs/\K
def fG(h:Heap)(a:Addr)(n:Nat):Prop:=∀i,i<n->(hc h (ef a i)).isSome=true/\fz h (ef a i)=false
def bh(h:Heap)(a:Addr):Nat->List Value->Heap
  | _,[]=>h
  | i,v::vs=>bh (dH h (ef a i) v) a (i+1) vs
def fF:Value->Bool
  | .agg _ | .tuple _=>false
  | _=>true
def XJ(h:Heap)(a:Addr)(vs:List Value)(K:Heap->Prop):Prop:=
  bif vs.all fF then fG h a vs.length/\∀h',h'=bh h a 0 vs->K h' else False
def sB(b:Bool)(p q:Prop):Prop:=match b with | true=>p | false=>q
def NC(p:Option Addr)(F:Addr->Prop):Prop:=match p with | some a=>F a | none=>False
def NB(p:Option Addr)(F:Nat->Nat->Prop):Prop:=match p with | some ⟨b,o,none⟩=>F b o | _=>False
def ga(s:ByteArray)(i:Nat):Nat:=(s.data.toList.getD i 0).toNat
def bg(a:Option Addr)(l c size:Nat):Option Addr:=if c=l then a else a.map (·.add (l*size))
def ay(l:List Value)(off:Nat)(vs:List Value):List Value:=l.take off++vs++l.drop (off+vs.length)
def zw(P:Program)(fs:List Field):List (Nat × Value)->List Value->(List Value->Prop)->Prop
  | [],l,F=>F l
  | (i,v)::r,l,F=>match fs[i]? with
    | some f=>bif Nat.beq (aO P f.type) v.cells.toList.length&&Nat.ble (f.offset+v.cells.toList.length) l.length&&jR P f.type then zw P fs r (ay l f.offset v.cells.toList) F else False
    | none=>False
def u9(size:Nat):List (Nat × Value)->List Value->(List Value->Prop)->Prop
  | [],l,F=>F l
  | (i,v)::r,l,F=>bif Nat.beq size v.cells.toList.length&&Nat.ble (i*size+v.cells.toList.length) l.length then u9 size r (ay l (i*size) v.cells.toList) F else False
def uA(size:Nat):Nat->List (Nat × Value)->Bool
  | _,[]=>true
  | k,(i,v)::r=>Nat.beq i k&&Nat.beq size v.cells.toList.length&&uA size (k+1) r
def Fy:List (Nat × Value)->List Value
  | []=>[]
  | (_,v)::r=>v.cells.toList++Fy r
def fV:Nat->List Value->List Value | 0,_=>[] | n+1,l=>l++fV n l
def gZ(ρ:Env)(ps:Array (Nat × Operand)):List (Nat × Value):=ps.toList.map fun p=>(p.1,bw ρ p.2)
def gI(x y:Int):Int:=if y<x then y else x
def imax(x y:Int):Int:=if y>x then y else x
def jn(b:Bool)(vs:List Value):Value:=bif b then .agg ⟨vs⟩ else match vs with | u::_=>u | []=>undef
def ah(P:Program)(e:TypeId)(n:Nat):List Value:=(List.replicate n (bL P e)).flatten
class ax where
  rel:World->World->Prop
  refl:∀w,rel w w
  trans:∀ {a b c:World},rel a b->rel b c->rel a c
  heap:∀(w:World) (h:Heap),rel w { w with heap:=h }
  drew:∀w:World,rel w { w with drawn:=w.drawn+1 }
  run:∀ {α:Type} (s:Sem α) (P:Program) (w:World) (v:α) (w':World),s.run P w=.ok v w'->rel w w'
def Fn[ax](P:Program)(f:FuncId)(args:Array Value)(h:Heap)(R:Value->Heap->Prop):Prop:=
  ∀w:World,w.heap=h->Calls P f args w fun e w'=>∃v,e=.returned v/\R v w'.heap/\w'.os=w.os/\w'.tape=w.tape/\w'.output=w.output/\ax.rel w w'
def br{α:Type}(P:Program)(s:Sem α)(h:Heap)(K:α->Heap->Prop):Prop:=
  ∀w:World,w.heap=h->∃v w',s.run P w=.ok v w'/\K v w'.heap/\w'.os=w.os/\w'.tape=w.tape/\w'.output=w.output
def kZ(P:Program)(g:FuncId)(args:Array Value)(h:Heap)(K:Value->Heap->Prop):Prop:=
  ∀w:World,w.heap=h->∃v w',(callFunc g args).run P w=.ok (.value v) w'/\K v w'.heap/\w'.os=w.os/\w'.tape=w.tape/\w'.output=w.output
def au(P : Program)(f : FuncId): Bool := match P.funcs[f]? with | some fn => fn.body.isSome && !(fn.name == "runtime.NumGoroutine") | none => false
def App(P:Program)(t u:TypeId)(s x:Value)(h:Heap)(K:Sl->Heap->Prop):Prop:=
  ∀ty,br P (Builtin.append_ #[t,u] ty #[s,x]) h fun v h'=>∃r:Sl,v=.slice r.a r.n r.c/\K r h'
def Wu(P:Program)(t u:TypeId)(s x:Value)(h:Heap)(K:Int->Heap->Prop):Prop:=
  ∀ty,br P (Builtin.copy_ #[t,u] ty #[s,x]) h fun v h'=>∃r:Int,v=.int .i64 r/\K r h'
def zy(P:Program)(t:TypeId)(F:Value->Prop):Prop:=xL (flat P 9 t) fun vs=>F (jn (j9 P t) vs)
def EZ(P:Program)(v:Value)(K:Value->Prop):List TypeId->List Value->Prop
  | [],acc=>v=.tuple ⟨acc.reverse⟩/\K (.tuple ⟨acc.reverse⟩)
  | t::r,acc=>zy P t fun u=>EZ P v K r (u::acc)
def mw(P:Program)(t:TypeId)(v:Value)(K:Value->Prop):Prop:=
  match P.underlying t with
  | some (.tuple ts)=>EZ P v K ts.toList []
  | some _=>zy P t fun u=>v=u/\K u
  | none=>False
def jg(P:Program):Nat->List Field->List Value->List Value->(Bool->Prop)->Prop
  | _,[],[],[],F=>F true
  | k, f :: fs, u :: us, v :: vs, F => bif Nat.beq f.offset k && !(f.name == "_") then
      (match P.underlying f.type,u,v with
      | some (.int _),.int j a,.int l b=>bif qg j l then jg P (k+1) fs us vs fun r=>F ((a==b)&&r) else False
      | some .string,.string a,.string b=>jg P (k+1) fs us vs fun r=>F ((a.toList==b.toList)&&r)
      | some .bool,.bool a,.bool b=>jg P (k+1) fs us vs fun r=>F ((a==b)&&r)
      | _,_,_=>False) else False
  | _,_,_,_,_=>False
def Fb(P:Program):Nat->List Field->List Value->List Value->(Bool->Prop)->Prop
  | _,[],[],[],F=>F true
  | k, f :: fs, u :: us, v :: vs, F => bif Nat.beq f.offset k && !(f.name == "_") then
      (match P.underlying f.type,u,v with
      | some (.int _),.int j a,.int l b=>bif qg j l then Fb P (k+1) fs us vs fun r=>F ((a==b)&&r) else False
      | some .string,.string a,.string b=>Fb P (k+1) fs us vs fun r=>F ((a.toList==b.toList)&&r)
      | some .bool,.bool a,.bool b=>Fb P (k+1) fs us vs fun r=>F ((a==b)&&r)
      | some (.struct gs),u,v=>bif !P.stoodInHeld f.type&&Nat.ble 1 (aO P f.type) then
          jg P 0 gs.toList ((u::us).take (aO P f.type)) ((v::vs).take (aO P f.type)) fun e=>Fb P (k+aO P f.type) fs ((u::us).drop (aO P f.type)) ((v::vs).drop (aO P f.type)) fun r=>F (e&&r)
        else False
      | _,_,_=>False) else False
  | _,_,_,_,_=>False
def Tg:List Value->List Value->(Bool->Prop)->Prop
  | [],[],F=>F true
  | .int j a::us,.int l b::vs,F=>bif qg j l then Tg us vs fun r=>F ((a==b)&&r) else False
  | _,_,_=>False
def Lj(P:Program)(t:TypeId):Bool:=match P.underlying t with | some (.int _)=>true | _=>false
def Wg(P:Program)(t:TypeId)(us vs:List Value)(F:Bool->Prop):Prop:=match P.underlying t with
  | some (.struct fs)=>bif !P.stoodInHeld t && !P.eqGuardType P.depth t then Fb P 0 fs.toList us vs F else False
  | some (.array n e)=>bif Lj P e&&Nat.beq (aO P e) 1&&jR P e&&Nat.beq us.length n&&Nat.beq vs.length n && !P.eqGuardType P.depth t then Tg us vs F else False
  | _=>False
def wx(k:IntKind)(a b:Int):Int:=k.wrap (a*2^(min b.toNat k.bits))
def bQ(k:IntKind)(a b:Int):Int:=a.fdiv (2^(min b.toNat k.bits))
def B8(k:IntKind)(a b:Int):Int:=k.wrap (BitVec.ofInt k.bits a&&&BitVec.ofInt k.bits b).toNat
def Rb(k:IntKind)(a b:Int):Int:=k.wrap (BitVec.ofInt k.bits a|||BitVec.ofInt k.bits b).toNat
def Pe(k:IntKind)(a b:Int):Int:=k.wrap (BitVec.ofInt k.bits a ^^^ BitVec.ofInt k.bits b).toNat
def Tx(k:IntKind)(a b:Int):Int:=k.wrap (BitVec.ofInt k.bits a &&& ~~~BitVec.ofInt k.bits b).toNat
def p5{α:Type}(a b:Option α)(F:Bool->Prop):Prop:=match b with
  | none=>F a.isNone
  | some _=>match a with | none=>F false | some _=>False
def kU(P:Program)(op:BinOp)(t:TypeId)(x y:Value)(K:Value->Prop):Prop:=
  match op,x,y with
  | .add,.int k a,.int k' b=>bif qg k k' then K (.int k (k.wrap (a+b))) else False
  | .sub,.int k a,.int k' b=>bif qg k k' then K (.int k (k.wrap (a-b))) else False
  | .mul,.int k a,.int k' b=>bif qg k k' then K (.int k (k.wrap (a*b))) else False
  | .quo,.int k a,.int k' b=>bif qg k k' then b≠0/\K (.int k (k.wrap (a.tdiv b))) else False
  | .rem,.int k a,.int k' b=>bif qg k k' then b≠0/\K (.int k (a.tmod b)) else False
  | .shl,.int k a,.int _ b=>0<=b/\K (.int k (wx k a b))
  | .shr,.int k a,.int _ b=>0<=b/\K (.int k (bQ k a b))
  | .and,.int k a,.int k' b=>bif qg k k' then K (.int k (B8 k a b)) else False
  | .or,.int k a,.int k' b=>bif qg k k' then K (.int k (Rb k a b)) else False
  | .xor,.int k a,.int k' b=>bif qg k k' then K (.int k (Pe k a b)) else False
  | .andNot,.int k a,.int k' b=>bif qg k k' then K (.int k (Tx k a b)) else False
  | .eql,.int k a,.int k' b=>bif qg k k' then K (.bool (a==b)) else False
  | .neq,.int k a,.int k' b=>bif qg k k' then K (.bool (a != b)) else False
  | .lss,.int k a,.int k' b=>bif qg k k' then K (.bool (decide (a<b))) else False
  | .leq,.int k a,.int k' b=>bif qg k k' then K (.bool (decide (a<=b))) else False
  | .gtr,.int k a,.int k' b=>bif qg k k' then K (.bool (decide (a>b))) else False
  | .geq,.int k a,.int k' b=>bif qg k k' then K (.bool (decide (a>=b))) else False
  | .eql,.string a,.string b=>K (.bool (a.toList==b.toList))
  | .neq,.string a,.string b=>K (.bool (!(a.toList==b.toList)))
  | .add,.string a,.string b=>a.size+b.size<=9223372036854775807/\K (.string (a++b))
  | .lss,.string a,.string b=>K (.bool (Op.bytesLess a.toList b.toList))
  | .leq,.string a,.string b=>K (.bool (Op.bytesLess a.toList b.toList||a.toList==b.toList))
  | .gtr,.string a,.string b=>K (.bool (!(Op.bytesLess a.toList b.toList||a.toList==b.toList)))
  | .geq,.string a,.string b=>K (.bool (!Op.bytesLess a.toList b.toList))
  | .eql,.agg a,.agg b=>Wg P t a.toList b.toList fun e=>K (.bool e)
  | .neq,.agg a,.agg b=>Wg P t a.toList b.toList fun e=>K (.bool (!e))
  | .eql,.slice a _ _,.slice b _ _=>bif (match P.underlying t with | some (.slice _)=>true | _=>false) then p5 a b fun e=>K (.bool (e)) else False
  | .neq,.slice a _ _,.slice b _ _=>bif (match P.underlying t with | some (.slice _)=>true | _=>false) then p5 a b fun e=>K (.bool (!e)) else False
  | .eql,.pointer a,.pointer b=>bif (match P.underlying t with | some (.pointer _)=>true | _=>false) then p5 a b fun e=>K (.bool (e)) else False
  | .neq,.pointer a,.pointer b=>bif (match P.underlying t with | some (.pointer _)=>true | _=>false) then p5 a b fun e=>K (.bool (!e)) else False
  | .eql,.bool a,.bool b=>bif (match P.underlying t with | some .bool=>true | _=>false) then K (.bool (a==b)) else False
  | .neq,.bool a,.bool b=>bif (match P.underlying t with | some .bool=>true | _=>false) then K (.bool (!(a==b))) else False
  | _,_,_=>False
def bN:Option Value->Int->(Int->Prop)->Prop
  | none,d,F=>F d
  | some (.int _ i),_,F=>F i
  | _,_,_=>False
def rY(P:Program)(s:TypeId)(f:Nat):Option Field:=match P.underlying s with | some (.struct fs)=>fs[f]? | _=>none
def elemOf(P:Program)(t:TypeId):TypeId:=match P.underlying t with | some (.slice e) | some (.array _ e)=>e | _=>0
def sliceB(P:Program)(t:TypeId):Bool:=match P.underlying t with | some (.slice _)=>true | _=>false
def AB(P:Program)(t:TypeId):Bool:=match P.underlying t with | some .string=>true | _=>false
def fP(P:Program)(ρ:Env)(o:Oper)(K:Value->Prop):Prop:=
  match o.op with
  | .move x | .assign x=>K (bw ρ x)
  | .pick c a b=>match bw ρ c with
    | .bool b'=>K (match b' with | true=>bw ρ a | false=>bw ρ b)
    | _=>False
  | .nilCheck x=>match bw ρ x with
    | .pointer p=>NC p fun a=>K (.pointer (some a))
    | .func (.func f) x y=>K (.func (.func f) x y)
    | _=>False
  | .binOp op t x y _=>kU P op t (bw ρ x) (bw ρ y) K
  | .unOp .not _ x=>match bw ρ x with | .bool b=>K (.bool (!b)) | _=>False
  | .unOp .neg _ x=>match bw ρ x with | .int k n=>K (.int k (k.wrap (0-n))) | _=>False
  | .convert s d x=>match P.underlying s,P.underlying d,bw ρ x with
    | some (.int _),some (.int k),.int _ n=>K (.int k (k.wrap n))
    | some .string,some .string,.string b=>K (.string b)
    | _,_,_=>False
  | .makeFunc f x y=>K (.func f (x.map (bw ρ)) (y.map (bw ρ)))
  | .sliceToArrayPointer t x=>match P.underlying t,bw ρ x with
    | some (.array n _),.slice a l _=>n<=l/\NC a fun a=>K (.pointer (some a))
    | _,_=>False
  | .slice t x lo hi none=>match bw ρ x with
    | .string s=>bif AB P t then bN (lo.map (bw ρ)) 0 fun l=>bN (hi.map (bw ρ)) s.size fun r=>(0<=l/\l<=r/\r<=s.size)/\K (.string (s.extract l.toNat r.toNat)) else False
    | .slice a n c=>bif sliceB P t&&jR P (elemOf P t) then bN (lo.map (bw ρ)) 0 fun l=>bN (hi.map (bw ρ)) n fun r=>(0<=l/\l<=r/\r<=c)/\K (.slice (bg a l.toNat c (aO P (elemOf P t))) (r.toNat-l.toNat) (c-l.toNat)) else False
    | .pointer (some a)=>match P.underlying t with
      | some (.array n e)=>bif jR P e then bN (lo.map (bw ρ)) 0 fun l=>bN (hi.map (bw ρ)) n fun r=>(0<=l/\l<=r/\r<=n)/\K (.slice (bg (some a) l.toNat n (aO P e)) (r.toNat-l.toNat) (n-l.toNat)) else False
      | _=>False
    | _=>False
  | .slice t x lo (some hi) (some mx)=>match bw ρ x with
    | .slice a n c=>bif sliceB P t&&jR P (elemOf P t) then bN (lo.map (bw ρ)) 0 fun l=>bN (some (bw ρ hi)) n fun r=>bN (some (bw ρ mx)) c fun m=>
        (0<=l/\l<=r/\r<=m/\m<=c)/\K (.slice (bg a l.toNat m.toNat (aO P (elemOf P t))) (r.toNat-l.toNat) (m.toNat-l.toNat)) else False
    | _=>False
  | .fieldAddr s x f=>match bw ρ x,rY P s f with
    | .pointer (some a),some fd=>bif jR P fd.type && !Nat.beq (aO P fd.type) 0 then K (.pointer (some (ef a fd.offset))) else False
    | _,_=>False
  | .field t x f=>match bw ρ x,rY P t f with
    | .agg cs,some fd=>bif jR P fd.type then (match j9 P fd.type with
        | true=>K (.agg ⟨(cs.toList.drop fd.offset).take (aO P fd.type)⟩)
        | false=>bif Nat.blt fd.offset cs.toList.length then K (cs.toList.getD fd.offset undef) else False) else False
    | _,_=>False
  | .indexAddr t x i=>match bw ρ x,bw ρ i with
    | .slice p n _,.int _ i=>bif sliceB P t&&jR P (elemOf P t) then NB p fun b o=>(0<=i/\i<n)/\K (.pointer (some ⟨b,o+i.toNat*aO P (elemOf P t),none⟩)) else False
    | .pointer (some ⟨b,o,none⟩),.int _ i=>match P.underlying t with
      | some (.array n e)=>bif jR P e then (0<=i/\i<n)/\K (.pointer (some ⟨b,o+i.toNat*aO P e,none⟩)) else False
      | _=>False
    | _,_=>False
  | .index t x i=>match bw ρ x,bw ρ i with
    | .string s,.int _ i=>bif AB P t then (0<=i/\i<s.size)/\K (.int .u8 (ga s i.toNat)) else False
    | .agg cs,.int _ i=>match P.underlying t with
      | some (.array n e)=>bif jR P e && !Nat.beq (aO P e) 0&&Nat.beq (n*aO P e) cs.toList.length then (0<=i/\i<n)/\xL (flat P 9 e) fun vs=>(cs.toList.drop (i.toNat*aO P e)).take (aO P e)=vs/\K (jn (j9 P e) vs) else False
      | _=>False
    | _,_=>False
  | .extract x i=>match bw ρ x with
    | .tuple vs=>bif Nat.blt i vs.toList.length then K (vs.toList.getD i undef) else False
    | _=>False
  | .build t ps=>match P.underlying t with
    | some (.struct fs)=>bif jR P t&&((P.info? t).bind (·.zero)).isSome&&fs.toList.all (fun f=>jR P f.type) then zw P fs.toList (gZ ρ ps) (bL P t) fun l=>K (.agg ⟨l⟩) else False
    | some (.array n e)=>bif jR P t&&((P.info? t).bind (·.zero)).isSome&&jR P e&&Nat.beq (bL P t).length (n*aO P e) then
        (match Nat.beq ps.toList.length n&&uA (aO P e) 0 (gZ ρ ps) with
        | true=>K (.agg ⟨Fy (gZ ρ ps)⟩)
        | false=>u9 (aO P e) (gZ ρ ps) (bL P t) fun l=>K (.agg ⟨l⟩)) else False
    | _=>False
  | .makeInterface t x=>match P.underlying t with
    | some (.interface _) | none=>False
    | _=>K (.iface t (bw ρ x))
  | .call c=>match c.callee with
    | .builtin .len=>match c.args.toList.map (bw ρ),c.argTypes.toList with
      | [.string s],[t]=>bif AB P t then K (.int .i64 s.size) else False
      | [.slice _ n _],[t]=>bif sliceB P t then K (.int .i64 n) else False
      | _,_=>False
    | .builtin .cap=>match c.args.toList.map (bw ρ),c.argTypes.toList with
      | [.slice _ _ n],[t]=>bif sliceB P t then K (.int .i64 n) else False
      | _,_=>False
    | .builtin .min=>match c.args.toList.map (bw ρ) with
      | [.int k x,.int _ y]=>K (.int k (gI x y))
      | [.int k x,.int _ y,.int _ z]=>K (.int k (gI (gI x y) z))
      | [.int k x,.int _ y,.int _ z,.int _ u]=>K (.int k (gI (gI (gI x y) z) u))
      | [.int k x,.int _ y,.int _ z,.int _ u,.int _ v]=>K (.int k (gI (gI (gI (gI x y) z) u) v))
      | _=>False
    | .builtin .max=>match c.args.toList.map (bw ρ) with
      | [.int k x,.int _ y]=>K (.int k (imax x y))
      | [.int k x,.int _ y,.int _ z]=>K (.int k (imax (imax x y) z))
      | [.int k x,.int _ y,.int _ z,.int _ u]=>K (.int k (imax (imax (imax x y) z) u))
      | [.int k x,.int _ y,.int _ z,.int _ u,.int _ v]=>K (.int k (imax (imax (imax (imax x y) z) u) v))
      | _=>False
    | _=>False
  | _=>False
def Vu(P:Program)(ρ:Env)(o:Oper)(h:Heap)(K:Value->Prop):Prop:=
  match o.op with
  | .load t x=>match bw ρ x with
    | .pointer (some a)=>bif jR P t&&Nat.beq (aO P t) (flat P 9 t).length then xL (flat P 9 t) fun vs=>nc h a vs (K (jn (j9 P t) vs)) else False
    | _=>False
  | _=>False
def mV[ax](P:Program)(ρ:Env)(o:Oper)(h:Heap)(K:Value->Heap->Prop):Prop:=
  match o.op with
  | .alloc t=>match (P.info? t).bind (·.zero) with
      | some z=>∀h':Heap,h'=h.push (.cells z.cells t)->K (.pointer (some ⟨h.size,0,none⟩)) h'
      | none=>False
  | .box t x=>∀h':Heap,h'=h.push (.cells (bw ρ x).cells t)->K (.pointer (some ⟨h.size,0,none⟩)) h'
  | .store t x y=>match bw ρ x with
    | .pointer (some a)=>bif jR P t&&Nat.beq (aO P t) (bw ρ y).cells.toList.length then XJ h a (bw ρ y).cells.toList fun h'=>K undef h' else False
    | _=>False
  | .buildSlice t n ps=>bif sliceB P t&&jR P (elemOf P t)&&((P.info? (elemOf P t)).bind (·.zero)).isSome&&Nat.beq (bL P (elemOf P t)).length (aO P (elemOf P t))&&Nat.blt 0 (aO P (elemOf P t))&&Nat.ble (n*aO P (elemOf P t)) 16777216 then
      (match Nat.beq ps.toList.length n&&uA (aO P (elemOf P t)) 0 (gZ ρ ps) with
      | true=>∀h':Heap,h'=h.push (.cells ⟨Fy (gZ ρ ps)⟩ (elemOf P t))->K (.slice (some ⟨h.size,0,none⟩) n n) h'
      | false=>u9 (aO P (elemOf P t)) (gZ ρ ps) (fV n (bL P (elemOf P t))) fun l=>∀h':Heap,h'=h.push (.cells ⟨l⟩ (elemOf P t))->K (.slice (some ⟨h.size,0,none⟩) n n) h') else False
  | .makeSlice t l c=>match bw ρ l,bw ρ c with
    | .int _ l,.int _ c=>bif sliceB P t&&jR P (elemOf P t)&&((P.info? (elemOf P t)).bind (·.zero)).isSome&&Nat.beq (bL P (elemOf P t)).length (aO P (elemOf P t))&&Nat.blt 0 (aO P (elemOf P t))&&Nat.blt 0 (vv P (elemOf P t)) then
        (0<=l/\l<=c/\vv P (elemOf P t)*c<=140737488355328)/\∀h':Heap,h'=h.push (.cells ⟨ah P (elemOf P t) c.toNat⟩ (elemOf P t))->K (.slice (some ⟨h.size,0,none⟩) l.toNat c.toNat) h' else False
    | _,_=>False
  | .convert s d x=>br P (Go.convert s d (bw ρ x)) h fun v h'=>mw P d v fun u=>K u h'
  | .lookup t m k ok=>br P (Instr.lookup t (bw ρ m) (bw ρ k) ok) h fun v h'=>mw P o.type v fun u=>K u h'
  | .mapUpdate t m k x=>br P (Instr.mapUpdate t (bw ρ m) (bw ρ k) (bw ρ x)) h fun _ h'=>K undef h'
  | .insert t m k x=>br P (Instr.mapUpdate t (bw ρ m) (bw ρ k) (bw ρ x)) h fun _ h'=>K undef h'
  | .mapEntry t m k=>br P (Instr.mapEntry t (bw ρ m) (bw ρ k)) h fun v h'=>match P.underlying t with
    | some (.map _ e)=>zy P e fun u=>∃n:Int,v=.tuple ⟨[u,.int .i64 n]⟩/\K (.tuple ⟨[u,.int .i64 n]⟩) h'
    | _=>False
  | .entryStore t m s x=>br P (Instr.entryStore t (bw ρ m) (bw ρ s) (bw ρ x)) h fun _ h'=>K undef h'
  | .makeMap t r=>br P (Instr.makeMap t (r.map (bw ρ))) h fun v h'=>mw P o.type v fun u=>K u h'
  | .range t x=>br P (Instr.range t (bw ρ x)) h fun v h'=>∃a:Addr,v=.pointer (some a)/\K (.pointer (some a)) h'
  | .next x s=>match s with
    | true=>br P (Instr.next (bw ρ x) true o.type) h fun v h'=>(v=.tuple ⟨[.bool false]⟩/\K (.tuple ⟨[.bool false]⟩) h')\/∃k c:Int,v=.tuple ⟨[.bool true,.int .i64 k,.int .i32 c]⟩/\K (.tuple ⟨[.bool true,.int .i64 k,.int .i32 c]⟩) h'
    | false=>br P (Instr.next (bw ρ x) false o.type) h fun v h'=>(v=.tuple ⟨[.bool false]⟩/\K (.tuple ⟨[.bool false]⟩) h')\/∃k c:Value,v=.tuple ⟨[.bool true,k,c]⟩/\K (.tuple ⟨[.bool true,k,c]⟩) h'
  | .call c=>match c.callee with
    | .builtin .append=>match c.args.toList.map (bw ρ),c.argTypes.toList with
      | [s,x],[t,u]=>App P t u s x h fun r h'=>K (.slice r.a r.n r.c) h'
      | _,_=>False
    | .builtin .copy=>match c.args.toList.map (bw ρ),c.argTypes.toList with
      | [s,x],[t,u]=>Wu P t u s x h fun r h'=>K (.int .i64 r) h'
      | _,_=>False
    | .builtin .len=>br P (Builtin.len_ c.argTypes o.type (c.args.map (bw ρ))) h fun v h'=>mw P o.type v fun u=>K u h'
    | .builtin .delete=>br P (Builtin.delete_ c.argTypes o.type (c.args.map (bw ρ))) h fun v h'=>K v h'
    | .builtin .clear=>br P (Builtin.clear_ c.argTypes o.type (c.args.map (bw ρ))) h fun v h'=>K v h'
    | .value f=>match bw ρ f with
      | .func (.func g) first cap=>bif au P g then Fn P g (first++c.args.map (bw ρ)++cap) h (fun v h'=>mw P o.type v fun u=>K u h') else kZ P g (first++c.args.map (bw ρ)++cap) h (fun v h'=>mw P o.type v fun u=>K u h')
      | _=>False
    | _=>False
  | _=>False
def HN(P:Program)(o:Op):Nat:=
  match o with
  | .load ..=>1
  | .alloc _ | .box .. | .store .. | .buildSlice .. | .makeSlice .. | .lookup .. | .mapUpdate .. | .insert .. | .mapEntry .. | .entryStore .. | .makeMap .. | .range .. | .next ..=>2
  | .convert s d _=>match P.underlying s,P.underlying d with | some (.int _),some (.int _)=>0 | some .string,some .string=>0 | _,_=>2
  | .call c=>match c.callee with
    | .builtin .len=>match c.argTypes.toList with | [t]=>bif AB P t||sliceB P t then 0 else 2 | _=>2
    | .builtin .cap | .builtin .min | .builtin .max=>0
    | _=>2
  | _=>0
def Vr[ax](P:Program)(ρ:Env)(o:Oper)(h:Heap)(K:Value->Heap->Prop):Prop:=
  match HN P o.op with
  | 0=>fP P ρ o fun v=>K v h
  | 1=>Vu P ρ o h fun v=>K v h
  | _=>mV P ρ o h K
/- loops and joins: typed slots -/
inductive SK where
  | one (k:Kd) | agg (ks:List Kd)
def GL:List Kd->Type->Type
  | [],X=>X
  | k::r,X=>k.T->GL r X
def yb:List (Nat × SK)->Type->Type
  | [],X=>X
  | (_,.one k)::r,X=>k.T->yb r X
  | (_,.agg ks)::r,X=>GL ks (yb r X)
def FQ{X:Type}:(ks:List Kd)->GL ks X->List Value->(X->Prop)->Prop
  | [],f,[],F=>F f
  | k::r,f,v::vs,F=>k.Hi v fun x=>FQ r (f x) vs F
  | _,_,_,_=>False
def vD{X:Type}:(sl:List (Nat × SK))->yb sl X->Env->(X->Prop)->Prop
  | [],f,_,F=>F f
  | (s,.one k)::r,f,ρ,F=>k.Hi (ρ s) fun x=>vD r (f x) ρ F
  | (s,.agg ks)::r,f,ρ,F=>match ρ s with
    | .agg cs=>FQ ks f cs.toList fun f'=>vD r f' ρ F
    | _=>False
def FV{X:Type}:(ks:List Kd)->GL ks X->(List Value->X->Prop)->Prop
  | [],f,F=>F [] f
  | k::r,f,F=>∀x:k.T,FV r (f x) fun vs f'=>F (k.val x::vs) f'
def vH{X:Type}:(sl:List (Nat × SK))->yb sl X->Env->(Env->X->Prop)->Prop
  | [],f,ρ,F=>F ρ f
  | (s,.one k)::r,f,ρ,F=>∀x:k.T,vH r (f x) (Hk ρ s (k.val x)) F
  | (s,.agg ks)::r,f,ρ,F=>FV ks f fun vs f'=>vH r f' (Hk ρ s (.agg ⟨vs⟩)) F
inductive ll where
  | z
  | s (l r:ll)
  | j (sl:List (Nat × SK)) (l r:ll)
  | b (x:ll)
  | l (sl:List (Nat × SK)) (x:ll)
  | c (t e:ll)
def ll.left:ll->ll | .s a _=>a | .j _ a _=>a | _=>.z
def ll.right:ll->ll | .s _ a=>a | .j _ _ a=>a | _=>.z
def ll.in_:ll->ll | .b a=>a | .l _ a=>a | _=>.z
def ll.thn:ll->ll | .c a _=>a | _=>.z
def ll.els:ll->ll | .c _ a=>a | _=>.z
def q6(ops:List Oper):List Nat:=ops.filterMap (·.dst)
def kR:Code->List Nat
  | .region _ ops _=>q6 ops.toList
  | .seq a b=>kR a++kR b
  | .cond _ a b=>kR a++kR b
  | .block _ a=>kR a
  | .loop a=>kR a
  | .scope a=>kR a
  | _=>[]
def zp(l:List Nat)(ρ j:Env):Env:=fun i=>bif l.any (Nat.beq i) then j i else ρ i
def iP(ops:List Oper)(j:Nat):Bool:=ops.any fun o=>match o.guard with | some (i,_)=>Nat.beq i j | none=>false
def tH(n:Nat)(ρ:Env)(d:Option Nat)(v:Value)(K:Env->Prop):Prop:=match d with | some d=>bif Nat.blt d n then K (Hk ρ d v) else False | none=>K ρ
def B9(n:Nat)(used:Bool)(ρ:Env)(d:Option Nat)(v:Value)(K:Env->Prop):Prop:=
  bif used then (match v with | .bool b=>sB b (tH n ρ d (.bool true) K) (tH n ρ d (.bool false) K) | _=>False) else tH n ρ d v K
def SV(all:List Oper)(ρ:Env)(g:Option (Nat × Bool))(go skip:Prop):Prop:=
  match g with
  | none=>go
  | some (j,want)=>match (all[j]?).bind (·.dst) with
    | some d=>match ρ d with
      | .bool b=>sB (b==want) go skip
      | _=>skip
    | none=>skip
def Du[ax](P:Program)(n:Nat)(all:List Oper):List Oper->Nat->Env->Heap->(Env->Heap->Prop)->Prop
  | [],_,ρ,h,K=>K ρ h
  | o::rest,i,ρ,h,K=>
    SV all ρ o.guard
      (Vr P ρ o h fun v h'=>B9 n (iP all i) ρ o.dst v fun ρ'=>Du P n all rest (i+1) ρ' h' K)
      (tH n ρ o.dst undef fun ρ'=>Du P n all rest (i+1) ρ' h K)
/- a region that draws its order -/
def bD(l:List Nat)(i:Nat):Bool:=l.any (Nat.beq i)
def lR(e:Edge):Bool:=match e.ground with | .textOnly _ | .gcOnly _=>false | _=>true
def AU(o:Oper)(l:List Nat):Bool:=o.after.toList.all fun e=>!lR e||bD l e.on
def oW(ops:List Oper)(l:List Nat):Nat->List Oper->List Nat
  | _,[]=>[]
  | i,o::r=>bif !bD l i&&AU o l then i::oW ops l (i+1) r else oW ops l (i+1) r
def Tl(e:Edge):Bool:=match e.ground with | .data=>true | _=>false
def lp(ops:List Oper)(i:Nat):Nat->Oper->Bool
  | 0,_=>false
  | f+1,o=>o.after.toList.any fun e=>lR e&&(Nat.beq e.on i||(Tl e&&match ops[e.on]? with | some o'=>lp ops i f o' | none=>false))
def NL(ρ:Env)(o:Oper):Option Addr:=match o.op with
  | .load _ x=>match bw ρ x with | .pointer a=>a | _=>none
  | _=>none
def adp(i:Nat)(a:Option Addr)(ad:List (Nat × Addr)):List (Nat × Addr):=match a with | some a=>(i,a)::ad | none=>ad
def mc(ops:List Oper)(o:Oper):List (Nat × Addr)->List Addr
  | []=>[]
  | (i,a)::r=>bif lp ops i 9 o then mc ops o r else a::mc ops o r
def Sm(al:List Addr)(h h':Heap):Prop:=∀a∈al,∀k v,hc h (ef a k)=some v->hc h' (ef a k)=some v
def smW(al:List Addr)(h h':Heap)(K:Prop):Prop:=match al with | []=>K | a::r=>Sm (a::r) h h'/\K
def I5:Option Nat->Option Nat->Bool
  | some a,some b=>Nat.beq a b
  | none,none=>true
  | _,_=>false
def rA(ops:List Oper)(o:Oper):List Nat:=
  (o.op.operands.toList.filterMap fun | .tmp t=>some t | _=>none)++(match o.guard with | some (j,_)=>((ops[j]?).bind (·.dst)).toList | none=>[])
def xT(ops:List Oper)(x y:Oper):Bool:=
  (match x.dst with | some d=>!bD (rA ops y) d && !I5 y.dst (some d) | none=>true)&&(match y.dst with | some d=>!bD (rA ops x) d | none=>true)
def uY(ops:List Oper)(l:List Nat)(i:Nat)(oi:Oper):Bool:=
  ops.zipIdx.all fun (oj,j)=>Nat.beq j i||bD l j||oj.after.toList.any (fun e=>lR e&&Nat.beq e.on i)||xT ops oi oj
def oc(P:Program)(ops:List Oper)(l:List Nat):List Nat->Option (Nat × Oper)
  | []=>none
  | i::r=>match ops[i]? with
    | some o=>bif Nat.blt (HN P o.op) 2&&uY ops l i o then some (i,o) else oc P ops l r
    | none=>oc P ops l r
def C4(ops:List Oper):Bool:=ops.all fun o=>match o.op with | .select ..=>false | _=>true
def xU:List Nat->(Nat->Prop)->Prop
  | [],_=>True
  | [i],F=>F i
  | i::r,F=>F i/\xU r F
def js[ax](P:Program)(n:Nat)(ops:List Oper):Nat->List Nat->List (Nat × Addr)->Env->Heap->(Env->Heap->Prop)->Prop
  | 0,l,ad,ρ,h,K=>match oW ops l 0 ops with | []=>K ρ h | _=>False
  | fuel+1,l,ad,ρ,h,K=>match oW ops l 0 ops with
    | []=>K ρ h
    | rs=>match oc P ops l rs with
      | some (i,o)=>SV ops ρ o.guard
          (match HN P o.op with
           | 0=>fP P ρ o fun v=>B9 n (iP ops i) ρ o.dst v fun ρ'=>js P n ops fuel (i::l) ad ρ' h K
           | _=>Vu P ρ o h fun v=>B9 n (iP ops i) ρ o.dst v fun ρ'=>js P n ops fuel (i::l) (adp i (NL ρ o) ad) ρ' h K)
          (tH n ρ o.dst undef fun ρ'=>js P n ops fuel (i::l) ad ρ' h K)
      | none=>xU rs fun i=>match ops[i]? with
        | some o=>bif Nat.beq (HN P o.op) 2 then SV ops ρ o.guard
            (Vr P ρ o h fun v h'=>smW (mc ops o ad) h h' (B9 n (iP ops i) ρ o.dst v fun ρ'=>js P n ops fuel (i::l) ad ρ' h' K))
            (tH n ρ o.dst undef fun ρ'=>js P n ops fuel (i::l) ad ρ' h K) else False
        | none=>False
inductive Ex where
  | n | x (id:Nat) | r
def yg(next:Env->Heap->Prop)(Q:Ex->Env->Heap->Prop):Ex->Env->Heap->Prop
  | .n,ρ,h=>next ρ h
  | e,ρ,h=>Q e ρ h
def FC(id:Nat)(Q:Ex->Env->Heap->Prop):Ex->Env->Heap->Prop
  | .x i,ρ,h=>bif Nat.beq i id then Q .n ρ h else Q (.x i) ρ h
  | e,ρ,h=>Q e ρ h
def df[ax](P:Program)(n:Nat):Code->ll->(Ex->Env->Heap->Prop)->Env->Heap->Prop
  | .skip,_,Q,ρ,h=>Q .n ρ h
  | .label _,_,Q,ρ,h=>Q .n ρ h
  | .region _ ops draw,_,Q,ρ,h=>match draw with
    | false=>Du P n ops.toList ops.toList 0 ρ h (Q .n)
    | true=>bif P.follows .mixedOrders&&C4 ops.toList then js P n ops.toList ops.toList.length [] [] ρ h (Q .n) else False
  | .seq x y,A,Q,ρ,h=>match A with
    | .j sl a b=>∃J:yb sl (Heap->Prop),df P n x a (yg (fun ρ' h'=>vD sl J ρ' fun J'=>J' h') Q) ρ h /\
        ∀j:Env,vH sl J (zp (kR x) ρ j) fun ρ' J'=>∀h',J' h'->df P n y b Q ρ' h'
    | A=>df P n x A.left (yg (df P n y A.right Q) Q) ρ h
  | .cond c x y,A,Q,ρ,h=>match bw ρ c with
    | .bool b=>sB b (df P n x A.thn Q ρ h) (df P n y A.els Q ρ h)
    | _=>False
  | .block id x,A,Q,ρ,h=>df P n x A.in_ (FC id Q) ρ h
  | .loop x,A,Q,ρ,h=>match A with
    | .l sl a=>∃I:yb sl (Heap->Nat->Prop),(∃m,vD sl I ρ fun I'=>I' h m) /\
        ∀j:Env,vH sl I (zp (kR x) ρ j) fun ρ' I'=>∀h' m,I' h' m->df P n x a (yg (fun ρ'' h''=>∃m',m'<m/\vD sl I ρ'' fun I''=>I'' h'' m') Q) ρ' h'
    | _=>False
  | .scope x,A,Q,ρ,h=>df P n x A.in_ Q ρ h
  | .exit id,_,Q,ρ,h=>Q (.x id) ρ h
  | .ret,_,Q,ρ,h=>Q .r ρ h
  | _,_,_,_,_=>False
def AQ(P:Program)(h:Heap)(ρ:Env):List ResultVar->(List Value->Prop)->Prop
  | [],K=>K []
  | .tmp t::r,K=>AQ P h ρ r fun vs=>K (ρ t::vs)
  | .cell t ty::r,K=>match ρ t with
    | .pointer (some a)=>bif jR P ty&&Nat.beq (aO P ty) (flat P 9 ty).length then xL (flat P 9 ty) fun vs=>nc h a vs (AQ P h ρ r fun us=>K (jn (j9 P ty) vs::us)) else False
    | _=>False
def XG(P:Program)(rs:List ResultVar)(R:Value->Heap->Prop):Ex->Env->Heap->Prop
  | .n,ρ,h | .r,ρ,h=>AQ P h ρ rs fun vs=>match vs with | [v]=>R v h | vs=>R (.tuple ⟨vs⟩) h
  | _,_,_=>False
def MP(args:Array Value):Env:=fun j=>args.toList.getD j undef
def fnW[ax](P:Program)(f:FuncId)(A:ll)(args:Array Value)(h:Heap)(R:Value->Heap->Prop):Prop:=
  match P.funcs[f]? with
  | some fn=>match fn.body with
    | some c=>bif Nat.ble args.toList.length fn.ntmps then df P fn.ntmps c A (XG P fn.results.toList R) (MP args) h else False
    | none=>False
  | none=>False
abbrev vI(x:Int):Value:=.int .i64 x
abbrev vS(s:Sl):Value:=.slice s.a s.n s.c
abbrev rI(h:Heap)(a:Addr)(x:Int):Prop:=hc h a=some (vI x)
abbrev rB(h:Heap)(a:Addr)(x:Bool):Prop:=hc h a=some (.bool x)
abbrev rS(h:Heap)(a:Addr)(x:Sl):Prop:=hc h a=some (vS x)
abbrev rT(h:Heap)(a:Addr)(x:ByteArray):Prop:=hc h a=some (.string x)
abbrev iI(v:Value)(x:Int):Prop:=v=vI x
abbrev iB(v:Value)(x:Bool):Prop:=v=.bool x
abbrev iS(v:Value)(x:Sl):Prop:=v=vS x
abbrev Mk(x y:Int)(n:Nat):Prop:=(0:Int)<=x/\x<=y/\(n:Int)*y<=140737488355328
abbrev Wn(h:Heap)(l:List Value)(t:TypeId)(K:Heap->Prop):Prop:=∀g:Heap,g=h.push (.cells ⟨l⟩ t)->K g
abbrev Wp(h:Heap)(a:Addr)(n:Nat)(l:List Value)(K:Heap->Prop):Prop:=fG h a n/\∀g:Heap,g=bh h a 0 l->K g
abbrev aS(h:Heap)(i:Nat):Addr:=⟨h.size,i,none⟩
abbrev Ib(x:Int)(n:Nat):Prop:=0<=x/\x<(n:Int)
abbrev Ya:=@List.getElem?_eq_some_iff
abbrev Yb:=@List.mem_of_getElem?
abbrev Yc:=@List.length_map
abbrev Yd:=@List.getElem?_map
abbrev Ye:=@List.mem_singleton
abbrev Yf:=@List.mem_iff_getElem?
abbrev Yg:=@List.length_replicate
abbrev Yh:=@List.length_append
abbrev Yi:=@List.getElem?_eq_getElem
abbrev Yj:=@List.take_of_length_le
abbrev Yk:=@List.mem_append
abbrev Yl:=@List.getElem?_eq_none
abbrev Ym:=@List.map_append
abbrev Yn:=@List.mem_cons_of_mem
abbrev Yo:=@List.getD_eq_getElem?_getD
abbrev Yp:=@List.mem_map
abbrev Yq:=@List.getElem?_set_self
abbrev Yr:=@List.mem_cons
abbrev Ys:=@Int.toNat_natCast
abbrev Yt:=@Bool.and_eq_true
abbrev Yu:=@List.length_take
abbrev Yv:=@List.length_singleton
abbrev Yw:=@List.append_nil
abbrev Yx:=@List.mem_cons_self
abbrev Yy:=@List.getElem?_set_ne
abbrev Yz:=@List.append_assoc
abbrev zL:=@Option.map_eq_some_iff
abbrev xX:=@List.getElem?_range
abbrev qJ:=@List.getElem?_append_right
abbrev mG:=@List.length_range
abbrev xW:=@List.take_length
abbrev vM:=@List.getElem?_take
abbrev wo:=@Array.getElem?_eq_some_iff
abbrev mF:=@List.length_set
abbrev jw:=@List.getElem?_append_left
abbrev mD:=@List.length_cons
abbrev sX:=@List.take_zero
abbrev kf:=@List.map_cons
abbrev Wl:=@List.mem_filterMap
abbrev bM:=@of_decide_eq_true
abbrev eB:=@of_decide_eq_false
abbrev eU:=@Option.some.inj
abbrev O8:=@List.take_append_of_le_length
abbrev wm:=@List.ext_getElem?
abbrev mQ:=@Nat.le_trans
abbrev aY:=@Nat.le_refl
abbrev ss:=@List.flatten_cons
abbrev L0(x0:ByteArray)(x1 x2:Sl)(x3 x4 x5:Int)(x6 x7:Sl):List Value:=[.string x0,vS x1,vS x2,vI x3,vI x4,vI x5,vS x6,vS x7]
abbrev eT(h:Heap)(a:Addr)(x0:ByteArray)(x1 x2:Sl)(x3 x4 x5:Int)(x6 x7:Sl):Prop:=a8 h a (L0 x0 x1 x2 x3 x4 x5 x6 x7)
abbrev L1(x0 x1:Int)(x2 x3:Sl)(x4:Int)(x5:Bool)(x6 x7:Int)(x8:Sl)(x9:Int)(GU:Bool)(Wz Wy:Int)(CE:Sl):List Value:=[vI x0,vI x1,vS x2,vS x3,vI x4,.bool x5,vI x6,vI x7,vS x8,vI x9,.bool GU,vI Wz,vI Wy,vS CE]
abbrev lU(h:Heap)(a:Addr)(x0 x1:Int)(x2 x3:Sl)(x4:Int)(x5:Bool)(x6 x7:Int)(x8:Sl)(x9:Int)(GU:Bool)(Wz Wy:Int)(CE:Sl):Prop:=a8 h a (L1 x0 x1 x2 x3 x4 x5 x6 x7 x8 x9 GU Wz Wy CE)
abbrev L2(x0 x1 x2:Int):List Value:=[vI x0,vI x1,vI x2]
abbrev jh(h:Heap)(a:Addr)(x0 x1 x2:Int):Prop:=a8 h a (L2 x0 x1 x2)
abbrev L3(x0:Bool)(x1 x2:Int):List Value:=[.bool x0,vI x1,vI x2]
abbrev mP(h:Heap)(a:Addr)(x0:Bool)(x1 x2:Int):Prop:=a8 h a (L3 x0 x1 x2)
abbrev L4(x0 x1 x2 x3 x4:Int)(x5:Bool):List Value:=[vI x0,vI x1,vI x2,vI x3,vI x4,.bool x5]
abbrev mB(h:Heap)(a:Addr)(x0 x1 x2 x3 x4:Int)(x5:Bool):Prop:=a8 h a (L4 x0 x1 x2 x3 x4 x5)
abbrev L5(x0 x1 x2 x3:Int):List Value:=[vI x0,vI x1,vI x2,vI x3]
abbrev Cy(h:Heap)(a:Addr)(x0 x1 x2 x3:Int):Prop:=a8 h a (L5 x0 x1 x2 x3)
abbrev L6(x0:ByteArray)(x1:Sl)(x2:Int)(x3 x4:Sl):List Value:=[.string x0,vS x1,vI x2,vS x3,vS x4]
abbrev NN(h:Heap)(a:Addr)(x0:ByteArray)(x1:Sl)(x2:Int)(x3 x4:Sl):Prop:=a8 h a (L6 x0 x1 x2 x3 x4)
abbrev L7(x0:ByteArray)(x1 x2 x3:Int):List Value:=[.string x0,vI x1,vI x2,vI x3]
abbrev TH(h:Heap)(a:Addr)(x0:ByteArray)(x1 x2 x3:Int):Prop:=a8 h a (L7 x0 x1 x2 x3)
abbrev L8(x0:Int)(x1:Bool)(x2 x3:Int)(x4:Sl):List Value:=[vI x0,.bool x1,vI x2,vI x3,vS x4]
abbrev aL8(h:Heap)(a:Addr)(x0:Int)(x1:Bool)(x2 x3:Int)(x4:Sl):Prop:=a8 h a (L8 x0 x1 x2 x3 x4)
abbrev L9(x0 x1:Int)(x2:Sl):List Value:=[vI x0,vI x1,vS x2]
abbrev aL9(h:Heap)(a:Addr)(x0 x1:Int)(x2:Sl):Prop:=a8 h a (L9 x0 x1 x2)
abbrev QI(a0:Int)(h:Heap)(F:(Int->Heap->Nat->Prop)->Int->Heap->Nat->Prop):Prop:=∃I:Int->Heap->Nat->Prop,(∃m,I a0 h m)/\∀(_:Env) (x0:Int) (h:Heap) (m:Nat),I x0 h m->F I x0 h m
abbrev vR(a0 a1:Int)(h:Heap)(F:(Int->Int->Heap->Nat->Prop)->Int->Int->Heap->Nat->Prop):Prop:=∃I:Int->Int->Heap->Nat->Prop,(∃m,I a0 a1 h m)/\∀(_:Env) (x0:Int) (x1:Int) (h:Heap) (m:Nat),I x0 x1 h m->F I x0 x1 h m
abbrev QS(a0:Sl)(h:Heap)(F:(Sl->Heap->Nat->Prop)->Sl->Heap->Nat->Prop):Prop:=∃I:Sl->Heap->Nat->Prop,(∃m,I a0 h m)/\∀(_:Env) (x0:Sl) (h:Heap) (m:Nat),I x0 h m->F I x0 h m
abbrev sY(a0:Sl)(a1:Int)(h:Heap)(F:(Sl->Int->Heap->Nat->Prop)->Sl->Int->Heap->Nat->Prop):Prop:=∃I:Sl->Int->Heap->Nat->Prop,(∃m,I a0 a1 h m)/\∀(_:Env) (x0:Sl) (x1:Int) (h:Heap) (m:Nat),I x0 x1 h m->F I x0 x1 h m
abbrev N7(a0 a1:Sl)(a2:Int)(h:Heap)(F:(Sl->Sl->Int->Heap->Nat->Prop)->Sl->Sl->Int->Heap->Nat->Prop):Prop:=∃I:Sl->Sl->Int->Heap->Nat->Prop,(∃m,I a0 a1 a2 h m)/\∀(_:Env) (x0:Sl) (x1:Sl) (x2:Int) (h:Heap) (m:Nat),I x0 x1 x2 h m->F I x0 x1 x2 h m
abbrev vN:Value:=.slice none 0 0
end Go.VC
end

section
namespace Go.VC
open Go.Proofs
noncomputable abbrev Pz:Program:=Tryz.prog
end Go.VC
end

section
namespace Go.VC
def aX(a:Act):Env:=fun j=>a.tmps.getD j undef
def Fr[ax](w w':World):Prop:=w'.os=w.os/\w'.tape=w.tape/\w'.output=w.output/\ax.rel w w'
theorem Fr.refl[ax](w:World):Fr w w:=⟨rfl,rfl,rfl,ax.refl w⟩
theorem Fr.trans[ax]{a b c:World}(h:Fr a b)(k:Fr b c):Fr a c:=⟨k.1.trans h.1,k.2.1.trans h.2.1,k.2.2.1.trans h.2.2.1,ax.trans h.2.2.2 k.2.2.2⟩
theorem kO(a:Act):a.eval=bw (aX a):=by funext x;cases x<;>rfl
theorem Hj{a:Act}{d:Nat}{v:Value}(h:d<a.tmps.size):aX (a.put (some d) v)=Hk (aX a) d v:=by
  funext j
  simp only[aX,Act.put,Hk,Array.getD_eq_getD_getElem?]
  by_cases hj:d=j
  . subst hj
    have:Nat.beq d d=true:=Nat.beq_refl d
    rw[this]
    simp[h]
  . have:(Nat.beq j d)=false:=by
      cases hb:Nat.beq j d
      . rfl
      . exact absurd (Nat.eq_of_beq_eq_true hb).symm hj
    rw[this]
    simp[hj]
theorem eH[ax]{n:Nat}{a:Act}{d:Option Nat}{v:Value}{K:Env->Prop}(hn:a.tmps.size=n)(h:tH n (aX a) d v K):
    K (aX (a.put d v))/\(a.put d v).tmps.size=n:=by
  cases d with
  | none=>exact⟨h,hn⟩
  | some d=>
    simp only[tH] at h
    cases hb:Nat.blt d n with
    | false=>rw[hb] at h;exact h.elim
    | true=>
      rw[hb] at h
      have hd:d<a.tmps.size:=by rw[hn];simpa using hb
      exact⟨by rw[Hj hd];exact h,by simp[Act.put,hn]⟩
theorem nW{j k:IntKind}(h:qg j k=true):j=k:=by cases j<;>cases k<;>first | rfl | cases h
theorem av{b:Bool}{p:Prop}(h:bif b then p else False):b=true/\p:=by cases b<;>simp_all
theorem bq{P:Program}{w:World}{op:BinOp}{t:TypeId}{x y:Operand}{a b:Value}(h:∀cs ds,¬(a=.agg cs/\b=.agg ds))(h2:¬(a=.nilIface/\b=.nilIface)):
    (eqGuard op t x y a b).run P w=.ok () w:=by
  unfold eqGuard
  cases op<;>simp<;>(split<;>simp_all)
theorem bB{P:Program}{op:BinOp}{t:TypeId}{x y:Value}{xo yo:Operand}{v:Value}{w:World}(hg:(eqGuard op t xo yo x y).run P w=.ok () w)(h:(binOp op t x y).run P w=.ok v w):
    (do eqGuard op t xo yo x y;binOp op t x y:Sem Value).run P w=.ok v w:=by
  simp[hg,h]
theorem xN{P:Program}{t:TypeId}{x y:Value}{b:Bool}{w:World}(he:binOp .eql t x y=(do pure (.bool (<-Op.equal t x y))))(h:(Op.equalIn (9999+1) t x y).run P w=.ok b w):(binOp .eql t x y).run P w=.ok (.bool b) w:=by
  have h':(Op.equal t x y).run P w=.ok b w:=h
  rw[he];simp[h']
theorem wO{P:Program}{t:TypeId}{x y:Value}{b:Bool}{w:World}(he:binOp .neq t x y=(do pure (.bool (!(<-Op.equal t x y)))))(h:(Op.equalIn (9999+1) t x y).run P w=.ok b w):(binOp .neq t x y).run P w=.ok (.bool (!b)) w:=by
  have h':(Op.equal t x y).run P w=.ok b w:=h
  rw[he];simp[h']
theorem FG[ax]{P:Program}{op:BinOp}{t:TypeId}{k k':IntKind}{a b:Int}{xo yo:Operand}{K:Value->Prop}(h:kU P op t (.int k a) (.int k' b) K):
    ∃v,K v/\∀w,(do eqGuard op t xo yo (.int k a) (.int k' b);binOp op t (.int k a) (.int k' b):Sem Value).run P w=.ok v w:=by
  cases op<;>simp only[kU] at h <;>
    first
    | exact h.elim
    | (obtain⟨h0,h1⟩:=h
       refine⟨_,h1,fun w=>bB (bq (by simp) (by simp)) ?_⟩
       have EO:¬b<0:=by omega
       simp[binOp,Op.shift,EO,wx,bQ];done)
    | (obtain⟨hk,h1⟩:=av h
       clear h
       obtain rfl:=nW hk
       first
       | (refine⟨_,h1,fun w=>bB (bq (by simp) (by simp)) ?_⟩
          simp[binOp,Op.intBits,B8,Rb,Pe,Tx];done)
       | (obtain⟨h0,h1⟩:=h1
          refine⟨_,h1,fun w=>bB (bq (by simp) (by simp)) ?_⟩
          simp[binOp,Op.intDiv,h0];done)
       | (refine⟨_,h1,fun w=>bB (bq (by simp) (by simp)) ?_⟩
          simp[binOp,Op.intArith,Op.intCmp]))
theorem FE[ax]{P:Program}{op:BinOp}{t:TypeId}{a b:ByteArray}{xo yo:Operand}{K:Value->Prop}(h:kU P op t (.string a) (.string b) K):
    ∃v,K v/\∀w,(do eqGuard op t xo yo (.string a) (.string b);binOp op t (.string a) (.string b):Sem Value).run P w=.ok v w:=by
  cases op<;>simp only[kU] at h <;>
    first
    | exact h.elim
    | (obtain⟨h0,h⟩:=h
       refine⟨_,h,fun w=>bB (bq (by simp) (by simp)) ?_⟩
       have:¬((((a.size+b.size:Nat)):Int)>IntKind.i64.max):=by simp[IntKind.max,IntKind.signed,IntKind.bits];omega
       simp only[binOp,Op.stringOp,this,if_false];rfl)
    | (refine⟨_,h,fun w=>bB (bq (by simp) (by simp)) ?_⟩
       simp[binOp,Op.stringOp])
theorem B5[ax]{P:Program}{op:BinOp}{t:TypeId}{a b:Bool}{xo yo:Operand}{K:Value->Prop}(h:kU P op t (.bool a) (.bool b) K):
    ∃v,K v/\∀w,(do eqGuard op t xo yo (.bool a) (.bool b);binOp op t (.bool a) (.bool b):Sem Value).run P w=.ok v w:=by
  cases op<;>simp only[kU] at h<;>try exact h.elim
  all_goals
    obtain⟨hk,h1⟩:=av h
    have hu:P.underlying t=some .bool:=by split at hk<;>simp_all
    refine⟨_,h1,fun w=>bB (bq (by simp) (by simp)) ?_⟩
    first | refine xN rfl ?_ | refine wO rfl ?_
    generalize 9999=d
    simp[Op.equalIn,underlying,hu]
theorem xS[ax]{P:Program}{op:BinOp}{t:TypeId}{a b:Option Addr}{n c m d:Nat}{xo yo:Operand}{K:Value->Prop}(h:kU P op t (.slice a n c) (.slice b m d) K):
    ∃v,K v/\∀w,(do eqGuard op t xo yo (.slice a n c) (.slice b m d);binOp op t (.slice a n c) (.slice b m d):Sem Value).run P w=.ok v w:=by
  cases op<;>cases a<;>cases b<;>simp only[kU,p5] at h<;>first | exact h.elim | skip
  all_goals first
    | (obtain⟨_,h1⟩:=av h;exact h1.elim)
    | (obtain⟨hk,h1⟩:=av h
       have hu:∃e,P.underlying t=some (.slice e):=by split at hk<;>simp_all
       obtain⟨e,hu⟩:=hu
       refine⟨_,h1,fun w=>bB (bq (by simp) (by simp)) ?_⟩
       first | refine xN rfl ?_ | refine wO rfl ?_
       generalize 9999=d
       simp[Op.equalIn,underlying,hu])
theorem FF[ax]{P:Program}{op:BinOp}{t:TypeId}{a b:Option Addr}{xo yo:Operand}{K:Value->Prop}(h:kU P op t (.pointer a) (.pointer b) K):
    ∃v,K v/\∀w,(do eqGuard op t xo yo (.pointer a) (.pointer b);binOp op t (.pointer a) (.pointer b):Sem Value).run P w=.ok v w:=by
  cases op<;>cases a<;>cases b<;>simp only[kU,p5] at h<;>first | exact h.elim | skip
  all_goals first
    | (obtain⟨_,h1⟩:=av h;exact h1.elim)
    | (obtain⟨hk,h1⟩:=av h
       have hu:∃e,P.underlying t=some (.pointer e):=by split at hk<;>simp_all
       obtain⟨e,hu⟩:=hu
       refine⟨_,h1,fun w=>bB (bq (by simp) (by simp)) ?_⟩
       first | refine xN rfl ?_ | refine wO rfl ?_
       generalize 9999=d
       simp[Op.equalIn,underlying,hu])
theorem my[ax]{P:Program}{xs ys:List Value}{d:Nat}:∀(fs:List Field) (k:Nat) (us vs:List Value) (F:Bool->Prop),
    xs.drop k=us->ys.drop k=vs->jg P k fs us vs F->∃b,F b/\∀w,(Op.eqFields (d+1) ⟨xs⟩ ⟨ys⟩ fs).run P w=.ok b w
  | [],k,us,vs,F,hu,hv,h=>by
    cases us<;>cases vs<;>simp only[jg] at h
    exact⟨true,h,fun _=>rfl⟩
  | f::fs,k,us,vs,F,hu,hv,h=>by
    cases us with
    | nil=>simp[jg] at h
    | cons u us=>
      cases vs with
      | nil=>simp[jg] at h
      | cons v vs=>
        simp only[jg] at h
        obtain⟨hc,h1⟩:=av h
        clear h
        simp only[Yt,Bool.not_eq_true',beq_eq_false_iff_ne,ne_eq] at hc
        obtain⟨ho,hn⟩:=hc
        have ke:f.offset=k:=Nat.eq_of_beq_eq_true ho
        have YD:xs.drop (k+1)=us:=by rw[<-List.drop_drop,hu];rfl
        have YC:ys.drop (k+1)=vs:=by rw[<-List.drop_drop,hv];rfl
        have hx:xs[k]?=some u:=by
          have:=congrArg (·[0]?) hu
          simpa using this
        have hy:ys[k]?=some v:=by
          have:=congrArg (·[0]?) hv
          simpa using this
        have pr:∀(cs:List Value) (z:Value) (w:World) (mO:TypeDesc),P.underlying f.type=some mO->(∀fs,mO ≠ .struct fs)->(∀n e,mO ≠ .array n e)->cs[k]?=some z->(part f.type ⟨cs⟩ f.offset).run P w=.ok z w:=by
          intro cs z w mO hd h1 h2 hz
          rw[ke]
          have nX:(Array.mk cs)[k]?=some z:=by simpa using hz
          have bc:(isAgg f.type).run P w=.ok false w:=by
            cases mO<;>first | exact absurd rfl (h1 _) | exact absurd rfl (h2 _ _) | simp[isAgg,run_underlying hd]
          simp[part,bc,nX]
        have ih:=fun (G:Bool->Prop) (hG:jg P (k+1) fs us vs G)=>my (P:=P) (xs:=xs) (ys:=ys) (d:=d) fs (k+1) us vs G YD YC hG
        have fin:∀(w:World) (e:Bool) (mO:TypeDesc),P.underlying f.type=some mO->(∀fs,mO ≠ .struct fs)->(∀n e,mO ≠ .array n e)->(Op.equalIn (d+1) f.type u v).run P w=.ok e w->∀r,(Op.eqFields (d+1) ⟨xs⟩ ⟨ys⟩ fs).run P w=.ok r w->(Op.eqFields (d+1) ⟨xs⟩ ⟨ys⟩ (f::fs)).run P w=.ok (e&&r) w:=by
          intro w e mO hd h1 h2 he r hr
          simp only[Op.eqFields,Sem.run_bind,Sem.run_ite,hn,ne_eq,not_false_eq_true,if_true]
          rw[pr xs u w mO hd h1 h2 hx]
          simp only[Result.andThen_ok]
          rw[pr ys v w mO hd h1 h2 hy]
          simp only[Result.andThen_ok]
          rw[he]
          cases e<;>simp[hr]
        split at h1
        . rename_i k' j a l b hd
          obtain⟨hk,h2⟩:=av h1
          obtain rfl:=nW hk
          obtain⟨r,hF,fp⟩:=ih _ h2
          exact⟨_,hF,fun w=>fin w _ _ hd (by simp) (by simp) (run_equalIn_int w d f.type j k' a b hd) r (fp w)⟩
        . rename_i a b hd
          obtain⟨r,hF,fp⟩:=ih _ h1
          exact⟨_,hF,fun w=>fin w _ _ hd (by simp) (by simp) (run_equalIn_string w d f.type a b hd) r (fp w)⟩
        . rename_i a b hd
          obtain⟨r,hF,fp⟩:=ih _ h1
          exact⟨_,hF,fun w=>fin w _ _ hd (by simp) (by simp) (run_equalIn_bool' w d f.type a b hd) r (fp w)⟩
        . exact h1.elim
theorem iQ[ax]{P:Program}{F G:Bool->Prop}(VY:∀e,F e->G e):∀(fs:List Field) (k:Nat) (us vs:List Value),jg P k fs us vs F->jg P k fs us vs G
  | [],k,us,vs,h=>by
    cases us<;>cases vs<;>simp only[jg] at h ⊢
    exact VY _ h
  | f::fs,k,us,vs,h=>by
    cases us with
    | nil=>simp[jg] at h
    | cons u us=>
      cases vs with
      | nil=>simp[jg] at h
      | cons v vs=>
        simp only[jg] at h ⊢
        obtain⟨hc,h1⟩:=av h
        rw[hc,cond_true]
        split at h1
        . obtain⟨hk,h2⟩:=av h1
          rw[hk,cond_true]
          exact iQ (F:=fun r=>F _) (G:=fun r=>G _) (fun e he=>VY _ he) fs _ us vs h2
        . exact iQ (F:=fun r=>F _) (G:=fun r=>G _) (fun e he=>VY _ he) fs _ us vs h1
        . exact iQ (F:=fun r=>F _) (G:=fun r=>G _) (fun e he=>VY _ he) fs _ us vs h1
        . exact h1.elim
theorem j4[ax]{P:Program}{xs ys:List Value}{d:Nat}:∀(fs:List Field) (k:Nat) (us vs:List Value) (F:Bool->Prop),
    xs.drop k=us->ys.drop k=vs->Fb P k fs us vs F->∃b,F b/\∀w,(Op.eqFields (d+2) ⟨xs⟩ ⟨ys⟩ fs).run P w=.ok b w
  | [],k,us,vs,F,hu,hv,h=>by
    cases us<;>cases vs<;>simp only[Fb] at h
    exact⟨true,h,fun _=>rfl⟩
  | f::fs,k,us,vs,F,hu,hv,h=>by
    cases us with
    | nil=>simp[Fb] at h
    | cons u us=>
      cases vs with
      | nil=>simp[Fb] at h
      | cons v vs=>
        simp only[Fb] at h
        obtain⟨hc,h1⟩:=av h
        clear h
        simp only[Yt,Bool.not_eq_true',beq_eq_false_iff_ne,ne_eq] at hc
        obtain⟨ho,hn⟩:=hc
        have ke:f.offset=k:=Nat.eq_of_beq_eq_true ho
        have YD:xs.drop (k+1)=us:=by rw[<-List.drop_drop,hu];rfl
        have YC:ys.drop (k+1)=vs:=by rw[<-List.drop_drop,hv];rfl
        have hx:xs[k]?=some u:=by
          have:=congrArg (·[0]?) hu
          simpa using this
        have hy:ys[k]?=some v:=by
          have:=congrArg (·[0]?) hv
          simpa using this
        have pr:∀(cs:List Value) (z:Value) (w:World) (mO:TypeDesc),P.underlying f.type=some mO->(∀fs,mO ≠ .struct fs)->(∀n e,mO ≠ .array n e)->cs[k]?=some z->(part f.type ⟨cs⟩ f.offset).run P w=.ok z w:=by
          intro cs z w mO hd h1 h2 hz
          rw[ke]
          have nX:(Array.mk cs)[k]?=some z:=by simpa using hz
          have bc:(isAgg f.type).run P w=.ok false w:=by
            cases mO<;>first | exact absurd rfl (h1 _) | exact absurd rfl (h2 _ _) | simp[isAgg,run_underlying hd]
          simp[part,bc,nX]
        have ih:=fun (G:Bool->Prop) (hG:Fb P (k+1) fs us vs G)=>j4 (P:=P) (xs:=xs) (ys:=ys) (d:=d) fs (k+1) us vs G YD YC hG
        have fin:∀(w:World) (e:Bool) (mO:TypeDesc),P.underlying f.type=some mO->(∀fs,mO ≠ .struct fs)->(∀n e,mO ≠ .array n e)->(Op.equalIn (d+2) f.type u v).run P w=.ok e w->∀r,(Op.eqFields (d+2) ⟨xs⟩ ⟨ys⟩ fs).run P w=.ok r w->(Op.eqFields (d+2) ⟨xs⟩ ⟨ys⟩ (f::fs)).run P w=.ok (e&&r) w:=by
          intro w e mO hd h1 h2 he r hr
          simp only[Op.eqFields,Sem.run_bind,Sem.run_ite,hn,ne_eq,not_false_eq_true,if_true]
          rw[pr xs u w mO hd h1 h2 hx]
          simp only[Result.andThen_ok]
          rw[pr ys v w mO hd h1 h2 hy]
          simp only[Result.andThen_ok]
          rw[he]
          cases e<;>simp[hr]
        split at h1
        . rename_i k' j a l b hd
          obtain⟨hk,h2⟩:=av h1
          obtain rfl:=nW hk
          obtain⟨r,hF,fp⟩:=ih _ h2
          exact⟨_,hF,fun w=>fin w _ _ hd (by simp) (by simp) (run_equalIn_int w (d+1) f.type j k' a b hd) r (fp w)⟩
        . rename_i a b hd
          obtain⟨r,hF,fp⟩:=ih _ h1
          exact⟨_,hF,fun w=>fin w _ _ hd (by simp) (by simp) (run_equalIn_string w (d+1) f.type a b hd) r (fp w)⟩
        . rename_i a b hd
          obtain⟨r,hF,fp⟩:=ih _ h1
          exact⟨_,hF,fun w=>fin w _ _ hd (by simp) (by simp) (run_equalIn_bool' w (d+1) f.type a b hd) r (fp w)⟩
        . rename_i u v _ _ _ gs hd
          obtain⟨hb,h2⟩:=av h1
          simp only[Yt,Bool.not_eq_true'] at hb
          obtain⟨Bs,eK⟩:=hb
          have eK:1<=aO P f.type:=Nat.le_of_ble_eq_true eK
          have OJ:P.fieldsOf f.type=gs:=by simp[Program.fieldsOf,hd]
          obtain⟨i,hi⟩:∃i,P.info? f.type=some i:=by
            cases hc:P.info? f.type with
            | none=>simp[aO,hc] at eK
            | some i=>exact⟨i,rfl⟩
          have hsi:aO P f.type=i.size:=by simp[aO,hi]
          obtain⟨e,⟨r,hF,fp⟩,RG⟩:=(fun h=>my (P:=P) (xs:=((u::us).take (aO P f.type))) (ys:=((v::vs).take (aO P f.type))) (d:=d) gs.toList 0 _ _ (fun e=>∃r,F (e&&r)/\∀w,(Op.eqFields (d+2) ⟨xs⟩ ⟨ys⟩ fs).run P w=.ok r w) rfl rfl h) (iQ (fun e he=>by
            obtain⟨r,hF,fp⟩:=j4 (P:=P) (xs:=xs) (ys:=ys) (d:=d) fs (k+aO P f.type) _ _ (fun r=>F (e&&r)) (by rw[<-List.drop_drop,hu]) (by rw[<-List.drop_drop,hv]) he
            exact⟨r,hF,fp⟩) gs.toList 0 _ _ h2)
          refine⟨_,hF,fun w=>?_⟩
          have Kf:∀(cs cs':List Value) (w:World),cs.drop k=cs'->(part f.type ⟨cs⟩ f.offset).run P w=.ok (.agg ⟨cs'.take (aO P f.type)⟩) w:=by
            intro cs cs' w hc
            have bc:(isAgg f.type).run P w=.ok true w:=by simp[isAgg,run_underlying hd]
            rw[ke]
            simp[part,bc,sizeOf,typeInfo,hi,hc,hsi]
          have heq:=run_equalIn_agg (P:=P) w (d+1) f.type ⟨(u::us).take (aO P f.type)⟩ ⟨(v::vs).take (aO P f.type)⟩ (by rw[OJ];exact hd) Bs
          rw[OJ] at heq
          simp only[Op.eqFields,Sem.run_bind,Sem.run_ite,hn,ne_eq,not_false_eq_true,if_true]
          rw[Kf xs _ w hu]
          simp only[Result.andThen_ok]
          rw[Kf ys _ w hv]
          simp only[Result.andThen_ok]
          rw[heq,RG w]
          cases e<;>simp[fp w]
        . exact h1.elim
def xl:Value->Int | .int _ a=>a | _=>0
theorem zA:∀(us vs:List Value) (F:Bool->Prop),Tg us vs F->us.length=vs.length/\F ((List.range us.length).all fun i=>xl (us.getD i undef)==xl (vs.getD i undef)) /\
    ∀i,i<us.length->∃k,us[i]?=some (.int k (xl (us.getD i undef)))/\vs[i]?=some (.int k (xl (vs.getD i undef)))
  | [],[],F,h=>⟨rfl,h,fun i hi=>absurd hi (by simp)⟩
  | [],v::vs,F,h=>h.elim
  | u::us,[],F,h=>by cases u<;>exact h.elim
  | u::us,v::vs,F,h=>by
    unfold Tg at h
    split at h
    . cases ‹_=[]›
    . rename_i j a us' l b vs' hx hy
      injection hx with h1 h2;injection hy with h3 h4
      subst h1 h2 h3 h4
      obtain⟨hk,h2⟩:=av h
      obtain rfl:=nW hk
      obtain⟨a1,a2,a3⟩:=zA _ _ _ h2
      refine⟨by simp[a1],?_,fun i hi=>?_⟩
      . rw[mD,List.range_succ_eq_map,List.all_cons,List.all_map]
        simpa only[List.getD_cons_zero,Function.comp_def,List.getD_cons_succ,xl] using a2
      . cases i with
        | zero=>exact⟨j,rfl,rfl⟩
        | succ i=>simpa using a3 i (by simpa using hi)
    . exact h.elim
theorem BP[ax]{P:Program}{t e:TypeId}{n:Nat}{xs ys:List Value}{F:Bool->Prop}(hu:P.underlying t=some (.array n e))(hi:Lj P e=true)(hs:aO P e=1)(ht:jR P e=true)(hx:xs.length=n)(h:Tg xs ys F)(d:Nat):
    ∃b,F b/\∀w,(Op.equalIn (d+2) t (.agg ⟨xs⟩) (.agg ⟨ys⟩)).run P w=.ok b w:=by
  obtain⟨hl,hF,hv⟩:=zA _ _ _ h
  refine⟨_,hF,fun w=>?_⟩
  have he:∃q,P.underlying e=some (.int q):=by
    unfold Lj at hi
    split at hi
    . exact⟨_,‹_›⟩
    . cases hi
  obtain⟨q,he⟩:=he
  rw[hx,List.range_eq_range',Op.equalIn]
  have eK:∀w,(sizeOf e).run P w=.ok 1 w:=fun w=>by
    cases Sc:P.info? e with
    | none=>simp[jR,Sc] at ht
    | some i=>
      have h1:i.size=1:=by simpa [aO,Sc] using hs
      simp[sizeOf,typeInfo,Sc,h1]
  simp only[Sem.run_bind,run_underlying hu,Result.andThen_ok,eK,Std.Legacy.Range.forIn_eq_forIn_range',Std.Legacy.Range.size,Nat.sub_zero,Nat.add_sub_cancel,Nat.div_one]
  have cG:∀i∈List.range' 0 n 1,i<n:=fun i hi=>by simpa using (List.mem_range'_1.1 hi).2
  generalize List.range' 0 n 1=l at cG ⊢
  induction l with
  | nil=>simp
  | cons i l ih=>
    have dQ:i<n:=cG i (by simp)
    obtain⟨k,h1,h2⟩:=hv i (by omega)
    have px:∀(zs:List Value) (v:Value),zs[i]?=some v->(part e ⟨zs⟩ (i*1)).run P w=.ok v w:=fun zs v hz=>by
      have nX:(Array.mk zs)[i*1]?=some v:=by simpa using hz
      have bc:(isAgg e).run P w=.ok false w:=by simp[isAgg,run_underlying he]
      simp[part,bc,hz] 
    simp only[List.forIn_cons,Sem.run_bind,px _ _ h1,px _ _ h2,run_equalIn_int w d e k q _ _ he,Result.andThen_ok,List.all_cons]
    cases hb:(xl (xs.getD i undef)==xl (ys.getD i undef))
    . simp
    . simp only[Bool.not_true,Bool.false_eq_true,if_false,Sem.run_pure,Result.andThen_ok,Bool.true_and]
      exact ih fun j hj=>cG j (by simp[hj])
theorem qD[ax]{P:Program}{t:TypeId}{xs ys:Array Value}{F:Bool->Prop}(h:Wg P t xs.toList ys.toList F):
    P.eqGuardType P.depth t=false/\∃b,F b/\∀w,(Op.equalIn 10000 t (.agg xs) (.agg ys)).run P w=.ok b w:=by
  unfold Wg at h
  split at h
  . rename_i fs hu
    obtain⟨hb,h1⟩:=av h
    simp only[Yt,Bool.not_eq_true'] at hb
    refine⟨hb.2,?_⟩
    have hf:P.fieldsOf t=fs:=by simp[Program.fieldsOf,hu]
    obtain⟨b,hF,fp⟩:=j4 (P:=P) (xs:=xs.toList) (ys:=ys.toList) (d:=9997) fs.toList 0 _ _ F rfl rfl h1
    refine⟨b,hF,fun w=>?_⟩
    have:=run_equalIn_agg (P:=P) w 9999 t xs ys (by rw[hf];exact hu) hb.1
    rw[hf] at this
    exact this.trans (fp w)
  . rename_i n e hu
    obtain⟨hb,h1⟩:=av h
    simp only[Yt,Bool.not_eq_true'] at hb
    obtain⟨⟨⟨⟨⟨b1,b2⟩,b3⟩,b4⟩,b5⟩,b6⟩:=hb
    exact⟨b6,BP (xs:=xs.toList) (ys:=ys.toList) hu b1 (Nat.eq_of_beq_eq_true b2) b3 (Nat.eq_of_beq_eq_true b4) h1 9998⟩
  . exact h.elim
theorem FH[ax]{P:Program}{op:BinOp}{t:TypeId}{a b:Array Value}{xo yo:Operand}{K:Value->Prop}(h:kU P op t (.agg a) (.agg b) K):
    ∃v,K v/\∀w,(do eqGuard op t xo yo (.agg a) (.agg b);binOp op t (.agg a) (.agg b):Sem Value).run P w=.ok v w:=by
  cases op<;>simp only[kU] at h<;>try exact h.elim
  . obtain⟨hm,e,hK,he⟩:=qD h
    refine⟨_,hK,fun w=>bB (run_eqGuard_agg w _ t xo yo a b hm) ?_⟩
    rw[run_eql_struct,he];rfl
  . obtain⟨hm,e,hK,he⟩:=qD h
    refine⟨_,hK,fun w=>bB (run_eqGuard_agg w _ t xo yo a b hm) ?_⟩
    rw[run_neq_struct,he];rfl
theorem xR[ax]{P:Program}{op:BinOp}{t:TypeId}{x y:Value}{xo yo:Operand}{K:Value->Prop}(h:kU P op t x y K):
    ∃v,K v/\∀w,(do eqGuard op t xo yo x y;binOp op t x y:Sem Value).run P w=.ok v w:=by
  cases x with
  | int k a=>cases y with
    | int k' b=>exact FG h
    | _=>cases op<;>exact h.elim
  | string a=>cases y with
    | string b=>exact FE h
    | _=>cases op<;>exact h.elim
  | bool a=>cases y with
    | bool b=>exact B5 h
    | _=>cases op<;>exact h.elim
  | slice a n c=>cases y with
    | slice b m d=>exact xS h
    | _=>cases op<;>exact h.elim
  | pointer a=>cases y with
    | pointer b=>exact FF h
    | _=>cases op<;>exact h.elim
  | agg a=>cases y with
    | agg b=>exact FH h
    | _=>cases op<;>exact h.elim
  | _=>cases op<;>exact h.elim
theorem dK{a b:Nat}(h:Nat.beq a b=true):a=b:=Nat.eq_of_beq_eq_true h
theorem fJ{P:Program}{t:TypeId}(h:jR P t=true):∃i,P.info? t=some i:=by
  unfold jR at h
  simp only[Yt] at h
  exact Option.isSome_iff_exists.1 h.1
theorem y7{P:Program}{t:TypeId}(h:jR P t=true):∃d,P.underlying t=some d:=by
  unfold jR at h
  simp only[Yt] at h
  exact Option.isSome_iff_exists.1 h.2
theorem aW[ax]{P:Program}{t:TypeId}{w:World}(h:jR P t=true):(sizeOf t).run P w=.ok (aO P t) w:=by
  obtain⟨i,hi⟩:=fJ h
  simp[sizeOf,typeInfo,hi,aO]
theorem iM[ax]{P:Program}{t:TypeId}{w:World}(h:jR P t=true):(isAgg t).run P w=.ok (j9 P t) w:=by
  obtain⟨d,hd⟩:=y7 h
  cases d<;>simp[isAgg,run_underlying hd,j9,hd]
theorem cq{P:Program}{t:TypeId}(h:sliceB P t=true):P.underlying t=some (.slice (elemOf P t)):=by
  unfold sliceB at h
  split at h
  . rename_i e he;simp[elemOf,he]
  . cases h
theorem wu{P:Program}{t:TypeId}(h:AB P t=true):P.underlying t=some .string:=by
  unfold AB at h
  split at h
  . assumption
  . cases h
theorem j7{P:Program}{Li:Bool}{len cap:Nat}{lo hi:Option Value}{G:Int->Int->Prop}
    (h:bN lo 0 fun l=>bN hi len fun r=>(0<=l/\l<=r/\r<=cap)/\G l r) :
    ∃l r:Int,(0<=l/\l<=r/\r<=cap)/\G l r/\∀w,(Instr.sliceBounds Li len cap lo hi none).run P w=.ok (l.toNat,r.toNat,cap) w:=by
  have hb:∀(k:IntKind) (i:Int) (y:Nat) (c:BoundsCode) (w:World),0<=i->i<=y->(Instr.sliceBound (.int k i) y c).run P w=.ok i.toNat w:=by
    intro k i y c w h0 h1
    simp[Instr.sliceBound,asIntOf,h0,h1]
  cases lo with
  | none=>
    cases hi with
    | none=>
      simp only[bN] at h
      exact⟨0,len,h.1,h.2,fun w=>by simp[Instr.sliceBounds]⟩
    | some v=>
      cases v with
      | int k r=>
        simp only[bN] at h
        refine⟨0,r,h.1,h.2,fun w=>?_⟩
        simp[Instr.sliceBounds,hb k r cap _ w (by omega) h.1.2.2]
      | _=>exact h.elim
  | some u=>
    cases u with
    | int k l=>
      cases hi with
      | none=>
        simp only[bN] at h
        refine⟨l,len,h.1,h.2,fun w=>?_⟩
        simp[Instr.sliceBounds,hb k l len _ w h.1.1 h.1.2.1]
      | some v=>
        cases v with
        | int k' r=>
          simp only[bN] at h
          refine⟨l,r,h.1,h.2,fun w=>?_⟩
          have h2:l<=((r.toNat:Nat):Int):=by omega
          simp[Instr.sliceBounds,hb k' r cap _ w (by omega) h.1.2.2,hb k l r.toNat _ w h.1.1 h2]
        | _=>exact h.elim
    | _=>exact h.elim
theorem extract_mk(cs:Array Value)(a n:Nat):cs.extract a (a+n)=⟨(cs.toList.drop a).take n⟩:=by
  apply Array.ext'
  simp[List.extract_eq_take_drop]
theorem iw(a:Addr)(n:Nat):a.add n=ef a n:=by
  cases n with
  | zero=>rfl
  | succ n=>rfl
def dN(P:Program)(ρ:Env)(o:Oper)(K:Value->Prop):Prop:=∃v,K v/\∀w,(execOp (bw ρ) o).run P w=.ok (.value v) w
theorem A4[ax]{P:Program}{ρ:Env}{o:Oper}{K:Value->Prop}{t:TypeId}{x:Operand}{lo hi:Option Operand}(ho:o.op=.slice t x lo hi none)(h:fP P ρ o K):dN P ρ o K:=by
  unfold fP at h
  rw[ho] at h
  simp only at h
  cases hx:bw ρ x with
  | string s=>
    rw[hx] at h
    obtain⟨ht,h1⟩:=av h
    obtain⟨l,r,hb,hG,hr⟩:=j7 (P:=P) (Li:=false) h1
    refine⟨_,hG,fun w=>?_⟩
    have hu:=wu ht
    simp[execOp,ho,hx,Instr.sliceAt,Instr.slice,run_underlying hu,hr]
  | slice a n c=>
    rw[hx] at h
    obtain⟨ht,h1⟩:=av h
    simp only[Yt] at ht
    obtain⟨l,r,hb,hG,hr⟩:=j7 (P:=P) (Li:=true) h1
    refine⟨_,hG,fun w=>?_⟩
    have hu:=cq ht.1
    simp[execOp,ho,hx,Instr.sliceAt,Instr.slice,run_underlying hu,hr,aW ht.2,bg]
  | pointer p=>
    rw[hx] at h
    cases p with
    | none=>exact h.elim
    | some a=>
      simp only at h
      split at h
      . rename_i n e hu
        obtain⟨ht,h1⟩:=av h
        obtain⟨l,r,hb,hG,hr⟩:=j7 (P:=P) (Li:=false) h1
        refine⟨_,hG,fun w=>?_⟩
        simp[execOp,ho,hx,Instr.sliceAt,Instr.sureAddr,run_underlying hu,hr,aW ht,bg]
        split<;>rfl
      . exact h.elim
  | _=>rw[hx] at h;exact h.elim
theorem vy{P:Program}{Li:Bool}{len cap:Nat}{lo:Option Value}{hi mx:Value}{G:Int->Int->Int->Prop}
    (h:bN lo 0 fun l=>bN (some hi) len fun r=>bN (some mx) cap fun m=>(0<=l/\l<=r/\r<=m/\m<=cap)/\G l r m) :
    ∃l r m:Int,(0<=l/\l<=r/\r<=m/\m<=cap)/\G l r m/\∀w,(Instr.sliceBounds Li len cap lo (some hi) (some mx)).run P w=.ok (l.toNat,r.toNat,m.toNat) w:=by
  have hb:∀(k:IntKind) (i:Int) (y:Nat) (c:BoundsCode) (w:World),0<=i->i<=y->(Instr.sliceBound (.int k i) y c).run P w=.ok i.toNat w:=by
    intro k i y c w h0 h1
    simp[Instr.sliceBound,asIntOf,h0,h1]
  have main:∀l:Int,(bN (some hi) len fun r=>bN (some mx) cap fun m=>(0<=l/\l<=r/\r<=m/\m<=cap)/\G l r m) ->
      ∃(k k':IntKind) (r m:Int),hi=.int k r/\mx=.int k' m/\(0<=l/\l<=r/\r<=m/\m<=cap)/\G l r m:=by
    intro l h
    cases hi with
    | int k r=>
      cases mx with
      | int k' m=>exact⟨k,k',r,m,rfl,rfl,h.1,h.2⟩
      | _=>exact h.elim
    | _=>exact h.elim
  cases lo with
  | none=>
    obtain⟨k,k',r,m,rfl,rfl,IJ,hG⟩:=main 0 h
    refine⟨0,r,m,IJ,hG,fun w=>?_⟩
    have h2:r<=((m.toNat:Nat):Int):=by omega
    simp[Instr.sliceBounds,hb k' m cap _ w (by omega) IJ.2.2.2,hb k r m.toNat _ w (by omega) h2]
  | some u=>
    cases u with
    | int k0 l=>
      obtain⟨k,k',r,m,rfl,rfl,IJ,hG⟩:=main l h
      refine⟨l,r,m,IJ,hG,fun w=>?_⟩
      have h2:r<=((m.toNat:Nat):Int):=by omega
      have h3:l<=((r.toNat:Nat):Int):=by omega
      simp[Instr.sliceBounds,hb k' m cap _ w (by omega) IJ.2.2.2,hb k r m.toNat _ w (by omega) h2,hb k0 l r.toNat _ w (by omega) h3]
    | _=>exact h.elim
theorem wK[ax]{P:Program}{ρ:Env}{o:Oper}{K:Value->Prop}{t:TypeId}{x hi mx:Operand}{lo:Option Operand}(ho:o.op=.slice t x lo (some hi) (some mx))(h:fP P ρ o K):dN P ρ o K:=by
  unfold fP at h
  rw[ho] at h
  simp only at h
  cases hx:bw ρ x with
  | slice a n c=>
    rw[hx] at h
    obtain⟨ht,h1⟩:=av h
    simp only[Yt] at ht
    obtain⟨l,r,m,hb,hG,hr⟩:=vy (P:=P) (Li:=true) h1
    refine⟨_,hG,fun w=>?_⟩
    have hu:=cq ht.1
    simp[execOp,ho,hx,Instr.sliceAt,Instr.slice,run_underlying hu,hr,aW ht.2,bg]
  | _=>rw[hx] at h;exact h.elim
theorem oZ[ax]{P:Program}{ρ:Env}{o:Oper}{K:Value->Prop}{s:TypeId}{x:Operand}{f:Nat}(ho:o.op=.fieldAddr s x f)(h:fP P ρ o K):dN P ρ o K:=by
  unfold fP at h
  rw[ho] at h
  simp only at h
  split at h
  . rename_i a fd hx hf
    obtain⟨hb,h1⟩:=av h
    simp only[Yt,Bool.not_eq_true'] at hb
    refine⟨_,h1,fun w=>?_⟩
    unfold rY at hf
    split at hf
    . rename_i fs hu
      have hz:¬aO P fd.type=0:=fun e=>by rw[e] at hb;exact absurd hb.2 (by decide)
      simp[execOp,ho,hx,Instr.fieldAt,run_underlying hu,hf,Instr.sureAddr,fieldPlace,aW hb.1,hz,iw]
    . cases hf
  . exact h.elim
theorem A7[ax]{P:Program}{ρ:Env}{o:Oper}{K:Value->Prop}{s:TypeId}{x:Operand}{f:Nat}(ho:o.op=.field s x f)(h:fP P ρ o K):dN P ρ o K:=by
  unfold fP at h
  rw[ho] at h
  simp only at h
  split at h
  . rename_i cs fd hx hf
    obtain⟨hb,h1⟩:=av h
    unfold rY at hf
    split at hf
    . rename_i fs hu
      split at h1
      . rename_i bc
        refine⟨_,h1,fun w=>?_⟩
        simp[execOp,ho,hx,Instr.field,run_underlying hu,hf,asAgg,part,iM hb,bc,aW hb,extract_mk]
      . rename_i bc
        obtain⟨hl,h2⟩:=av h1
        have k6:fd.offset<cs.size:=by simpa using hl
        refine⟨_,h2,fun w=>?_⟩
        simp[execOp,ho,hx,Instr.field,run_underlying hu,hf,asAgg,part,iM hb,bc,k6,List.getD]
    . cases hf
  . exact h.elim
theorem vJ(b o n:Nat):(⟨b,o,none⟩:Addr).add n=⟨b,o+n,none⟩:=by
  unfold Addr.add
  split
  . rename_i h;subst h;rfl
  . rfl
theorem oY[ax]{P:Program}{ρ:Env}{o:Oper}{K:Value->Prop}{t:TypeId}{x i:Operand}(ho:o.op=.indexAddr t x i)(h:fP P ρ o K):dN P ρ o K:=by
  unfold fP at h
  rw[ho] at h
  simp only at h
  split at h
  . rename_i p n c k i hx hi
    obtain⟨hb,h1⟩:=av h
    simp only[Yt] at hb
    have hu:=cq hb.1
    unfold NB at h1
    split at h1
    . rename_i b o'
      refine⟨_,h1.2,fun w=>?_⟩
      simp[execOp,ho,hx,hi,Instr.indexAt,asIntOf,run_underlying hu,h1.1.1,h1.1.2,aW hb.2,vJ]
    . exact h1.elim
  . rename_i b o' k i hx hi
    split at h
    . rename_i n e hu
      obtain⟨hb,h1⟩:=av h
      refine⟨_,h1.2,fun w=>?_⟩
      simp[execOp,ho,hx,hi,Instr.indexAt,asIntOf,run_underlying hu,Instr.sureAddr,h1.1.1,h1.1.2,aW hb,vJ]
    . exact h.elim
  . exact h.elim
theorem im:∀(ks:List Kd) (F:List Value->Prop),xL ks F->∃vs,vs.length=ks.length/\F vs
  | [],F,h=>⟨[],rfl,h⟩
  | k::r,F,h=>by
    have:∃v,xL r (fun vs=>F (v::vs)):=by
      cases k<;>(obtain⟨x,hx⟩:=h;exact⟨_,hx⟩)
    obtain⟨v,hv⟩:=this
    obtain⟨vs,hl,hF⟩:=im r _ hv
    exact⟨v::vs,by simp[hl],hF⟩
theorem Ay(l:List Value)(a n:Nat)(h:a<l.length)(hn:n≠0):l[a]?=some (jn false ((l.drop a).take n)):=by
  rw[List.drop_eq_getElem_cons h,Yi h]
  cases n with
  | zero=>exact absurd rfl hn
  | succ m=>simp only[List.take_succ_cons,jn];rfl
theorem A5[ax]{P:Program}{ρ:Env}{o:Oper}{K:Value->Prop}{t:TypeId}{x i:Operand}(ho:o.op=.index t x i)(h:fP P ρ o K):dN P ρ o K:=by
  unfold fP at h
  rw[ho] at h
  simp only at h
  split at h
  . rename_i s k i hx hi
    obtain⟨hb,h1⟩:=av h
    have hu:=wu hb
    obtain⟨⟨h0,cG⟩,hK⟩:=h1
    refine⟨_,hK,fun w=>?_⟩
    have uL:i.toNat<s.size:=by omega
    have hs:s[i.toNat]?=some (s.data.toList.getD i.toNat 0):=by
      rw[show s[i.toNat]?=some s[i.toNat] from by simp[uL]]
      congr 1
      have gM:i.toNat<s.data.size:=uL
      simp only[Yo,Array.getElem?_toList]
      rw[Array.getElem?_eq_getElem gM]
      rfl
    simp[execOp,ho,hx,hi,Instr.index,asIntOf,run_underlying hu,h0,hs,ga]
  . rename_i cs k i hx hi
    split at h
    . rename_i n e hu
      obtain⟨hb,h1⟩:=av h
      simp only[Yt,Bool.not_eq_true'] at hb
      obtain⟨⟨h0,cG⟩,h2⟩:=h1
      obtain⟨vs,hl,heq,hK⟩:=im _ _ h2
      refine⟨_,hK,fun w=>?_⟩
      have hlen:=dK hb.2
      simp[execOp,ho,hx,hi,Instr.index,asIntOf,run_underlying hu,h0,cG,aW hb.1.1,part,iM hb.1.1]
      cases bc:j9 P e
      . have hz:aO P e≠0:=fun h0=>by rw[h0] at hb;exact absurd hb.1.2 (by decide)
        have Sc:i.toNat<n:=by omega
        have YT:i.toNat*aO P e<cs.toList.length:=by
          rw[<-hlen]
          exact Nat.mul_lt_mul_of_pos_right Sc (Nat.pos_of_ne_zero hz)
        have h3:cs[i.toNat*aO P e]?=some (jn false vs):=by
          rw[<-heq,<-Array.getElem?_toList]
          exact Ay _ _ _ YT hz
        simp[h3]
      . simp only[jn,cond]
        simp[aW hb.1.1,extract_mk,heq]
    . exact h.elim
  . exact h.elim
theorem tP[ax]{P:Program}{ρ:Env}{o:Oper}{K:Value->Prop}{x:Operand}{i:Nat}(ho:o.op=.extract x i)(h:fP P ρ o K):dN P ρ o K:=by
  unfold fP at h
  rw[ho] at h
  simp only at h
  split at h
  . rename_i vs hx
    obtain⟨hb,h1⟩:=av h
    have cG:i<vs.size:=by simpa using hb
    refine⟨_,h1,fun w=>?_⟩
    simp[execOp,ho,hx,Instr.extract,cG,List.getD]
  . exact h.elim
theorem Dw{P:Program}{ρ:Env}{o:Oper}{K:Value->Prop}{c a b:Operand}(ho:o.op=.pick c a b)(h:fP P ρ o K):dN P ρ o K:=by
  unfold fP at h
  rw[ho] at h
  simp only at h
  split at h
  . rename_i b' hx
    refine⟨_,h,fun w=>?_⟩
    cases b'<;>simp[execOp,ho,hx,asBool]
  . exact h.elim
theorem qZ{P:Program}{ρ:Env}{o:Oper}{K:Value->Prop}{x:Operand}(ho:o.op=.nilCheck x)(h:fP P ρ o K):dN P ρ o K:=by
  unfold fP at h
  rw[ho] at h
  simp only at h
  split at h
  . rename_i p hx
    cases p with
    | none=>exact h.elim
    | some a=>
      refine⟨_,h,fun w=>?_⟩
      simp[execOp,ho,hx]
  . rename_i f x y hx
    refine⟨_,h,fun w=>?_⟩
    simp[execOp,ho,hx]
  . exact h.elim
theorem Dv{P:Program}{ρ:Env}{o:Oper}{K:Value->Prop}{u:UnOp}{t:TypeId}{x:Operand}(ho:o.op=.unOp u t x)(h:fP P ρ o K):dN P ρ o K:=by
  unfold fP at h
  rw[ho] at h
  cases u<;>simp only at h
  . split at h
    . rename_i k n hx
      refine⟨_,h,fun w=>?_⟩
      simp[execOp,ho,hx,Op.unary,Op.intArith]
    . exact h.elim
  . split at h
    . rename_i b hx
      refine⟨_,h,fun w=>?_⟩
      simp[execOp,ho,hx,Op.unary]
    . exact h.elim
theorem tQ{P:Program}{ρ:Env}{o:Oper}{K:Value->Prop}{s d:TypeId}{x:Operand}(ho:o.op=.convert s d x)(h:fP P ρ o K):dN P ρ o K:=by
  unfold fP at h
  rw[ho] at h
  simp only at h
  split at h
  . rename_i k k' Ow n hs hd hx
    refine⟨_,h,fun w=>?_⟩
    simp[execOp,ho,hx,Go.convert,run_underlying hs,run_underlying hd,Conv.intToInt]
  . rename_i b hs hd hx
    refine⟨_,h,fun w=>?_⟩
    simp[execOp,ho,hx,Go.convert,run_underlying hs,run_underlying hd]
  . exact h.elim
theorem A6{P:Program}{ρ:Env}{o:Oper}{K:Value->Prop}{t:TypeId}{x:Operand}(ho:o.op=.makeInterface t x)(h:fP P ρ o K):dN P ρ o K:=by
  unfold fP at h
  rw[ho] at h
  simp only at h
  split at h
  . exact h.elim
  . exact h.elim
  . rename_i h1 h2
    refine⟨_,h,fun w=>?_⟩
    cases hu:P.underlying t with
    | none=>exact absurd hu h2
    | some d=>
      cases d<;>first | exact absurd hu (h1 _) | simp[execOp,ho,Instr.makeInterface,run_underlying hu]
theorem Dx[ax]{P:Program}{ρ:Env}{o:Oper}{K:Value->Prop}{c:Call}(ho:o.op=.call c)(h:fP P ρ o K):dN P ρ o K:=by
  unfold fP at h
  rw[ho] at h
  simp only at h
  obtain⟨callee,⟨args⟩,⟨ts⟩⟩:=c
  split at h
  . rename_i hc
    simp only at hc h
    subst hc
    split at h
    . rename_i s t ha
      obtain⟨hb,h1⟩:=av h
      have hu:=wu hb
      refine⟨_,h1,fun w=>?_⟩
      simp[execOp,ho,resolve,invoke,Go.builtin,ha,Builtin.len_,run_underlying hu,goInt]
    . rename_i a n c t ha
      obtain⟨hb,h1⟩:=av h
      have hu:=cq hb
      refine⟨_,h1,fun w=>?_⟩
      simp[execOp,ho,resolve,invoke,Go.builtin,ha,Builtin.len_,run_underlying hu,goInt]
    . exact h.elim
  . rename_i hc
    simp only at hc h
    subst hc
    split at h
    . rename_i a n c t ha
      obtain⟨hb,h1⟩:=av h
      have hu:=cq hb
      refine⟨_,h1,fun w=>?_⟩
      simp[execOp,ho,resolve,invoke,Go.builtin,ha,Builtin.cap_,run_underlying hu,goInt]
    . exact h.elim
  . rename_i hc
    simp only at hc h
    subst hc
    split at h
    . rename_i k x k' y ha
      refine⟨_,h,fun w=>?_⟩
      simp[execOp,ho,resolve,invoke,Go.builtin,ha,Builtin.min_,Builtin.min2]<;>rfl
    . rename_i k x k' y Ow z ha
      refine⟨_,h,fun w=>?_⟩
      simp[execOp,ho,resolve,invoke,Go.builtin,ha,Builtin.min_,Builtin.min2]<;>rfl
    . rename_i k x k' y Ow z k3 u ha
      refine⟨_,h,fun w=>?_⟩
      simp[execOp,ho,resolve,invoke,Go.builtin,ha,Builtin.min_,Builtin.min2]<;>rfl
    . rename_i k x k' y Ow z k3 u k4 v ha
      refine⟨_,h,fun w=>?_⟩
      simp[execOp,ho,resolve,invoke,Go.builtin,ha,Builtin.min_,Builtin.min2]<;>rfl
    . exact h.elim
  . rename_i hc
    simp only at hc h
    subst hc
    split at h
    . rename_i k x k' y ha
      refine⟨_,h,fun w=>?_⟩
      simp[execOp,ho,resolve,invoke,Go.builtin,ha,Builtin.max_,Builtin.max2]<;>rfl
    . rename_i k x k' y Ow z ha
      refine⟨_,h,fun w=>?_⟩
      simp[execOp,ho,resolve,invoke,Go.builtin,ha,Builtin.max_,Builtin.max2]<;>rfl
    . rename_i k x k' y Ow z k3 u ha
      refine⟨_,h,fun w=>?_⟩
      simp[execOp,ho,resolve,invoke,Go.builtin,ha,Builtin.max_,Builtin.max2]<;>rfl
    . rename_i k x k' y Ow z k3 u k4 v ha
      refine⟨_,h,fun w=>?_⟩
      simp[execOp,ho,resolve,invoke,Go.builtin,ha,Builtin.max_,Builtin.max2]<;>rfl
    . exact h.elim
  . exact h.elim
theorem kj(off:Nat):∀(vs:List Value) (k:Nat) (l:List Value),off+k+vs.length<=l.length ->
    (vs.zipIdx k).foldl (fun (cs:Array Value) (p:Value × Nat)=>cs.setIfInBounds (off+p.2) p.1) ⟨l⟩=⟨ay l (off+k) vs⟩
  | [],k,l,_=>by simp[ay]
  | v::r,k,l,h=>by
    simp only[mD] at h
    rw[List.zipIdx_cons,List.foldl_cons]
    have e:(Array.mk l).setIfInBounds (off+k) v=⟨l.set (off+k) v⟩:=by simp
    simp only[]
    rw[e,kj off r (k+1) (l.set (off+k) v) (by simp;omega)]
    congr 1
    have hl:(l.take (off+k)).length=off+k:=by simp;omega
    have dH:l.set (off+k) v=(l.take (off+k)++[v])++l.drop (off+k+1):=by
      rw[List.set_eq_take_append_cons_drop,if_pos (by omega)]
      simp
    have gM:(l.take (off+k)++[v]).length=off+(k+1):=by rw[Yh,hl];rfl
    simp only[ay]
    rw[dH,List.take_left' gM,List.drop_append,gM]
    rw[show (l.take (off+k)++[v]).drop (off+(k+1)+r.length)=[] from List.drop_eq_nil_of_le (by rw[gM];omega)]
    rw[List.drop_drop]
    simp only[mD,Yz,List.cons_append,List.nil_append]
    congr 4
    omega
theorem oe[ax](cs:Array Value)(off:Nat)(v:Array Value)(h:off+v.size<=cs.size):
    v.zipIdx.foldl (fun cs (p:Value × Nat)=>cs.setIfInBounds (off+p.2) p.1) cs=⟨ay cs.toList off v.toList⟩:=by
  obtain⟨l⟩:=cs
  obtain⟨vs⟩:=v
  have:=kj off vs 0 l (by simpa using h)
  rw[<-Array.foldl_toList]
  simpa using this
theorem mr[ax]{P:Program}{fs:List Field}:∀(ps:List (Nat × Value)) (l:List Value) (F:List Value->Prop),zw P fs ps l F ->
    ∃l',F l'/\Instr.fill (fun i=>(⟨fs.map fun f=>(f.offset,aO P f.type)⟩:Array (Nat × Nat))[i]?) ⟨l⟩ ps=some ⟨l'⟩
  | [],l,F,h=>⟨l,h,rfl⟩
  | (i,v)::r,l,F,h=>by
    simp only[zw] at h
    split at h
    . rename_i f hf
      obtain⟨hb,h1⟩:=av h
      simp only[Yt] at hb
      have e1:=dK hb.1.1
      have e2:f.offset+v.cells.toList.length<=l.length:=by simpa using hb.1.2
      obtain⟨l',hF,Et⟩:=mr r _ F h1
      refine⟨l',hF,?_⟩
      have hp:(⟨fs.map fun f=>(f.offset,aO P f.type)⟩:Array (Nat × Nat))[i]?=some (f.offset,aO P f.type):=by simp[hf]
      simp only[Instr.fill,hp]
      have hs:v.cells.size=aO P f.type:=by rw[e1];simp
      have hle:¬f.offset+v.cells.size>(Array.mk l).size:=by simp at e2 ⊢;omega
      simp only[hs,ne_eq,not_true_eq_false,false_or,decide_false,Bool.false_or]
      rw[hs] at hle
      rw[if_neg (by simpa using hle)]
      have:=oe ⟨l⟩ f.offset v.cells (by simp at e2 ⊢;omega)
      simp only[] at this
      rw[this]
      exact Et
    . exact h.elim
theorem ik[ax]{size:Nat}:∀(ps:List (Nat × Value)) (l:List Value) (F:List Value->Prop),u9 size ps l F ->
    ∃l',F l'/\Instr.fill (fun i=>some (i*size,size)) ⟨l⟩ ps=some ⟨l'⟩
  | [],l,F,h=>⟨l,h,rfl⟩
  | (i,v)::r,l,F,h=>by
    simp only[u9] at h
    obtain⟨hb,h1⟩:=av h
    simp only[Yt] at hb
    have e1:=dK hb.1
    have e2:i*size+v.cells.toList.length<=l.length:=by simpa using hb.2
    obtain⟨l',hF,Et⟩:=ik r _ F h1
    refine⟨l',hF,?_⟩
    have hs:v.cells.size=size:=by rw[e1];simp
    have hle:¬i*size+v.cells.size>(Array.mk l).size:=by simp at e2 ⊢;omega
    simp only[Instr.fill]
    simp only[hs,ne_eq,not_true_eq_false,decide_false,Bool.false_or]
    rw[hs] at hle
    rw[if_neg (by simpa using hle)]
    have:=oe ⟨l⟩ (i*size) v.cells (by simp at e2 ⊢;omega)
    simp only[] at this
    rw[this]
    exact Et
theorem jS[ax]{size:Nat}:∀(ps:List (Nat × Value)) (k:Nat) (pre post:List Value),uA size k ps=true->pre.length=k*size->post.length=ps.length*size ->
    Instr.fill (fun i=>some (i*size,size)) ⟨pre++post⟩ ps=some ⟨pre++Fy ps⟩
  | [],k,pre,post,_,_,hl=>by
    have:post=[]:=List.eq_nil_of_length_eq_zero (by simpa using hl)
    subst this;rfl
  | (i,v)::r,k,pre,post,h,hp,hl=>by
    simp only[uA,Yt] at h
    obtain⟨⟨h1,h2⟩,h3⟩:=h
    obtain rfl:=dK h1
    have hs:v.cells.size=size:=by have:=dK h2;rw[this];simp
    have VE:v.cells.toList.length=size:=by simpa using hs
    have k6:post.length=size+r.length*size:=by rw[hl,mD,Nat.succ_mul];omega
    have hle:¬i*size+size>(Array.mk (pre++post)).size:=by simp;omega
    simp only[Instr.fill,hs,ne_eq,not_true_eq_false,decide_false,Bool.false_or]
    rw[if_neg (by simpa using hle)]
    have:=oe ⟨pre++post⟩ (i*size) v.cells (by simp;omega)
    simp only[] at this
    rw[this]
    have e:ay (pre++post) (i*size) v.cells.toList=(pre++v.cells.toList)++post.drop size:=by
      simp only[ay,VE]
      rw[<-hp,List.take_left' rfl,List.drop_append]
      simp
    rw[e]
    have:=jS r (i+1) (pre++v.cells.toList) (post.drop size) h3 (by simp[hp,hs,Nat.succ_mul]) (by simp;omega)
    rw[this]
    simp[Fy]
theorem nF[ax]{P:Program}{w:World}:∀(fs:List Field),(fs.all fun f=>jR P f.type)=true ->
    (fs.mapM fun f=>(do pure (f.offset,<-sizeOf f.type):Sem (Nat × Nat))).run P w=.ok (fs.map fun f=>(f.offset,aO P f.type)) w
  | [],_=>rfl
  | f::fs,h=>by
    simp only[List.all_cons,Yt] at h
    have ih:=nF (P:=P) (w:=w) fs h.2
    simp only[List.mapM_cons,Sem.run_bind,aW h.1,Result.andThen_ok,Sem.run_pure,ih,kf]
theorem A8[ax]{P:Program}{ρ:Env}{o:Oper}{K:Value->Prop}{t:TypeId}{ps:Array (Nat × Operand)}(ho:o.op=.build t ps)(h:fP P ρ o K):dN P ρ o K:=by
  unfold fP at h
  rw[ho] at h
  simp only at h
  have Lz:(ps.map fun (i,x)=>(i,bw ρ x)).toList=gZ ρ ps:=by simp[gZ]
  have zr:∀z,(P.info? t).bind (·.zero)=some z->∀w,(zeroValue t).run P w=.ok z w:=by
    intro z hz w
    cases hi:P.info? t with
    | none=>rw[hi] at hz;cases hz
    | some i=>rw[hi] at hz;simp only[Option.bind_some] at hz;simp[zeroValue,typeInfo,hi,hz]
  split at h
  . rename_i fs hu
    obtain⟨hb,h1⟩:=av h
    simp only[Yt] at hb
    obtain⟨z,hz⟩:=Option.isSome_iff_exists.1 hb.1.2
    have D9:bL P t=z.cells.toList:=by simp[bL,hz]
    rw[D9] at h1
    obtain⟨l',hK,hf⟩:=mr _ _ _ h1
    refine⟨_,hK,fun w=>?_⟩
    simp only[execOp,ho,Instr.build,Sem.run_bind,zr z hz,Result.andThen_ok,run_underlying hu]
    rw[Array.mapM_eq_mapM_toList]
    simp only[Sem.run_map,nF fs.toList hb.2,Result.andThen_ok,Lz]
    have e:(List.map (fun f=>(f.offset,aO P f.type)) fs.toList).toArray=(⟨fs.toList.map fun f=>(f.offset,aO P f.type)⟩:Array (Nat × Nat)):=rfl
    rw[e]
    rw[show (Array.mk z.cells.toList)=z.cells from rfl] at hf
    simp only[hf]
    rfl
  . rename_i n e hu
    obtain⟨hb,h1⟩:=av h
    simp only[Yt] at hb
    obtain⟨z,hz⟩:=Option.isSome_iff_exists.1 hb.1.1.2
    have D9:bL P t=z.cells.toList:=by simp[bL,hz]
    have fin:∀l',Instr.fill (fun i=>some (i*aO P e,aO P e)) z.cells (gZ ρ ps)=some ⟨l'⟩->∀w,(execOp (bw ρ) o).run P w=.ok (.value (.agg ⟨l'⟩)) w:=by
      intro l' hf w
      simp only[execOp,ho,Instr.build,Sem.run_bind,zr z hz,Result.andThen_ok,run_underlying hu,aW hb.1.2,Lz]
      simp only[hf]
      rfl
    split at h1
    . rename_i dQ
      simp only[Yt] at dQ
      refine⟨_,h1,fin _ ?_⟩
      have hl:=dK dQ.1
      have gM:=dK hb.2
      have:=jS (gZ ρ ps) 0 [] z.cells.toList dQ.2 (by simp) (by rw[<-D9,gM];simp[gZ,<-hl])
      simpa using this
    . rw[D9] at h1
      obtain⟨l',hK,hf⟩:=ik _ _ _ h1
      exact⟨_,hK,fin _ hf⟩
  . exact h.elim
theorem A9[ax]{P:Program}{ρ:Env}{o:Oper}{K:Value->Prop}{op:BinOp}{t u:TypeId}{x y:Operand}(ho:o.op=.binOp op t x y u)(h:fP P ρ o K):dN P ρ o K:=by
  unfold fP at h
  rw[ho] at h
  simp only at h
  obtain⟨v,hK,hr⟩:=xR (xo:=x) (yo:=y) h
  refine⟨v,hK,fun w=>?_⟩
  have:=hr w
  simp only[execOp,ho,Sem.run_bind] at this ⊢
  rw[this]
  rfl
theorem tR[ax]{P:Program}{ρ:Env}{o:Oper}{K:Value->Prop}{t:TypeId}{x:Operand}(ho:o.op=.sliceToArrayPointer t x)(h:fP P ρ o K):dN P ρ o K:=by
  unfold fP at h
  rw[ho] at h
  simp only at h
  split at h
  . rename_i n e a l c hu hx
    obtain⟨hn,h1⟩:=h
    cases a with
    | none=>exact h1.elim
    | some a=>
      refine⟨_,h1,fun w=>?_⟩
      simp[execOp,ho,Instr.arrayAt,run_underlying hu,hx,Nat.not_lt.2 hn]
  . exact h.elim
theorem pX[ax]{P:Program}{ρ:Env}{o:Oper}{K:Value->Prop}(h:fP P ρ o K):dN P ρ o K:=by
  cases ho:o.op with
  | move x=>unfold fP at h;rw[ho] at h;exact⟨_,h,fun w=>by simp[execOp,ho]⟩
  | assign x=>unfold fP at h;rw[ho] at h;exact⟨_,h,fun w=>by simp[execOp,ho]⟩
  | pick c a b=>exact Dw ho h
  | nilCheck x=>exact qZ ho h
  | binOp op t x y u=>exact A9 ho h
  | unOp u t x=>exact Dv ho h
  | convert s d x=>exact tQ ho h
  | makeFunc f x y=>unfold fP at h;rw[ho] at h;exact⟨_,h,fun w=>by simp[execOp,ho,Instr.makeFunc]⟩
  | sliceToArrayPointer t x=>exact tR ho h
  | slice t x lo hi mx=>
    cases mx with
    | none=>exact A4 ho h
    | some m=>
      cases hi with
      | none=>unfold fP at h;rw[ho] at h;exact h.elim
      | some hi=>exact wK ho h
  | fieldAddr s x f=>exact oZ ho h
  | field t x f=>exact A7 ho h
  | indexAddr t x i=>exact oY ho h
  | index t x i=>exact A5 ho h
  | extract x i=>exact tP ho h
  | build t ps=>exact A8 ho h
  | makeInterface t x=>exact A6 ho h
  | call c=>exact Dx ho h
  | _=>unfold fP at h;rw[ho] at h;exact h.elim
/- loads -/
theorem uR{h:Heap}{a:Addr}{v:Value}(hv:hc h a=some v):a.block<h.size:=by
  unfold hc at hv
  cases hb:h[a.block]? with
  | none=>rw[hb] at hv;cases hv
  | some o=>exact (wo.1 hb).1
theorem aw[ax]{h h':Heap}(hE:Ext h h'){a:Addr}{v:Value}(hv:hc h a=some v):hc h' a=some v:=by
  have hl:=uR hv
  unfold hc at *
  rw[hE.2 _ hl];exact hv
theorem IG(w:World)(a:Addr):w.cell? a=hc w.heap a:=rfl
theorem Ext.trans{a b c:Heap}(h:Ext a b)(k:Ext b c):Ext a c:=⟨mQ h.1 k.1,fun i hi=>(k.2 i (Nat.lt_of_lt_of_le hi h.1)).trans (h.2 i hi)⟩
theorem mA{h:Heap}{a:Addr}{vs:List Value}{K:Prop}(hh:nc h a vs K):a8 h a vs/\K:=by
  unfold nc at hh
  split at hh
  . refine⟨?_,hh.2⟩
    intro i v hv
    cases i with
    | zero=>simp at hv;subst hv;exact hh.1
    | succ i=>simp at hv
  . exact hh
theorem l9[ax]{P:Program}{w:World}{t:TypeId}{a:Addr}{vs:List Value}(ht:jR P t=true)(hl:aO P t=vs.length)(hv:a8 w.heap a vs)(bz:j9 P t=false->vs≠[]):
    (loadVar t a).run P w=.ok (jn (j9 P t) vs) w:=by
  unfold loadVar
  simp only[Sem.run_bind,iM ht,Result.andThen_ok,Sem.run_ite]
  cases bc:j9 P t with
  | true=>
    simp only[if_true,Sem.run_bind,aW ht,Result.andThen_ok]
    rw[hl]
    have:=run_loadCells_list (P:=P) w a vs (fun j v hj=>by rw[iw];exact hv j v hj)
    simp only[this,Result.andThen_ok,Sem.run_pure,jn,cond]
  | false=>
    simp only[Bool.false_eq_true,if_false]
    cases vs with
    | nil=>exact absurd rfl (bz bc)
    | cons v r=>
      have h0:=hv 0 v rfl
      simp only[ef] at h0
      rw[run_load,IG,h0]
      rfl
theorem u7[ax]{P:Program}{t:TypeId}(ht:jR P t=true)(bc:j9 P t=false):(flat P 9 t).length=1:=by
  obtain⟨d,hd⟩:=y7 ht
  unfold j9 at bc
  rw[hd] at bc
  cases d<;>first | (cases bc;done) | simp[flat,hd]
theorem pY[ax]{P:Program}{ρ:Env}{o:Oper}{h:Heap}{K:Value->Prop}(hh:Vu P ρ o h K):
    ∃v a,K v/\NL ρ o=some a/\∀w:World,(∀k u,hc h (ef a k)=some u->hc w.heap (ef a k)=some u)->(execOp (bw ρ) o).run P w=.ok (.value v) w:=by
  unfold Vu at hh
  split at hh
  . rename_i t x ho
    split at hh
    . rename_i a hx
      obtain⟨hb,h1⟩:=av hh
      simp only[Yt] at hb
      obtain⟨vs,hl,h2⟩:=im _ _ h1
      obtain⟨Me,hK⟩:=mA h2
      refine⟨_,a,hK,by unfold NL;rw[ho];simp only[hx],fun w hE=>?_⟩
      have Zr:a8 w.heap a vs:=fun i v hv=>hE i v (Me i v hv)
      have hr:=l9 (P:=P) (w:=w) (t:=t) (a:=a) (vs:=vs) hb.1 (by rw[dK hb.2,hl]) Zr (fun bc e=>by
        have:=u7 hb.1 bc
        rw[<-hl,e] at this
        cases this)
      simp[execOp,ho,hx,Instr.loadAt,Instr.sureAddr,hr]
    . exact hh.elim
  . exact hh.elim
def oD[ax](P:Program)(w:World)(r:Result Next)(K:Value->Heap->Prop):Prop:=
  (∃v w',r=.ok (.value v) w'/\K v w'.heap/\Fr w w')\/(∃w',r=.ok .skip w'/\K undef w'.heap/\Fr w w') \/
  (∃f args,r=.ok (.enter f args) w/\Calls P f args w fun e w'=>∃v,e=.returned v/\K v w'.heap/\Fr w w')
theorem Bt(w:World)(a:Addr)(v:Value):(w.setCell a v).heap=dH w.heap a v:=rfl
theorem wy[ax](w:World)(a:Addr)(v:Value):Fr w (w.setCell a v):=⟨rfl,rfl,rfl,ax.heap w _⟩
theorem jV{h:Heap}{a:Addr}{v:Value}{b:Nat}(hb:b≠a.block):(dH h a v)[b]?=h[b]?:=by
  unfold dH
  rw[Array.getElem?_modify,if_neg (fun e=>hb e.symm)]
theorem nZ[ax]{h:Heap}{a b:Addr}{v:Value}(hs:(hc h b).isSome=true):(hc (dH h a v) b).isSome=true:=by
  by_cases hb:b.block=a.block
  . unfold hc dH at *
    rw[Array.getElem?_modify,if_pos hb.symm]
    rw[hb] at hs ⊢
    cases hx:h[a.block]? with
    | none=>rw[hx] at hs;cases hs
    | some o=>
      rw[hx] at hs
      cases o<;>try (cases hs;done)
      rename_i c e f
      simp only[Option.map_some]
      simp only[] at hs
      split
      . rename_i h1;rw[if_pos h1] at hs;cases hs
      . rename_i h1
        rw[if_neg h1] at hs
        by_cases h2:a.spot.isSome
        . simpa [h2] using hs
        . simp only[h2,Bool.false_eq_true,if_false]
          have:b.off<c.size:=by
            cases OO:c[b.off]? with
            | none=>rw[OO] at hs;cases hs
            | some v=>exact (wo.1 OO).1
          simp[this]
  . unfold hc at *
    rw[jV hb];exact hs
theorem IV[ax]{h:Heap}{a b:Addr}{v:Value}:fz (dH h a v) b=fz h b:=by
  by_cases hb:b.block=a.block
  . unfold fz dH
    rw[Array.getElem?_modify,if_pos hb.symm,hb]
    cases h[a.block]? with
    | none=>rfl
    | some o=>cases o<;>rfl
  . unfold fz
    rw[jV hb]
theorem lD{v:Value}(h:fF v=true):v.oneCell'=true:=by cases v<;>first | rfl | cases h
theorem AD[ax]{P:Program}{w:World}{a:Addr}{v:Value}(hv:fF v=true)(hs:(hc w.heap a).isSome=true)(hf:fz w.heap a=false):(store a v).run P w=.ok () (w.setCell a v):=by
  have:=run_store P w a v .plain (lD hv)
  rw[this]
  obtain⟨u,hu⟩:=Option.isSome_iff_exists.1 hs
  have h1:w.cell? a=some u:=hu
  have h2:w.frozen? a=false:=hf
  simp[h1,h2]
theorem eC[ax]{P:Program}{a:Addr}:∀(vs:List Value) (i:Nat) (w:World),vs.all fF=true->(∀j,j<vs.length->(hc w.heap (ef a (i+j))).isSome=true/\fz w.heap (ef a (i+j))=false) ->
    ∃w',(storeCells a vs i).run P w=.ok () w'/\w'.heap=bh w.heap a i vs/\Fr w w'
  | [],i,w,_,_=>⟨w,rfl,rfl,Fr.refl w⟩
  | v::vs,i,w,h1,pA=>by
    simp only[List.all_cons,Yt] at h1
    have h0:=pA 0 (by simp)
    rw[Nat.add_zero] at h0
    obtain⟨w',hr,hh,hf⟩:=eC (P:=P) (a:=a) vs (i+1) (w.setCell (ef a i) v) h1.2 (fun j hj=>by
      have:=pA (j+1) (by simpa using hj)
      rw[show i+1+j=i+(j+1) by omega]
      rw[Bt]
      exact⟨nZ this.1,by rw[IV];exact this.2⟩)
    refine⟨w',?_,hh,(wy w _ v).trans hf⟩
    simp only[storeCells,Sem.run_bind,iw,AD h1.1 h0.1 h0.2,Result.andThen_ok,hr]
theorem Ba[ax]{P:Program}{ρ:Env}{o:Oper}{w:World}{K:Value->Heap->Prop}{t:TypeId}{x y:Operand}(ho:o.op=.store t x y)(h:mV P ρ o w.heap K):oD P w ((execOp (bw ρ) o).run P w) K:=by
  unfold mV at h
  rw[ho] at h
  simp only at h
  split at h
  . rename_i a hx
    obtain⟨hb,h1⟩:=av h
    simp only[Yt] at hb
    obtain⟨ha,pA,hK⟩:=av h1
    obtain⟨w',hr,hh,hf⟩:=eC (P:=P) (a:=a) (bw ρ y).cells.toList 0 w ha (fun j hj=>by rw[Nat.zero_add];exact pA j hj)
    refine .inr (.inl ⟨w',?_,hK _ hh,hf⟩)
    have eK:¬(bw ρ y).cells.size≠aO P t:=by rw[dK hb.2];simp
    simp only[execOp,ho,Instr.storeAt,hx,Instr.sureAddr,storeVar,Sem.run_bind,Sem.run_pure,Result.andThen_ok,aW hb.1,Sem.run_ite,eK,if_false]
    rw[hr]
    rfl
  . exact h.elim
theorem dp{P:Program}{w:World}(e:TypeId)(c:Array Value):(newRow e c).run P w=.ok ⟨w.heap.size,0,none⟩ (w.alloc (.cells c e)):=rfl
theorem Bc[ax]{P:Program}{ρ:Env}{o:Oper}{w:World}{K:Value->Heap->Prop}{t:TypeId}(ho:o.op=.alloc t)(h:mV P ρ o w.heap K):oD P w ((execOp (bw ρ) o).run P w) K:=by
  unfold mV at h
  rw[ho] at h
  simp only at h
  split at h
  . rename_i z hz
    refine .inl ⟨_,w.alloc (.cells z.cells t),?_,h _ rfl,rfl,rfl,rfl,ax.heap w _⟩
    cases hi:P.info? t with
    | none=>rw[hi] at hz;cases hz
    | some i=>
      rw[hi] at hz
      simp only[Option.bind_some] at hz
      have Rs:(zeroValue t).run P w=.ok z w:=by simp[zeroValue,typeInfo,hi,hz]
      simp only[execOp,ho,Instr.alloc,newVar,Sem.run_bind,Rs,Result.andThen_ok,dp,Sem.run_pure]
  . exact h.elim
theorem HO[ax]{P:Program}{ρ:Env}{o:Oper}{w:World}{K:Value->Heap->Prop}{t:TypeId}{x:Operand}(ho:o.op=.box t x)(h:mV P ρ o w.heap K):oD P w ((execOp (bw ρ) o).run P w) K:=by
  unfold mV at h
  rw[ho] at h
  simp only at h
  refine .inl ⟨_,w.alloc (.cells (bw ρ x).cells t),?_,h _ rfl,rfl,rfl,rfl,ax.heap w _⟩
  simp only[execOp,ho,Instr.box,newVar,Sem.run_bind,Result.andThen_ok,dp,Sem.run_pure]
theorem nA:∀(n:Nat) (l:List Value),(fV n l).length=n*l.length
  | 0,l=>by simp[fV]
  | n+1,l=>by simp[fV,nA n l,Nat.succ_mul];omega
theorem tA:∀(n:Nat) (l:List Value) (i:Nat),i<n*l.length->(fV n l)[i]?=l[i%l.length]?
  | 0,l,i,h=>by simp at h
  | n+1,l,i,h=>by
    simp only[fV]
    by_cases hi:i<l.length
    . rw[jw hi,Nat.mod_eq_of_lt hi]
    . rw[qJ (by omega),tA n l (i-l.length) (by have:(n+1)*l.length=n*l.length+l.length:=Nat.succ_mul n l.length;omega)]
      rw[<-Nat.mod_eq_sub_mod (by omega)]
theorem pL[ax](z:Array Value)(n:Nat)(hz:0<z.size):((Array.range (n*z.size)).map (fun i=>z[i%z.size]!))=⟨fV n z.toList⟩:=by
  apply Array.ext'
  apply wm
  intro i
  simp only[Array.toList_map,Array.toList_range,Yd]
  by_cases hi:i<n*z.size
  . rw[xX hi,tA n z.toList i (by simpa using hi)]
    have hm:i%z.size<z.size:=Nat.mod_lt _ hz
    simp[hm]
  . rw[Yl (by simpa using hi),Yl (by rw[nA];simpa using hi)]
    rfl
theorem yc{P:Program}{e:TypeId}(h:((P.info? e).bind (·.zero)).isSome=true):∃z,bL P e=z.cells.toList/\∀w,(zeroValue e).run P w=.ok z w:=by
  obtain⟨z,hz⟩:=Option.isSome_iff_exists.1 h
  refine⟨z,by simp[bL,hz],fun w=>?_⟩
  cases hi:P.info? e with
  | none=>rw[hi] at hz;cases hz
  | some i=>rw[hi] at hz;simp only[Option.bind_some] at hz;simp[zeroValue,typeInfo,hi,hz]
theorem nJ[ax]{P:Program}{ρ:Env}{o:Oper}{w:World}{K:Value->Heap->Prop}{t:TypeId}{n:Nat}{ps:Array (Nat × Operand)}(ho:o.op=.buildSlice t n ps)(h:mV P ρ o w.heap K):
    oD P w ((execOp (bw ρ) o).run P w) K:=by
  unfold mV at h
  rw[ho] at h
  simp only at h
  obtain⟨hb,h1⟩:=av h
  simp only[Yt] at hb
  obtain⟨⟨⟨⟨⟨hs,ht⟩,hz⟩,GX⟩,fq⟩,hle⟩:=hb
  have hu:=cq hs
  obtain⟨z,D9,Rs⟩:=yc hz
  generalize elemOf P t=e at *
  have eK:aO P e=z.cells.size:=by have:=dK GX;rw[D9] at this;rw[<-this];simp
  have hp:0<z.cells.size:=by rw[<-eK];simpa using fq
  have R6:¬n*aO P e>2^24:=by simp at hle;omega
  have Lz:(ps.map fun (i,x)=>(i,bw ρ x)).toList=gZ ρ ps:=by simp[gZ]
  have fin:∀l',Instr.fill (fun i=>some (i*aO P e,aO P e)) ⟨fV n (bL P e)⟩ (gZ ρ ps)=some ⟨l'⟩ ->
      (execOp (bw ρ) o).run P w=.ok (.value (.slice (some ⟨w.heap.size,0,none⟩) n n)) (w.alloc (.cells ⟨l'⟩ e)):=by
    intro l' hf
    by_cases h0:n*aO P e=0
    . have hn:n=0:=by rcases Nat.mul_eq_zero.1 h0 with h | h;exact h;omega
      have dq:((Array.range (n*aO P e)).map (fun i=>(#[]:Array Value)[i%(#[]:Array Value).size]!))=⟨fV n (bL P e)⟩:=by
        rw[h0,hn];simp[fV]
      simp only[execOp,ho,Instr.buildSlice,Sem.run_bind,run_underlying hu,Result.andThen_ok,aW ht,if_neg R6,if_pos h0,Sem.run_pure,Lz,dq,hf,dp]
    . have dq:((Array.range (n*aO P e)).map (fun i=>z.cells[i%z.cells.size]!))=⟨fV n (bL P e)⟩:=by
        rw[eK,pL z.cells n hp,D9]
      simp only[execOp,ho,Instr.buildSlice,Sem.run_bind,run_underlying hu,Result.andThen_ok,aW ht,if_neg R6,if_neg h0,Sem.run_pure,Rs,Lz,dq,hf,dp]
  split at h1
  . rename_i dQ
    simp only[Yt] at dQ
    have hl:=dK dQ.1
    have hf:=jS (gZ ρ ps) 0 [] (fV n (bL P e)) dQ.2 (by simp) (by rw[nA,D9];simp[gZ,<-hl,eK])
    exact .inl ⟨_,_,fin _ (by simpa using hf),h1 _ rfl,rfl,rfl,rfl,ax.heap w _⟩
  . obtain⟨l',hK,hf⟩:=ik _ _ _ h1
    exact .inl ⟨_,_,fin _ hf,hK _ rfl,rfl,rfl,rfl,ax.heap w _⟩
theorem pP:∀(n:Nat) (l:List Value),fV n l=(List.replicate n l).flatten
  | 0,l=>rfl
  | n+1,l=>by simp[fV,List.replicate_succ,pP n l]
theorem wrap_small{n:Int}(h0:0<=n)(h1:n<=9223372036854775807):IntKind.i64.wrap n=n:=IntWalk.i64_in n ⟨by omega,h1⟩
theorem po[ax]{P:Program}{ρ:Env}{o:Oper}{w:World}{K:Value->Heap->Prop}{t:TypeId}{lo co:Operand}(ho:o.op=.makeSlice t lo co)(h:mV P ρ o w.heap K):
    oD P w ((execOp (bw ρ) o).run P w) K:=by
  unfold mV at h
  rw[ho] at h
  simp only at h
  split at h
  . rename_i k1 l k2 c hl wi
    obtain⟨hb,⟨oI,R7,zo⟩,hK⟩:=av h
    simp only[Yt] at hb
    obtain⟨⟨⟨⟨⟨hs,ht⟩,hz⟩,GX⟩,fq⟩,hbp⟩:=hb
    have hu:=cq hs
    obtain⟨z,D9,Rs⟩:=yc hz
    generalize elemOf P t=e at *
    have eK:aO P e=z.cells.size:=by have:=dK GX;rw[D9] at this;rw[<-this];simp
    have hp:0<z.cells.size:=by rw[<-eK];simpa using fq
    obtain⟨i,hi⟩:=fJ ht
    have II:vv P e=i.bytes:=by simp[vv,hi]
    have hse:aO P e=i.size:=by simp[aO,hi]
    have acf:0<i.bytes:=by rw[<-II];simpa using hbp
    rw[II] at zo
    have uS:c<=140737488355328:=by
      have:(1:Int)*c<=(i.bytes:Int)*c:=Int.mul_le_mul_of_nonneg_right (by omega) (by omega)
      omega
    have hwc:IntKind.i64.wrap c=c:=wrap_small (by omega) (by omega)
    have hwl:IntKind.i64.wrap l=l:=wrap_small (by omega) (by omega)
    have t1:(decide (c<0)||decide ((i.bytes:Int)*c>2^48))=false:=by
      have h1:¬c<0:=by omega
      have h2:(i.bytes:Int)*c<=281474976710656:=by omega
      simp[h1,h2]
    have t2:(((decide (c<0)||decide ((i.bytes:Int)*c>2^48))||decide (l<0))||decide (l>c))=false:=by
      rw[t1]
      have h1:¬l<0:=by omega
      have h2:¬l>c:=by omega
      simp[h1,h2]
    refine .inl ⟨_,w.alloc (.cells ⟨ah P e c.toNat⟩ e),?_,hK _ rfl,rfl,rfl,rfl,ax.heap w _⟩
    have Cr:ah P e c.toNat=fV c.toNat z.cells.toList:=by rw[pP,ah,D9]
    rw[Cr]
    have tI:(typeInfo e).run P w=.ok i w:=by simp[typeInfo,hi]
    have sI:(sizeOf e).run P w=.ok z.cells.size w:=by rw[aW ht,eK]
    by_cases h0:c.toNat*z.cells.size=0
    . have hn:c.toNat=0:=by rcases Nat.mul_eq_zero.1 h0 with h | h;exact h;omega
      have dq:((Array.range (c.toNat*z.cells.size)).map (fun i=>(#[]:Array Value)[i%(#[]:Array Value).size]!))=⟨fV c.toNat z.cells.toList⟩:=by
        rw[h0,hn];simp[fV]
      simp only[execOp,ho,hl,wi,Instr.makeSlice,Sem.run_bind,run_underlying hu,Result.andThen_ok,asInt,asIntOf,Sem.run_pure,tI,hwc,hwl,t2,Bool.false_eq_true,if_false,run_askRoom,sI,if_pos h0,dq,dp]
    . have dq:((Array.range (c.toNat*z.cells.size)).map (fun i=>z.cells[i%z.cells.size]!))=⟨fV c.toNat z.cells.toList⟩:=pL z.cells _ hp
      simp only[execOp,ho,hl,wi,Instr.makeSlice,Sem.run_bind,run_underlying hu,Result.andThen_ok,asInt,asIntOf,Sem.run_pure,tI,hwc,hwl,t2,Bool.false_eq_true,if_false,run_askRoom,sI,if_neg h0,Rs,dq,dp]
  . exact h.elim
theorem bW[ax]{P:Program}{ρ:Env}{o:Oper}{w:World}{K:Value->Heap->Prop}{s:Sem Value}(he:execOp (bw ρ) o=(do pure (.value (<-s))))(h:br P s w.heap K):oD P w ((execOp (bw ρ) o).run P w) K:=by
  obtain⟨v,w',hr,hK,hf⟩:=h w rfl
  refine .inl ⟨v,w',?_,hK,hf.1,hf.2.1,hf.2.2,ax.run _ _ _ _ _ hr⟩
  rw[he]
  simp only[Sem.run_bind,hr,Result.andThen_ok,Sem.run_pure]
theorem lP[ax]{P:Program}{ρ:Env}{o:Oper}{w:World}{K:Value->Heap->Prop}{s:Sem Unit}(he:execOp (bw ρ) o=(do s;pure .skip))(h:br P s w.heap fun _ h'=>K undef h'):oD P w ((execOp (bw ρ) o).run P w) K:=by
  obtain⟨v,w',hr,hK,hf⟩:=h w rfl
  refine .inr (.inl ⟨w',?_,hK,hf.1,hf.2.1,hf.2.2,ax.run _ _ _ _ _ hr⟩)
  rw[he]
  simp only[Sem.run_bind,hr,Result.andThen_ok,Sem.run_pure]
theorem br.mono{α:Type}{P:Program}{s:Sem α}{h:Heap}{K K':α->Heap->Prop}(hh:br P s h K)(hk:∀v h',K v h'->K' v h'):br P s h K':=
  fun w hw=>let ⟨v,w',hr,hK,hf⟩:=hh w hw;⟨v,w',hr,hk _ _ hK,hf⟩
theorem Fn.mono[ax]{P:Program}{f:FuncId}{args:Array Value}{h:Heap}{R R':Value->Heap->Prop}(hh:Fn P f args h R)(hk:∀v h',R v h'->R' v h'):Fn P f args h R':=
  fun w hw=>(hh w hw).mono fun _ _ ⟨v,he,hR,hf⟩=>⟨v,he,hk _ _ hR,hf⟩
theorem lO[ax]{P:Program}{t:TypeId}{F:Value->Prop}(h:zy P t F):∃v,F v:=let ⟨_,_,hF⟩:=im _ _ h;⟨_,hF⟩
theorem qB[ax]{P:Program}{v:Value}{K:Value->Prop}:∀(ts:List TypeId) (acc:List Value),EZ P v K ts acc->K v
  | [],_,h=>by obtain⟨he,hK⟩:=h;rw[he];exact hK
  | _::r,_,h=>let ⟨_,hF⟩:=lO h;qB r _ hF
theorem ey[ax]{P:Program}{t:TypeId}{v:Value}{K:Value->Prop}(h:mw P t v K):K v:=by
  unfold mw at h
  split at h
  . exact qB _ _ h
  . obtain⟨u,he,hK⟩:=lO h;rw[he];exact hK
  . exact h.elim
theorem Dy[ax]{P:Program}{ρ:Env}{o:Oper}{w:World}{K:Value->Heap->Prop}{c:Call}(ho:o.op=.call c)(h:mV P ρ o w.heap K):oD P w ((execOp (bw ρ) o).run P w) K:=by
  unfold mV at h
  rw[ho] at h
  simp only at h
  obtain⟨callee,⟨args⟩,⟨ts⟩⟩:=c
  split at h
  . rename_i hc
    simp only at hc h
    subst hc
    split at h
    . rename_i s x t u ha
      refine bW (s:=Builtin.append_ #[t,u] o.type #[s,x]) (by simp[execOp,ho,resolve,invoke,Go.builtin,ha]) ?_
      exact (h o.type).mono fun v h' ⟨r,hv,hK⟩=>by rw[hv];exact hK
    . exact h.elim
  . rename_i hc
    simp only at hc h
    subst hc
    split at h
    . rename_i s x t u ha
      refine bW (s:=Builtin.copy_ #[t,u] o.type #[s,x]) (by simp[execOp,ho,resolve,invoke,Go.builtin,ha]) ?_
      exact (h o.type).mono fun v h' ⟨r,hv,hK⟩=>by rw[hv];exact hK
    . exact h.elim
  . rename_i hc
    simp only at hc h
    subst hc
    refine bW (s:=Builtin.len_ ⟨ts⟩ o.type (Array.map (bw ρ) ⟨args⟩)) (by simp[execOp,ho,resolve,invoke,Go.builtin]) (h.mono fun v h' hv=>ey hv)
  . rename_i hc
    simp only at hc h
    subst hc
    refine bW (s:=Builtin.delete_ ⟨ts⟩ o.type (Array.map (bw ρ) ⟨args⟩)) (by simp[execOp,ho,resolve,invoke,Go.builtin]) h
  . rename_i hc
    simp only at hc h
    subst hc
    refine bW (s:=Builtin.clear_ ⟨ts⟩ o.type (Array.map (bw ρ) ⟨args⟩)) (by simp[execOp,ho,resolve,invoke,Go.builtin]) h
  . rename_i f hc
    simp only at hc h
    subst hc
    split at h
    . rename_i g first cap hf
      cases hcal:au P g with
      | false=>
        rw[hcal] at h
        obtain⟨v,w',hr,hK,Es⟩:=h w rfl
        refine .inl ⟨v,w',?_,ey hK,Es.1,Es.2.1,Es.2.2,ax.run _ _ _ _ _ hr⟩
        simp only[execOp,ho,resolve,Deferred.ofValue,hf,Sem.run_bind,Sem.run_pure,Result.andThen_ok,invoke]
        exact hr
      | true=>
      rw[hcal] at h
      have h1:=h
      unfold au at hcal
      split at hcal
      . rename_i fn Ct
        simp only[Yt,Bool.not_eq_true'] at hcal
        refine .inr (.inr ⟨g,first++Array.map (bw ρ) ⟨args⟩++cap,?_,?_⟩)
        . obtain⟨body,Sv⟩:=Option.isSome_iff_exists.1 hcal.1
          simp only[execOp,ho,resolve,Deferred.ofValue,hf,Sem.run_bind,Sem.run_pure,Result.andThen_ok,invoke,callFunc,run_program,Ct,hcal.2,Bool.false_eq_true,if_false,Sv,Option.isNone_some]
        . exact (h1 w rfl).mono fun e w' ⟨v,he,hR,Es⟩=>⟨v,he,ey hR,Es⟩
      . cases hcal
    . exact h.elim
  . exact h.elim
theorem Bb[ax]{P:Program}{ρ:Env}{o:Oper}{w:World}{K:Value->Heap->Prop}(h:mV P ρ o w.heap K):oD P w ((execOp (bw ρ) o).run P w) K:=by
  cases ho:o.op with
  | alloc t=>exact Bc ho h
  | box t x=>exact HO ho h
  | store t x y=>exact Ba ho h
  | buildSlice t n ps=>exact nJ ho h
  | makeSlice t l c=>exact po ho h
  | convert s d x=>unfold mV at h;rw[ho] at h;exact bW (by simp only[execOp,ho]) (h.mono fun v h' hv=>ey hv)
  | lookup t m k ok=>unfold mV at h;rw[ho] at h;exact bW (by simp only[execOp,ho]) (h.mono fun v h' hv=>ey hv)
  | mapUpdate t m k x=>unfold mV at h;rw[ho] at h;exact lP (by simp only[execOp,ho]) h
  | insert t m k x=>unfold mV at h;rw[ho] at h;exact lP (by simp only[execOp,ho]) h
  | mapEntry t m k=>
    unfold mV at h;rw[ho] at h
    refine bW (by simp only[execOp,ho]) (h.mono fun v h' hv=>?_)
    split at hv
    . obtain⟨u,n,he,hK⟩:=lO hv;rw[he];exact hK
    . exact hv.elim
  | entryStore t m s x=>unfold mV at h;rw[ho] at h;exact lP (by simp only[execOp,ho]) h
  | makeMap t r=>unfold mV at h;rw[ho] at h;exact bW (by simp only[execOp,ho]) (h.mono fun v h' hv=>ey hv)
  | range t x=>unfold mV at h;rw[ho] at h;exact bW (by simp only[execOp,ho]) (h.mono fun v h' ⟨a,hv,hK⟩=>by rw[hv];exact hK)
  | next x s=>
    unfold mV at h;rw[ho] at h;simp only at h
    cases s with
    | true=>
      refine bW (by simp only[execOp,ho]) (h.mono fun v h' hv=>?_)
      rcases hv with ⟨hv,hK⟩ | ⟨k,e,hv,hK⟩<;>rw[hv]<;>exact hK
    | false=>
      refine bW (by simp only[execOp,ho]) (h.mono fun v h' hv=>?_)
      rcases hv with ⟨hv,hK⟩ | ⟨k,e,hv,hK⟩<;>rw[hv]<;>exact hK
  | call c=>exact Dy ho h
  | _=>unfold mV at h;rw[ho] at h;exact h.elim
theorem pW[ax]{P:Program}{ρ:Env}{o:Oper}{w:World}{K:Value->Heap->Prop}(h:Vr P ρ o w.heap K):oD P w ((execOp (bw ρ) o).run P w) K:=by
  unfold Vr at h
  split at h
  . obtain⟨v,hK,hr⟩:=pX h
    exact .inl ⟨v,w,hr w,hK,Fr.refl w⟩
  . obtain⟨v,_,hK,_,hr⟩:=pY h
    exact .inl ⟨v,w,hr w (fun _ _ h3=>h3),hK,Fr.refl w⟩
  . exact Bb h
end Go.VC
end

section
namespace Go.VC
def Sat[ax](n:Nat)(w0:World)(Q:Ex->Env->Heap->Prop):Exit->Act->World->Prop:=fun e a w=>
  a.defers=[]/\a.tmps.size=n/\Fr w0 w/\match e with
    | .normal=>Q .n (aX a) w.heap
    | .exit i=>Q (.x i) (aX a) w.heap
    | .ret=>Q .r (aX a) w.heap
    | _=>False
theorem ct{a:Act}{d:Option Nat}{v:Value}:(a.put d v).defers=a.defers:=by cases d<;>rfl
theorem zC[ax]{P:Program}{o:Oper}{a:Act}{w:World}{K:Value->Heap->Prop}{next:Act->World->Prop}{Q:Exit->Act->World->Prop}
    (h:oD P w ((execOp (bw (aX a)) o).run P w) K) (hn:∀v w',K v w'.heap->Fr w w'->next (a.put o.dst v) w'):o.wp P a w next Q:=by
  unfold Oper.wp
  rw[kO]
  rcases h with ⟨v,w',hr,hK,hf⟩ | ⟨w',hr,hK,hf⟩ | ⟨f,args,hr,hc⟩
  . rw[hr];exact hn v w' hK hf
  . rw[hr];exact hn undef w' hK hf
  . rw[hr]
    refine hc.mono ?_
    rintro e w' ⟨v,rfl,hK,hf⟩
    exact hn v w' hK hf
theorem n9{ops:List Oper}{a:Act}{o:Oper}{go skip:Prop}(h:SV ops (aX a) o.guard go skip):
    (Region.wanted o (yielded ops.toArray a.tmps)=true/\go)\/(Region.wanted o (yielded ops.toArray a.tmps)=false/\skip):=by
  unfold SV at h
  unfold Region.wanted
  split at h
  . rename_i hg;rw[hg];exact .inl ⟨rfl,h⟩
  . rename_i j want hg
    rw[hg]
    simp only[yielded]
    have e:ops.toArray[j]?=ops[j]?:=by simp
    rw[e]
    split at h
    . rename_i d hd
      rw[hd]
      simp only[Option.bind_some]
      have hv:aX a d=(a.tmps[d]?).getD undef:=by simp[aX,Array.getD_eq_getD_getElem?]
      split at h
      . rename_i b hb
        rw[hv] at hb
        cases ht:a.tmps[d]? with
        | none=>rw[ht] at hb;cases hb
        | some v=>
          rw[ht] at hb
          simp only[Option.getD_some] at hb
          subst hb
          unfold sB at h
          split at h
          . rename_i Zn;exact .inl ⟨by simpa using Zn,h⟩
          . rename_i Zn;exact .inr ⟨by simpa using Zn,h⟩
      . rename_i hb
        refine .inr ⟨?_,h⟩
        cases ht:a.tmps[d]? with
        | none=>rfl
        | some v=>
          rw[hv,ht] at hb
          simp only[Option.getD_some] at hb
          cases v<;>first | rfl | exact absurd rfl (hb _)
    . rename_i hd
      rw[hd]
      exact .inr ⟨rfl,h⟩
theorem iW[ax]{n:Nat}{used:Bool}{a:Act}{d:Option Nat}{v:Value}{K:Env->Prop}(hn:a.tmps.size=n)(h:B9 n used (aX a) d v K):
    K (aX (a.put d v))/\(a.put d v).tmps.size=n:=by
  unfold B9 at h
  cases used with
  | false=>exact eH hn h
  | true=>
    simp only[cond] at h
    split at h
    . rename_i b
      unfold sB at h
      cases b<;>exact eH hn h
    . exact h.elim
def eS(D:List Nat)(ρ:Env)(a:Act):Prop:=∀j,j∉D->aX a j=ρ j
theorem eS.put{D:List Nat}{ρ:Env}{a:Act}(h:eS D ρ a){d:Option Nat}{v:Value}(hd:∀x,d=some x->x∈D):eS D ρ (a.put d v):=by
  intro j hj
  rw[<-h j hj]
  cases d with
  | none=>rfl
  | some x=>
    have hx:x≠j:=fun e=>hj (e ▸ hd x rfl)
    simp only[aX,Act.put,Array.getD_eq_getD_getElem?]
    rw[Array.getElem?_setIfInBounds_ne hx]
theorem lC[ax]{P:Program}{n:Nat}{all:List Oper}{K:Env->Heap->Prop}{w0:World}{Q:Exit->Act->World->Prop}{D:List Nat}{ρ0:Env}
    (hQ:∀a w,a.defers=[]->a.tmps.size=n->Fr w0 w->eS D ρ0 a->K (aX a) w.heap->Q .normal a w) :
    ∀(l:List Oper) (i:Nat) (a:Act) (w:World),(∀o∈l,∀x,o.dst=some x->x∈D)->a.defers=[]->a.tmps.size=n->Fr w0 w->eS D ρ0 a->Du P n all l i (aX a) w.heap K->wpList P all.toArray Q l a w
  | [],_,a,w,_,hd,hs,hf,hk,h=>hQ a w hd hs hf hk h
  | o::rest,i,a,w,hD,hd,hs,hf,pB,h=>by
    have hDr:∀o∈rest,∀x,o.dst=some x->x∈D:=fun q hq=>hD q (Yn _ hq)
    have hDo:=hD o Yx
    simp only[Du] at h
    unfold wpList
    rcases n9 h with ⟨hw,LQ⟩ | ⟨hw,Co⟩
    . rw[if_pos hw]
      refine .inl (zC (pW LQ) fun v w' hK Es=>?_)
      obtain⟨hk,dW⟩:=iW hs hK
      exact lC hQ rest (i+1) _ w' hDr (by rw[ct];exact hd) dW (hf.trans Es) (pB.put hDo) hk
    . rw[if_neg (by simp[hw])]
      obtain⟨hk,dW⟩:=eH hs Co
      exact lC hQ rest (i+1) _ w hDr (by rw[ct];exact hd) dW hf (pB.put hDo) hk
/- drawn regions -/
section
variable {P:Program} {ops:Array Oper} {Q:Exit->Act->World->Prop} {md:Region.Mode}
def jA(P:Program)(md:Region.Mode)(ops:Array Oper)(Q:Exit->Act->World->Prop)(Cv:Nat->Bool)(T:Nat->World->World->Prop):Nat->Array Bool->Act->World->Prop
  | 0,L,a,w=>Region.ready md ops L=[]/\Q .normal a w
  | f+1,L,a,w=>(Region.ready md ops L=[]->Q .normal a w) /\
    ∀i∈Region.ready md ops L,wpOp P ops Q i (fun a' w'=>((Cv i=false->w'=w)/\(Cv i=true->T i w w'))/\jA P md ops Q Cv T f (L.setIfInBounds i true) a' w') a w
variable {Cv:Nat->Bool} {T:Nat->World->World->Prop}
theorem vF:∀(f:Nat) (L:Array Bool) (a:Act) (w:World),jA P md ops Q Cv T f L a w->wpAny P md ops Q f L a w
  | 0,_,_,_,h=>h
  | f+1,_,_,_,h=>⟨h.1,fun i hi=>wpOp_mono (fun a' w' h'=>vF f _ a' w' h'.2) (h.2 i hi)⟩
theorem GK{T':Nat->World->World->Prop}(hT:∀i w w',T' i w w'->T i w w'):∀(f:Nat) (L:Array Bool) (a:Act) (w:World),jA P md ops Q Cv T' f L a w->jA P md ops Q Cv T f L a w
  | 0,_,_,_,h=>h
  | f+1,_,_,_,h=>⟨h.1,fun i hi=>wpOp_mono (fun a' w' h'=>⟨⟨h'.1.1,fun he=>hT _ _ _ (h'.1.2 he)⟩,GK hT f _ a' w' h'.2⟩) (h.2 i hi)⟩
theorem Ax{i j:Nat}{L:Array Bool}(hi:i∈Region.ready md ops L)(hj:j∈Region.ready md ops L){oj:Oper}(lJ:ops[j]?=some oj):
    ∀e∈oj.after,Region.binds md e=true->e.on≠i:=by
  rintro e he hb rfl
  obtain⟨_,o',ke,hw⟩:=mem_ready.1 hj
  obtain rfl:oj=o':=eU (lJ.symm.trans ke)
  have Bp:=hw e he hb
  have fQ:=(mem_ready.1 hi).1
  rw[Array.getD_eq_getD_getElem?] at Bp fQ
  cases hL:L[e.on]? with
  | none=>rw[hL] at Bp;exact Bool.noConfusion Bp
  | some b=>rw[hL] at Bp fQ;simp only[Option.getD_some] at Bp fQ;rw[Bp] at fQ;exact Bool.noConfusion fQ
inductive Path (md:Region.Mode) (ops:Array Oper) (i:Nat):Oper->Prop
  | one {o:Oper} {e:Edge}:e∈o.after->Region.binds md e=true->e.on=i->Path md ops i o
  | step {o o':Oper} {e:Edge}:e∈o.after->Region.binds md e=true->ops[e.on]?=some o'->Path md ops i o'->Path md ops i o
def ix(md:Region.Mode)(ops:Array Oper)(L:Array Bool):Prop:=∀j oj,ops[j]?=some oj->L.getD j false=true->∀e∈oj.after,Region.binds md e=true->L.getD e.on false=true
theorem ix.path{L:Array Bool}(hc:ix md ops L){i:Nat}(hi:L.getD i false=false){o:Oper}(hp:Path md ops i o):¬∀e∈o.after,Region.binds md e=true->L.getD e.on false=true:=by
  induction hp with
  | one he hb ho=>intro h;have:=h _ he hb;rw[ho,hi] at this;cases this
  | step he hb ho _ ih=>intro h;exact ih (hc _ _ ho (h _ he hb))
theorem ix.set{L:Array Bool}(hc:ix md ops L){j:Nat}{oj:Oper}(lJ:ops[j]?=some oj)(hw:∀e∈oj.after,Region.binds md e=true->L.getD e.on false=true):ix md ops (L.setIfInBounds j true):=by
  have up:∀k,L.getD k false=true->(L.setIfInBounds j true).getD k false=true:=fun k hk=>by
    by_cases e:j=k
    . subst e
      rw[Array.getD_eq_getD_getElem?] at hk ⊢
      rw[Array.getElem?_setIfInBounds]
      cases hL:L[j]? with
      | none=>rw[hL] at hk;cases hk
      | some b=>have:=(wo.1 hL).1;simp[this]
    . rw[getD_set_ne false e];exact hk
  intro k ok pA hk e he hb
  by_cases ek:j=k
  . subst ek
    rw[lJ] at pA;cases pA
    exact up _ (hw e he hb)
  . rw[getD_set_ne false ek] at hk
    exact up _ (hc k ok pA hk e he hb)
theorem xI{i:Nat}{L:Array Bool}(hi:i∈Region.ready md ops L):L.getD i false=false:=by
  have:=(mem_ready.1 hi).1
  rw[Array.getD_eq_getD_getElem?] at this ⊢
  cases hL:L[i]? with
  | none=>rfl
  | some b=>rw[hL] at this;exact this
theorem HR[ax]{i j:Nat}{L:Array Bool}(hc:ix md ops L)(hi:i∈Region.ready md ops L)(hj:j∈Region.ready md ops L){oj:Oper}(lJ:ops[j]?=some oj):¬Path md ops i oj:=by
  intro hp
  obtain⟨_,o',ke,hw⟩:=mem_ready.1 hj
  obtain rfl:oj=o':=eU (lJ.symm.trans ke)
  exact hc.path (xI hi) hp hw
theorem sF[ax]{S:World->Prop}{i:Nat}{oi:Oper}{v:Value}(hi:ops[i]?=some oi)(uF:∀(j:Nat) (o:Oper) cs b,ops[j]?=some o->o.op ≠ .select cs b)
    (hQ:∀c a w,Q (.panic c) (a.put oi.dst v) w->Q (.panic c) a w) (Ko:Cv i=false)
    (hS:∀(j:Nat) (oj:Oper) (w w':World),ops[j]?=some oj->j≠i->¬Path md ops i oj->S w->(Cv j=false->w'=w)->(Cv j=true->T j w w')->S w')
    (fuel:Nat):∀(L:Array Bool) (a:Act) (w:World),ix md ops L ->
      (∀j oj,ops[j]?=some oj->j≠i->L.getD j true=false->(∀e∈oj.after,Region.binds md e=true->e.on≠i)->oi.apart ops oj=true) ->
      i∈Region.ready md ops L->YieldsIf P ops S oi v a->S w ->
      jA P md ops Q Cv T fuel (L.setIfInBounds i true) (a.put oi.dst v) w->jA P md ops Q Cv T (fuel+1) L a w:=by
  induction fuel with
  | zero=>
    intro L a w ew _ hr hy VU H
    constructor
    . intro he;rw[he] at hr;exact absurd hr List.not_mem_nil
    . intro j hj
      rcases Nat.decEq j i with bz | rfl
      . exact absurd (H.1 ▸ ready_mono hj bz) List.not_mem_nil
      . exact hy.wpOp hi VU ⟨⟨fun _=>rfl,fun he=>absurd (Ko.symm.trans he) Bool.false_ne_true⟩,H⟩
  | succ fuel ih=>
    intro L a w Su zj hr hy VU H
    constructor
    . intro he;rw[he] at hr;exact absurd hr List.not_mem_nil
    . intro j hj
      rcases Nat.decEq j i with bz | rfl
      . obtain⟨xq,oj,lJ,VA⟩:=mem_ready.1 hj
        have hnp:=HR Su hr hj lJ
        have fQ:=Ax hr hj lJ
        refine wpOp_mono (fun a' w' h3=>?_) (wpOp_putIf lJ (zj j oj lJ bz xq fQ) (fun cs b=>uF i oi cs b hi) (fun cs b=>uF j oj cs b lJ) hQ hy (H.2 j (ready_mono hj bz)))
        obtain⟨uD,ew,Ke⟩:=h3
        rw[Array.setIfInBounds_comm _ _ (Ne.symm bz)] at Ke
        refine⟨ew,ih _ a' w' (Su.set lJ VA) (fun k ok hk LK mX=>zj k ok hk LK ?_) (ready_mono hr (Ne.symm bz)) uD (hS j oj w w' lJ bz hnp VU ew.1 ew.2) Ke⟩
        rcases Nat.decEq j k with VO | rfl
        . rwa [getD_set_ne true VO] at mX
        . exact xq
      . exact hy.wpOp hi VU ⟨⟨fun _=>rfl,fun he=>absurd (Ko.symm.trans he) Bool.false_ne_true⟩,H⟩
end
/- the lists of VcCore against the model's arrays -/
def Rl(N:Nat)(L:Array Bool)(l:List Nat):Prop:=L.size=N/\∀i,L.getD i false=(bD l i&&decide (i<N))
theorem Rl.nil(N:Nat):Rl N (Array.replicate N false) []:=⟨by simp,fun i=>by simp[bD,Array.getD_eq_getD_getElem?];cases h:(Array.replicate N false)[i]? with | none=>rfl | some b=>have:=wo.1 h;obtain⟨cG,hb⟩:=this;simp at hb;simp[hb.symm]⟩
theorem kz(l:List Nat)(i j:Nat):bD (i::l) j=(decide (j=i)||bD l j):=by
  simp only[bD,List.any_cons]
  congr 1
  by_cases h:j=i
  . subst h;simp[Nat.beq_refl]
  . have:Nat.beq j i=false:=by
      cases hb:Nat.beq j i
      . rfl
      . exact absurd (Nat.eq_of_beq_eq_true hb) h
    simp[this,h]
theorem Rl.set[ax]{N:Nat}{L:Array Bool}{l:List Nat}(h:Rl N L l){i:Nat}(hi:i<N):Rl N (L.setIfInBounds i true) (i::l):=by
  refine⟨by simp[h.1],fun j=>?_⟩
  by_cases hj:i=j
  . subst hj
    have:i<L.size:=by rw[h.1];exact hi
    simp[kz,this,hi]
  . rw[getD_set_ne false hj,h.2 j,kz]
    have:¬j=i:=fun e=>hj e.symm
    simp[this]
theorem Rl.CN{N:Nat}{L:Array Bool}{l:List Nat}(h:Rl N L l){i:Nat}(hi:i<N):L.getD i true=bD l i:=by
  have:=h.2 i
  have hs:i<L.size:=by rw[h.1];exact hi
  simp only[Array.getD_eq_getD_getElem?,Array.getElem?_eq_getElem hs,Option.getD_some,hi,decide_true,Bool.and_true] at this ⊢
  exact this
theorem iU(e:Edge):Region.binds .any e=lR e:=by
  unfold Region.binds lR
  cases e.ground<;>rfl
theorem tD[ax]{N:Nat}{L:Array Bool}{l:List Nat}(h:Rl N L l)(hl:∀i∈l,i<N)(o:Oper):
    AU o l=true ↔ ∀e∈o.after,Region.binds .any e=true->L.getD e.on false=true:=by
  unfold AU
  rw[List.all_eq_true]
  constructor
  . intro hh e he hb
    have:=hh e (by simpa using he)
    rw[<-iU,hb] at this
    simp only[Bool.not_true,Bool.false_or] at this
    rw[h.2,this]
    have hm:e.on∈l:=by
      simp only[bD,List.any_eq_true] at this
      obtain⟨x,hx,hb⟩:=this
      rw[Nat.eq_of_beq_eq_true hb];exact hx
    simp[hl _ hm]
  . intro hh e he
    rw[<-iU]
    cases hb:Region.binds .any e with
    | false=>rfl
    | true=>
      have:=hh e (by simpa using he) hb
      rw[h.2] at this
      simp only[Yt] at this
      simp[this.1]
theorem kq(ops:List Oper)(l:List Nat):∀(r:List Oper) (k i:Nat),i∈oW ops l k r ↔ k<=i/\∃o,r[i-k]?=some o/\bD l i=false/\AU o l=true
  | [],k,i=>by simp[oW]
  | o::r,k,i=>by
    have ih:=kq ops l r (k+1) i
    have key:i∈oW ops l (k+1) r ↔ k<i/\∃o',(o::r)[i-k]?=some o'/\bD l i=false/\AU o' l=true:=by
      rw[ih]
      constructor
      . rintro⟨h1,o',h2,h3⟩
        refine⟨h1,o',?_,h3⟩
        rw[show i-k=(i-(k+1))+1 by omega,List.getElem?_cons_succ];exact h2
      . rintro⟨h1,o',h2,h3⟩
        refine⟨h1,o',?_,h3⟩
        rw[show i-k=(i-(k+1))+1 by omega,List.getElem?_cons_succ] at h2;exact h2
    unfold oW
    cases hb:(!bD l k&&AU o l) with
    | true=>
      simp only[cond,Yr,key]
      simp only[Yt,Bool.not_eq_true'] at hb
      constructor
      . rintro (rfl | ⟨h1,h2⟩)
        . exact⟨aY _,o,by simp,hb.1,hb.2⟩
        . exact⟨Nat.le_of_lt h1,h2⟩
      . rintro⟨h1,h2⟩
        rcases Nat.eq_or_lt_of_le h1 with h | h
        . exact .inl h.symm
        . exact .inr ⟨h,h2⟩
    | false=>
      simp only[cond,key]
      constructor
      . rintro⟨h1,h2⟩;exact⟨Nat.le_of_lt h1,h2⟩
      . rintro⟨h1,o',h2,h3,h4⟩
        refine⟨?_,o',h2,h3,h4⟩
        rcases Nat.eq_or_lt_of_le h1 with h | h
        . subst h
          simp at h2
          subst h2
          rw[h3,h4] at hb
          cases hb
        . exact h
theorem fD[ax]{ops:List Oper}{L:Array Bool}{l:List Nat}(h:Rl ops.length L l)(hl:∀i∈l,i<ops.length)(i:Nat):
    i∈Region.ready .any ops.toArray L ↔ i∈oW ops l 0 ops:=by
  rw[mem_ready,kq]
  simp only[Nat.zero_le,true_and,Nat.sub_zero,List.getElem?_toArray]
  constructor
  . rintro⟨h0,o,ho,ch⟩
    have cG:i<ops.length:=(Ya.1 ho).1
    exact⟨o,ho,by rw[<-h.CN cG];exact h0,(tD h hl o).2 ch⟩
  . rintro⟨o,ho,h1,h2⟩
    have cG:i<ops.length:=(Ya.1 ho).1
    exact⟨by rw[h.CN cG];exact h1,o,ho,(tD h hl o).1 h2⟩
end Go.VC
end

section
namespace Go.VC
theorem ia{l:List Nat}{i:Nat}:bD l i=true ↔ i∈l:=by
  simp only[bD,List.any_eq_true]
  constructor
  . rintro⟨x,hx,hb⟩;rw[Nat.eq_of_beq_eq_true hb];exact hx
  . intro h;exact⟨i,h,Nat.beq_refl i⟩
theorem mem_zipIdx'{α:Type}{l:List α}{i:Nat}{x:α}(h:l[i]?=some x):(x,i)∈l.zipIdx:=by
  rw[List.mk_mem_zipIdx_iff_getElem?];exact h
theorem vG[ax]{o:Oper}{i:Nat}(h:∀e∈o.after,Region.binds .any e=true->e.on≠i):(o.after.toList.any fun e=>lR e&&Nat.beq e.on i)=false:=by
  rw[List.any_eq_false]
  intro e he
  simp only[Yt,not_and]
  intro hb II
  rw[<-iU] at hb
  exact absurd (Nat.eq_of_beq_eq_true II) (h e (by simpa using he) hb)
theorem fI[ax](l:List Nat)(d:Nat):l.contains d=bD l d:=by
  rw[Bool.eq_iff_iff,ia,List.contains_iff_mem]
theorem Fa(a b:Option Nat):I5 a b=(a==b):=by
  cases a<;>cases b<;>try rfl
  rename_i x y
  by_cases h:x=y
  . subst h;simp[I5,Nat.beq_refl]
  . have:Nat.beq x y=false:=by
      cases hb:Nat.beq x y
      . rfl
      . exact absurd (Nat.eq_of_beq_eq_true hb) h
    simp[I5,this,h]
theorem p7(ops:List Oper)(o:Oper):o.looksAt ops.toArray=rA ops o:=by
  unfold Oper.looksAt rA
  congr 1
  cases o.guard with
  | none=>rfl
  | some g=>simp
theorem sj[ax]{ops:List Oper}{x y:Oper}(h:xT ops x y=true):x.apart ops.toArray y=true:=by
  unfold xT at h
  unfold Oper.apart
  rw[p7,p7]
  simp only[Yt] at h ⊢
  constructor
  . have h1:=h.1
    cases hx:x.dst with
    | none=>rfl
    | some d=>
      rw[hx] at h1
      simp only[Yt,Bool.not_eq_true'] at h1 ⊢
      refine⟨by rw[fI];exact h1.1,?_⟩
      have h2:=h1.2
      rw[Fa] at h2
      rw[bne,h2];rfl
  . have h1:=h.2
    cases hy:y.dst with
    | none=>rfl
    | some d=>
      rw[hy] at h1
      simp only[Bool.not_eq_true'] at h1 ⊢
      rw[fI];exact h1
theorem uX[ax]{ops:List Oper}{L:Array Bool}{l:List Nat}(h:Rl ops.length L l){i:Nat}{oi:Oper}(hf:uY ops l i oi=true):
    ∀j oj,ops.toArray[j]?=some oj->j≠i->L.getD j true=false->(∀e∈oj.after,Region.binds .any e=true->e.on≠i)->oi.apart ops.toArray oj=true:=by
  intro j oj lJ bz xq fQ
  rw[List.getElem?_toArray] at lJ
  have cG:j<ops.length:=(Ya.1 lJ).1
  unfold uY at hf
  rw[List.all_eq_true] at hf
  have:=hf _ (mem_zipIdx' lJ)
  simp only[Bool.or_eq_true] at this
  rcases this with ((h1 | h1) | h1) | h1
  . exact absurd (Nat.eq_of_beq_eq_true h1) bz
  . rw[h.CN cG,h1] at xq;cases xq
  . rw[vG fQ] at h1;cases h1
  . exact sj h1
theorem ij{P:Program}{ops:List Oper}{l:List Nat}:∀(rs:List Nat) {i:Nat} {o:Oper},oc P ops l rs=some (i,o)->i∈rs/\ops[i]?=some o/\HN P o.op<2/\uY ops l i o=true
  | [],i,o,h=>by cases h
  | j::r,i,o,h=>by
    unfold oc at h
    split at h
    . rename_i oj lJ
      cases hb:(Nat.blt (HN P oj.op) 2&&uY ops l j oj) with
      | true=>
        rw[hb] at h
        simp only[cond,Option.some.injEq,Prod.mk.injEq] at h
        obtain⟨rfl,rfl⟩:=h
        simp only[Yt] at hb
        exact⟨Yx,lJ,by simpa using hb.1,hb.2⟩
      | false=>
        rw[hb] at h
        have:=ij r h
        exact⟨Yn _ this.1,this.2⟩
    . have:=ij r h
      exact⟨Yn _ this.1,this.2⟩
theorem lv{ops:List Oper}(h:C4 ops=true)(j:Nat)(o:Oper)(cs:Array SelectCase)(b:Bool)(ho:ops.toArray[j]?=some o):o.op ≠ .select cs b:=by
  intro e
  rw[List.getElem?_toArray] at ho
  unfold C4 at h
  rw[List.all_eq_true] at h
  have:=h o (Yb ho)
  rw[e] at this
  cases this
theorem oA{F:Nat->Prop}:∀(l:List Nat),xU l F->∀i∈l,F i
  | [],_,i,hi=>by cases hi
  | [j],h,i,hi=>by simp at hi;subst hi;exact h
  | j::k::r,h,i,hi=>by
    rcases Yr.1 hi with rfl | hi
    . exact h.1
    . exact oA (k::r) h.2 i hi
theorem lY[ax]{ops:List Oper}{i:Nat}:∀(f:Nat) {o:Oper},lp ops i f o=true->Path .any ops.toArray i o
  | 0,o,h=>by cases h
  | f+1,o,h=>by
    unfold lp at h
    rw[List.any_eq_true] at h
    obtain⟨e,he,h⟩:=h
    rw[Yt,Bool.or_eq_true,Yt] at h
    obtain⟨hb,h⟩:=h
    have IC:e∈o.after:=by simpa using he
    have EB:Region.binds .any e=true:=by rw[iU];exact hb
    rcases h with h | ⟨_,h⟩
    . exact .one IC EB (Nat.eq_of_beq_eq_true h)
    . split at h
      . rename_i o' ke
        exact .step IC EB (by rw[List.getElem?_toArray];exact ke) (lY f h)
      . cases h
def BQ(P:Program)(ops:List Oper)(j:Nat):Bool:=match ops[j]? with | some o=>Nat.beq (HN P o.op) 2 | none=>false
def smT(ops:List Oper)(ad:List (Nat × Addr))(j:Nat)(w1 w2:World):Prop:=∀oj,ops[j]?=some oj->Sm (mc ops oj ad) w1.heap w2.heap
theorem Hy{al:List Addr}{h h':Heap}{K:Prop}(hk:smW al h h' K):Sm al h h'/\K:=by
  cases al with
  | nil=>exact⟨fun a ha=>(by cases ha),hk⟩
  | cons a r=>exact hk
theorem xj{ops:List Oper}{o:Oper}{p:Nat × Addr}{ad:List (Nat × Addr)}{x:Addr}(hx:x∈mc ops o ad):x∈mc ops o (p::ad):=by
  obtain⟨i,a⟩:=p
  unfold mc
  cases lp ops i 9 o
  . exact Yn _ hx
  . exact hx
theorem l6{md:Region.Mode}{ops:Array Oper}{L:Array Bool}{i:Nat}(hi:i∈Region.ready md ops L){o:Oper}(ho:ops[i]?=some o):∀e∈o.after,Region.binds md e=true->L.getD e.on false=true:=by
  obtain⟨_,o',ke,hw⟩:=mem_ready.1 hi
  obtain rfl:o=o':=eU (ho.symm.trans ke)
  exact hw
theorem xO[ax]{P:Program}{n:Nat}{ops:List Oper}{K:Env->Heap->Prop}{w0:World}{Q:Exit->Act->World->Prop}{D:List Nat}{ρ0:Env}(uF:C4 ops=true)(hD:∀o∈ops,∀x,o.dst=some x->x∈D)
    (VV:∀a w,a.defers=[]->a.tmps.size=n->Fr w0 w->eS D ρ0 a->K (aX a) w.heap->Q .normal a w) (Sz:∀c a w,¬Q (.panic c) a w) :
    ∀(fuel:Nat) (l:List Nat) (ad:List (Nat × Addr)) (L:Array Bool) (a:Act) (w:World) (T:Nat->World->World->Prop),Rl ops.length L l->ix .any ops.toArray L->(∀i∈l,i<ops.length)->a.defers=[]->a.tmps.size=n->Fr w0 w->eS D ρ0 a ->
      (∀j w1 w2,smT ops ad j w1 w2->T j w1 w2)->js P n ops fuel l ad (aX a) w.heap K->jA P .any ops.toArray Q (BQ P ops) T fuel L a w:=by
  intro fuel
  induction fuel with
  | zero=>
    intro l ad L a w T hR hC hl hd hs hf pB hT h
    unfold js at h
    split at h
    . rename_i he
      refine⟨?_,VV a w hd hs hf pB h⟩
      apply List.eq_nil_iff_forall_not_mem.2
      intro i hi
      rw[fD hR hl,he] at hi
      cases hi
    . exact h.elim
  | succ fuel ih=>
    intro l ad L a w T hR hC hl hd hs hf pB hT h
    unfold js at h
    split at h
    . rename_i he
      have LR:Region.ready .any ops.toArray L=[]:=by
        apply List.eq_nil_iff_forall_not_mem.2
        intro i hi
        rw[fD hR hl,he] at hi
        cases hi
      refine⟨fun _=>VV a w hd hs hf pB h,fun i hi=>?_⟩
      rw[LR] at hi;cases hi
    . split at h
      . rename_i rs wc _ i o hfq
        obtain⟨LM,ho,hk,zj⟩:=ij _ hfq
        have cG:i<ops.length:=(Ya.1 ho).1
        have Iv:i∈Region.ready .any ops.toArray L:=(fD hR hl i).2 LM
        have ke:ops.toArray[i]?=some o:=by rw[List.getElem?_toArray];exact ho
        have Oz:=l6 Iv ke
        have Ko:BQ P ops i=false:=by
          unfold BQ;rw[ho]
          cases hb:Nat.beq (HN P o.op) 2
          . exact hb
          . have:=Nat.eq_of_beq_eq_true hb;omega
        have k6:∀k∈i::l,k<ops.length:=fun k hk=>by
          rcases Yr.1 hk with rfl | hk
          . exact cG
          . exact hl k hk
        have xq:i∉l:=by
          have:=(kq ops l ops 0 i).1 LM
          obtain⟨_,_,_,hn,_⟩:=this
          intro hm
          rw[ia.2 hm] at hn;cases hn
        have Es:=uX hR zj
        rcases n9 h with ⟨hw,LQ⟩ | ⟨hw,Co⟩
        . split at LQ
          . -- a pure operation
            obtain⟨v,hK,hr⟩:=pX LQ
            obtain⟨mX,dW⟩:=iW hs hK
            refine sF (S:=fun _=>True) ke (lv uF) (fun c a' w' hq=>absurd hq (Sz c _ _)) Ko (fun _ _ _ _ _ _ _ _ _ _=>trivial) fuel L a w hC Es Iv
              (.inl ⟨hw,fun w' _=>by rw[kO];exact hr w'⟩) trivial ?_
            exact ih (i::l) ad _ _ w T (hR.set cG) (hC.set ke Oz) k6 (by rw[ct];exact hd) dW hf (pB.put (hD o (Yb ho))) hT mX
          . -- a load
            obtain⟨v,a0,hK,had,hr⟩:=pY LQ
            rw[had] at hK
            obtain⟨mX,dW⟩:=iW hs hK
            refine GK (T':=smT ops ((i,a0)::ad)) (fun j w1 w2 h3=>hT j w1 w2 fun oj lJ x hx=>h3 oj lJ x (xj hx)) _ _ _ _ ?_
            refine sF (S:=fun w'=>∀k u,hc w.heap (ef a0 k)=some u->hc w'.heap (ef a0 k)=some u) ke (lv uF) (fun c a' w' hq=>absurd hq (Sz c _ _)) Ko ?_ fuel L a w hC Es Iv
              (.inl ⟨hw,fun w' hE=>by rw[kO];exact hr w' hE⟩) (fun _ _ h3=>h3) ?_
            . intro j oj w1 w2 lJ hji fQ hS OL Sq
              cases hej:BQ P ops j with
              | false=>rw[OL hej];exact hS
              | true=>
                rw[List.getElem?_toArray] at lJ
                intro k u hu
                refine Sq hej oj lJ a0 ?_ k u (hS k u hu)
                unfold mc
                cases hwt:lp ops i 9 oj with
                | false=>exact Yx
                | true=>exact absurd (lY _ hwt) fQ
            . exact ih (i::l) ((i,a0)::ad) _ _ w _ (hR.set cG) (hC.set ke Oz) k6 (by rw[ct];exact hd) dW hf (pB.put (hD o (Yb ho))) (fun _ _ _ h3=>h3) mX
        . obtain⟨mX,dW⟩:=eH hs Co
          refine sF (S:=fun _=>True) ke (lv uF) (fun c a' w' hq=>absurd hq (Sz c _ _)) Ko (fun _ _ _ _ _ _ _ _ _ _=>trivial) fuel L a w hC Es Iv (.inr ⟨hw,rfl⟩) trivial ?_
          exact ih (i::l) ad _ _ w T (hR.set cG) (hC.set ke Oz) k6 (by rw[ct];exact hd) dW hf (pB.put (hD o (Yb ho))) hT mX
      . rename_i rs wc _ hnq
        refine⟨fun he=>?_,fun i hi=>?_⟩
        . exfalso
          have:oW ops l 0 ops=[]:=by
            apply List.eq_nil_iff_forall_not_mem.2
            intro i hi
            rw[<-fD hR hl,he] at hi
            cases hi
          exact wc this
        . have LM:=(fD hR hl i).1 hi
          have hF:=oA _ h i LM
          split at hF
          . rename_i o ho
            have cG:i<ops.length:=(Ya.1 ho).1
            have ke:ops.toArray[i]?=some o:=by rw[List.getElem?_toArray];exact ho
            have Oz:=l6 hi ke
            have k6:∀k∈i::l,k<ops.length:=fun k hk=>by
              rcases Yr.1 hk with rfl | hk
              . exact cG
              . exact hl k hk
            have xq:i∉l:=by
              obtain⟨_,_,_,hn,_⟩:=(kq ops l ops 0 i).1 LM
              intro hm
              rw[ia.2 hm] at hn;cases hn
            obtain⟨dV,hF⟩:=av hF
            have aca:HN P o.op=2:=Nat.eq_of_beq_eq_true dV
            have Ko:BQ P ops i=true:=by unfold BQ;rw[ho];exact dV
            unfold wpOp
            simp only[ke]
            rcases n9 hF with ⟨hw,LQ⟩ | ⟨hw,Co⟩
            . rw[if_pos hw]
              refine .inl (zC (pW LQ) fun v w' hK hfw=>?_)
              obtain⟨hE,hK⟩:=Hy hK
              obtain⟨mX,dW⟩:=iW hs hK
              refine⟨⟨fun he=>(by rw[Ko] at he;cases he),fun _=>hT i w w' fun oj lJ=>(by rw[ho] at lJ;cases lJ;exact hE)⟩,?_⟩
              exact ih (i::l) ad _ _ w' T (hR.set cG) (hC.set ke Oz) k6 (by rw[ct];exact hd) dW (hf.trans hfw) (pB.put (hD o (Yb ho))) hT mX
            . rw[if_neg (by simp[hw])]
              obtain⟨mX,dW⟩:=eH hs Co
              refine⟨⟨by intros;first | trivial | rfl,fun _=>hT i w w fun oj _ x _ k v h3=>h3⟩,?_⟩
              exact ih (i::l) ad _ _ w T (hR.set cG) (hC.set ke Oz) k6 (by rw[ct];exact hd) dW hf (pB.put (hD o (Yb ho))) hT mX
          . exact hF.elim
theorem mI[ax]{P:Program}{n:Nat}{ops:Array Oper}{K:Env->Heap->Prop}{w0:World}{Q:Exit->Act->World->Prop}{id:Nat}{a:Act}{w:World}{D:List Nat}{ρ0:Env}(hm:P.follows .mixedOrders=true)(uF:C4 ops.toList=true)(hD:∀o∈ops.toList,∀x,o.dst=some x->x∈D)
    (VV:∀a w,a.defers=[]->a.tmps.size=n->Fr w0 w->eS D ρ0 a->K (aX a) w.heap->Q .normal a w) (Sz:∀c a w,¬Q (.panic c) a w) (hd:a.defers=[]) (hs:a.tmps.size=n) (hf:Fr w0 w) (pB:eS D ρ0 a)
    (h:js P n ops.toList ops.toList.length [] [] (aX a) w.heap K):(Code.region id ops true).wp P Q a w:=by
  refine wp_region_any hm ?_
  have:=xO (Q:=Q) (D:=D) (ρ0:=ρ0) uF hD VV Sz ops.toList.length [] [] (Array.replicate ops.size false) a { w with drawn:=w.drawn+1 } (fun _ _ _=>True) (by have:=Rl.nil ops.toList.length;simpa using this)
    (fun j oj _ hj=>by rw[Array.getD_eq_getD_getElem?] at hj;cases hL:(Array.replicate ops.size false)[j]? with | none=>rw[hL] at hj;cases hj | some b=>rw[hL] at hj;obtain⟨cG,hb⟩:=wo.1 hL;simp at hb;rw[hb] at hj;cases hj) (fun i hi=>by cases hi) hd hs ⟨hf.1,hf.2.1,hf.2.2.1,ax.trans hf.2.2.2 (ax.drew w)⟩ pB (fun _ _ _ _=>trivial) h
  have h2:=vF _ _ _ _ this
  simpa using h2
end Go.VC
end

section
namespace Go.VC
theorem zB{ops:List Oper}:∀o∈ops,∀x,o.dst=some x->x∈q6 ops:=by
  intro o ho x hx
  exact Wl.2 ⟨o,ho,hx⟩
theorem yd[ax]{X:Prop}:∀ {k:Kd} {v:Value} {F:k.T->Prop},k.Hi v F->∃x:k.T,v=k.val x/\F x
  | .int k,v,F,h=>by
    cases v<;>simp only[Kd.Hi] at h
    obtain⟨hk,h1⟩:=av h
    obtain rfl:=nW hk
    exact⟨_,rfl,h1⟩
  | .bool,v,F,h=>by cases v<;>simp only[Kd.Hi] at h;exact⟨_,rfl,h⟩
  | .str,v,F,h=>by cases v<;>simp only[Kd.Hi] at h;exact⟨_,rfl,h⟩
  | .ptr,v,F,h=>by cases v<;>simp only[Kd.Hi] at h;exact⟨_,rfl,h⟩
  | .slice,v,F,h=>by cases v<;>simp only[Kd.Hi] at h;exact⟨_,rfl,h⟩
  | .map,v,F,h=>by cases v<;>simp only[Kd.Hi] at h;exact⟨_,rfl,h⟩
  | .any,v,F,h=>⟨v,rfl,h⟩
theorem s8(ρ:Env)(s:Nat):Hk ρ s (ρ s)=ρ:=by
  funext j
  unfold Hk
  cases hb:Nat.beq j s with
  | true=>rw[Nat.eq_of_beq_eq_true hb];rfl
  | false=>rfl
theorem J3[ax]{X:Type}:∀(ks:List Kd) (f:GL ks X) (vs:List Value) (F:List Value->X->Prop) (G:X->Prop),FV ks f F->FQ ks f vs G->∃f',F vs f'/\G f'
  | [],f,vs,F,G,h1,h2=>by cases vs<;>simp only[FQ] at h2;exact⟨f,h1,h2⟩
  | k::r,f,vs,F,G,h1,h2=>by
    cases vs with
    | nil=>simp only[FQ] at h2
    | cons v vs=>
      obtain⟨x,rfl,h3⟩:=yd (X:=True) h2
      exact J3 r (f x) vs _ G (h1 x) h3
theorem yj[ax]{X:Type}:∀(sl:List (Nat × SK)) (f:yb sl X) (ρ:Env) (F:Env->X->Prop) (G:X->Prop),vH sl f ρ F->vD sl f ρ G->∃f',F ρ f'/\G f'
  | [],f,ρ,F,G,h1,h2=>⟨f,h1,h2⟩
  | (s,.one k)::r,f,ρ,F,G,h1,h2=>by
    obtain⟨x,hx,h3⟩:=yd (X:=True) h2
    have h4:=h1 x
    rw[<-hx,s8] at h4
    exact yj r (f x) ρ F G h4 h3
  | (s,.agg ks)::r,f,ρ,F,G,h1,h2=>by
    simp only[vD] at h2
    split at h2
    . rename_i cs hc
      obtain⟨f',h3,h4⟩:=J3 ks f cs.toList _ _ h1 h2
      rw[show (Value.agg ⟨cs.toList⟩)=ρ s from hc.symm,s8] at h3
      exact yj r f' ρ F G h3 h4
    . exact h2.elim
theorem ml{D:List Nat}{ρ:Env}{a:Act}(h:eS D ρ a):zp D ρ (aX a)=aX a:=by
  funext j
  unfold zp
  cases hb:D.any (Nat.beq j) with
  | true=>rfl
  | false=>
    refine (h j fun hm=>?_).symm
    rw[List.any_eq_false] at hb
    exact hb j hm (Nat.beq_refl j)
theorem least{p:Nat->Prop}(h:∃m,p m):∃m,p m/\∀k,p k->m<=k:=by
  obtain⟨m,hm⟩:=h
  induction m using Nat.strongRecOn with
  | _ m ih=>
    by_cases h1:∃k,k<m/\p k
    . obtain⟨k,hk,hp⟩:=h1
      exact ih k hk hp
    . exact⟨m,hm,fun k hk=>Nat.le_of_not_lt fun hl=>h1 ⟨k,hl,hk⟩⟩
open Classical in
theorem Ig[ax]{P:Program}{Q:Exit->Act->World->Prop}{c:Code}{a:Act}{w:World}(I:Nat->Act->World->Prop)(h0:∃m,I m a w)
    (round:∀m a w,I m a w->c.wp P (Exit.then (fun a' w'=>∃m',m'<m/\I m' a' w') Q) a w):(Code.loop c).wp P Q a w:=by
  let μ:Act->World->Nat:=fun a w=>if h:∃m,I m a w then Classical.choose (least h) else 0
  refine wp_loop (fun a w=>∃m,I m a w) μ h0 fun a w hI=>?_
  have hm:=(Classical.choose_spec (least hI)).1
  refine Code.wp_mono (fun e a' w' hq=>?_) (round _ a w hm)
  cases e with
  | normal=>
    obtain⟨m',cG,ZF⟩:=hq
    refine⟨⟨m',ZF⟩,?_⟩
    have h1:∃m,I m a' w':=⟨m',ZF⟩
    have hle:=(Classical.choose_spec (least h1)).2 m' ZF
    simp only[μ,dif_pos hI,dif_pos h1]
    exact Nat.lt_of_le_of_lt hle cG
  | _=>exact hq
theorem bJ[ax]{P:Program}{n:Nat}{w0:World}:∀(c:Code) (A:ll) (Q:Ex->Env->Heap->Prop) (a:Act) (w:World),a.defers=[]->a.tmps.size=n->Fr w0 w ->
    df P n c A Q (aX a) w.heap->c.wp P (fun e a' w'=>Sat n w0 Q e a' w'/\eS (kR c) (aX a) a') a w
  | .skip,A,Q,a,w,hd,hs,hf,h=>wp_skip ⟨⟨hd,hs,hf,h⟩,fun _ _=>rfl⟩
  | .label l,A,Q,a,w,hd,hs,hf,h=>wp_label ⟨⟨hd,hs,hf,h⟩,fun _ _=>rfl⟩
  | .exit id,A,Q,a,w,hd,hs,hf,h=>wp_exit ⟨⟨hd,hs,hf,h⟩,fun _ _=>rfl⟩
  | .ret,A,Q,a,w,hd,hs,hf,h=>wp_ret ⟨⟨hd,hs,hf,h⟩,fun _ _=>rfl⟩
  | .region id ops draw,A,Q,a,w,hd,hs,hf,h=>by
    cases draw with
    | false=>
      simp only[df] at h
      refine wp_region_list ?_
      have:=lC (Q:=fun e a' w'=>Sat n w0 Q e a' w'/\eS (kR (.region id ops false)) (aX a) a') (all:=ops.toList) (D:=q6 ops.toList) (ρ0:=aX a)
        (fun a' w' h1 h2 h3 h4 h5=>⟨⟨h1,h2,h3,h5⟩,h4⟩) ops.toList 0 a w zB hd hs hf (fun _ _=>rfl) h
      simpa using this
    | true=>
      simp only[df] at h
      obtain⟨hb,h1⟩:=av h
      simp only[Yt] at hb
      exact mI (D:=q6 ops.toList) (ρ0:=aX a) hb.1 hb.2 zB (fun a' w' h1 h2 h3 h4 h5=>⟨⟨h1,h2,h3,h5⟩,h4⟩) (fun c a' w' hq=>hq.1.2.2.2) hd hs hf (fun _ _=>rfl) h1
  | .cond c x y,A,Q,a,w,hd,hs,hf,h=>by
    simp only[df] at h
    split at h
    . rename_i b hb
      have EB:a.eval c=.bool b:=by rw[kO];exact hb
      cases b with
      | true=>exact wp_cond_true EB (Code.wp_mono (fun e a' w' hq=>⟨hq.1,fun j hj=>hq.2 j (fun hm=>hj (List.mem_append_left _ hm))⟩) (bJ x _ Q a w hd hs hf h))
      | false=>exact wp_cond_false EB (Code.wp_mono (fun e a' w' hq=>⟨hq.1,fun j hj=>hq.2 j (fun hm=>hj (List.mem_append_right _ hm))⟩) (bJ y _ Q a w hd hs hf h))
    . exact h.elim
  | .block id x,A,Q,a,w,hd,hs,hf,h=>by
    simp only[df] at h
    refine wp_block (Code.wp_mono (fun e a' w' hq=>?_) (bJ x _ _ a w hd hs hf h))
    obtain⟨⟨h1,h2,h3,h4⟩,h5⟩:=hq
    cases e with
    | exit i=>
      simp only[Exit.inBlock]
      simp only[FC] at h4
      by_cases hi:i=id
      . subst hi
        rw[Nat.beq_refl] at h4
        rw[if_pos rfl]
        exact⟨⟨h1,h2,h3,h4⟩,h5⟩
      . rw[if_neg hi]
        have:Nat.beq i id=false:=by
          cases hb:Nat.beq i id
          . rfl
          . exact absurd (Nat.eq_of_beq_eq_true hb) hi
        rw[this] at h4
        exact⟨⟨h1,h2,h3,h4⟩,h5⟩
    | _=>exact⟨⟨h1,h2,h3,h4⟩,h5⟩
  | .seq x y,A,Q,a,w,hd,hs,hf,h=>by
    have plain:∀(A1 A2:ll),df P n x A1 (yg (df P n y A2 Q) Q) (aX a) w.heap->(Code.seq x y).wp P (fun e a' w'=>Sat n w0 Q e a' w'/\eS (kR (.seq x y)) (aX a) a') a w:=by
      intro A1 A2 h
      refine wp_seq (Code.wp_mono (fun e a' w' hq=>?_) (bJ x _ _ a w hd hs hf h))
      obtain⟨⟨h1,h2,h3,h4⟩,h5⟩:=hq
      cases e with
      | normal=>
        refine Code.wp_mono (fun e a2 w2 hq=>⟨hq.1,fun j hj=>?_⟩) (bJ y _ Q a' w' h1 h2 h3 h4)
        rw[hq.2 j (fun hm=>hj (List.mem_append_right _ hm)),h5 j (fun hm=>hj (List.mem_append_left _ hm))]
      | _=>exact⟨⟨h1,h2,h3,h4⟩,fun j hj=>h5 j (fun hm=>hj (List.mem_append_left _ hm))⟩
    simp only[df] at h
    split at h
    . rename_i sl A1 A2
      obtain⟨J,hx,hy⟩:=h
      refine wp_seq (Code.wp_mono (fun e a' w' hq=>?_) (bJ x _ _ a w hd hs hf hx))
      obtain⟨⟨h1,h2,h3,h4⟩,h5⟩:=hq
      cases e with
      | normal=>
        have uD:=hy (aX a')
        rw[ml h5] at uD
        obtain⟨J',h6,h7⟩:=yj sl J (aX a') _ _ uD h4
        refine Code.wp_mono (fun e a2 w2 hq=>⟨hq.1,fun j hj=>?_⟩) (bJ y _ Q a' w' h1 h2 h3 (h6 _ h7))
        rw[hq.2 j (fun hm=>hj (List.mem_append_right _ hm)),h5 j (fun hm=>hj (List.mem_append_left _ hm))]
      | _=>exact⟨⟨h1,h2,h3,h4⟩,fun j hj=>h5 j (fun hm=>hj (List.mem_append_left _ hm))⟩
    . exact plain _ _ h
  | .loop x,A,Q,a,w,hd,hs,hf,h=>by
    simp only[df] at h
    split at h
    . rename_i sl A1
      obtain⟨I,⟨m0,Kk⟩,Lx⟩:=h
      refine Ig (fun m a' w'=>a'.defers=[]/\a'.tmps.size=n/\Fr w0 w'/\eS (kR x) (aX a) a'/\vD sl I (aX a') fun I'=>I' w'.heap m)
        ⟨m0,hd,hs,hf,fun _ _=>rfl,Kk⟩ fun m a1 w1 ⟨g1,g2,g3,g4,g5⟩=>?_
      have hr:=Lx (aX a1)
      rw[ml g4] at hr
      obtain⟨I',h6,h7⟩:=yj sl I (aX a1) _ _ hr g5
      refine Code.wp_mono (fun e a' w' hq=>?_) (bJ x _ _ a1 w1 g1 g2 g3 (h6 _ _ h7))
      obtain⟨⟨h1,h2,h3,h4⟩,h5⟩:=hq
      have hk:eS (kR x) (aX a) a':=fun j hj=>(h5 j hj).trans (g4 j hj)
      cases e with
      | normal=>
        obtain⟨m',cG,gL⟩:=h4
        exact⟨m',cG,h1,h2,h3,hk,gL⟩
      | _=>exact⟨⟨h1,h2,h3,h4⟩,hk⟩
    . exact h.elim
  | .rangeFunc f ps al b,A,Q,a,w,hd,hs,hf,h=>h.elim
  | .scope x,A,Q,a,w,hd,hs,hf,h=>by
    refine wp_scope_straight (Code.wp_mono (fun e a' w' hq=>?_) (bJ x _ Q a w hd hs hf h))
    cases e with
    | goto l=>exact hq.1.2.2.2.elim
    | _=>exact hq
  | .goto l,A,Q,a,w,hd,hs,hf,h=>h.elim
  | .refuse s,A,Q,a,w,hd,hs,hf,h=>h.elim
def tw(ρ:Env):ResultVar->Sem Value
  | .tmp t=>pure (ρ t)
  | .cell a t=>do loadVar t (<-asAddr (ρ a))
theorem ly[ax]{P:Program}{ρ:Env}{w:World}:∀(rs:List ResultVar) (K:List Value->Prop),AQ P w.heap ρ rs K ->
    ∃vs,vs.length=rs.length/\K vs/\(rs.mapM (tw ρ)).run P w=.ok vs w
  | [],K,h=>⟨[],rfl,h,rfl⟩
  | .tmp t::r,K,h=>by
    obtain⟨vs,hl,hK,hr⟩:=ly r _ h
    refine⟨ρ t::vs,by simp[hl],hK,?_⟩
    simp only[List.mapM_cons,tw,Sem.run_bind,Sem.run_pure,Result.andThen_ok,hr]
  | .cell t ty::r,K,h=>by
    simp only[AQ] at h
    split at h
    . rename_i a ha
      obtain⟨hb,h1⟩:=av h
      simp only[Yt] at hb
      obtain⟨us,hlu,h2⟩:=im _ _ h1
      obtain⟨Me,h3⟩:=mA h2
      obtain⟨vs,hl,hK,hr⟩:=ly r _ h3
      refine⟨_::vs,by simp[hl],hK,?_⟩
      have fp:=l9 (P:=P) (w:=w) (t:=ty) (a:=a) (vs:=us) hb.1 (by rw[dK hb.2,hlu]) Me (fun bc e=>by
        have:=u7 hb.1 bc
        rw[<-hlu,e] at this
        cases this)
      simp only[List.mapM_cons,tw,Sem.run_bind,Sem.run_pure,Result.andThen_ok,ha,asAddr,fp,hr]
    . exact h.elim
theorem l5[ax]{P:Program}{fn:Func}{a:Act}{w:World}{R:Value->Heap->Prop}(h:AQ P w.heap (aX a) fn.results.toList fun vs=>match vs with | [v]=>R v w.heap | vs=>R (.tuple ⟨vs⟩) w.heap):
    ∃v,(results fn a.tmps).run P w=.ok v w/\R v w.heap:=by
  obtain⟨vs,hl,hK,hr⟩:=ly _ _ h
  have hm:(fn.results.mapM (tw (aX a))).run P w=.ok ⟨vs⟩ w:=by
    rw[Array.mapM_eq_mapM_toList]
    simp only[Sem.run_map,hr,Result.andThen_ok]
  have he:results fn a.tmps=(do let vs <-fn.results.mapM (tw (aX a));pure (if h:vs.size=1 then vs[0] else .tuple vs)):=by
    unfold results
    congr 1
  rw[he]
  simp only[Sem.run_bind,hm,Result.andThen_ok,Sem.run_pure]
  cases vs with
  | nil=>exact⟨_,rfl,hK⟩
  | cons v r=>
    cases r with
    | nil=>exact⟨_,rfl,hK⟩
    | cons u r=>exact⟨_,rfl,hK⟩
theorem I6{args:Array Value}{n:Nat}:aX { tmps:=args++Array.replicate (n-args.size) undef,defers:=[] }=MP args:=by
  funext j
  simp only[aX,MP,Array.getD_eq_getD_getElem?,Yo,Array.getElem?_toList]
  by_cases hj:j<args.size
  . rw[Array.getElem?_append_left hj]
  . rw[Array.getElem?_append_right (by omega),Array.getElem?_eq_none (xs:=args) (by omega)]
    cases h:(Array.replicate (n-args.size) undef)[j-args.size]? with
    | none=>rfl
    | some v=>
      obtain⟨cG,hv⟩:=wo.1 h
      simp at hv
      simp[hv.symm]
theorem fnI[ax]{P:Program}{f:FuncId}{A:ll}{args:Array Value}{h:Heap}{R:Value->Heap->Prop}{W:Prop}(e:W=fnW P f A args h R)(H:W):Fn P f args h R:=by
  rw[e] at H
  unfold fnW at H
  split at H
  . rename_i fn Ct
    split at H
    . rename_i c hc
      obtain⟨hb,H⟩:=av H
      have hle:args.size<=fn.ntmps:=by simpa using hb
      intro w hw
      subst hw
      refine calls_of_wp Ct hc ?_
      rw[<-I6 (n:=fn.ntmps)] at H
      refine Code.wp_mono (fun e a' w' hq=>?_) (bJ (w0:=w) c A _ { tmps:=args++Array.replicate (fn.ntmps-args.size) undef,defers:=[] } w rfl (by simp;omega) (Fr.refl w) H)
      obtain⟨⟨h1,h2,h3,h4⟩,_⟩:=hq
      cases e with
      | normal=>
        obtain⟨v,hr,hR⟩:=l5 h4
        exact⟨h1,v,hr,v,rfl,hR,h3⟩
      | ret=>
        obtain⟨v,hr,hR⟩:=l5 h4
        exact⟨h1,v,hr,v,rfl,hR,h3⟩
      | _=>exact h4.elim
    . exact H.elim
  . exact H.elim
end Go.VC
end

section
namespace Go.VC
instance Vx:ax:=⟨fun _ _=>True,fun _=>trivial,fun _ _=>trivial,fun _ _=>trivial,fun _=>trivial,fun _ _ _ _ _ _=>trivial⟩
theorem KR{b:Bool}{p q:Prop}:sB b p q ↔ (b=true->p)/\(b=false->q):=by cases b<;>simp[sB]
theorem aa{b:Bool}{p q:Prop}(h1:b=true->p)(h2:b=false->q):sB b p q:=KR.2 ⟨h1,h2⟩
theorem oU{b:Bool}{p q:Prop}(hb:b=true)(h:p):sB b p q:=by subst hb;exact h
theorem iX{b:Bool}{p q:Prop}(hb:b=false)(h:q):sB b p q:=by subst hb;exact h
theorem aZ{n:Int}(h0:-9223372036854775808<=n)(h1:n<=9223372036854775807):IntKind.wrap .i64 n=n:=IntWalk.i64_in n ⟨h0,h1⟩
theorem Aq{b o:Nat}{F:Nat->Nat->Prop}:NB (some ⟨b,o,none⟩) F=F b o:=rfl
theorem Fn.of_same[ax]{P:Program}{f:FuncId}{args:Array Value}{h:Heap}{v:Value}(hc:∀w,Calls P f args w fun e w'=>e=.returned v/\w'=w):
    Fn P f args h fun u h'=>u=v/\h'=h:=by
  intro w hw
  refine (hc w).mono ?_
  rintro e w' ⟨he,rfl⟩
  exact⟨v,he,⟨rfl,hw⟩,rfl,rfl,rfl,ax.refl _⟩
/- heaps -/
theorem dI{h h':Heap}{a:Addr}(hb:h'[a.block]?=h[a.block]?):hc h' a=hc h a:=by unfold hc;rw[hb]
theorem uW{h h':Heap}{a:Addr}(hb:h'[a.block]?=h[a.block]?):fz h' a=fz h a:=by unfold fz;rw[hb]
theorem HH{h:Heap}{o:Obj}{k:Nat}(hk:k<h.size):(h.push o)[k]?=h[k]?:=by rw[Array.getElem?_push,if_neg (by omega)]
theorem HI{h:Heap}{o:Obj}:(h.push o)[h.size]?=some o:=by simp
theorem Ext.push(h:Heap)(o:Obj):Ext h (h.push o):=⟨by simp,fun _ hk=>HH hk⟩
theorem Ext.hc{h h':Heap}(hE:Ext h h'){a:Addr}(ha:a.block<h.size):hc h' a=VC.hc h a:=dI (hE.2 _ ha)
theorem fj{h h':Heap}(hE:Ext h h'){a:Addr}{vs:List Value}(hv:a8 h a vs):a8 h' a vs:=fun i v hi=>aw hE (hv i v hi)
def Own(h:Heap)(b:Nat)(xs:List Value)(e:TypeId):Prop:=h[b]?=some (.cells ⟨xs⟩ e (0,0))
theorem Own.lt{h:Heap}{b:Nat}{xs:List Value}{e:TypeId}(ho:Own h b xs e):b<h.size:=(wo.1 ho).1
theorem Own.hc{h:Heap}{b:Nat}{xs:List Value}{e:TypeId}(ho:Own h b xs e)(i:Nat):hc h ⟨b,i,none⟩=xs[i]?:=by
  unfold VC.hc;rw[ho];simp
theorem Own.fz{h:Heap}{b:Nat}{xs:List Value}{e:TypeId}(ho:Own h b xs e)(i:Nat):fz h ⟨b,i,none⟩=false:=by
  unfold VC.fz;rw[ho];simp
theorem Own.push{h:Heap}{xs:List Value}{e:TypeId}:Own (h.push (.cells ⟨xs⟩ e)) h.size xs e:=HI
theorem ee(b o i:Nat):ef ⟨b,o,none⟩ i=⟨b,o+i,none⟩:=by cases i<;>rfl
theorem Own.fG{h:Heap}{b:Nat}{xs:List Value}{e:TypeId}(ho:Own h b xs e){o n:Nat}(hn:o+n<=xs.length):fG h ⟨b,o,none⟩ n:=by
  intro i hi
  rw[ee,ho.hc,ho.fz]
  have:o+i<xs.length:=by omega
  simp[this]
theorem Own.a8{h:Heap}{b:Nat}{xs:List Value}{e:TypeId}(ho:Own h b xs e){o:Nat}{vs:List Value}(hv:∀i v,vs[i]?=some v->xs[o+i]?=some v):a8 h ⟨b,o,none⟩ vs:=by
  intro i v hi
  rw[ee,ho.hc]
  exact hv i v hi
def jz(b:Nat)(h h':Heap):Prop:=h'.size=h.size/\∀k,k≠b->h'[k]?=h[k]?
theorem jz.refl(b:Nat)(h:Heap):jz b h h:=⟨rfl,fun _ _=>rfl⟩
theorem jz.trans{b:Nat}{h1 h2 h3:Heap}(h:jz b h1 h2)(k:jz b h2 h3):jz b h1 h3:=⟨k.1.trans h.1,fun i hi=>(k.2 i hi).trans (h.2 i hi)⟩
theorem jz.dH{h:Heap}{a:Addr}{v:Value}:jz a.block h (dH h a v):=⟨by simp[VC.dH],fun k hk=>jV hk⟩
theorem dM(a:Addr)(i:Nat):(ef a i).block=a.block:=by cases i<;>rfl
theorem jz.bh{a:Addr}:∀(vs:List Value) (i:Nat) (h:Heap),jz a.block h (bh h a i vs)
  | [],i,h=>jz.refl _ h
  | v::vs,i,h=>by
    have h1:jz a.block h (VC.dH h (ef a i) v):=by have:=jz.dH (h:=h) (a:=ef a i) (v:=v);rwa [dM] at this
    exact h1.trans (jz.bh vs (i+1) _)
theorem Own.dH{h:Heap}{b:Nat}{xs:List Value}{e:TypeId}(ho:Own h b xs e)(i:Nat)(v:Value):Own (dH h ⟨b,i,none⟩ v) b (xs.set i v) e:=by
  unfold Own VC.dH at *
  rw[Array.getElem?_modify,if_pos rfl,ho]
  simp
theorem Own.bh{b o:Nat}{e:TypeId}:∀(vs:List Value) (i:Nat) (h:Heap) (xs:List Value),Own h b xs e->o+i+vs.length<=xs.length->Own (bh h ⟨b,o,none⟩ i vs) b (ay xs (o+i) vs) e
  | [],i,h,xs,ho,hl=>by simp only[VC.bh,ay];simpa using ho
  | v::vs,i,h,xs,ho,hl=>by
    simp only[mD] at hl
    have h1:=ho.dH (o+i) v
    have h2:=Own.bh vs (i+1) _ _ h1 (show o+(i+1)+vs.length<=(xs.set (o+i) v).length by simp;omega)
    simp only[VC.bh,ee]
    have:=kj o (v::vs) i xs (by simp;omega)
    have h3:=kj o vs (i+1) (xs.set (o+i) v) (by simp;omega)
    rw[List.zipIdx_cons,List.foldl_cons] at this
    simp only[] at this
    rw[show (Array.mk xs).setIfInBounds (o+i) v=⟨xs.set (o+i) v⟩ by simp,h3] at this
    have e1:ay (xs.set (o+i) v) (o+(i+1)) vs=ay xs (o+i) (v::vs):=by simpa using this
    rw[<-e1];exact h2
theorem Ext.DB{b:Nat}{h h':Heap}{n:Nat}(hb:jz b h h')(hn:n<=b):∀k,k<n->h'[k]?=h[k]?:=fun k hk=>hb.2 k (by omega)
end Go.VC
end

section
namespace Go.VC
open Go.Proofs
abbrev AI(k:Nat):ll:=.s .z (.b (.l [(k,.one (.int .i64))] .z))
abbrev AJ(j k:Nat):ll:=.s .z (.b (.l [(j,.one (.slice)),(k,.one (.int .i64))] .z))
theorem aU[ax]{P:Program}{f:FuncId}{A:ll}{args:Array Value}{h:Heap}{R:Value->Heap->Prop}{W:Prop}(H:W)(e:W=fnW P f A args h R:=by kernel_rfl):Fn P f args h R:=fnI e H
end Go.VC
end

section
namespace Go.VC
open Go.RowKit
def Kp(n:Nat)(h h':Heap):Prop:=h.size<=h'.size/\∀k,k<n->h'[k]?=h[k]?
theorem Kp.trans{n:Nat}{a b c:Heap}(h:Kp n a b)(k:Kp n b c):Kp n a c:=⟨mQ h.1 k.1,fun i hi=>(k.2 i hi).trans (h.2 i hi)⟩
theorem Kp.ext{h h':Heap}(hk:Kp h.size h h'):Ext h h':=hk
theorem Ext.kp{h h':Heap}(hE:Ext h h'){n:Nat}(hn:n<=h.size):Kp n h h':=⟨hE.1,fun k hk=>hE.2 k (by omega)⟩
theorem Kp.but{n b:Nat}{h h':Heap}(hb:jz b h h')(hn:n<=b):Kp n h h':=⟨by rw[hb.1];exact aY _,fun k hk=>hb.2 k (by omega)⟩
def Stp(b:Nat)(h h':Heap):Prop:=h.size<=h'.size/\∀k,k<h.size->k≠b->h'[k]?=h[k]?
theorem Stp.DB{b:Nat}{h h':Heap}(hb:jz b h h'):Stp b h h':=⟨by rw[hb.1];exact aY _,fun k _ hk=>hb.2 k hk⟩
def b9(h:Heap)(base:Nat)(e:TypeId)(size:Nat)(s:Sl)(xs:List Value):Prop:=
  xs.length=s.n*size/\((s.a=none/\s.n=0/\s.c=0) \/
    ∃g cur,s.a=some ⟨g,0,none⟩/\base<=g/\h[g]?=some (.cells cur e (0,0))/\s.n<=s.c/\s.c<=maxLen/\cur.size=s.c*size/\cur.toList.take (s.n*size)=xs)
theorem b9.nil{h:Heap}{base:Nat}{e:TypeId}{size:Nat}:b9 h base e size ⟨none,0,0⟩ []:=⟨by simp,.inl ⟨rfl,rfl,rfl⟩⟩
theorem b9.row{w:World}{base:Nat}{e:TypeId}{size:Nat}{s:Sl}{xs:List Value}(h:b9 w.heap base e size s xs):w.ownsRow base e size (.slice s.a s.n s.c) s.n xs:=by
  obtain⟨h1,h2⟩:=h
  refine⟨h1,?_⟩
  rcases h2 with ⟨ha,hn,hc⟩ | ⟨g,cur,ha,hb,hh,hn,hc,hs,ht⟩
  . exact .inl ⟨by rw[ha,hn,hc],hn⟩
  . exact .inr ⟨g,s.c,cur,by rw[ha],hb,hh,hn,hc,hs,ht⟩
theorem b9.DA{w:World}{base:Nat}{e:TypeId}{size:Nat}{v:Value}{n:Nat}{xs:List Value}(h:w.ownsRow base e size v n xs):
    ∃s:Sl,v=.slice s.a s.n s.c/\s.n=n/\b9 w.heap base e size s xs:=by
  obtain⟨h1,h2⟩:=h
  rcases h2 with ⟨hv,hn⟩ | ⟨g,cap,cur,hv,hb,hh,hn,hc,hs,ht⟩
  . exact⟨⟨none,0,0⟩,hv,hn.symm,by rw[hn] at h1;exact⟨h1,.inl ⟨rfl,rfl,rfl⟩⟩⟩
  . exact⟨⟨some ⟨g,0,none⟩,n,cap⟩,hv,rfl,h1,.inr ⟨g,cur,rfl,hb,hh,hn,hc,hs,ht⟩⟩
theorem b9.kp{h h':Heap}{base:Nat}{e:TypeId}{size:Nat}{s:Sl}{xs:List Value}(ho:b9 h base e size s xs)(hE:∀g,s.a=some ⟨g,0,none⟩->g<h.size->h'[g]?=h[g]?):b9 h' base e size s xs:=by
  obtain⟨h1,h2⟩:=ho
  refine⟨h1,?_⟩
  rcases h2 with h2 | ⟨g,cur,ha,hb,hh,r⟩
  . exact .inl h2
  . exact .inr ⟨g,cur,ha,hb,by rw[hE g ha (wo.1 hh).1];exact hh,r⟩
theorem b9.hc{h:Heap}{base:Nat}{e:TypeId}{size:Nat}{s:Sl}{xs:List Value}(ho:b9 h base e size s xs){g:Nat}(hg:s.a=some ⟨g,0,none⟩){i:Nat}{v:Value}(hv:xs[i]?=some v):hc h ⟨g,i,none⟩=some v:=by
  obtain⟨h1,h2⟩:=ho
  rcases h2 with ⟨ha,_⟩ | ⟨g',cur,ha,hb,hh,hn,hc,hs,ht⟩
  . rw[ha] at hg;cases hg
  . rw[ha] at hg;cases hg
    unfold VC.hc
    rw[hh]
    simp only[Option.isSome_none,Bool.false_eq_true,if_false]
    rw[<-ht] at hv
    rw[vM] at hv
    split at hv
    . rw[<-Array.getElem?_toList];exact hv
    . cases hv
def cn(P:Program)(t e size bytes:Nat):Bool:=
  sliceB P t&&Nat.beq (elemOf P t) e&&jR P e&&((P.info? e).bind (·.zero)).isSome&&Nat.beq (bL P e).length size&&Nat.beq (aO P e) size&&Nat.beq (vv P e) bytes&&Nat.blt 0 size
end Go.VC
end
