/- VcCore VcAbb VcAbp VcSound1 VcSound2 VcSound3 VcSound4 VcSound5 VcSound6 VcSound7 VcLib VcAbj VcLib2. -/
import Derived.Calls
import Derived.Orders
import Derived.Test.YtajglkbckhgboaaGreatDoorProg
import Derived.OrdersHeld
import Derived.WalkKit
import Derived.WalkLawsBesides
import Derived.Scope
import Derived.KernelRfl
set_option linter.all false
set_option maxRecDepth 100000
set_option maxHeartbeats 8000000

section
namespace Go.VC
abbrev Heap:=Array Obj
abbrev Env:=Nat->Value
def hc(h:Heap)(a:Addr):Option Value:=
  match h[a.block]? with
  | some (.cells c _ _)=>if a.spot.isSome then none else c[a.off]?
  | _=>none
def fz(h:Heap)(a:Addr):Bool:=
  match h[a.block]? with
  | some (.cells _ _ (lo,hi))=>lo<=a.off&&a.off<hi
  | _=>false
def ep(h:Heap)(a:Addr)(v:Value):Heap:=
  h.modify a.block fun
    | .cells c elem frozen=>.cells (if a.spot.isSome then c else c.setIfInBounds a.off v) elem frozen
    | o=>o
def Ext(h h':Heap):Prop:=h.size<=h'.size/\∀b,b<h.size->h'[b]?=h[b]?
def FC(ρ:Env)(d:Nat)(v:Value):Env:=fun j=>bif Nat.beq j d then v else ρ j
def bN(ρ:Env):Operand->Value
  | .tmp t=>ρ t
  | .const v=>v
  | .global g=>.pointer (some ⟨g,0,none⟩)
  | .func f=>.func (.func f) #[] #[]
inductive Kd where
  | int (k:IntKind) | bool | str | ptr | slice | map | any
structure Sl where
  a:Option Addr
  n:Nat
  c:Nat
def Kd.T:Kd->Type
  | .int _=>Int | .bool=>Bool | .str=>ByteArray | .ptr=>Option Addr | .slice=>Sl | .map=>Option Nat | .any=>Value
def Kd.val:(k:Kd)->k.T->Value
  | .int k,x=>.int k x
  | .bool,x=>.bool x
  | .str,x=>.string x
  | .ptr,x=>.pointer x
  | .slice,x=>.slice x.a x.n x.c
  | .map,x=>.map x
  | .any,x=>x
def Kd.ex:Kd->(Value->Prop)->Prop
  | .int k,F=>∃x:Int,F (.int k x)
  | .bool,F=>∃x:Bool,F (.bool x)
  | .str,F=>∃x:ByteArray,F (.string x)
  | .ptr,F=>∃x:Option Addr,F (.pointer x)
  | .slice,F=>∃x:Sl,F (.slice x.a x.n x.c)
  | .map,F=>∃x:Option Nat,F (.map x)
  | .any,F=>∃x:Value,F x
def zV:List Kd->(List Value->Prop)->Prop
  | [],F=>F []
  | k::r,F=>k.ex fun v=>zV r fun vs=>F (v::vs)
def tm:IntKind->IntKind->Bool
  | .i8,.i8 | .i16,.i16 | .i32,.i32 | .i64,.i64 | .u8,.u8 | .u16,.u16 | .u32,.u32 | .u64,.u64=>true
  | _,_=>false
def Kd.J9:(k:Kd)->Value->(k.T->Prop)->Prop
  | .int k,.int k' x,F=>bif tm k k' then F x else False
  | .bool,.bool x,F=>F x
  | .str,.string x,F=>F x
  | .ptr,.pointer x,F=>F x
  | .slice,.slice a n c,F=>F ⟨a,n,c⟩
  | .map,.map x,F=>F x
  | .any,x,F=>F x
  | _,_,_=>False
def flat(P:Program):Nat->TypeId->List Kd
  | 0,_=>[.any]
  | d+1,t=>match P.underlying t with
    | some (.struct fs)=>fs.toList.flatMap fun f=>flat P d f.type
    | some (.array n e)=>(List.replicate n (flat P d e)).flatten
    | some (.int k)=>[.int k]
    | some .bool=>[.bool]
    | some .string=>[.str]
    | some (.pointer _)=>[.ptr]
    | some (.slice _)=>[.slice]
    | some (.map _ _)=>[.map]
    | _=>[.any]
def kW(P:Program)(t:TypeId):Bool:=match P.underlying t with | some (.struct _) | some (.array _ _)=>true | _=>false
def a8(P:Program)(t:TypeId):Nat:=match P.info? t with | some i=>i.size | none=>0
def xQ(P:Program)(t:TypeId):Nat:=match P.info? t with | some i=>i.bytes | none=>0
def kK(P:Program)(t:TypeId):Bool:=(P.info? t).isSome&&(P.underlying t).isSome
def bV(P:Program)(t:TypeId):List Value:=match (P.info? t).bind (·.zero) with | some z=>z.cells.toList | none=>[]
def fG(a:Addr)(i:Nat):Addr:=match i with | 0=>a | i+1=>⟨a.block,a.off+(i+1),none⟩
def a6(h:Heap)(a:Addr)(vs:List Value):Prop:=∀i v,vs[i]?=some v->hc h (fG a i)=some v
def pM(h:Heap)(a:Addr)(vs:List Value)(K:Prop):Prop:=match vs with | [v]=>hc h a=some v/\K | vs=>a6 h a vs/\K
def je(h:Heap)(a:Addr)(n:Nat):Prop:=∀i,i<n->(hc h (fG a i)).isSome=true/\fz h (fG a i)=false
def bI(h:Heap)(a:Addr):Nat->List Value->Heap
  | _,[]=>h
  | i,v::vs=>bI (ep h (fG a i) v) a (i+1) vs
def dR:Value->Bool
  | .agg _ | .tuple _=>false
  | _=>true
def aca(h:Heap)(a:Addr)(vs:List Value)(K:Heap->Prop):Prop:=
  bif vs.all dR then je h a vs.length/\∀h',h'=bI h a 0 vs->K h' else False
def sB(b:Bool)(p q:Prop):Prop:=match b with | true=>p | false=>q
def NC(p:Option Addr)(F:Addr->Prop):Prop:=match p with | some a=>F a | none=>False
def NB(p:Option Addr)(F:Nat->Nat->Prop):Prop:=match p with | some ⟨b,o,none⟩=>F b o | _=>False
def iu(s:ByteArray)(i:Nat):Nat:=(s.data.toList.getD i 0).toNat
def aQ(a:Option Addr)(l c size:Nat):Option Addr:=if c=l then a else a.map (·.add (l*size))
def aH(l:List Value)(off:Nat)(vs:List Value):List Value:=l.take off++vs++l.drop (off+vs.length)
def Ca(P:Program)(fs:List Field):List (Nat × Value)->List Value->(List Value->Prop)->Prop
  | [],l,F=>F l
  | (i,v)::r,l,F=>match fs[i]? with
    | some f=>bif Nat.beq (a8 P f.type) v.cells.toList.length&&Nat.ble (f.offset+v.cells.toList.length) l.length&&kK P f.type then Ca P fs r (aH l f.offset v.cells.toList) F else False
    | none=>False
def xC(size:Nat):List (Nat × Value)->List Value->(List Value->Prop)->Prop
  | [],l,F=>F l
  | (i,v)::r,l,F=>bif Nat.beq size v.cells.toList.length&&Nat.ble (i*size+v.cells.toList.length) l.length then xC size r (aH l (i*size) v.cells.toList) F else False
def xc(size:Nat):Nat->List (Nat × Value)->Bool
  | _,[]=>true
  | k,(i,v)::r=>Nat.beq i k&&Nat.beq size v.cells.toList.length&&xc size (k+1) r
def H3:List (Nat × Value)->List Value
  | []=>[]
  | (_,v)::r=>v.cells.toList++H3 r
def gZ:Nat->List Value->List Value | 0,_=>[] | n+1,l=>l++gZ n l
def jc(ρ:Env)(ps:Array (Nat × Operand)):List (Nat × Value):=ps.toList.map fun p=>(p.1,bN ρ p.2)
def iJ(x y:Int):Int:=if y<x then y else x
def imax(x y:Int):Int:=if y>x then y else x
def kf(b:Bool)(vs:List Value):Value:=bif b then .agg ⟨vs⟩ else match vs with | u::_=>u | []=>undef
def ai(P:Program)(e:TypeId)(n:Nat):List Value:=(List.replicate n (bV P e)).flatten
class aB where
  rel:World->World->Prop
  refl:∀w,rel w w
  trans:∀ {a b c:World},rel a b->rel b c->rel a c
  heap:∀(w:World) (h:Heap),rel w { w with heap:=h }
  drew:∀w:World,rel w { w with drawn:=w.drawn+1 }
  run:∀ {α:Type} (s:Sem α) (P:Program) (w:World) (v:α) (w':World),s.run P w=.ok v w'->rel w w'
def Fn[aB](P:Program)(f:FuncId)(args:Array Value)(h:Heap)(R:Value->Heap->Prop):Prop:=
  ∀w:World,w.heap=h->Calls P f args w fun e w'=>∃v,e=.returned v/\R v w'.heap/\w'.os=w.os/\w'.tape=w.tape/\w'.output=w.output/\aB.rel w w'
def bD{α:Type}(P:Program)(s:Sem α)(h:Heap)(K:α->Heap->Prop):Prop:=
  ∀w:World,w.heap=h->∃v w',s.run P w=.ok v w'/\K v w'.heap/\w'.os=w.os/\w'.tape=w.tape/\w'.output=w.output
def vu(P:Program)(g:FuncId)(args:Array Value)(h:Heap)(K:Value->Heap->Prop):Prop:=
  ∀w:World,w.heap=h->∃v w',(callFunc g args).run P w=.ok (.value v) w'/\K v w'.heap/\w'.os=w.os/\w'.tape=w.tape/\w'.output=w.output
def aJ(P : Program)(f : FuncId): Bool := match P.funcs[f]? with | some fn => fn.body.isSome && !(fn.name == "runtime.NumGoroutine") | none => false
def App(P:Program)(t u:TypeId)(s x:Value)(h:Heap)(K:Sl->Heap->Prop):Prop:=
  ∀ty,bD P (Builtin.append_ #[t,u] ty #[s,x]) h fun v h'=>∃r:Sl,v=.slice r.a r.n r.c/\K r h'
def Cpy(P:Program)(t u:TypeId)(s x:Value)(h:Heap)(K:Int->Heap->Prop):Prop:=
  ∀ty,bD P (Builtin.copy_ #[t,u] ty #[s,x]) h fun v h'=>∃r:Int,v=.int .i64 r/\K r h'
def Cc(P:Program)(t:TypeId)(F:Value->Prop):Prop:=zV (flat P 9 t) fun vs=>F (kf (kW P t) vs)
def HO(P:Program)(v:Value)(K:Value->Prop):List TypeId->List Value->Prop
  | [],acc=>v=.tuple ⟨acc.reverse⟩/\K (.tuple ⟨acc.reverse⟩)
  | t::r,acc=>Cc P t fun u=>HO P v K r (u::acc)
def om(P:Program)(t:TypeId)(v:Value)(K:Value->Prop):Prop:=
  match P.underlying t with
  | some (.tuple ts)=>HO P v K ts.toList []
  | some _=>Cc P t fun u=>v=u/\K u
  | none=>False
def j7(P:Program):Nat->List Field->List Value->List Value->(Bool->Prop)->Prop
  | _,[],[],[],F=>F true
  | k, f :: fs, u :: us, v :: vs, F => bif Nat.beq f.offset k && !(f.name == "_") then
      (match P.underlying f.type,u,v with
      | some (.int _),.int j a,.int l b=>bif tm j l then j7 P (k+1) fs us vs fun r=>F ((a==b)&&r) else False
      | some .string,.string a,.string b=>j7 P (k+1) fs us vs fun r=>F ((a.toList==b.toList)&&r)
      | some .bool,.bool a,.bool b=>j7 P (k+1) fs us vs fun r=>F ((a==b)&&r)
      | _,_,_=>False) else False
  | _,_,_,_,_=>False
def HQ(P:Program):Nat->List Field->List Value->List Value->(Bool->Prop)->Prop
  | _,[],[],[],F=>F true
  | k, f :: fs, u :: us, v :: vs, F => bif Nat.beq f.offset k && !(f.name == "_") then
      (match P.underlying f.type,u,v with
      | some (.int _),.int j a,.int l b=>bif tm j l then HQ P (k+1) fs us vs fun r=>F ((a==b)&&r) else False
      | some .string,.string a,.string b=>HQ P (k+1) fs us vs fun r=>F ((a.toList==b.toList)&&r)
      | some .bool,.bool a,.bool b=>HQ P (k+1) fs us vs fun r=>F ((a==b)&&r)
      | some (.struct gs),u,v=>bif !P.stoodInHeld f.type&&Nat.ble 1 (a8 P f.type) then
          j7 P 0 gs.toList ((u::us).take (a8 P f.type)) ((v::vs).take (a8 P f.type)) fun e=>HQ P (k+a8 P f.type) fs ((u::us).drop (a8 P f.type)) ((v::vs).drop (a8 P f.type)) fun r=>F (e&&r)
        else False
      | _,_,_=>False) else False
  | _,_,_,_,_=>False
def XG:List Value->List Value->(Bool->Prop)->Prop
  | [],[],F=>F true
  | .int j a::us,.int l b::vs,F=>bif tm j l then XG us vs fun r=>F ((a==b)&&r) else False
  | _,_,_=>False
def O6(P:Program)(t:TypeId):Bool:=match P.underlying t with | some (.int _)=>true | _=>false
def eqS(P:Program)(t:TypeId)(us vs:List Value)(F:Bool->Prop):Prop:=match P.underlying t with
  | some (.struct fs)=>bif !P.stoodInHeld t && !P.eqGuardType P.depth t then HQ P 0 fs.toList us vs F else False
  | some (.array n e)=>bif O6 P e&&Nat.beq (a8 P e) 1&&kK P e&&Nat.beq us.length n&&Nat.beq vs.length n && !P.eqGuardType P.depth t then XG us vs F else False
  | _=>False
def eD(k:IntKind)(a b:Int):Int:=k.wrap (a*2^(min b.toNat k.bits))
def r4(k:IntKind)(a b:Int):Int:=a.fdiv (2^(min b.toNat k.bits))
def sF(k:IntKind)(a b:Int):Int:=k.wrap (BitVec.ofInt k.bits a&&&BitVec.ofInt k.bits b).toNat
def EY(k:IntKind)(a b:Int):Int:=k.wrap (BitVec.ofInt k.bits a|||BitVec.ofInt k.bits b).toNat
def Tg(k:IntKind)(a b:Int):Int:=k.wrap (BitVec.ofInt k.bits a ^^^ BitVec.ofInt k.bits b).toNat
def X5(k:IntKind)(a b:Int):Int:=k.wrap (BitVec.ofInt k.bits a &&& ~~~BitVec.ofInt k.bits b).toNat
def s8{α:Type}(a b:Option α)(F:Bool->Prop):Prop:=match b with
  | none=>F a.isNone
  | some _=>match a with | none=>F false | some _=>False
def mh(P:Program)(op:BinOp)(t:TypeId)(x y:Value)(K:Value->Prop):Prop:=
  match op,x,y with
  | .add,.int k a,.int k' b=>bif tm k k' then K (.int k (k.wrap (a+b))) else False
  | .sub,.int k a,.int k' b=>bif tm k k' then K (.int k (k.wrap (a-b))) else False
  | .mul,.int k a,.int k' b=>bif tm k k' then K (.int k (k.wrap (a*b))) else False
  | .quo,.int k a,.int k' b=>bif tm k k' then b≠0/\K (.int k (k.wrap (a.tdiv b))) else False
  | .rem,.int k a,.int k' b=>bif tm k k' then b≠0/\K (.int k (a.tmod b)) else False
  | .shl,.int k a,.int _ b=>0<=b/\K (.int k (eD k a b))
  | .shr,.int k a,.int _ b=>0<=b/\K (.int k (r4 k a b))
  | .and,.int k a,.int k' b=>bif tm k k' then K (.int k (sF k a b)) else False
  | .or,.int k a,.int k' b=>bif tm k k' then K (.int k (EY k a b)) else False
  | .xor,.int k a,.int k' b=>bif tm k k' then K (.int k (Tg k a b)) else False
  | .andNot,.int k a,.int k' b=>bif tm k k' then K (.int k (X5 k a b)) else False
  | .eql,.int k a,.int k' b=>bif tm k k' then K (.bool (a==b)) else False
  | .neq,.int k a,.int k' b=>bif tm k k' then K (.bool (a != b)) else False
  | .lss,.int k a,.int k' b=>bif tm k k' then K (.bool (decide (a<b))) else False
  | .leq,.int k a,.int k' b=>bif tm k k' then K (.bool (decide (a<=b))) else False
  | .gtr,.int k a,.int k' b=>bif tm k k' then K (.bool (decide (a>b))) else False
  | .geq,.int k a,.int k' b=>bif tm k k' then K (.bool (decide (a>=b))) else False
  | .eql,.string a,.string b=>K (.bool (a.toList==b.toList))
  | .neq,.string a,.string b=>K (.bool (!(a.toList==b.toList)))
  | .add,.string a,.string b=>a.size+b.size<=9223372036854775807/\K (.string (a++b))
  | .lss,.string a,.string b=>K (.bool (Op.bytesLess a.toList b.toList))
  | .leq,.string a,.string b=>K (.bool (Op.bytesLess a.toList b.toList||a.toList==b.toList))
  | .gtr,.string a,.string b=>K (.bool (!(Op.bytesLess a.toList b.toList||a.toList==b.toList)))
  | .geq,.string a,.string b=>K (.bool (!Op.bytesLess a.toList b.toList))
  | .eql,.agg a,.agg b=>eqS P t a.toList b.toList fun e=>K (.bool e)
  | .neq,.agg a,.agg b=>eqS P t a.toList b.toList fun e=>K (.bool (!e))
  | .eql,.slice a _ _,.slice b _ _=>bif (match P.underlying t with | some (.slice _)=>true | _=>false) then s8 a b fun e=>K (.bool (e)) else False
  | .neq,.slice a _ _,.slice b _ _=>bif (match P.underlying t with | some (.slice _)=>true | _=>false) then s8 a b fun e=>K (.bool (!e)) else False
  | .eql,.pointer a,.pointer b=>bif (match P.underlying t with | some (.pointer _)=>true | _=>false) then s8 a b fun e=>K (.bool (e)) else False
  | .neq,.pointer a,.pointer b=>bif (match P.underlying t with | some (.pointer _)=>true | _=>false) then s8 a b fun e=>K (.bool (!e)) else False
  | .eql,.bool a,.bool b=>bif (match P.underlying t with | some .bool=>true | _=>false) then K (.bool (a==b)) else False
  | .neq,.bool a,.bool b=>bif (match P.underlying t with | some .bool=>true | _=>false) then K (.bool (!(a==b))) else False
  | _,_,_=>False
def cr:Option Value->Int->(Int->Prop)->Prop
  | none,d,F=>F d
  | some (.int _ i),_,F=>F i
  | _,_,_=>False
def uY(P:Program)(s:TypeId)(f:Nat):Option Field:=match P.underlying s with | some (.struct fs)=>fs[f]? | _=>none
def elemOf(P:Program)(t:TypeId):TypeId:=match P.underlying t with | some (.slice e) | some (.array _ e)=>e | _=>0
def sliceB(P:Program)(t:TypeId):Bool:=match P.underlying t with | some (.slice _)=>true | _=>false
def De(P:Program)(t:TypeId):Bool:=match P.underlying t with | some .string=>true | _=>false
def gW(P:Program)(ρ:Env)(o:Oper)(K:Value->Prop):Prop:=
  match o.op with
  | .move x | .assign x=>K (bN ρ x)
  | .pick c a b=>match bN ρ c with
    | .bool b'=>K (match b' with | true=>bN ρ a | false=>bN ρ b)
    | _=>False
  | .nilCheck x=>match bN ρ x with
    | .pointer p=>NC p fun a=>K (.pointer (some a))
    | .func (.func f) x y=>K (.func (.func f) x y)
    | _=>False
  | .binOp op t x y _=>mh P op t (bN ρ x) (bN ρ y) K
  | .unOp .not _ x=>match bN ρ x with | .bool b=>K (.bool (!b)) | _=>False
  | .unOp .neg _ x=>match bN ρ x with | .int k n=>K (.int k (k.wrap (0-n))) | _=>False
  | .convert s d x=>match P.underlying s,P.underlying d,bN ρ x with
    | some (.int _),some (.int k),.int _ n=>K (.int k (k.wrap n))
    | some .string,some .string,.string b=>K (.string b)
    | _,_,_=>False
  | .makeFunc f x y=>K (.func f (x.map (bN ρ)) (y.map (bN ρ)))
  | .sliceToArrayPointer t x=>match P.underlying t,bN ρ x with
    | some (.array n _),.slice a l _=>n<=l/\NC a fun a=>K (.pointer (some a))
    | _,_=>False
  | .slice t x lo hi none=>match bN ρ x with
    | .string s=>bif De P t then cr (lo.map (bN ρ)) 0 fun l=>cr (hi.map (bN ρ)) s.size fun r=>(0<=l/\l<=r/\r<=s.size)/\K (.string (s.extract l.toNat r.toNat)) else False
    | .slice a n c=>bif sliceB P t&&kK P (elemOf P t) then cr (lo.map (bN ρ)) 0 fun l=>cr (hi.map (bN ρ)) n fun r=>(0<=l/\l<=r/\r<=c)/\K (.slice (aQ a l.toNat c (a8 P (elemOf P t))) (r.toNat-l.toNat) (c-l.toNat)) else False
    | .pointer (some a)=>match P.underlying t with
      | some (.array n e)=>bif kK P e then cr (lo.map (bN ρ)) 0 fun l=>cr (hi.map (bN ρ)) n fun r=>(0<=l/\l<=r/\r<=n)/\K (.slice (aQ (some a) l.toNat n (a8 P e)) (r.toNat-l.toNat) (n-l.toNat)) else False
      | _=>False
    | _=>False
  | .slice t x lo (some hi) (some mx)=>match bN ρ x with
    | .slice a n c=>bif sliceB P t&&kK P (elemOf P t) then cr (lo.map (bN ρ)) 0 fun l=>cr (some (bN ρ hi)) n fun r=>cr (some (bN ρ mx)) c fun m=>
        (0<=l/\l<=r/\r<=m/\m<=c)/\K (.slice (aQ a l.toNat m.toNat (a8 P (elemOf P t))) (r.toNat-l.toNat) (m.toNat-l.toNat)) else False
    | _=>False
  | .fieldAddr s x f=>match bN ρ x,uY P s f with
    | .pointer (some a),some fd=>bif kK P fd.type && !Nat.beq (a8 P fd.type) 0 then K (.pointer (some (fG a fd.offset))) else False
    | _,_=>False
  | .field t x f=>match bN ρ x,uY P t f with
    | .agg cs,some fd=>bif kK P fd.type then (match kW P fd.type with
        | true=>K (.agg ⟨(cs.toList.drop fd.offset).take (a8 P fd.type)⟩)
        | false=>bif Nat.blt fd.offset cs.toList.length then K (cs.toList.getD fd.offset undef) else False) else False
    | _,_=>False
  | .indexAddr t x i=>match bN ρ x,bN ρ i with
    | .slice p n _,.int _ i=>bif sliceB P t&&kK P (elemOf P t) then NB p fun b o=>(0<=i/\i<n)/\K (.pointer (some ⟨b,o+i.toNat*a8 P (elemOf P t),none⟩)) else False
    | .pointer (some ⟨b,o,none⟩),.int _ i=>match P.underlying t with
      | some (.array n e)=>bif kK P e then (0<=i/\i<n)/\K (.pointer (some ⟨b,o+i.toNat*a8 P e,none⟩)) else False
      | _=>False
    | _,_=>False
  | .index t x i=>match bN ρ x,bN ρ i with
    | .string s,.int _ i=>bif De P t then (0<=i/\i<s.size)/\K (.int .u8 (iu s i.toNat)) else False
    | .agg cs,.int _ i=>match P.underlying t with
      | some (.array n e)=>bif kK P e && !Nat.beq (a8 P e) 0&&Nat.beq (n*a8 P e) cs.toList.length then (0<=i/\i<n)/\zV (flat P 9 e) fun vs=>(cs.toList.drop (i.toNat*a8 P e)).take (a8 P e)=vs/\K (kf (kW P e) vs) else False
      | _=>False
    | _,_=>False
  | .extract x i=>match bN ρ x with
    | .tuple vs=>bif Nat.blt i vs.toList.length then K (vs.toList.getD i undef) else False
    | _=>False
  | .build t ps=>match P.underlying t with
    | some (.struct fs)=>bif kK P t&&((P.info? t).bind (·.zero)).isSome&&fs.toList.all (fun f=>kK P f.type) then Ca P fs.toList (jc ρ ps) (bV P t) fun l=>K (.agg ⟨l⟩) else False
    | some (.array n e)=>bif kK P t&&((P.info? t).bind (·.zero)).isSome&&kK P e&&Nat.beq (bV P t).length (n*a8 P e) then
        (match Nat.beq ps.toList.length n&&xc (a8 P e) 0 (jc ρ ps) with
        | true=>K (.agg ⟨H3 (jc ρ ps)⟩)
        | false=>xC (a8 P e) (jc ρ ps) (bV P t) fun l=>K (.agg ⟨l⟩)) else False
    | _=>False
  | .makeInterface t x=>match P.underlying t with
    | some (.interface _) | none=>False
    | _=>K (.iface t (bN ρ x))
  | .call c=>match c.callee with
    | .builtin .len=>match c.args.toList.map (bN ρ),c.argTypes.toList with
      | [.string s],[t]=>bif De P t then K (.int .i64 s.size) else False
      | [.slice _ n _],[t]=>bif sliceB P t then K (.int .i64 n) else False
      | _,_=>False
    | .builtin .cap=>match c.args.toList.map (bN ρ),c.argTypes.toList with
      | [.slice _ _ n],[t]=>bif sliceB P t then K (.int .i64 n) else False
      | _,_=>False
    | .builtin .min=>match c.args.toList.map (bN ρ) with
      | [.int k x,.int _ y]=>K (.int k (iJ x y))
      | [.int k x,.int _ y,.int _ z]=>K (.int k (iJ (iJ x y) z))
      | [.int k x,.int _ y,.int _ z,.int _ u]=>K (.int k (iJ (iJ (iJ x y) z) u))
      | [.int k x,.int _ y,.int _ z,.int _ u,.int _ v]=>K (.int k (iJ (iJ (iJ (iJ x y) z) u) v))
      | _=>False
    | .builtin .max=>match c.args.toList.map (bN ρ) with
      | [.int k x,.int _ y]=>K (.int k (imax x y))
      | [.int k x,.int _ y,.int _ z]=>K (.int k (imax (imax x y) z))
      | [.int k x,.int _ y,.int _ z,.int _ u]=>K (.int k (imax (imax (imax x y) z) u))
      | [.int k x,.int _ y,.int _ z,.int _ u,.int _ v]=>K (.int k (imax (imax (imax (imax x y) z) u) v))
      | _=>False
    | _=>False
  | _=>False
def opL(P:Program)(ρ:Env)(o:Oper)(h:Heap)(K:Value->Prop):Prop:=
  match o.op with
  | .load t x=>match bN ρ x with
    | .pointer (some a)=>bif kK P t&&Nat.beq (a8 P t) (flat P 9 t).length then zV (flat P 9 t) fun vs=>pM h a vs (K (kf (kW P t) vs)) else False
    | _=>False
  | _=>False
def oY[aB](P:Program)(ρ:Env)(o:Oper)(h:Heap)(K:Value->Heap->Prop):Prop:=
  match o.op with
  | .alloc t=>match (P.info? t).bind (·.zero) with
      | some z=>∀h':Heap,h'=h.push (.cells z.cells t)->K (.pointer (some ⟨h.size,0,none⟩)) h'
      | none=>False
  | .box t x=>∀h':Heap,h'=h.push (.cells (bN ρ x).cells t)->K (.pointer (some ⟨h.size,0,none⟩)) h'
  | .store t x y=>match bN ρ x with
    | .pointer (some a)=>bif kK P t&&Nat.beq (a8 P t) (bN ρ y).cells.toList.length then aca h a (bN ρ y).cells.toList fun h'=>K undef h' else False
    | _=>False
  | .buildSlice t n ps=>bif sliceB P t&&kK P (elemOf P t)&&((P.info? (elemOf P t)).bind (·.zero)).isSome&&Nat.beq (bV P (elemOf P t)).length (a8 P (elemOf P t))&&Nat.blt 0 (a8 P (elemOf P t))&&Nat.ble (n*a8 P (elemOf P t)) 16777216 then
      (match Nat.beq ps.toList.length n&&xc (a8 P (elemOf P t)) 0 (jc ρ ps) with
      | true=>∀h':Heap,h'=h.push (.cells ⟨H3 (jc ρ ps)⟩ (elemOf P t))->K (.slice (some ⟨h.size,0,none⟩) n n) h'
      | false=>xC (a8 P (elemOf P t)) (jc ρ ps) (gZ n (bV P (elemOf P t))) fun l=>∀h':Heap,h'=h.push (.cells ⟨l⟩ (elemOf P t))->K (.slice (some ⟨h.size,0,none⟩) n n) h') else False
  | .makeSlice t l c=>match bN ρ l,bN ρ c with
    | .int _ l,.int _ c=>bif sliceB P t&&kK P (elemOf P t)&&((P.info? (elemOf P t)).bind (·.zero)).isSome&&Nat.beq (bV P (elemOf P t)).length (a8 P (elemOf P t))&&Nat.blt 0 (a8 P (elemOf P t))&&Nat.blt 0 (xQ P (elemOf P t)) then
        (0<=l/\l<=c/\xQ P (elemOf P t)*c<=140737488355328)/\∀h':Heap,h'=h.push (.cells ⟨ai P (elemOf P t) c.toNat⟩ (elemOf P t))->K (.slice (some ⟨h.size,0,none⟩) l.toNat c.toNat) h' else False
    | _,_=>False
  | .convert s d x=>bD P (Go.convert s d (bN ρ x)) h fun v h'=>om P d v fun u=>K u h'
  | .lookup t m k ok=>bD P (Instr.lookup t (bN ρ m) (bN ρ k) ok) h fun v h'=>om P o.type v fun u=>K u h'
  | .mapUpdate t m k x=>bD P (Instr.mapUpdate t (bN ρ m) (bN ρ k) (bN ρ x)) h fun _ h'=>K undef h'
  | .insert t m k x=>bD P (Instr.mapUpdate t (bN ρ m) (bN ρ k) (bN ρ x)) h fun _ h'=>K undef h'
  | .mapEntry t m k=>bD P (Instr.mapEntry t (bN ρ m) (bN ρ k)) h fun v h'=>match P.underlying t with
    | some (.map _ e)=>Cc P e fun u=>∃n:Int,v=.tuple ⟨[u,.int .i64 n]⟩/\K (.tuple ⟨[u,.int .i64 n]⟩) h'
    | _=>False
  | .entryStore t m s x=>bD P (Instr.entryStore t (bN ρ m) (bN ρ s) (bN ρ x)) h fun _ h'=>K undef h'
  | .makeMap t r=>bD P (Instr.makeMap t (r.map (bN ρ))) h fun v h'=>om P o.type v fun u=>K u h'
  | .range t x=>bD P (Instr.range t (bN ρ x)) h fun v h'=>∃a:Addr,v=.pointer (some a)/\K (.pointer (some a)) h'
  | .next x s=>match s with
    | true=>bD P (Instr.next (bN ρ x) true o.type) h fun v h'=>(v=.tuple ⟨[.bool false]⟩/\K (.tuple ⟨[.bool false]⟩) h')\/∃k c:Int,v=.tuple ⟨[.bool true,.int .i64 k,.int .i32 c]⟩/\K (.tuple ⟨[.bool true,.int .i64 k,.int .i32 c]⟩) h'
    | false=>bD P (Instr.next (bN ρ x) false o.type) h fun v h'=>(v=.tuple ⟨[.bool false]⟩/\K (.tuple ⟨[.bool false]⟩) h')\/∃k c:Value,v=.tuple ⟨[.bool true,k,c]⟩/\K (.tuple ⟨[.bool true,k,c]⟩) h'
  | .call c=>match c.callee with
    | .builtin .append=>match c.args.toList.map (bN ρ),c.argTypes.toList with
      | [s,x],[t,u]=>App P t u s x h fun r h'=>K (.slice r.a r.n r.c) h'
      | _,_=>False
    | .builtin .copy=>match c.args.toList.map (bN ρ),c.argTypes.toList with
      | [s,x],[t,u]=>Cpy P t u s x h fun r h'=>K (.int .i64 r) h'
      | _,_=>False
    | .builtin .len=>bD P (Builtin.len_ c.argTypes o.type (c.args.map (bN ρ))) h fun v h'=>om P o.type v fun u=>K u h'
    | .builtin .delete=>bD P (Builtin.delete_ c.argTypes o.type (c.args.map (bN ρ))) h fun v h'=>K v h'
    | .builtin .clear=>bD P (Builtin.clear_ c.argTypes o.type (c.args.map (bN ρ))) h fun v h'=>K v h'
    | .value f=>match bN ρ f with
      | .func (.func g) first cap=>bif aJ P g then Fn P g (first++c.args.map (bN ρ)++cap) h (fun v h'=>om P o.type v fun u=>K u h') else vu P g (first++c.args.map (bN ρ)++cap) h (fun v h'=>om P o.type v fun u=>K u h')
      | _=>False
    | _=>False
  | _=>False
def KG(P:Program)(o:Op):Nat:=
  match o with
  | .load ..=>1
  | .alloc _ | .box .. | .store .. | .buildSlice .. | .makeSlice .. | .lookup .. | .mapUpdate .. | .insert .. | .mapEntry .. | .entryStore .. | .makeMap .. | .range .. | .next ..=>2
  | .convert s d _=>match P.underlying s,P.underlying d with | some (.int _),some (.int _)=>0 | some .string,some .string=>0 | _,_=>2
  | .call c=>match c.callee with
    | .builtin .len=>match c.argTypes.toList with | [t]=>bif De P t||sliceB P t then 0 else 2 | _=>2
    | .builtin .cap | .builtin .min | .builtin .max=>0
    | _=>2
  | _=>0
def opW[aB](P:Program)(ρ:Env)(o:Oper)(h:Heap)(K:Value->Heap->Prop):Prop:=
  match KG P o.op with
  | 0=>gW P ρ o fun v=>K v h
  | 1=>opL P ρ o h fun v=>K v h
  | _=>oY P ρ o h K
/- loops and joins: typed slots -/
inductive SK where
  | one (k:Kd) | agg (ks:List Kd)
def JB:List Kd->Type->Type
  | [],X=>X
  | k::r,X=>k.T->JB r X
def Ax:List (Nat × SK)->Type->Type
  | [],X=>X
  | (_,.one k)::r,X=>k.T->Ax r X
  | (_,.agg ks)::r,X=>JB ks (Ax r X)
def Il{X:Type}:(ks:List Kd)->JB ks X->List Value->(X->Prop)->Prop
  | [],f,[],F=>F f
  | k::r,f,v::vs,F=>k.J9 v fun x=>Il r (f x) vs F
  | _,_,_,_=>False
def xW{X:Type}:(sl:List (Nat × SK))->Ax sl X->Env->(X->Prop)->Prop
  | [],f,_,F=>F f
  | (s,.one k)::r,f,ρ,F=>k.J9 (ρ s) fun x=>xW r (f x) ρ F
  | (s,.agg ks)::r,f,ρ,F=>match ρ s with
    | .agg cs=>Il ks f cs.toList fun f'=>xW r f' ρ F
    | _=>False
def Iv{X:Type}:(ks:List Kd)->JB ks X->(List Value->X->Prop)->Prop
  | [],f,F=>F [] f
  | k::r,f,F=>∀x:k.T,Iv r (f x) fun vs f'=>F (k.val x::vs) f'
def ya{X:Type}:(sl:List (Nat × SK))->Ax sl X->Env->(Env->X->Prop)->Prop
  | [],f,ρ,F=>F ρ f
  | (s,.one k)::r,f,ρ,F=>∀x:k.T,ya r (f x) (FC ρ s (k.val x)) F
  | (s,.agg ks)::r,f,ρ,F=>Iv ks f fun vs f'=>ya r f' (FC ρ s (.agg ⟨vs⟩)) F
inductive mG where
  | z
  | s (l r:mG)
  | j (sl:List (Nat × SK)) (l r:mG)
  | b (x:mG)
  | l (sl:List (Nat × SK)) (x:mG)
  | c (t e:mG)
def mG.left:mG->mG | .s a _=>a | .j _ a _=>a | _=>.z
def mG.right:mG->mG | .s _ a=>a | .j _ _ a=>a | _=>.z
def mG.in_:mG->mG | .b a=>a | .l _ a=>a | _=>.z
def mG.thn:mG->mG | .c a _=>a | _=>.z
def mG.els:mG->mG | .c _ a=>a | _=>.z
def uu(ops:List Oper):List Nat:=ops.filterMap (·.dst)
def l9:Code->List Nat
  | .region _ ops _=>uu ops.toList
  | .seq a b=>l9 a++l9 b
  | .cond _ a b=>l9 a++l9 b
  | .block _ a=>l9 a
  | .loop a=>l9 a
  | .scope a=>l9 a
  | _=>[]
def BX(l:List Nat)(ρ j:Env):Env:=fun i=>bif l.any (Nat.beq i) then j i else ρ i
def jL(ops:List Oper)(j:Nat):Bool:=ops.any fun o=>match o.guard with | some (i,_)=>Nat.beq i j | none=>false
def wz(n:Nat)(ρ:Env)(d:Option Nat)(v:Value)(K:Env->Prop):Prop:=match d with | some d=>bif Nat.blt d n then K (FC ρ d v) else False | none=>K ρ
def EH(n:Nat)(used:Bool)(ρ:Env)(d:Option Nat)(v:Value)(K:Env->Prop):Prop:=
  bif used then (match v with | .bool b=>sB b (wz n ρ d (.bool true) K) (wz n ρ d (.bool false) K) | _=>False) else wz n ρ d v K
def Xn(all:List Oper)(ρ:Env)(g:Option (Nat × Bool))(go skip:Prop):Prop:=
  match g with
  | none=>go
  | some (j,want)=>match (all[j]?).bind (·.dst) with
    | some d=>match ρ d with
      | .bool b=>sB (b==want) go skip
      | _=>skip
    | none=>skip
def Gr[aB](P:Program)(n:Nat)(all:List Oper):List Oper->Nat->Env->Heap->(Env->Heap->Prop)->Prop
  | [],_,ρ,h,K=>K ρ h
  | o::rest,i,ρ,h,K=>
    Xn all ρ o.guard
      (opW P ρ o h fun v h'=>EH n (jL all i) ρ o.dst v fun ρ'=>Gr P n all rest (i+1) ρ' h' K)
      (wz n ρ o.dst undef fun ρ'=>Gr P n all rest (i+1) ρ' h K)
/- a region that draws its order -/
def bZ(l:List Nat)(i:Nat):Bool:=l.any (Nat.beq i)
def nD(e:Edge):Bool:=match e.ground with | .textOnly _ | .gcOnly _=>false | _=>true
def Ds(o:Oper)(l:List Nat):Bool:=o.after.toList.all fun e=>!nD e||bZ l e.on
def r7(ops:List Oper)(l:List Nat):Nat->List Oper->List Nat
  | _,[]=>[]
  | i,o::r=>bif !bZ l i&&Ds o l then i::r7 ops l (i+1) r else r7 ops l (i+1) r
def XP(e:Edge):Bool:=match e.ground with | .data=>true | _=>false
def mH(ops:List Oper)(i:Nat):Nat->Oper->Bool
  | 0,_=>false
  | f+1,o=>o.after.toList.any fun e=>nD e&&(Nat.beq e.on i||(XP e&&match ops[e.on]? with | some o'=>mH ops i f o' | none=>false))
def Ry(ρ:Env)(o:Oper):Option Addr:=match o.op with
  | .load _ x=>match bN ρ x with | .pointer a=>a | _=>none
  | _=>none
def adp(i:Nat)(a:Option Addr)(ad:List (Nat × Addr)):List (Nat × Addr):=match a with | some a=>(i,a)::ad | none=>ad
def nW(ops:List Oper)(o:Oper):List (Nat × Addr)->List Addr
  | []=>[]
  | (i,a)::r=>bif mH ops i 9 o then nW ops o r else a::nW ops o r
def Sm(al:List Addr)(h h':Heap):Prop:=∀a∈al,∀k v,hc h (fG a k)=some v->hc h' (fG a k)=some v
def smW(al:List Addr)(h h':Heap)(K:Prop):Prop:=match al with | []=>K | a::r=>Sm (a::r) h h'/\K
def LY:Option Nat->Option Nat->Bool
  | some a,some b=>Nat.beq a b
  | none,none=>true
  | _,_=>false
def uH(ops:List Oper)(o:Oper):List Nat:=
  (o.op.operands.toList.filterMap fun | .tmp t=>some t | _=>none)++(match o.guard with | some (j,_)=>((ops[j]?).bind (·.dst)).toList | none=>[])
def Ag(ops:List Oper)(x y:Oper):Bool:=
  (match x.dst with | some d=>!bZ (uH ops y) d && !LY y.dst (some d) | none=>true)&&(match y.dst with | some d=>!bZ (uH ops x) d | none=>true)
def xz(ops:List Oper)(l:List Nat)(i:Nat)(oi:Oper):Bool:=
  ops.zipIdx.all fun (oj,j)=>Nat.beq j i||bZ l j||oj.after.toList.any (fun e=>nD e&&Nat.beq e.on i)||Ag ops oi oj
def qU(P:Program)(ops:List Oper)(l:List Nat):List Nat->Option (Nat × Oper)
  | []=>none
  | i::r=>match ops[i]? with
    | some o=>bif Nat.blt (KG P o.op) 2&&xz ops l i o then some (i,o) else qU P ops l r
    | none=>qU P ops l r
def FW(ops:List Oper):Bool:=ops.all fun o=>match o.op with | .select ..=>false | _=>true
def Ah:List Nat->(Nat->Prop)->Prop
  | [],_=>True
  | [i],F=>F i
  | i::r,F=>F i/\Ah r F
def kl[aB](P:Program)(n:Nat)(ops:List Oper):Nat->List Nat->List (Nat × Addr)->Env->Heap->(Env->Heap->Prop)->Prop
  | 0,l,ad,ρ,h,K=>match r7 ops l 0 ops with | []=>K ρ h | _=>False
  | fuel+1,l,ad,ρ,h,K=>match r7 ops l 0 ops with
    | []=>K ρ h
    | rs=>match qU P ops l rs with
      | some (i,o)=>Xn ops ρ o.guard
          (match KG P o.op with
           | 0=>gW P ρ o fun v=>EH n (jL ops i) ρ o.dst v fun ρ'=>kl P n ops fuel (i::l) ad ρ' h K
           | _=>opL P ρ o h fun v=>EH n (jL ops i) ρ o.dst v fun ρ'=>kl P n ops fuel (i::l) (adp i (Ry ρ o) ad) ρ' h K)
          (wz n ρ o.dst undef fun ρ'=>kl P n ops fuel (i::l) ad ρ' h K)
      | none=>Ah rs fun i=>match ops[i]? with
        | some o=>bif Nat.beq (KG P o.op) 2 then Xn ops ρ o.guard
            (opW P ρ o h fun v h'=>smW (nW ops o ad) h h' (EH n (jL ops i) ρ o.dst v fun ρ'=>kl P n ops fuel (i::l) ad ρ' h' K))
            (wz n ρ o.dst undef fun ρ'=>kl P n ops fuel (i::l) ad ρ' h K) else False
        | none=>False
inductive Ex where
  | n | x (id:Nat) | r
def AK(next:Env->Heap->Prop)(Q:Ex->Env->Heap->Prop):Ex->Env->Heap->Prop
  | .n,ρ,h=>next ρ h
  | e,ρ,h=>Q e ρ h
def H6(id:Nat)(Q:Ex->Env->Heap->Prop):Ex->Env->Heap->Prop
  | .x i,ρ,h=>bif Nat.beq i id then Q .n ρ h else Q (.x i) ρ h
  | e,ρ,h=>Q e ρ h
def dN[aB](P:Program)(n:Nat):Code->mG->(Ex->Env->Heap->Prop)->Env->Heap->Prop
  | .skip,_,Q,ρ,h=>Q .n ρ h
  | .label _,_,Q,ρ,h=>Q .n ρ h
  | .region _ ops draw,_,Q,ρ,h=>match draw with
    | false=>Gr P n ops.toList ops.toList 0 ρ h (Q .n)
    | true=>bif P.follows .mixedOrders&&FW ops.toList then kl P n ops.toList ops.toList.length [] [] ρ h (Q .n) else False
  | .seq x y,A,Q,ρ,h=>match A with
    | .j sl a b=>∃J:Ax sl (Heap->Prop),dN P n x a (AK (fun ρ' h'=>xW sl J ρ' fun J'=>J' h') Q) ρ h /\
        ∀j:Env,ya sl J (BX (l9 x) ρ j) fun ρ' J'=>∀h',J' h'->dN P n y b Q ρ' h'
    | A=>dN P n x A.left (AK (dN P n y A.right Q) Q) ρ h
  | .cond c x y,A,Q,ρ,h=>match bN ρ c with
    | .bool b=>sB b (dN P n x A.thn Q ρ h) (dN P n y A.els Q ρ h)
    | _=>False
  | .block id x,A,Q,ρ,h=>dN P n x A.in_ (H6 id Q) ρ h
  | .loop x,A,Q,ρ,h=>match A with
    | .l sl a=>∃I:Ax sl (Heap->Nat->Prop),(∃m,xW sl I ρ fun I'=>I' h m) /\
        ∀j:Env,ya sl I (BX (l9 x) ρ j) fun ρ' I'=>∀h' m,I' h' m->dN P n x a (AK (fun ρ'' uV=>∃m',m'<m/\xW sl I ρ'' fun I''=>I'' uV m') Q) ρ' h'
    | _=>False
  | .scope x,A,Q,ρ,h=>dN P n x A.in_ Q ρ h
  | .exit id,_,Q,ρ,h=>Q (.x id) ρ h
  | .ret,_,Q,ρ,h=>Q .r ρ h
  | _,_,_,_,_=>False
def Dq(P:Program)(h:Heap)(ρ:Env):List ResultVar->(List Value->Prop)->Prop
  | [],K=>K []
  | .tmp t::r,K=>Dq P h ρ r fun vs=>K (ρ t::vs)
  | .cell t ty::r,K=>match ρ t with
    | .pointer (some a)=>bif kK P ty&&Nat.beq (a8 P ty) (flat P 9 ty).length then zV (flat P 9 ty) fun vs=>pM h a vs (Dq P h ρ r fun us=>K (kf (kW P ty) vs::us)) else False
    | _=>False
def abY(P:Program)(rs:List ResultVar)(R:Value->Heap->Prop):Ex->Env->Heap->Prop
  | .n,ρ,h | .r,ρ,h=>Dq P h ρ rs fun vs=>match vs with | [v]=>R v h | vs=>R (.tuple ⟨vs⟩) h
  | _,_,_=>False
def Qx(args:Array Value):Env:=fun j=>args.toList.getD j undef
def fnW[aB](P:Program)(f:FuncId)(A:mG)(args:Array Value)(h:Heap)(R:Value->Heap->Prop):Prop:=
  match P.funcs[f]? with
  | some fn=>match fn.body with
    | some c=>bif Nat.ble args.toList.length fn.ntmps then dN P fn.ntmps c A (abY P fn.results.toList R) (Qx args) h else False
    | none=>False
  | none=>False
abbrev vI(x:Int):Value:=.int .i64 x
abbrev vS(s:Sl):Value:=.slice s.a s.n s.c
abbrev rI(h:Heap)(a:Addr)(x:Int):Prop:=hc h a=some (vI x)
abbrev rB(h:Heap)(a:Addr)(x:Bool):Prop:=hc h a=some (.bool x)
abbrev rS(h:Heap)(a:Addr)(x:Sl):Prop:=hc h a=some (vS x)
abbrev rT(h:Heap)(a:Addr)(x:ByteArray):Prop:=hc h a=some (.string x)
abbrev iI(v:Value)(x:Int):Prop:=v=vI x
abbrev iB(v:Value)(x:Bool):Prop:=v=.bool x
abbrev iS(v:Value)(x:Sl):Prop:=v=vS x
abbrev Mk(x y:Int)(n:Nat):Prop:=(0:Int)<=x/\x<=y/\(n:Int)*y<=140737488355328
abbrev Wn(h:Heap)(l:List Value)(t:TypeId)(K:Heap->Prop):Prop:=∀g:Heap,g=h.push (.cells ⟨l⟩ t)->K g
abbrev Wp(h:Heap)(a:Addr)(n:Nat)(l:List Value)(K:Heap->Prop):Prop:=je h a n/\∀g:Heap,g=bI h a 0 l->K g
abbrev aS(h:Heap)(i:Nat):Addr:=⟨h.size,i,none⟩
abbrev Ib(x:Int)(n:Nat):Prop:=0<=x/\x<(n:Int)
abbrev Ya:=@List.getElem?_eq_some_iff
abbrev Yb:=@List.mem_of_getElem?
abbrev Yc:=@List.length_map
abbrev Yd:=@List.getElem?_map
abbrev Ye:=@List.mem_singleton
abbrev Yf:=@List.mem_iff_getElem?
abbrev Yg:=@List.length_replicate
abbrev Yh:=@List.length_append
abbrev Yi:=@List.getElem?_eq_getElem
abbrev Yj:=@List.take_of_length_le
abbrev Yk:=@List.mem_append
abbrev Yl:=@List.getElem?_eq_none
abbrev Ym:=@List.map_append
abbrev Yn:=@List.mem_cons_of_mem
abbrev Yo:=@List.getD_eq_getElem?_getD
abbrev Yp:=@List.mem_map
abbrev Yq:=@List.getElem?_set_self
abbrev Yr:=@List.mem_cons
abbrev Ys:=@Int.toNat_natCast
abbrev Yt:=@Bool.and_eq_true
abbrev Yu:=@List.length_take
abbrev Yv:=@List.length_singleton
abbrev Yw:=@List.append_nil
abbrev Yx:=@List.mem_cons_self
abbrev Yy:=@List.getElem?_set_ne
abbrev Yz:=@List.append_assoc
abbrev sH:=@Option.map_eq_some_iff
abbrev ye:=@List.getElem?_range
abbrev tR:=@List.getElem?_append_right
abbrev mr:=@List.length_range
abbrev yd:=@List.take_length
abbrev tQ:=@List.getElem?_take
abbrev yH:=@Array.getElem?_eq_some_iff
abbrev jT:=@List.length_set
abbrev jw:=@List.getElem?_append_left
abbrev j8:=@List.length_cons
abbrev mq:=@List.take_zero
abbrev gG:=@List.map_cons
abbrev Yym:=@List.mem_filterMap
abbrev cd:=@of_decide_eq_true
abbrev eU:=@of_decide_eq_false
abbrev fH:=@Option.some.inj
abbrev S6:=@List.take_append_of_le_length
abbrev yG:=@List.ext_getElem?
abbrev mn:=@Nat.le_trans
abbrev bc:=@Nat.le_refl
abbrev ox:=@List.flatten_cons
abbrev L0(x0:ByteArray)(x1 x2:Sl)(x3 x4 x5:Int)(x6 x7:Sl):List Value:=[.string x0,vS x1,vS x2,vI x3,vI x4,vI x5,vS x6,vS x7]
abbrev cS(h:Heap)(a:Addr)(x0:ByteArray)(x1 x2:Sl)(x3 x4 x5:Int)(x6 x7:Sl):Prop:=a6 h a (L0 x0 x1 x2 x3 x4 x5 x6 x7)
abbrev L1(x0 x1:Int)(x2 x3:Sl)(x4:Int)(x5:Bool)(x6 x7:Int)(x8:Sl)(x9:Int)(AD:Bool)(Oe Od:Int)(pR:Sl):List Value:=[vI x0,vI x1,vS x2,vS x3,vI x4,.bool x5,vI x6,vI x7,vS x8,vI x9,.bool AD,vI Oe,vI Od,vS pR]
abbrev ff(h:Heap)(a:Addr)(x0 x1:Int)(x2 x3:Sl)(x4:Int)(x5:Bool)(x6 x7:Int)(x8:Sl)(x9:Int)(AD:Bool)(Oe Od:Int)(pR:Sl):Prop:=a6 h a (L1 x0 x1 x2 x3 x4 x5 x6 x7 x8 x9 AD Oe Od pR)
abbrev L2(x0 x1 x2:Int):List Value:=[vI x0,vI x1,vI x2]
abbrev gB(h:Heap)(a:Addr)(x0 x1 x2:Int):Prop:=a6 h a (L2 x0 x1 x2)
abbrev L3(x0 x1 x2 x3 x4:Int)(x5:Bool):List Value:=[vI x0,vI x1,vI x2,vI x3,vI x4,.bool x5]
abbrev gR(h:Heap)(a:Addr)(x0 x1 x2 x3 x4:Int)(x5:Bool):Prop:=a6 h a (L3 x0 x1 x2 x3 x4 x5)
abbrev L4(x0:Int)(x1:Bool)(x2 x3:Int)(x4:Sl):List Value:=[vI x0,.bool x1,vI x2,vI x3,vS x4]
abbrev sG(h:Heap)(a:Addr)(x0:Int)(x1:Bool)(x2 x3:Int)(x4:Sl):Prop:=a6 h a (L4 x0 x1 x2 x3 x4)
abbrev L5(x0:Bool)(x1 x2:Int):List Value:=[.bool x0,vI x1,vI x2]
abbrev oP(h:Heap)(a:Addr)(x0:Bool)(x1 x2:Int):Prop:=a6 h a (L5 x0 x1 x2)
abbrev L6(x0 x1 x2 x3:Int):List Value:=[vI x0,vI x1,vI x2,vI x3]
abbrev Ft(h:Heap)(a:Addr)(x0 x1 x2 x3:Int):Prop:=a6 h a (L6 x0 x1 x2 x3)
abbrev L7(x0 x1:Int)(x2:Sl):List Value:=[vI x0,vI x1,vS x2]
abbrev aL7(h:Heap)(a:Addr)(x0 x1:Int)(x2:Sl):Prop:=a6 h a (L7 x0 x1 x2)
abbrev L8(x0:ByteArray)(x1:Sl)(x2:Int)(x3 x4:Sl):List Value:=[.string x0,vS x1,vI x2,vS x3,vS x4]
abbrev YI(h:Heap)(a:Addr)(x0:ByteArray)(x1:Sl)(x2:Int)(x3 x4:Sl):Prop:=a6 h a (L8 x0 x1 x2 x3 x4)
abbrev L9(x0:ByteArray)(x1 x2 x3:Int):List Value:=[.string x0,vI x1,vI x2,vI x3]
abbrev YH(h:Heap)(a:Addr)(x0:ByteArray)(x1 x2 x3:Int):Prop:=a6 h a (L9 x0 x1 x2 x3)
abbrev Jz(x0:ByteArray)(x1 x2:Sl)(x3 x4 x5:Int)(x6 x7:Sl)(x8 x9:Int)(AD Oe Od pR x14:Sl):List Value:=[.string x0,vS x1,vS x2,vI x3,vI x4,vI x5,vS x6,vS x7,vI x8,vI x9,vS AD,vS Oe,vS Od,vS pR,vS x14]
abbrev Mu(h:Heap)(a:Addr)(x0:ByteArray)(x1 x2:Sl)(x3 x4 x5:Int)(x6 x7:Sl)(x8 x9:Int)(AD Oe Od pR x14:Sl):Prop:=a6 h a (Jz x0 x1 x2 x3 x4 x5 x6 x7 x8 x9 AD Oe Od pR x14)
abbrev MD(x0 x1 x2:Int)(x3:Sl):List Value:=[vI x0,vI x1,vI x2,vS x3]
abbrev Iw(h:Heap)(a:Addr)(x0 x1 x2:Int)(x3:Sl):Prop:=a6 h a (MD x0 x1 x2 x3)
abbrev QB(a0:Bool)(h:Heap)(F:(Bool->Heap->Nat->Prop)->Bool->Heap->Nat->Prop):Prop:=∃I:Bool->Heap->Nat->Prop,(∃m,I a0 h m)/\∀(_:Env) (x0:Bool) (h:Heap) (m:Nat),I x0 h m->F I x0 h m
abbrev QBI(a0:Bool)(a1:Int)(h:Heap)(F:(Bool->Int->Heap->Nat->Prop)->Bool->Int->Heap->Nat->Prop):Prop:=∃I:Bool->Int->Heap->Nat->Prop,(∃m,I a0 a1 h m)/\∀(_:Env) (x0:Bool) (x1:Int) (h:Heap) (m:Nat),I x0 x1 h m->F I x0 x1 h m
abbrev QI(a0:Int)(h:Heap)(F:(Int->Heap->Nat->Prop)->Int->Heap->Nat->Prop):Prop:=∃I:Int->Heap->Nat->Prop,(∃m,I a0 h m)/\∀(_:Env) (x0:Int) (h:Heap) (m:Nat),I x0 h m->F I x0 h m
abbrev CZ(a0 a1:Int)(h:Heap)(F:(Int->Int->Heap->Nat->Prop)->Int->Int->Heap->Nat->Prop):Prop:=∃I:Int->Int->Heap->Nat->Prop,(∃m,I a0 a1 h m)/\∀(_:Env) (x0:Int) (x1:Int) (h:Heap) (m:Nat),I x0 x1 h m->F I x0 x1 h m
abbrev QS(a0:Sl)(h:Heap)(F:(Sl->Heap->Nat->Prop)->Sl->Heap->Nat->Prop):Prop:=∃I:Sl->Heap->Nat->Prop,(∃m,I a0 h m)/\∀(_:Env) (x0:Sl) (h:Heap) (m:Nat),I x0 h m->F I x0 h m
abbrev aav(a0:Sl)(a1:Bool)(a2:Int)(h:Heap)(F:(Sl->Bool->Int->Heap->Nat->Prop)->Sl->Bool->Int->Heap->Nat->Prop):Prop:=∃I:Sl->Bool->Int->Heap->Nat->Prop,(∃m,I a0 a1 a2 h m)/\∀(_:Env) (x0:Sl) (x1:Bool) (x2:Int) (h:Heap) (m:Nat),I x0 x1 x2 h m->F I x0 x1 x2 h m
abbrev mF(a0:Sl)(a1:Int)(h:Heap)(F:(Sl->Int->Heap->Nat->Prop)->Sl->Int->Heap->Nat->Prop):Prop:=∃I:Sl->Int->Heap->Nat->Prop,(∃m,I a0 a1 h m)/\∀(_:Env) (x0:Sl) (x1:Int) (h:Heap) (m:Nat),I x0 x1 h m->F I x0 x1 h m
abbrev Au(a0 a1:Sl)(a2:Int)(h:Heap)(F:(Sl->Sl->Int->Heap->Nat->Prop)->Sl->Sl->Int->Heap->Nat->Prop):Prop:=∃I:Sl->Sl->Int->Heap->Nat->Prop,(∃m,I a0 a1 a2 h m)/\∀(_:Env) (x0:Sl) (x1:Sl) (x2:Int) (h:Heap) (m:Nat),I x0 x1 x2 h m->F I x0 x1 x2 h m
abbrev vN:Value:=.slice none 0 0
end Go.VC
end

section
namespace Go.VC
open Go.Proofs
noncomputable abbrev Pz:Program:=Tryz.prog
end Go.VC
end

section
namespace Go.VC
def bm(a:Act):Env:=fun j=>a.tmps.getD j undef
def Fr[aB](w w':World):Prop:=w'.os=w.os/\w'.tape=w.tape/\w'.output=w.output/\aB.rel w w'
theorem Fr.refl[aB](w:World):Fr w w:=⟨rfl,rfl,rfl,aB.refl w⟩
theorem Fr.trans[aB]{a b c:World}(h:Fr a b)(k:Fr b c):Fr a c:=⟨k.1.trans h.1,k.2.1.trans h.2.1,k.2.2.1.trans h.2.2.1,aB.trans h.2.2.2 k.2.2.2⟩
theorem l6(a:Act):a.eval=bN (bm a):=by funext x;cases x<;>rfl
theorem Kc{a:Act}{d:Nat}{v:Value}(h:d<a.tmps.size):bm (a.put (some d) v)=FC (bm a) d v:=by
  funext j
  simp only[bm,Act.put,FC,Array.getD_eq_getD_getElem?]
  by_cases hj:d=j
  . subst hj
    have:Nat.beq d d=true:=Nat.beq_refl d
    rw[this]
    simp[h]
  . have:(Nat.beq j d)=false:=by
      cases hb:Nat.beq j d
      . rfl
      . exact absurd (Nat.eq_of_beq_eq_true hb).symm hj
    rw[this]
    simp[hj]
theorem fu[aB]{n:Nat}{a:Act}{d:Option Nat}{v:Value}{K:Env->Prop}(hn:a.tmps.size=n)(h:wz n (bm a) d v K):
    K (bm (a.put d v))/\(a.put d v).tmps.size=n:=by
  cases d with
  | none=>exact⟨h,hn⟩
  | some d=>
    simp only[wz] at h
    cases hb:Nat.blt d n with
    | false=>rw[hb] at h;exact h.elim
    | true=>
      rw[hb] at h
      have hd:d<a.tmps.size:=by rw[hn];simpa using hb
      exact⟨by rw[Kc hd];exact h,by simp[Act.put,hn]⟩
theorem qL{j k:IntKind}(h:tm j k=true):j=k:=by cases j<;>cases k<;>first | rfl | cases h
theorem av{b:Bool}{p:Prop}(h:bif b then p else False):b=true/\p:=by cases b<;>simp_all
theorem bB{P:Program}{w:World}{op:BinOp}{t:TypeId}{x y:Operand}{a b:Value}(h:∀cs ds,¬(a=.agg cs/\b=.agg ds))(h2:¬(a=.nilIface/\b=.nilIface)):
    (eqGuard op t x y a b).run P w=.ok () w:=by
  unfold eqGuard
  cases op<;>simp<;>(split<;>simp_all)
theorem bW{P:Program}{op:BinOp}{t:TypeId}{x y:Value}{xo yo:Operand}{v:Value}{w:World}(hg:(eqGuard op t xo yo x y).run P w=.ok () w)(h:(binOp op t x y).run P w=.ok v w):
    (do eqGuard op t xo yo x y;binOp op t x y:Sem Value).run P w=.ok v w:=by
  simp[hg,h]
theorem zX{P:Program}{t:TypeId}{x y:Value}{b:Bool}{w:World}(he:binOp .eql t x y=(do pure (.bool (<-Op.equal t x y))))(h:(Op.equalIn (9999+1) t x y).run P w=.ok b w):(binOp .eql t x y).run P w=.ok (.bool b) w:=by
  have h':(Op.equal t x y).run P w=.ok b w:=h
  rw[he];simp[h']
theorem y3{P:Program}{t:TypeId}{x y:Value}{b:Bool}{w:World}(he:binOp .neq t x y=(do pure (.bool (!(<-Op.equal t x y)))))(h:(Op.equalIn (9999+1) t x y).run P w=.ok b w):(binOp .neq t x y).run P w=.ok (.bool (!b)) w:=by
  have h':(Op.equal t x y).run P w=.ok b w:=h
  rw[he];simp[h']
theorem Ia[aB]{P:Program}{op:BinOp}{t:TypeId}{k k':IntKind}{a b:Int}{xo yo:Operand}{K:Value->Prop}(h:mh P op t (.int k a) (.int k' b) K):
    ∃v,K v/\∀w,(do eqGuard op t xo yo (.int k a) (.int k' b);binOp op t (.int k a) (.int k' b):Sem Value).run P w=.ok v w:=by
  cases op<;>simp only[mh] at h <;>
    first
    | exact h.elim
    | (obtain⟨h0,h1⟩:=h
       refine⟨_,h1,fun w=>bW (bB (by simp) (by simp)) ?_⟩
       have HF:¬b<0:=by omega
       simp[binOp,Op.shift,HF,eD,r4];done)
    | (obtain⟨hk,h1⟩:=av h
       clear h
       obtain rfl:=qL hk
       first
       | (refine⟨_,h1,fun w=>bW (bB (by simp) (by simp)) ?_⟩
          simp[binOp,Op.intBits,sF,EY,Tg,X5];done)
       | (obtain⟨h0,h1⟩:=h1
          refine⟨_,h1,fun w=>bW (bB (by simp) (by simp)) ?_⟩
          simp[binOp,Op.intDiv,h0];done)
       | (refine⟨_,h1,fun w=>bW (bB (by simp) (by simp)) ?_⟩
          simp[binOp,Op.intArith,Op.intCmp]))
theorem H8[aB]{P:Program}{op:BinOp}{t:TypeId}{a b:ByteArray}{xo yo:Operand}{K:Value->Prop}(h:mh P op t (.string a) (.string b) K):
    ∃v,K v/\∀w,(do eqGuard op t xo yo (.string a) (.string b);binOp op t (.string a) (.string b):Sem Value).run P w=.ok v w:=by
  cases op<;>simp only[mh] at h <;>
    first
    | exact h.elim
    | (obtain⟨h0,h⟩:=h
       refine⟨_,h,fun w=>bW (bB (by simp) (by simp)) ?_⟩
       have:¬((((a.size+b.size:Nat)):Int)>IntKind.i64.max):=by simp[IntKind.max,IntKind.signed,IntKind.bits];omega
       simp only[binOp,Op.stringOp,this,if_false];rfl)
    | (refine⟨_,h,fun w=>bW (bB (by simp) (by simp)) ?_⟩
       simp[binOp,Op.stringOp])
theorem EC[aB]{P:Program}{op:BinOp}{t:TypeId}{a b:Bool}{xo yo:Operand}{K:Value->Prop}(h:mh P op t (.bool a) (.bool b) K):
    ∃v,K v/\∀w,(do eqGuard op t xo yo (.bool a) (.bool b);binOp op t (.bool a) (.bool b):Sem Value).run P w=.ok v w:=by
  cases op<;>simp only[mh] at h<;>try exact h.elim
  all_goals
    obtain⟨hk,h1⟩:=av h
    have hu:P.underlying t=some .bool:=by split at hk<;>simp_all
    refine⟨_,h1,fun w=>bW (bB (by simp) (by simp)) ?_⟩
    first | refine zX rfl ?_ | refine y3 rfl ?_
    generalize 9999=d
    simp[Op.equalIn,underlying,hu]
theorem Ad[aB]{P:Program}{op:BinOp}{t:TypeId}{a b:Option Addr}{n c m d:Nat}{xo yo:Operand}{K:Value->Prop}(h:mh P op t (.slice a n c) (.slice b m d) K):
    ∃v,K v/\∀w,(do eqGuard op t xo yo (.slice a n c) (.slice b m d);binOp op t (.slice a n c) (.slice b m d):Sem Value).run P w=.ok v w:=by
  cases op<;>cases a<;>cases b<;>simp only[mh,s8] at h<;>first | exact h.elim | skip
  all_goals first
    | (obtain⟨_,h1⟩:=av h;exact h1.elim)
    | (obtain⟨hk,h1⟩:=av h
       have hu:∃e,P.underlying t=some (.slice e):=by split at hk<;>simp_all
       obtain⟨e,hu⟩:=hu
       refine⟨_,h1,fun w=>bW (bB (by simp) (by simp)) ?_⟩
       first | refine zX rfl ?_ | refine y3 rfl ?_
       generalize 9999=d
       simp[Op.equalIn,underlying,hu])
theorem H9[aB]{P:Program}{op:BinOp}{t:TypeId}{a b:Option Addr}{xo yo:Operand}{K:Value->Prop}(h:mh P op t (.pointer a) (.pointer b) K):
    ∃v,K v/\∀w,(do eqGuard op t xo yo (.pointer a) (.pointer b);binOp op t (.pointer a) (.pointer b):Sem Value).run P w=.ok v w:=by
  cases op<;>cases a<;>cases b<;>simp only[mh,s8] at h<;>first | exact h.elim | skip
  all_goals first
    | (obtain⟨_,h1⟩:=av h;exact h1.elim)
    | (obtain⟨hk,h1⟩:=av h
       have hu:∃e,P.underlying t=some (.pointer e):=by split at hk<;>simp_all
       obtain⟨e,hu⟩:=hu
       refine⟨_,h1,fun w=>bW (bB (by simp) (by simp)) ?_⟩
       first | refine zX rfl ?_ | refine y3 rfl ?_
       generalize 9999=d
       simp[Op.equalIn,underlying,hu])
theorem oo[aB]{P:Program}{xs ys:List Value}{d:Nat}:∀(fs:List Field) (k:Nat) (us vs:List Value) (F:Bool->Prop),
    xs.drop k=us->ys.drop k=vs->j7 P k fs us vs F->∃b,F b/\∀w,(Op.eqFields (d+1) ⟨xs⟩ ⟨ys⟩ fs).run P w=.ok b w
  | [],k,us,vs,F,hu,hv,h=>by
    cases us<;>cases vs<;>simp only[j7] at h
    exact⟨true,h,fun _=>rfl⟩
  | f::fs,k,us,vs,F,hu,hv,h=>by
    cases us with
    | nil=>simp[j7] at h
    | cons u us=>
      cases vs with
      | nil=>simp[j7] at h
      | cons v vs=>
        simp only[j7] at h
        obtain⟨hc,h1⟩:=av h
        clear h
        simp only[Yt,Bool.not_eq_true',beq_eq_false_iff_ne,ne_eq] at hc
        obtain⟨ho,hn⟩:=hc
        have k6:f.offset=k:=Nat.eq_of_beq_eq_true ho
        have Sv:xs.drop (k+1)=us:=by rw[<-List.drop_drop,hu];rfl
        have vE:ys.drop (k+1)=vs:=by rw[<-List.drop_drop,hv];rfl
        have hx:xs[k]?=some u:=by
          have:=congrArg (·[0]?) hu
          simpa using this
        have hy:ys[k]?=some v:=by
          have:=congrArg (·[0]?) hv
          simpa using this
        have pr:∀(cs:List Value) (z:Value) (w:World) (oO:TypeDesc),P.underlying f.type=some oO->(∀fs,oO ≠ .struct fs)->(∀n e,oO ≠ .array n e)->cs[k]?=some z->(part f.type ⟨cs⟩ f.offset).run P w=.ok z w:=by
          intro cs z w oO hd h1 h2 hz
          rw[k6]
          have nq:(Array.mk cs)[k]?=some z:=by simpa using hz
          have bu:(isAgg f.type).run P w=.ok false w:=by
            cases oO<;>first | exact absurd rfl (h1 _) | exact absurd rfl (h2 _ _) | simp[isAgg,run_underlying hd]
          simp[part,bu,nq]
        have ih:=fun (G:Bool->Prop) (hG:j7 P (k+1) fs us vs G)=>oo (P:=P) (xs:=xs) (ys:=ys) (d:=d) fs (k+1) us vs G Sv vE hG
        have fin:∀(w:World) (e:Bool) (oO:TypeDesc),P.underlying f.type=some oO->(∀fs,oO ≠ .struct fs)->(∀n e,oO ≠ .array n e)->(Op.equalIn (d+1) f.type u v).run P w=.ok e w->∀r,(Op.eqFields (d+1) ⟨xs⟩ ⟨ys⟩ fs).run P w=.ok r w->(Op.eqFields (d+1) ⟨xs⟩ ⟨ys⟩ (f::fs)).run P w=.ok (e&&r) w:=by
          intro w e oO hd h1 h2 he r hr
          simp only[Op.eqFields,Sem.run_bind,Sem.run_ite,hn,ne_eq,not_false_eq_true,if_true]
          rw[pr xs u w oO hd h1 h2 hx]
          simp only[Result.andThen_ok]
          rw[pr ys v w oO hd h1 h2 hy]
          simp only[Result.andThen_ok]
          rw[he]
          cases e<;>simp[hr]
        split at h1
        . rename_i k' j a l b hd
          obtain⟨hk,h2⟩:=av h1
          obtain rfl:=qL hk
          obtain⟨r,hF,gl⟩:=ih _ h2
          exact⟨_,hF,fun w=>fin w _ _ hd (by simp) (by simp) (run_equalIn_int w d f.type j k' a b hd) r (gl w)⟩
        . rename_i a b hd
          obtain⟨r,hF,gl⟩:=ih _ h1
          exact⟨_,hF,fun w=>fin w _ _ hd (by simp) (by simp) (run_equalIn_string w d f.type a b hd) r (gl w)⟩
        . rename_i a b hd
          obtain⟨r,hF,gl⟩:=ih _ h1
          exact⟨_,hF,fun w=>fin w _ _ hd (by simp) (by simp) (run_equalIn_bool' w d f.type a b hd) r (gl w)⟩
        . exact h1.elim
theorem jM[aB]{P:Program}{F G:Bool->Prop}(hFG:∀e,F e->G e):∀(fs:List Field) (k:Nat) (us vs:List Value),j7 P k fs us vs F->j7 P k fs us vs G
  | [],k,us,vs,h=>by
    cases us<;>cases vs<;>simp only[j7] at h ⊢
    exact hFG _ h
  | f::fs,k,us,vs,h=>by
    cases us with
    | nil=>simp[j7] at h
    | cons u us=>
      cases vs with
      | nil=>simp[j7] at h
      | cons v vs=>
        simp only[j7] at h ⊢
        obtain⟨hc,h1⟩:=av h
        rw[hc,cond_true]
        split at h1
        . obtain⟨hk,h2⟩:=av h1
          rw[hk,cond_true]
          exact jM (F:=fun r=>F _) (G:=fun r=>G _) (fun e he=>hFG _ he) fs _ us vs h2
        . exact jM (F:=fun r=>F _) (G:=fun r=>G _) (fun e he=>hFG _ he) fs _ us vs h1
        . exact jM (F:=fun r=>F _) (G:=fun r=>G _) (fun e he=>hFG _ he) fs _ us vs h1
        . exact h1.elim
theorem kR[aB]{P:Program}{xs ys:List Value}{d:Nat}:∀(fs:List Field) (k:Nat) (us vs:List Value) (F:Bool->Prop),
    xs.drop k=us->ys.drop k=vs->HQ P k fs us vs F->∃b,F b/\∀w,(Op.eqFields (d+2) ⟨xs⟩ ⟨ys⟩ fs).run P w=.ok b w
  | [],k,us,vs,F,hu,hv,h=>by
    cases us<;>cases vs<;>simp only[HQ] at h
    exact⟨true,h,fun _=>rfl⟩
  | f::fs,k,us,vs,F,hu,hv,h=>by
    cases us with
    | nil=>simp[HQ] at h
    | cons u us=>
      cases vs with
      | nil=>simp[HQ] at h
      | cons v vs=>
        simp only[HQ] at h
        obtain⟨hc,h1⟩:=av h
        clear h
        simp only[Yt,Bool.not_eq_true',beq_eq_false_iff_ne,ne_eq] at hc
        obtain⟨ho,hn⟩:=hc
        have k6:f.offset=k:=Nat.eq_of_beq_eq_true ho
        have Sv:xs.drop (k+1)=us:=by rw[<-List.drop_drop,hu];rfl
        have vE:ys.drop (k+1)=vs:=by rw[<-List.drop_drop,hv];rfl
        have hx:xs[k]?=some u:=by
          have:=congrArg (·[0]?) hu
          simpa using this
        have hy:ys[k]?=some v:=by
          have:=congrArg (·[0]?) hv
          simpa using this
        have pr:∀(cs:List Value) (z:Value) (w:World) (oO:TypeDesc),P.underlying f.type=some oO->(∀fs,oO ≠ .struct fs)->(∀n e,oO ≠ .array n e)->cs[k]?=some z->(part f.type ⟨cs⟩ f.offset).run P w=.ok z w:=by
          intro cs z w oO hd h1 h2 hz
          rw[k6]
          have nq:(Array.mk cs)[k]?=some z:=by simpa using hz
          have bu:(isAgg f.type).run P w=.ok false w:=by
            cases oO<;>first | exact absurd rfl (h1 _) | exact absurd rfl (h2 _ _) | simp[isAgg,run_underlying hd]
          simp[part,bu,nq]
        have ih:=fun (G:Bool->Prop) (hG:HQ P (k+1) fs us vs G)=>kR (P:=P) (xs:=xs) (ys:=ys) (d:=d) fs (k+1) us vs G Sv vE hG
        have fin:∀(w:World) (e:Bool) (oO:TypeDesc),P.underlying f.type=some oO->(∀fs,oO ≠ .struct fs)->(∀n e,oO ≠ .array n e)->(Op.equalIn (d+2) f.type u v).run P w=.ok e w->∀r,(Op.eqFields (d+2) ⟨xs⟩ ⟨ys⟩ fs).run P w=.ok r w->(Op.eqFields (d+2) ⟨xs⟩ ⟨ys⟩ (f::fs)).run P w=.ok (e&&r) w:=by
          intro w e oO hd h1 h2 he r hr
          simp only[Op.eqFields,Sem.run_bind,Sem.run_ite,hn,ne_eq,not_false_eq_true,if_true]
          rw[pr xs u w oO hd h1 h2 hx]
          simp only[Result.andThen_ok]
          rw[pr ys v w oO hd h1 h2 hy]
          simp only[Result.andThen_ok]
          rw[he]
          cases e<;>simp[hr]
        split at h1
        . rename_i k' j a l b hd
          obtain⟨hk,h2⟩:=av h1
          obtain rfl:=qL hk
          obtain⟨r,hF,gl⟩:=ih _ h2
          exact⟨_,hF,fun w=>fin w _ _ hd (by simp) (by simp) (run_equalIn_int w (d+1) f.type j k' a b hd) r (gl w)⟩
        . rename_i a b hd
          obtain⟨r,hF,gl⟩:=ih _ h1
          exact⟨_,hF,fun w=>fin w _ _ hd (by simp) (by simp) (run_equalIn_string w (d+1) f.type a b hd) r (gl w)⟩
        . rename_i a b hd
          obtain⟨r,hF,gl⟩:=ih _ h1
          exact⟨_,hF,fun w=>fin w _ _ hd (by simp) (by simp) (run_equalIn_bool' w (d+1) f.type a b hd) r (gl w)⟩
        . rename_i u v _ _ _ gs hd
          obtain⟨hb,h2⟩:=av h1
          simp only[Yt,Bool.not_eq_true'] at hb
          obtain⟨oL,fA⟩:=hb
          have fA:1<=a8 P f.type:=Nat.le_of_ble_eq_true fA
          have SI:P.fieldsOf f.type=gs:=by simp[Program.fieldsOf,hd]
          obtain⟨i,hi⟩:∃i,P.info? f.type=some i:=by
            cases hc:P.info? f.type with
            | none=>simp[a8,hc] at fA
            | some i=>exact⟨i,rfl⟩
          have hsi:a8 P f.type=i.size:=by simp[a8,hi]
          obtain⟨e,⟨r,hF,gl⟩,VX⟩:=(fun h=>oo (P:=P) (xs:=((u::us).take (a8 P f.type))) (ys:=((v::vs).take (a8 P f.type))) (d:=d) gs.toList 0 _ _ (fun e=>∃r,F (e&&r)/\∀w,(Op.eqFields (d+2) ⟨xs⟩ ⟨ys⟩ fs).run P w=.ok r w) rfl rfl h) (jM (fun e he=>by
            obtain⟨r,hF,gl⟩:=kR (P:=P) (xs:=xs) (ys:=ys) (d:=d) fs (k+a8 P f.type) _ _ (fun r=>F (e&&r)) (by rw[<-List.drop_drop,hu]) (by rw[<-List.drop_drop,hv]) he
            exact⟨r,hF,gl⟩) gs.toList 0 _ _ h2)
          refine⟨_,hF,fun w=>?_⟩
          have Nx:∀(cs cs':List Value) (w:World),cs.drop k=cs'->(part f.type ⟨cs⟩ f.offset).run P w=.ok (.agg ⟨cs'.take (a8 P f.type)⟩) w:=by
            intro cs cs' w hc
            have bu:(isAgg f.type).run P w=.ok true w:=by simp[isAgg,run_underlying hd]
            rw[k6]
            simp[part,bu,sizeOf,typeInfo,hi,hc,hsi]
          have heq:=run_equalIn_agg (P:=P) w (d+1) f.type ⟨(u::us).take (a8 P f.type)⟩ ⟨(v::vs).take (a8 P f.type)⟩ (by rw[SI];exact hd) oL
          rw[SI] at heq
          simp only[Op.eqFields,Sem.run_bind,Sem.run_ite,hn,ne_eq,not_false_eq_true,if_true]
          rw[Nx xs _ w hu]
          simp only[Result.andThen_ok]
          rw[Nx ys _ w hv]
          simp only[Result.andThen_ok]
          rw[heq,VX w]
          cases e<;>simp[gl w]
        . exact h1.elim
def zA:Value->Int | .int _ a=>a | _=>0
theorem Ce:∀(us vs:List Value) (F:Bool->Prop),XG us vs F->us.length=vs.length/\F ((List.range us.length).all fun i=>zA (us.getD i undef)==zA (vs.getD i undef)) /\
    ∀i,i<us.length->∃k,us[i]?=some (.int k (zA (us.getD i undef)))/\vs[i]?=some (.int k (zA (vs.getD i undef)))
  | [],[],F,h=>⟨rfl,h,fun i hi=>absurd hi (by simp)⟩
  | [],v::vs,F,h=>h.elim
  | u::us,[],F,h=>by cases u<;>exact h.elim
  | u::us,v::vs,F,h=>by
    unfold XG at h
    split at h
    . cases ‹_=[]›
    . rename_i j a us' l b vs' hx hy
      injection hx with h1 h2;injection hy with h3 h4
      subst h1 h2 h3 h4
      obtain⟨hk,h2⟩:=av h
      obtain rfl:=qL hk
      obtain⟨a1,a2,a3⟩:=Ce _ _ _ h2
      refine⟨by simp[a1],?_,fun i hi=>?_⟩
      . rw[j8,List.range_succ_eq_map,List.all_cons,List.all_map]
        simpa only[List.getD_cons_zero,Function.comp_def,List.getD_cons_succ,zA] using a2
      . cases i with
        | zero=>exact⟨j,rfl,rfl⟩
        | succ i=>simpa using a3 i (by simpa using hi)
    . exact h.elim
theorem Er[aB]{P:Program}{t e:TypeId}{n:Nat}{xs ys:List Value}{F:Bool->Prop}(hu:P.underlying t=some (.array n e))(hi:O6 P e=true)(hs:a8 P e=1)(ht:kK P e=true)(hx:xs.length=n)(h:XG xs ys F)(d:Nat):
    ∃b,F b/\∀w,(Op.equalIn (d+2) t (.agg ⟨xs⟩) (.agg ⟨ys⟩)).run P w=.ok b w:=by
  obtain⟨hl,hF,hv⟩:=Ce _ _ _ h
  refine⟨_,hF,fun w=>?_⟩
  have he:∃q,P.underlying e=some (.int q):=by
    unfold O6 at hi
    split at hi
    . exact⟨_,‹_›⟩
    . cases hi
  obtain⟨q,he⟩:=he
  rw[hx,List.range_eq_range',Op.equalIn]
  have fA:∀w,(sizeOf e).run P w=.ok 1 w:=fun w=>by
    cases Px:P.info? e with
    | none=>simp[kK,Px] at ht
    | some i=>
      have h1:i.size=1:=by simpa [a8,Px] using hs
      simp[sizeOf,typeInfo,Px,h1]
  simp only[Sem.run_bind,run_underlying hu,Result.andThen_ok,fA,Std.Legacy.Range.forIn_eq_forIn_range',Std.Legacy.Range.size,Nat.sub_zero,Nat.add_sub_cancel,Nat.div_one]
  have bR:∀i∈List.range' 0 n 1,i<n:=fun i hi=>by simpa using (List.mem_range'_1.1 hi).2
  generalize List.range' 0 n 1=l at bR ⊢
  induction l with
  | nil=>simp
  | cons i l ih=>
    have cN:i<n:=bR i (by simp)
    obtain⟨k,h1,h2⟩:=hv i (by omega)
    have px:∀(zs:List Value) (v:Value),zs[i]?=some v->(part e ⟨zs⟩ (i*1)).run P w=.ok v w:=fun zs v hz=>by
      have nq:(Array.mk zs)[i*1]?=some v:=by simpa using hz
      have bu:(isAgg e).run P w=.ok false w:=by simp[isAgg,run_underlying he]
      simp[part,bu,hz] 
    simp only[List.forIn_cons,Sem.run_bind,px _ _ h1,px _ _ h2,run_equalIn_int w d e k q _ _ he,Result.andThen_ok,List.all_cons]
    cases hb:(zA (xs.getD i undef)==zA (ys.getD i undef))
    . simp
    . simp only[Bool.not_true,Bool.false_eq_true,if_false,Sem.run_pure,Result.andThen_ok,Bool.true_and]
      exact ih fun j hj=>bR j (by simp[hj])
theorem tJ[aB]{P:Program}{t:TypeId}{xs ys:Array Value}{F:Bool->Prop}(h:eqS P t xs.toList ys.toList F):
    P.eqGuardType P.depth t=false/\∃b,F b/\∀w,(Op.equalIn 10000 t (.agg xs) (.agg ys)).run P w=.ok b w:=by
  unfold eqS at h
  split at h
  . rename_i fs hu
    obtain⟨hb,h1⟩:=av h
    simp only[Yt,Bool.not_eq_true'] at hb
    refine⟨hb.2,?_⟩
    have hf:P.fieldsOf t=fs:=by simp[Program.fieldsOf,hu]
    obtain⟨b,hF,gl⟩:=kR (P:=P) (xs:=xs.toList) (ys:=ys.toList) (d:=9997) fs.toList 0 _ _ F rfl rfl h1
    refine⟨b,hF,fun w=>?_⟩
    have:=run_equalIn_agg (P:=P) w 9999 t xs ys (by rw[hf];exact hu) hb.1
    rw[hf] at this
    exact this.trans (gl w)
  . rename_i n e hu
    obtain⟨hb,h1⟩:=av h
    simp only[Yt,Bool.not_eq_true'] at hb
    obtain⟨⟨⟨⟨⟨b1,b2⟩,b3⟩,b4⟩,b5⟩,b6⟩:=hb
    exact⟨b6,Er (xs:=xs.toList) (ys:=ys.toList) hu b1 (Nat.eq_of_beq_eq_true b2) b3 (Nat.eq_of_beq_eq_true b4) h1 9998⟩
  . exact h.elim
theorem Ic[aB]{P:Program}{op:BinOp}{t:TypeId}{a b:Array Value}{xo yo:Operand}{K:Value->Prop}(h:mh P op t (.agg a) (.agg b) K):
    ∃v,K v/\∀w,(do eqGuard op t xo yo (.agg a) (.agg b);binOp op t (.agg a) (.agg b):Sem Value).run P w=.ok v w:=by
  cases op<;>simp only[mh] at h<;>try exact h.elim
  . obtain⟨hm,e,hK,he⟩:=tJ h
    refine⟨_,hK,fun w=>bW (run_eqGuard_agg w _ t xo yo a b hm) ?_⟩
    rw[run_eql_struct,he];rfl
  . obtain⟨hm,e,hK,he⟩:=tJ h
    refine⟨_,hK,fun w=>bW (run_eqGuard_agg w _ t xo yo a b hm) ?_⟩
    rw[run_neq_struct,he];rfl
theorem Ab[aB]{P:Program}{op:BinOp}{t:TypeId}{x y:Value}{xo yo:Operand}{K:Value->Prop}(h:mh P op t x y K):
    ∃v,K v/\∀w,(do eqGuard op t xo yo x y;binOp op t x y:Sem Value).run P w=.ok v w:=by
  cases x with
  | int k a=>cases y with
    | int k' b=>exact Ia h
    | _=>cases op<;>exact h.elim
  | string a=>cases y with
    | string b=>exact H8 h
    | _=>cases op<;>exact h.elim
  | bool a=>cases y with
    | bool b=>exact EC h
    | _=>cases op<;>exact h.elim
  | slice a n c=>cases y with
    | slice b m d=>exact Ad h
    | _=>cases op<;>exact h.elim
  | pointer a=>cases y with
    | pointer b=>exact H9 h
    | _=>cases op<;>exact h.elim
  | agg a=>cases y with
    | agg b=>exact Ic h
    | _=>cases op<;>exact h.elim
  | _=>cases op<;>exact h.elim
theorem eI{a b:Nat}(h:Nat.beq a b=true):a=b:=Nat.eq_of_beq_eq_true h
theorem gP{P:Program}{t:TypeId}(h:kK P t=true):∃i,P.info? t=some i:=by
  unfold kK at h
  simp only[Yt] at h
  exact Option.isSome_iff_exists.1 h.1
theorem BA{P:Program}{t:TypeId}(h:kK P t=true):∃d,P.underlying t=some d:=by
  unfold kK at h
  simp only[Yt] at h
  exact Option.isSome_iff_exists.1 h.2
theorem bh[aB]{P:Program}{t:TypeId}{w:World}(h:kK P t=true):(sizeOf t).run P w=.ok (a8 P t) w:=by
  obtain⟨i,hi⟩:=gP h
  simp[sizeOf,typeInfo,hi,a8]
theorem jI[aB]{P:Program}{t:TypeId}{w:World}(h:kK P t=true):(isAgg t).run P w=.ok (kW P t) w:=by
  obtain⟨d,hd⟩:=BA h
  cases d<;>simp[isAgg,run_underlying hd,kW,hd]
theorem cT{P:Program}{t:TypeId}(h:sliceB P t=true):P.underlying t=some (.slice (elemOf P t)):=by
  unfold sliceB at h
  split at h
  . rename_i e he;simp[elemOf,he]
  . cases h
theorem yJ{P:Program}{t:TypeId}(h:De P t=true):P.underlying t=some .string:=by
  unfold De at h
  split at h
  . assumption
  . cases h
theorem kT{P:Program}{O5:Bool}{len cap:Nat}{lo hi:Option Value}{G:Int->Int->Prop}
    (h:cr lo 0 fun l=>cr hi len fun r=>(0<=l/\l<=r/\r<=cap)/\G l r) :
    ∃l r:Int,(0<=l/\l<=r/\r<=cap)/\G l r/\∀w,(Instr.sliceBounds O5 len cap lo hi none).run P w=.ok (l.toNat,r.toNat,cap) w:=by
  have hb:∀(k:IntKind) (i:Int) (y:Nat) (c:BoundsCode) (w:World),0<=i->i<=y->(Instr.sliceBound (.int k i) y c).run P w=.ok i.toNat w:=by
    intro k i y c w h0 h1
    simp[Instr.sliceBound,asIntOf,h0,h1]
  cases lo with
  | none=>
    cases hi with
    | none=>
      simp only[cr] at h
      exact⟨0,len,h.1,h.2,fun w=>by simp[Instr.sliceBounds]⟩
    | some v=>
      cases v with
      | int k r=>
        simp only[cr] at h
        refine⟨0,r,h.1,h.2,fun w=>?_⟩
        simp[Instr.sliceBounds,hb k r cap _ w (by omega) h.1.2.2]
      | _=>exact h.elim
  | some u=>
    cases u with
    | int k l=>
      cases hi with
      | none=>
        simp only[cr] at h
        refine⟨l,len,h.1,h.2,fun w=>?_⟩
        simp[Instr.sliceBounds,hb k l len _ w h.1.1 h.1.2.1]
      | some v=>
        cases v with
        | int k' r=>
          simp only[cr] at h
          refine⟨l,r,h.1,h.2,fun w=>?_⟩
          have h2:l<=((r.toNat:Nat):Int):=by omega
          simp[Instr.sliceBounds,hb k' r cap _ w (by omega) h.1.2.2,hb k l r.toNat _ w h.1.1 h2]
        | _=>exact h.elim
    | _=>exact h.elim
theorem extract_mk(cs:Array Value)(a n:Nat):cs.extract a (a+n)=⟨(cs.toList.drop a).take n⟩:=by
  apply Array.ext'
  simp[List.extract_eq_take_drop]
theorem jv(a:Addr)(n:Nat):a.add n=fG a n:=by
  cases n with
  | zero=>rfl
  | succ n=>rfl
def eL(P:Program)(ρ:Env)(o:Oper)(K:Value->Prop):Prop:=∃v,K v/\∀w,(execOp (bN ρ) o).run P w=.ok (.value v) w
theorem DA[aB]{P:Program}{ρ:Env}{o:Oper}{K:Value->Prop}{t:TypeId}{x:Operand}{lo hi:Option Operand}(ho:o.op=.slice t x lo hi none)(h:gW P ρ o K):eL P ρ o K:=by
  unfold gW at h
  rw[ho] at h
  simp only at h
  cases hx:bN ρ x with
  | string s=>
    rw[hx] at h
    obtain⟨ht,h1⟩:=av h
    obtain⟨l,r,hb,hG,hr⟩:=kT (P:=P) (O5:=false) h1
    refine⟨_,hG,fun w=>?_⟩
    have hu:=yJ ht
    simp[execOp,ho,hx,Instr.sliceAt,Instr.slice,run_underlying hu,hr]
  | slice a n c=>
    rw[hx] at h
    obtain⟨ht,h1⟩:=av h
    simp only[Yt] at ht
    obtain⟨l,r,hb,hG,hr⟩:=kT (P:=P) (O5:=true) h1
    refine⟨_,hG,fun w=>?_⟩
    have hu:=cT ht.1
    simp[execOp,ho,hx,Instr.sliceAt,Instr.slice,run_underlying hu,hr,bh ht.2,aQ]
  | pointer p=>
    rw[hx] at h
    cases p with
    | none=>exact h.elim
    | some a=>
      simp only at h
      split at h
      . rename_i n e hu
        obtain⟨ht,h1⟩:=av h
        obtain⟨l,r,hb,hG,hr⟩:=kT (P:=P) (O5:=false) h1
        refine⟨_,hG,fun w=>?_⟩
        simp[execOp,ho,hx,Instr.sliceAt,Instr.sureAddr,run_underlying hu,hr,bh ht,aQ]
        split<;>rfl
      . exact h.elim
  | _=>rw[hx] at h;exact h.elim
theorem xS{P:Program}{O5:Bool}{len cap:Nat}{lo:Option Value}{hi mx:Value}{G:Int->Int->Int->Prop}
    (h:cr lo 0 fun l=>cr (some hi) len fun r=>cr (some mx) cap fun m=>(0<=l/\l<=r/\r<=m/\m<=cap)/\G l r m) :
    ∃l r m:Int,(0<=l/\l<=r/\r<=m/\m<=cap)/\G l r m/\∀w,(Instr.sliceBounds O5 len cap lo (some hi) (some mx)).run P w=.ok (l.toNat,r.toNat,m.toNat) w:=by
  have hb:∀(k:IntKind) (i:Int) (y:Nat) (c:BoundsCode) (w:World),0<=i->i<=y->(Instr.sliceBound (.int k i) y c).run P w=.ok i.toNat w:=by
    intro k i y c w h0 h1
    simp[Instr.sliceBound,asIntOf,h0,h1]
  have main:∀l:Int,(cr (some hi) len fun r=>cr (some mx) cap fun m=>(0<=l/\l<=r/\r<=m/\m<=cap)/\G l r m) ->
      ∃(k k':IntKind) (r m:Int),hi=.int k r/\mx=.int k' m/\(0<=l/\l<=r/\r<=m/\m<=cap)/\G l r m:=by
    intro l h
    cases hi with
    | int k r=>
      cases mx with
      | int k' m=>exact⟨k,k',r,m,rfl,rfl,h.1,h.2⟩
      | _=>exact h.elim
    | _=>exact h.elim
  cases lo with
  | none=>
    obtain⟨k,k',r,m,rfl,rfl,LA,hG⟩:=main 0 h
    refine⟨0,r,m,LA,hG,fun w=>?_⟩
    have h2:r<=((m.toNat:Nat):Int):=by omega
    simp[Instr.sliceBounds,hb k' m cap _ w (by omega) LA.2.2.2,hb k r m.toNat _ w (by omega) h2]
  | some u=>
    cases u with
    | int k0 l=>
      obtain⟨k,k',r,m,rfl,rfl,LA,hG⟩:=main l h
      refine⟨l,r,m,LA,hG,fun w=>?_⟩
      have h2:r<=((m.toNat:Nat):Int):=by omega
      have h3:l<=((r.toNat:Nat):Int):=by omega
      simp[Instr.sliceBounds,hb k' m cap _ w (by omega) LA.2.2.2,hb k r m.toNat _ w (by omega) h2,hb k0 l r.toNat _ w (by omega) h3]
    | _=>exact h.elim
theorem yV[aB]{P:Program}{ρ:Env}{o:Oper}{K:Value->Prop}{t:TypeId}{x hi mx:Operand}{lo:Option Operand}(ho:o.op=.slice t x lo (some hi) (some mx))(h:gW P ρ o K):eL P ρ o K:=by
  unfold gW at h
  rw[ho] at h
  simp only at h
  cases hx:bN ρ x with
  | slice a n c=>
    rw[hx] at h
    obtain⟨ht,h1⟩:=av h
    simp only[Yt] at ht
    obtain⟨l,r,m,hb,hG,hr⟩:=xS (P:=P) (O5:=true) h1
    refine⟨_,hG,fun w=>?_⟩
    have hu:=cT ht.1
    simp[execOp,ho,hx,Instr.sliceAt,Instr.slice,run_underlying hu,hr,bh ht.2,aQ]
  | _=>rw[hx] at h;exact h.elim
theorem sc[aB]{P:Program}{ρ:Env}{o:Oper}{K:Value->Prop}{s:TypeId}{x:Operand}{f:Nat}(ho:o.op=.fieldAddr s x f)(h:gW P ρ o K):eL P ρ o K:=by
  unfold gW at h
  rw[ho] at h
  simp only at h
  split at h
  . rename_i a fd hx hf
    obtain⟨hb,h1⟩:=av h
    simp only[Yt,Bool.not_eq_true'] at hb
    refine⟨_,h1,fun w=>?_⟩
    unfold uY at hf
    split at hf
    . rename_i fs hu
      have hz:¬a8 P fd.type=0:=fun e=>by rw[e] at hb;exact absurd hb.2 (by decide)
      simp[execOp,ho,hx,Instr.fieldAt,run_underlying hu,hf,Instr.sureAddr,fieldPlace,bh hb.1,hz,jv]
    . cases hf
  . exact h.elim
theorem DD[aB]{P:Program}{ρ:Env}{o:Oper}{K:Value->Prop}{s:TypeId}{x:Operand}{f:Nat}(ho:o.op=.field s x f)(h:gW P ρ o K):eL P ρ o K:=by
  unfold gW at h
  rw[ho] at h
  simp only at h
  split at h
  . rename_i cs fd hx hf
    obtain⟨hb,h1⟩:=av h
    unfold uY at hf
    split at hf
    . rename_i fs hu
      split at h1
      . rename_i bu
        refine⟨_,h1,fun w=>?_⟩
        simp[execOp,ho,hx,Instr.field,run_underlying hu,hf,asAgg,part,jI hb,bu,bh hb,extract_mk]
      . rename_i bu
        obtain⟨hl,h2⟩:=av h1
        have k8:fd.offset<cs.size:=by simpa using hl
        refine⟨_,h2,fun w=>?_⟩
        simp[execOp,ho,hx,Instr.field,run_underlying hu,hf,asAgg,part,jI hb,bu,k8,List.getD]
    . cases hf
  . exact h.elim
theorem yb(b o n:Nat):(⟨b,o,none⟩:Addr).add n=⟨b,o+n,none⟩:=by
  unfold Addr.add
  split
  . rename_i h;subst h;rfl
  . rfl
theorem r9[aB]{P:Program}{ρ:Env}{o:Oper}{K:Value->Prop}{t:TypeId}{x i:Operand}(ho:o.op=.indexAddr t x i)(h:gW P ρ o K):eL P ρ o K:=by
  unfold gW at h
  rw[ho] at h
  simp only at h
  split at h
  . rename_i p n c k i hx hi
    obtain⟨hb,h1⟩:=av h
    simp only[Yt] at hb
    have hu:=cT hb.1
    unfold NB at h1
    split at h1
    . rename_i b o'
      refine⟨_,h1.2,fun w=>?_⟩
      simp[execOp,ho,hx,hi,Instr.indexAt,asIntOf,run_underlying hu,h1.1.1,h1.1.2,bh hb.2,yb]
    . exact h1.elim
  . rename_i b o' k i hx hi
    split at h
    . rename_i n e hu
      obtain⟨hb,h1⟩:=av h
      refine⟨_,h1.2,fun w=>?_⟩
      simp[execOp,ho,hx,hi,Instr.indexAt,asIntOf,run_underlying hu,Instr.sureAddr,h1.1.1,h1.1.2,bh hb,yb]
    . exact h.elim
  . exact h.elim
theorem jr:∀(ks:List Kd) (F:List Value->Prop),zV ks F->∃vs,vs.length=ks.length/\F vs
  | [],F,h=>⟨[],rfl,h⟩
  | k::r,F,h=>by
    have:∃v,zV r (fun vs=>F (v::vs)):=by
      cases k<;>(obtain⟨x,hx⟩:=h;exact⟨_,hx⟩)
    obtain⟨v,hv⟩:=this
    obtain⟨vs,hl,hF⟩:=jr r _ hv
    exact⟨v::vs,by simp[hl],hF⟩
theorem C9(l:List Value)(a n:Nat)(h:a<l.length)(hn:n≠0):l[a]?=some (kf false ((l.drop a).take n)):=by
  rw[List.drop_eq_getElem_cons h,Yi h]
  cases n with
  | zero=>exact absurd rfl hn
  | succ m=>simp only[List.take_succ_cons,kf];rfl
theorem DB[aB]{P:Program}{ρ:Env}{o:Oper}{K:Value->Prop}{t:TypeId}{x i:Operand}(ho:o.op=.index t x i)(h:gW P ρ o K):eL P ρ o K:=by
  unfold gW at h
  rw[ho] at h
  simp only at h
  split at h
  . rename_i s k i hx hi
    obtain⟨hb,h1⟩:=av h
    have hu:=yJ hb
    obtain⟨⟨h0,bR⟩,hK⟩:=h1
    refine⟨_,hK,fun w=>?_⟩
    have ss:i.toNat<s.size:=by omega
    have hs:s[i.toNat]?=some (s.data.toList.getD i.toNat 0):=by
      rw[show s[i.toNat]?=some s[i.toNat] from by simp[ss]]
      congr 1
      have ig:i.toNat<s.data.size:=ss
      simp only[Yo,Array.getElem?_toList]
      rw[Array.getElem?_eq_getElem ig]
      rfl
    simp[execOp,ho,hx,hi,Instr.index,asIntOf,run_underlying hu,h0,hs,iu]
  . rename_i cs k i hx hi
    split at h
    . rename_i n e hu
      obtain⟨hb,h1⟩:=av h
      simp only[Yt,Bool.not_eq_true'] at hb
      obtain⟨⟨h0,bR⟩,h2⟩:=h1
      obtain⟨vs,hl,heq,hK⟩:=jr _ _ h2
      refine⟨_,hK,fun w=>?_⟩
      have hlen:=eI hb.2
      simp[execOp,ho,hx,hi,Instr.index,asIntOf,run_underlying hu,h0,bR,bh hb.1.1,part,jI hb.1.1]
      cases bu:kW P e
      . have hz:a8 P e≠0:=fun h0=>by rw[h0] at hb;exact absurd hb.1.2 (by decide)
        have Px:i.toNat<n:=by omega
        have acy:i.toNat*a8 P e<cs.toList.length:=by
          rw[<-hlen]
          exact Nat.mul_lt_mul_of_pos_right Px (Nat.pos_of_ne_zero hz)
        have h3:cs[i.toNat*a8 P e]?=some (kf false vs):=by
          rw[<-heq,<-Array.getElem?_toList]
          exact C9 _ _ _ acy hz
        simp[h3]
      . simp only[kf,cond]
        simp[bh hb.1.1,extract_mk,heq]
    . exact h.elim
  . exact h.elim
theorem wK[aB]{P:Program}{ρ:Env}{o:Oper}{K:Value->Prop}{x:Operand}{i:Nat}(ho:o.op=.extract x i)(h:gW P ρ o K):eL P ρ o K:=by
  unfold gW at h
  rw[ho] at h
  simp only at h
  split at h
  . rename_i vs hx
    obtain⟨hb,h1⟩:=av h
    have bR:i<vs.size:=by simpa using hb
    refine⟨_,h1,fun w=>?_⟩
    simp[execOp,ho,hx,Instr.extract,bR,List.getD]
  . exact h.elim
theorem Gt{P:Program}{ρ:Env}{o:Oper}{K:Value->Prop}{c a b:Operand}(ho:o.op=.pick c a b)(h:gW P ρ o K):eL P ρ o K:=by
  unfold gW at h
  rw[ho] at h
  simp only at h
  split at h
  . rename_i b' hx
    refine⟨_,h,fun w=>?_⟩
    cases b'<;>simp[execOp,ho,hx,asBool]
  . exact h.elim
theorem ur{P:Program}{ρ:Env}{o:Oper}{K:Value->Prop}{x:Operand}(ho:o.op=.nilCheck x)(h:gW P ρ o K):eL P ρ o K:=by
  unfold gW at h
  rw[ho] at h
  simp only at h
  split at h
  . rename_i p hx
    cases p with
    | none=>exact h.elim
    | some a=>
      refine⟨_,h,fun w=>?_⟩
      simp[execOp,ho,hx]
  . rename_i f x y hx
    refine⟨_,h,fun w=>?_⟩
    simp[execOp,ho,hx]
  . exact h.elim
theorem Gs{P:Program}{ρ:Env}{o:Oper}{K:Value->Prop}{u:UnOp}{t:TypeId}{x:Operand}(ho:o.op=.unOp u t x)(h:gW P ρ o K):eL P ρ o K:=by
  unfold gW at h
  rw[ho] at h
  cases u<;>simp only at h
  . split at h
    . rename_i k n hx
      refine⟨_,h,fun w=>?_⟩
      simp[execOp,ho,hx,Op.unary,Op.intArith]
    . exact h.elim
  . split at h
    . rename_i b hx
      refine⟨_,h,fun w=>?_⟩
      simp[execOp,ho,hx,Op.unary]
    . exact h.elim
theorem wL{P:Program}{ρ:Env}{o:Oper}{K:Value->Prop}{s d:TypeId}{x:Operand}(ho:o.op=.convert s d x)(h:gW P ρ o K):eL P ρ o K:=by
  unfold gW at h
  rw[ho] at h
  simp only at h
  split at h
  . rename_i k k' Sp n hs hd hx
    refine⟨_,h,fun w=>?_⟩
    simp[execOp,ho,hx,Go.convert,run_underlying hs,run_underlying hd,Conv.intToInt]
  . rename_i b hs hd hx
    refine⟨_,h,fun w=>?_⟩
    simp[execOp,ho,hx,Go.convert,run_underlying hs,run_underlying hd]
  . exact h.elim
theorem DC{P:Program}{ρ:Env}{o:Oper}{K:Value->Prop}{t:TypeId}{x:Operand}(ho:o.op=.makeInterface t x)(h:gW P ρ o K):eL P ρ o K:=by
  unfold gW at h
  rw[ho] at h
  simp only at h
  split at h
  . exact h.elim
  . exact h.elim
  . rename_i h1 h2
    refine⟨_,h,fun w=>?_⟩
    cases hu:P.underlying t with
    | none=>exact absurd hu h2
    | some d=>
      cases d<;>first | exact absurd hu (h1 _) | simp[execOp,ho,Instr.makeInterface,run_underlying hu]
theorem Gu[aB]{P:Program}{ρ:Env}{o:Oper}{K:Value->Prop}{c:Call}(ho:o.op=.call c)(h:gW P ρ o K):eL P ρ o K:=by
  unfold gW at h
  rw[ho] at h
  simp only at h
  obtain⟨callee,⟨args⟩,⟨ts⟩⟩:=c
  split at h
  . rename_i hc
    simp only at hc h
    subst hc
    split at h
    . rename_i s t ha
      obtain⟨hb,h1⟩:=av h
      have hu:=yJ hb
      refine⟨_,h1,fun w=>?_⟩
      simp[execOp,ho,resolve,invoke,Go.builtin,ha,Builtin.len_,run_underlying hu,goInt]
    . rename_i a n c t ha
      obtain⟨hb,h1⟩:=av h
      have hu:=cT hb
      refine⟨_,h1,fun w=>?_⟩
      simp[execOp,ho,resolve,invoke,Go.builtin,ha,Builtin.len_,run_underlying hu,goInt]
    . exact h.elim
  . rename_i hc
    simp only at hc h
    subst hc
    split at h
    . rename_i a n c t ha
      obtain⟨hb,h1⟩:=av h
      have hu:=cT hb
      refine⟨_,h1,fun w=>?_⟩
      simp[execOp,ho,resolve,invoke,Go.builtin,ha,Builtin.cap_,run_underlying hu,goInt]
    . exact h.elim
  . rename_i hc
    simp only at hc h
    subst hc
    split at h
    . rename_i k x k' y ha
      refine⟨_,h,fun w=>?_⟩
      simp[execOp,ho,resolve,invoke,Go.builtin,ha,Builtin.min_,Builtin.min2]<;>rfl
    . rename_i k x k' y Sp z ha
      refine⟨_,h,fun w=>?_⟩
      simp[execOp,ho,resolve,invoke,Go.builtin,ha,Builtin.min_,Builtin.min2]<;>rfl
    . rename_i k x k' y Sp z k3 u ha
      refine⟨_,h,fun w=>?_⟩
      simp[execOp,ho,resolve,invoke,Go.builtin,ha,Builtin.min_,Builtin.min2]<;>rfl
    . rename_i k x k' y Sp z k3 u k4 v ha
      refine⟨_,h,fun w=>?_⟩
      simp[execOp,ho,resolve,invoke,Go.builtin,ha,Builtin.min_,Builtin.min2]<;>rfl
    . exact h.elim
  . rename_i hc
    simp only at hc h
    subst hc
    split at h
    . rename_i k x k' y ha
      refine⟨_,h,fun w=>?_⟩
      simp[execOp,ho,resolve,invoke,Go.builtin,ha,Builtin.max_,Builtin.max2]<;>rfl
    . rename_i k x k' y Sp z ha
      refine⟨_,h,fun w=>?_⟩
      simp[execOp,ho,resolve,invoke,Go.builtin,ha,Builtin.max_,Builtin.max2]<;>rfl
    . rename_i k x k' y Sp z k3 u ha
      refine⟨_,h,fun w=>?_⟩
      simp[execOp,ho,resolve,invoke,Go.builtin,ha,Builtin.max_,Builtin.max2]<;>rfl
    . rename_i k x k' y Sp z k3 u k4 v ha
      refine⟨_,h,fun w=>?_⟩
      simp[execOp,ho,resolve,invoke,Go.builtin,ha,Builtin.max_,Builtin.max2]<;>rfl
    . exact h.elim
  . exact h.elim
theorem lp(off:Nat):∀(vs:List Value) (k:Nat) (l:List Value),off+k+vs.length<=l.length ->
    (vs.zipIdx k).foldl (fun (cs:Array Value) (p:Value × Nat)=>cs.setIfInBounds (off+p.2) p.1) ⟨l⟩=⟨aH l (off+k) vs⟩
  | [],k,l,_=>by simp[aH]
  | v::r,k,l,h=>by
    simp only[j8] at h
    rw[List.zipIdx_cons,List.foldl_cons]
    have e:(Array.mk l).setIfInBounds (off+k) v=⟨l.set (off+k) v⟩:=by simp
    simp only[]
    rw[e,lp off r (k+1) (l.set (off+k) v) (by simp;omega)]
    congr 1
    have hl:(l.take (off+k)).length=off+k:=by simp;omega
    have ep:l.set (off+k) v=(l.take (off+k)++[v])++l.drop (off+k+1):=by
      rw[List.set_eq_take_append_cons_drop,if_pos (by omega)]
      simp
    have ig:(l.take (off+k)++[v]).length=off+(k+1):=by rw[Yh,hl];rfl
    simp only[aH]
    rw[ep,List.take_left' ig,List.drop_append,ig]
    rw[show (l.take (off+k)++[v]).drop (off+(k+1)+r.length)=[] from List.drop_eq_nil_of_le (by rw[ig];omega)]
    rw[List.drop_drop]
    simp only[j8,Yz,List.cons_append,List.nil_append]
    congr 4
    omega
theorem qY[aB](cs:Array Value)(off:Nat)(v:Array Value)(h:off+v.size<=cs.size):
    v.zipIdx.foldl (fun cs (p:Value × Nat)=>cs.setIfInBounds (off+p.2) p.1) cs=⟨aH cs.toList off v.toList⟩:=by
  obtain⟨l⟩:=cs
  obtain⟨vs⟩:=v
  have:=lp off vs 0 l (by simpa using h)
  rw[<-Array.foldl_toList]
  simpa using this
theorem og[aB]{P:Program}{fs:List Field}:∀(ps:List (Nat × Value)) (l:List Value) (F:List Value->Prop),Ca P fs ps l F ->
    ∃l',F l'/\Instr.fill (fun i=>(⟨fs.map fun f=>(f.offset,a8 P f.type)⟩:Array (Nat × Nat))[i]?) ⟨l⟩ ps=some ⟨l'⟩
  | [],l,F,h=>⟨l,h,rfl⟩
  | (i,v)::r,l,F,h=>by
    simp only[Ca] at h
    split at h
    . rename_i f hf
      obtain⟨hb,h1⟩:=av h
      simp only[Yt] at hb
      have e1:=eI hb.1.1
      have e2:f.offset+v.cells.toList.length<=l.length:=by simpa using hb.1.2
      obtain⟨l',hF,Hp⟩:=og r _ F h1
      refine⟨l',hF,?_⟩
      have hp:(⟨fs.map fun f=>(f.offset,a8 P f.type)⟩:Array (Nat × Nat))[i]?=some (f.offset,a8 P f.type):=by simp[hf]
      simp only[Instr.fill,hp]
      have hs:v.cells.size=a8 P f.type:=by rw[e1];simp
      have hle:¬f.offset+v.cells.size>(Array.mk l).size:=by simp at e2 ⊢;omega
      simp only[hs,ne_eq,not_true_eq_false,false_or,decide_false,Bool.false_or]
      rw[hs] at hle
      rw[if_neg (by simpa using hle)]
      have:=qY ⟨l⟩ f.offset v.cells (by simp at e2 ⊢;omega)
      simp only[] at this
      rw[this]
      exact Hp
    . exact h.elim
theorem jq[aB]{size:Nat}:∀(ps:List (Nat × Value)) (l:List Value) (F:List Value->Prop),xC size ps l F ->
    ∃l',F l'/\Instr.fill (fun i=>some (i*size,size)) ⟨l⟩ ps=some ⟨l'⟩
  | [],l,F,h=>⟨l,h,rfl⟩
  | (i,v)::r,l,F,h=>by
    simp only[xC] at h
    obtain⟨hb,h1⟩:=av h
    simp only[Yt] at hb
    have e1:=eI hb.1
    have e2:i*size+v.cells.toList.length<=l.length:=by simpa using hb.2
    obtain⟨l',hF,Hp⟩:=jq r _ F h1
    refine⟨l',hF,?_⟩
    have hs:v.cells.size=size:=by rw[e1];simp
    have hle:¬i*size+v.cells.size>(Array.mk l).size:=by simp at e2 ⊢;omega
    simp only[Instr.fill]
    simp only[hs,ne_eq,not_true_eq_false,decide_false,Bool.false_or]
    rw[hs] at hle
    rw[if_neg (by simpa using hle)]
    have:=qY ⟨l⟩ (i*size) v.cells (by simp at e2 ⊢;omega)
    simp only[] at this
    rw[this]
    exact Hp
theorem kL[aB]{size:Nat}:∀(ps:List (Nat × Value)) (k:Nat) (pre post:List Value),xc size k ps=true->pre.length=k*size->post.length=ps.length*size ->
    Instr.fill (fun i=>some (i*size,size)) ⟨pre++post⟩ ps=some ⟨pre++H3 ps⟩
  | [],k,pre,post,_,_,hl=>by
    have:post=[]:=List.eq_nil_of_length_eq_zero (by simpa using hl)
    subst this;rfl
  | (i,v)::r,k,pre,post,h,hp,hl=>by
    simp only[xc,Yt] at h
    obtain⟨⟨h1,h2⟩,h3⟩:=h
    obtain rfl:=eI h1
    have hs:v.cells.size=size:=by have:=eI h2;rw[this];simp
    have hvl:v.cells.toList.length=size:=by simpa using hs
    have k8:post.length=size+r.length*size:=by rw[hl,j8,Nat.succ_mul];omega
    have hle:¬i*size+size>(Array.mk (pre++post)).size:=by simp;omega
    simp only[Instr.fill,hs,ne_eq,not_true_eq_false,decide_false,Bool.false_or]
    rw[if_neg (by simpa using hle)]
    have:=qY ⟨pre++post⟩ (i*size) v.cells (by simp;omega)
    simp only[] at this
    rw[this]
    have e:aH (pre++post) (i*size) v.cells.toList=(pre++v.cells.toList)++post.drop size:=by
      simp only[aH,hvl]
      rw[<-hp,List.take_left' rfl,List.drop_append]
      simp
    rw[e]
    have:=kL r (i+1) (pre++v.cells.toList) (post.drop size) h3 (by simp[hp,hs,Nat.succ_mul]) (by simp;omega)
    rw[this]
    simp[H3]
theorem qp[aB]{P:Program}{w:World}:∀(fs:List Field),(fs.all fun f=>kK P f.type)=true ->
    (fs.mapM fun f=>(do pure (f.offset,<-sizeOf f.type):Sem (Nat × Nat))).run P w=.ok (fs.map fun f=>(f.offset,a8 P f.type)) w
  | [],_=>rfl
  | f::fs,h=>by
    simp only[List.all_cons,Yt] at h
    have ih:=qp (P:=P) (w:=w) fs h.2
    simp only[List.mapM_cons,Sem.run_bind,bh h.1,Result.andThen_ok,Sem.run_pure,ih,gG]
theorem DE[aB]{P:Program}{ρ:Env}{o:Oper}{K:Value->Prop}{t:TypeId}{ps:Array (Nat × Operand)}(ho:o.op=.build t ps)(h:gW P ρ o K):eL P ρ o K:=by
  unfold gW at h
  rw[ho] at h
  simp only at h
  have Nw:(ps.map fun (i,x)=>(i,bN ρ x)).toList=jc ρ ps:=by simp[jc]
  have zr:∀z,(P.info? t).bind (·.zero)=some z->∀w,(zeroValue t).run P w=.ok z w:=by
    intro z hz w
    cases hi:P.info? t with
    | none=>rw[hi] at hz;cases hz
    | some i=>rw[hi] at hz;simp only[Option.bind_some] at hz;simp[zeroValue,typeInfo,hi,hz]
  split at h
  . rename_i fs hu
    obtain⟨hb,h1⟩:=av h
    simp only[Yt] at hb
    obtain⟨z,hz⟩:=Option.isSome_iff_exists.1 hb.1.2
    have G7:bV P t=z.cells.toList:=by simp[bV,hz]
    rw[G7] at h1
    obtain⟨l',hK,hf⟩:=og _ _ _ h1
    refine⟨_,hK,fun w=>?_⟩
    simp only[execOp,ho,Instr.build,Sem.run_bind,zr z hz,Result.andThen_ok,run_underlying hu]
    rw[Array.mapM_eq_mapM_toList]
    simp only[Sem.run_map,qp fs.toList hb.2,Result.andThen_ok,Nw]
    have e:(List.map (fun f=>(f.offset,a8 P f.type)) fs.toList).toArray=(⟨fs.toList.map fun f=>(f.offset,a8 P f.type)⟩:Array (Nat × Nat)):=rfl
    rw[e]
    rw[show (Array.mk z.cells.toList)=z.cells from rfl] at hf
    simp only[hf]
    rfl
  . rename_i n e hu
    obtain⟨hb,h1⟩:=av h
    simp only[Yt] at hb
    obtain⟨z,hz⟩:=Option.isSome_iff_exists.1 hb.1.1.2
    have G7:bV P t=z.cells.toList:=by simp[bV,hz]
    have fin:∀l',Instr.fill (fun i=>some (i*a8 P e,a8 P e)) z.cells (jc ρ ps)=some ⟨l'⟩->∀w,(execOp (bN ρ) o).run P w=.ok (.value (.agg ⟨l'⟩)) w:=by
      intro l' hf w
      simp only[execOp,ho,Instr.build,Sem.run_bind,zr z hz,Result.andThen_ok,run_underlying hu,bh hb.1.2,Nw]
      simp only[hf]
      rfl
    split at h1
    . rename_i cN
      simp only[Yt] at cN
      refine⟨_,h1,fin _ ?_⟩
      have hl:=eI cN.1
      have ig:=eI hb.2
      have:=kL (jc ρ ps) 0 [] z.cells.toList cN.2 (by simp) (by rw[<-G7,ig];simp[jc,<-hl])
      simpa using this
    . rw[G7] at h1
      obtain⟨l',hK,hf⟩:=jq _ _ _ h1
      exact⟨_,hK,fin _ hf⟩
  . exact h.elim
theorem DF[aB]{P:Program}{ρ:Env}{o:Oper}{K:Value->Prop}{op:BinOp}{t u:TypeId}{x y:Operand}(ho:o.op=.binOp op t x y u)(h:gW P ρ o K):eL P ρ o K:=by
  unfold gW at h
  rw[ho] at h
  simp only at h
  obtain⟨v,hK,hr⟩:=Ab (xo:=x) (yo:=y) h
  refine⟨v,hK,fun w=>?_⟩
  have:=hr w
  simp only[execOp,ho,Sem.run_bind] at this ⊢
  rw[this]
  rfl
theorem wM[aB]{P:Program}{ρ:Env}{o:Oper}{K:Value->Prop}{t:TypeId}{x:Operand}(ho:o.op=.sliceToArrayPointer t x)(h:gW P ρ o K):eL P ρ o K:=by
  unfold gW at h
  rw[ho] at h
  simp only at h
  split at h
  . rename_i n e a l c hu hx
    obtain⟨hn,h1⟩:=h
    cases a with
    | none=>exact h1.elim
    | some a=>
      refine⟨_,h1,fun w=>?_⟩
      simp[execOp,ho,Instr.arrayAt,run_underlying hu,hx,Nat.not_lt.2 hn]
  . exact h.elim
theorem sZ[aB]{P:Program}{ρ:Env}{o:Oper}{K:Value->Prop}(h:gW P ρ o K):eL P ρ o K:=by
  cases ho:o.op with
  | move x=>unfold gW at h;rw[ho] at h;exact⟨_,h,fun w=>by simp[execOp,ho]⟩
  | assign x=>unfold gW at h;rw[ho] at h;exact⟨_,h,fun w=>by simp[execOp,ho]⟩
  | pick c a b=>exact Gt ho h
  | nilCheck x=>exact ur ho h
  | binOp op t x y u=>exact DF ho h
  | unOp u t x=>exact Gs ho h
  | convert s d x=>exact wL ho h
  | makeFunc f x y=>unfold gW at h;rw[ho] at h;exact⟨_,h,fun w=>by simp[execOp,ho,Instr.makeFunc]⟩
  | sliceToArrayPointer t x=>exact wM ho h
  | slice t x lo hi mx=>
    cases mx with
    | none=>exact DA ho h
    | some m=>
      cases hi with
      | none=>unfold gW at h;rw[ho] at h;exact h.elim
      | some hi=>exact yV ho h
  | fieldAddr s x f=>exact sc ho h
  | field t x f=>exact DD ho h
  | indexAddr t x i=>exact r9 ho h
  | index t x i=>exact DB ho h
  | extract x i=>exact wK ho h
  | build t ps=>exact DE ho h
  | makeInterface t x=>exact DC ho h
  | call c=>exact Gu ho h
  | _=>unfold gW at h;rw[ho] at h;exact h.elim
/- loads -/
theorem NI{h:Heap}{a:Addr}{v:Value}(hv:hc h a=some v):a.block<h.size:=by
  unfold hc at hv
  cases hb:h[a.block]? with
  | none=>rw[hb] at hv;cases hv
  | some o=>exact (yH.1 hb).1
theorem ay[aB]{h h':Heap}(hE:Ext h h'){a:Addr}{v:Value}(hv:hc h a=some v):hc h' a=some v:=by
  have hl:=NI hv
  unfold hc at *
  rw[hE.2 _ hl];exact hv
theorem Ly(w:World)(a:Addr):w.cell? a=hc w.heap a:=rfl
theorem Ext.trans{a b c:Heap}(h:Ext a b)(k:Ext b c):Ext a c:=⟨mn h.1 k.1,fun i hi=>(k.2 i (Nat.lt_of_lt_of_le hi h.1)).trans (h.2 i hi)⟩
theorem ov{h:Heap}{a:Addr}{vs:List Value}{K:Prop}(hh:pM h a vs K):a6 h a vs/\K:=by
  unfold pM at hh
  split at hh
  . refine⟨?_,hh.2⟩
    intro i v hv
    cases i with
    | zero=>simp at hv;subst hv;exact hh.1
    | succ i=>simp at hv
  . exact hh
theorem nV[aB]{P:Program}{w:World}{t:TypeId}{a:Addr}{vs:List Value}(ht:kK P t=true)(hl:a8 P t=vs.length)(hv:a6 w.heap a vs)(bH:kW P t=false->vs≠[]):
    (loadVar t a).run P w=.ok (kf (kW P t) vs) w:=by
  unfold loadVar
  simp only[Sem.run_bind,jI ht,Result.andThen_ok,Sem.run_ite]
  cases bu:kW P t with
  | true=>
    simp only[if_true,Sem.run_bind,bh ht,Result.andThen_ok]
    rw[hl]
    have:=run_loadCells_list (P:=P) w a vs (fun j v hj=>by rw[jv];exact hv j v hj)
    simp only[this,Result.andThen_ok,Sem.run_pure,kf,cond]
  | false=>
    simp only[Bool.false_eq_true,if_false]
    cases vs with
    | nil=>exact absurd rfl (bH bu)
    | cons v r=>
      have h0:=hv 0 v rfl
      simp only[fG] at h0
      rw[run_load,Ly,h0]
      rfl
theorem xB[aB]{P:Program}{t:TypeId}(ht:kK P t=true)(bu:kW P t=false):(flat P 9 t).length=1:=by
  obtain⟨d,hd⟩:=BA ht
  unfold kW at bu
  rw[hd] at bu
  cases d<;>first | (cases bu;done) | simp[flat,hd]
theorem s6[aB]{P:Program}{ρ:Env}{o:Oper}{h:Heap}{K:Value->Prop}(hh:opL P ρ o h K):
    ∃v a,K v/\Ry ρ o=some a/\∀w:World,(∀k u,hc h (fG a k)=some u->hc w.heap (fG a k)=some u)->(execOp (bN ρ) o).run P w=.ok (.value v) w:=by
  unfold opL at hh
  split at hh
  . rename_i t x ho
    split at hh
    . rename_i a hx
      obtain⟨hb,h1⟩:=av hh
      simp only[Yt] at hb
      obtain⟨vs,hl,h2⟩:=jr _ _ h1
      obtain⟨Hw,hK⟩:=ov h2
      refine⟨_,a,hK,by unfold Ry;rw[ho];simp only[hx],fun w hE=>?_⟩
      have acU:a6 w.heap a vs:=fun i v hv=>hE i v (Hw i v hv)
      have hr:=nV (P:=P) (w:=w) (t:=t) (a:=a) (vs:=vs) hb.1 (by rw[eI hb.2,hl]) acU (fun bu e=>by
        have:=xB hb.1 bu
        rw[<-hl,e] at this
        cases this)
      simp[execOp,ho,hx,Instr.loadAt,Instr.sureAddr,hr]
    . exact hh.elim
  . exact hh.elim
def rJ[aB](P:Program)(w:World)(r:Result Next)(K:Value->Heap->Prop):Prop:=
  (∃v w',r=.ok (.value v) w'/\K v w'.heap/\Fr w w')\/(∃w',r=.ok .skip w'/\K undef w'.heap/\Fr w w') \/
  (∃f args,r=.ok (.enter f args) w/\Calls P f args w fun e w'=>∃v,e=.returned v/\K v w'.heap/\Fr w w')
theorem D4(w:World)(a:Addr)(v:Value):(w.setCell a v).heap=ep w.heap a v:=rfl
theorem yL[aB](w:World)(a:Addr)(v:Value):Fr w (w.setCell a v):=⟨rfl,rfl,rfl,aB.heap w _⟩
theorem kN{h:Heap}{a:Addr}{v:Value}{b:Nat}(hb:b≠a.block):(ep h a v)[b]?=h[b]?:=by
  unfold ep
  rw[Array.getElem?_modify,if_neg (fun e=>hb e.symm)]
theorem qQ[aB]{h:Heap}{a b:Addr}{v:Value}(hs:(hc h b).isSome=true):(hc (ep h a v) b).isSome=true:=by
  by_cases hb:b.block=a.block
  . unfold hc ep at *
    rw[Array.getElem?_modify,if_pos hb.symm]
    rw[hb] at hs ⊢
    cases hx:h[a.block]? with
    | none=>rw[hx] at hs;cases hs
    | some o=>
      rw[hx] at hs
      cases o<;>try (cases hs;done)
      rename_i c e f
      simp only[Option.map_some]
      simp only[] at hs
      split
      . rename_i h1;rw[if_pos h1] at hs;cases hs
      . rename_i h1
        rw[if_neg h1] at hs
        by_cases h2:a.spot.isSome
        . simpa [h2] using hs
        . simp only[h2,Bool.false_eq_true,if_false]
          have:b.off<c.size:=by
            cases SM:c[b.off]? with
            | none=>rw[SM] at hs;cases hs
            | some v=>exact (yH.1 SM).1
          simp[this]
  . unfold hc at *
    rw[kN hb];exact hs
theorem LR[aB]{h:Heap}{a b:Addr}{v:Value}:fz (ep h a v) b=fz h b:=by
  by_cases hb:b.block=a.block
  . unfold fz ep
    rw[Array.getElem?_modify,if_pos hb.symm,hb]
    cases h[a.block]? with
    | none=>rfl
    | some o=>cases o<;>rfl
  . unfold fz
    rw[kN hb]
theorem nc{v:Value}(h:dR v=true):v.oneCell'=true:=by cases v<;>first | rfl | cases h
theorem Dg[aB]{P:Program}{w:World}{a:Addr}{v:Value}(hv:dR v=true)(hs:(hc w.heap a).isSome=true)(hf:fz w.heap a=false):(store a v).run P w=.ok () (w.setCell a v):=by
  have:=run_store P w a v .plain (nc hv)
  rw[this]
  obtain⟨u,hu⟩:=Option.isSome_iff_exists.1 hs
  have h1:w.cell? a=some u:=hu
  have h2:w.frozen? a=false:=hf
  simp[h1,h2]
theorem fm[aB]{P:Program}{a:Addr}:∀(vs:List Value) (i:Nat) (w:World),vs.all dR=true->(∀j,j<vs.length->(hc w.heap (fG a (i+j))).isSome=true/\fz w.heap (fG a (i+j))=false) ->
    ∃w',(storeCells a vs i).run P w=.ok () w'/\w'.heap=bI w.heap a i vs/\Fr w w'
  | [],i,w,_,_=>⟨w,rfl,rfl,Fr.refl w⟩
  | v::vs,i,w,h1,lR=>by
    simp only[List.all_cons,Yt] at h1
    have h0:=lR 0 (by simp)
    rw[Nat.add_zero] at h0
    obtain⟨w',hr,hh,hf⟩:=fm (P:=P) (a:=a) vs (i+1) (w.setCell (fG a i) v) h1.2 (fun j hj=>by
      have:=lR (j+1) (by simpa using hj)
      rw[show i+1+j=i+(j+1) by omega]
      rw[D4]
      exact⟨qQ this.1,by rw[LR];exact this.2⟩)
    refine⟨w',?_,hh,(yL w _ v).trans hf⟩
    simp only[storeCells,Sem.run_bind,jv,Dg h1.1 h0.1 h0.2,Result.andThen_ok,hr]
theorem DG[aB]{P:Program}{ρ:Env}{o:Oper}{w:World}{K:Value->Heap->Prop}{t:TypeId}{x y:Operand}(ho:o.op=.store t x y)(h:oY P ρ o w.heap K):rJ P w ((execOp (bN ρ) o).run P w) K:=by
  unfold oY at h
  rw[ho] at h
  simp only at h
  split at h
  . rename_i a hx
    obtain⟨hb,h1⟩:=av h
    simp only[Yt] at hb
    obtain⟨ha,lR,hK⟩:=av h1
    obtain⟨w',hr,hh,hf⟩:=fm (P:=P) (a:=a) (bN ρ y).cells.toList 0 w ha (fun j hj=>by rw[Nat.zero_add];exact lR j hj)
    refine .inr (.inl ⟨w',?_,hK _ hh,hf⟩)
    have fA:¬(bN ρ y).cells.size≠a8 P t:=by rw[eI hb.2];simp
    simp only[execOp,ho,Instr.storeAt,hx,Instr.sureAddr,storeVar,Sem.run_bind,Sem.run_pure,Result.andThen_ok,bh hb.1,Sem.run_ite,fA,if_false]
    rw[hr]
    rfl
  . exact h.elim
theorem ej{P:Program}{w:World}(e:TypeId)(c:Array Value):(newRow e c).run P w=.ok ⟨w.heap.size,0,none⟩ (w.alloc (.cells c e)):=rfl
theorem DJ[aB]{P:Program}{ρ:Env}{o:Oper}{w:World}{K:Value->Heap->Prop}{t:TypeId}(ho:o.op=.alloc t)(h:oY P ρ o w.heap K):rJ P w ((execOp (bN ρ) o).run P w) K:=by
  unfold oY at h
  rw[ho] at h
  simp only at h
  split at h
  . rename_i z hz
    refine .inl ⟨_,w.alloc (.cells z.cells t),?_,h _ rfl,rfl,rfl,rfl,aB.heap w _⟩
    cases hi:P.info? t with
    | none=>rw[hi] at hz;cases hz
    | some i=>
      rw[hi] at hz
      simp only[Option.bind_some] at hz
      have VP:(zeroValue t).run P w=.ok z w:=by simp[zeroValue,typeInfo,hi,hz]
      simp only[execOp,ho,Instr.alloc,newVar,Sem.run_bind,VP,Result.andThen_ok,ej,Sem.run_pure]
  . exact h.elim
theorem KH[aB]{P:Program}{ρ:Env}{o:Oper}{w:World}{K:Value->Heap->Prop}{t:TypeId}{x:Operand}(ho:o.op=.box t x)(h:oY P ρ o w.heap K):rJ P w ((execOp (bN ρ) o).run P w) K:=by
  unfold oY at h
  rw[ho] at h
  simp only at h
  refine .inl ⟨_,w.alloc (.cells (bN ρ x).cells t),?_,h _ rfl,rfl,rfl,rfl,aB.heap w _⟩
  simp only[execOp,ho,Instr.box,newVar,Sem.run_bind,Result.andThen_ok,ej,Sem.run_pure]
theorem qg:∀(n:Nat) (l:List Value),(gZ n l).length=n*l.length
  | 0,l=>by simp[gZ]
  | n+1,l=>by simp[gZ,qg n l,Nat.succ_mul];omega
theorem wk:∀(n:Nat) (l:List Value) (i:Nat),i<n*l.length->(gZ n l)[i]?=l[i%l.length]?
  | 0,l,i,h=>by simp at h
  | n+1,l,i,h=>by
    simp only[gZ]
    by_cases hi:i<l.length
    . rw[jw hi,Nat.mod_eq_of_lt hi]
    . rw[tR (by omega),wk n l (i-l.length) (by have:(n+1)*l.length=n*l.length+l.length:=Nat.succ_mul n l.length;omega)]
      rw[<-Nat.mod_eq_sub_mod (by omega)]
theorem sK[aB](z:Array Value)(n:Nat)(hz:0<z.size):((Array.range (n*z.size)).map (fun i=>z[i%z.size]!))=⟨gZ n z.toList⟩:=by
  apply Array.ext'
  apply yG
  intro i
  simp only[Array.toList_map,Array.toList_range,Yd]
  by_cases hi:i<n*z.size
  . rw[ye hi,wk n z.toList i (by simpa using hi)]
    have hm:i%z.size<z.size:=Nat.mod_lt _ hz
    simp[hm]
  . rw[Yl (by simpa using hi),Yl (by rw[qg];simpa using hi)]
    rfl
theorem AB{P:Program}{e:TypeId}(h:((P.info? e).bind (·.zero)).isSome=true):∃z,bV P e=z.cells.toList/\∀w,(zeroValue e).run P w=.ok z w:=by
  obtain⟨z,hz⟩:=Option.isSome_iff_exists.1 h
  refine⟨z,by simp[bV,hz],fun w=>?_⟩
  cases hi:P.info? e with
  | none=>rw[hi] at hz;cases hz
  | some i=>rw[hi] at hz;simp only[Option.bind_some] at hz;simp[zeroValue,typeInfo,hi,hz]
theorem qw[aB]{P:Program}{ρ:Env}{o:Oper}{w:World}{K:Value->Heap->Prop}{t:TypeId}{n:Nat}{ps:Array (Nat × Operand)}(ho:o.op=.buildSlice t n ps)(h:oY P ρ o w.heap K):
    rJ P w ((execOp (bN ρ) o).run P w) K:=by
  unfold oY at h
  rw[ho] at h
  simp only at h
  obtain⟨hb,h1⟩:=av h
  simp only[Yt] at hb
  obtain⟨⟨⟨⟨⟨hs,ht⟩,hz⟩,JL⟩,fB⟩,hle⟩:=hb
  have hu:=cT hs
  obtain⟨z,G7,VP⟩:=AB hz
  generalize elemOf P t=e at *
  have fA:a8 P e=z.cells.size:=by have:=eI JL;rw[G7] at this;rw[<-this];simp
  have hp:0<z.cells.size:=by rw[<-fA];simpa using fB
  have Wl:¬n*a8 P e>2^24:=by simp at hle;omega
  have Nw:(ps.map fun (i,x)=>(i,bN ρ x)).toList=jc ρ ps:=by simp[jc]
  have fin:∀l',Instr.fill (fun i=>some (i*a8 P e,a8 P e)) ⟨gZ n (bV P e)⟩ (jc ρ ps)=some ⟨l'⟩ ->
      (execOp (bN ρ) o).run P w=.ok (.value (.slice (some ⟨w.heap.size,0,none⟩) n n)) (w.alloc (.cells ⟨l'⟩ e)):=by
    intro l' hf
    by_cases h0:n*a8 P e=0
    . have hn:n=0:=by rcases Nat.mul_eq_zero.1 h0 with h | h;exact h;omega
      have eR:((Array.range (n*a8 P e)).map (fun i=>(#[]:Array Value)[i%(#[]:Array Value).size]!))=⟨gZ n (bV P e)⟩:=by
        rw[h0,hn];simp[gZ]
      simp only[execOp,ho,Instr.buildSlice,Sem.run_bind,run_underlying hu,Result.andThen_ok,bh ht,if_neg Wl,if_pos h0,Sem.run_pure,Nw,eR,hf,ej]
    . have eR:((Array.range (n*a8 P e)).map (fun i=>z.cells[i%z.cells.size]!))=⟨gZ n (bV P e)⟩:=by
        rw[fA,sK z.cells n hp,G7]
      simp only[execOp,ho,Instr.buildSlice,Sem.run_bind,run_underlying hu,Result.andThen_ok,bh ht,if_neg Wl,if_neg h0,Sem.run_pure,VP,Nw,eR,hf,ej]
  split at h1
  . rename_i cN
    simp only[Yt] at cN
    have hl:=eI cN.1
    have hf:=kL (jc ρ ps) 0 [] (gZ n (bV P e)) cN.2 (by simp) (by rw[qg,G7];simp[jc,<-hl,fA])
    exact .inl ⟨_,_,fin _ (by simpa using hf),h1 _ rfl,rfl,rfl,rfl,aB.heap w _⟩
  . obtain⟨l',hK,hf⟩:=jq _ _ _ h1
    exact .inl ⟨_,_,fin _ hf,hK _ rfl,rfl,rfl,rfl,aB.heap w _⟩
theorem sS:∀(n:Nat) (l:List Value),gZ n l=(List.replicate n l).flatten
  | 0,l=>rfl
  | n+1,l=>by simp[gZ,List.replicate_succ,sS n l]
theorem wrap_small{n:Int}(h0:0<=n)(h1:n<=9223372036854775807):IntKind.i64.wrap n=n:=IntWalk.i64_in n ⟨by omega,h1⟩
theorem sg[aB]{P:Program}{ρ:Env}{o:Oper}{w:World}{K:Value->Heap->Prop}{t:TypeId}{lo co:Operand}(ho:o.op=.makeSlice t lo co)(h:oY P ρ o w.heap K):
    rJ P w ((execOp (bN ρ) o).run P w) K:=by
  unfold oY at h
  rw[ho] at h
  simp only at h
  split at h
  . rename_i k1 l k2 c hl iO
    obtain⟨hb,⟨rK,Wm,BW⟩,hK⟩:=av h
    simp only[Yt] at hb
    obtain⟨⟨⟨⟨⟨hs,ht⟩,hz⟩,JL⟩,fB⟩,hbp⟩:=hb
    have hu:=cT hs
    obtain⟨z,G7,VP⟩:=AB hz
    generalize elemOf P t=e at *
    have fA:a8 P e=z.cells.size:=by have:=eI JL;rw[G7] at this;rw[<-this];simp
    have hp:0<z.cells.size:=by rw[<-fA];simpa using fB
    obtain⟨i,hi⟩:=gP ht
    have Ht:xQ P e=i.bytes:=by simp[xQ,hi]
    have hse:a8 P e=i.size:=by simp[a8,hi]
    have agC:0<i.bytes:=by rw[<-Ht];simpa using hbp
    rw[Ht] at BW
    have sy:c<=140737488355328:=by
      have:(1:Int)*c<=(i.bytes:Int)*c:=Int.mul_le_mul_of_nonneg_right (by omega) (by omega)
      omega
    have hwc:IntKind.i64.wrap c=c:=wrap_small (by omega) (by omega)
    have Sr:IntKind.i64.wrap l=l:=wrap_small (by omega) (by omega)
    have t1:(decide (c<0)||decide ((i.bytes:Int)*c>2^48))=false:=by
      have h1:¬c<0:=by omega
      have h2:(i.bytes:Int)*c<=281474976710656:=by omega
      simp[h1,h2]
    have t2:(((decide (c<0)||decide ((i.bytes:Int)*c>2^48))||decide (l<0))||decide (l>c))=false:=by
      rw[t1]
      have h1:¬l<0:=by omega
      have h2:¬l>c:=by omega
      simp[h1,h2]
    refine .inl ⟨_,w.alloc (.cells ⟨ai P e c.toNat⟩ e),?_,hK _ rfl,rfl,rfl,rfl,aB.heap w _⟩
    have Ff:ai P e c.toNat=gZ c.toNat z.cells.toList:=by rw[sS,ai,G7]
    rw[Ff]
    have tI:(typeInfo e).run P w=.ok i w:=by simp[typeInfo,hi]
    have sI:(sizeOf e).run P w=.ok z.cells.size w:=by rw[bh ht,fA]
    by_cases h0:c.toNat*z.cells.size=0
    . have hn:c.toNat=0:=by rcases Nat.mul_eq_zero.1 h0 with h | h;exact h;omega
      have eR:((Array.range (c.toNat*z.cells.size)).map (fun i=>(#[]:Array Value)[i%(#[]:Array Value).size]!))=⟨gZ c.toNat z.cells.toList⟩:=by
        rw[h0,hn];simp[gZ]
      simp only[execOp,ho,hl,iO,Instr.makeSlice,Sem.run_bind,run_underlying hu,Result.andThen_ok,asInt,asIntOf,Sem.run_pure,tI,hwc,Sr,t2,Bool.false_eq_true,if_false,run_askRoom,sI,if_pos h0,eR,ej]
    . have eR:((Array.range (c.toNat*z.cells.size)).map (fun i=>z.cells[i%z.cells.size]!))=⟨gZ c.toNat z.cells.toList⟩:=sK z.cells _ hp
      simp only[execOp,ho,hl,iO,Instr.makeSlice,Sem.run_bind,run_underlying hu,Result.andThen_ok,asInt,asIntOf,Sem.run_pure,tI,hwc,Sr,t2,Bool.false_eq_true,if_false,run_askRoom,sI,if_neg h0,VP,eR,ej]
  . exact h.elim
theorem cH[aB]{P:Program}{ρ:Env}{o:Oper}{w:World}{K:Value->Heap->Prop}{s:Sem Value}(he:execOp (bN ρ) o=(do pure (.value (<-s))))(h:bD P s w.heap K):rJ P w ((execOp (bN ρ) o).run P w) K:=by
  obtain⟨v,w',hr,hK,hf⟩:=h w rfl
  refine .inl ⟨v,w',?_,hK,hf.1,hf.2.1,hf.2.2,aB.run _ _ _ _ _ hr⟩
  rw[he]
  simp only[Sem.run_bind,hr,Result.andThen_ok,Sem.run_pure]
theorem nB[aB]{P:Program}{ρ:Env}{o:Oper}{w:World}{K:Value->Heap->Prop}{s:Sem Unit}(he:execOp (bN ρ) o=(do s;pure .skip))(h:bD P s w.heap fun _ h'=>K undef h'):rJ P w ((execOp (bN ρ) o).run P w) K:=by
  obtain⟨v,w',hr,hK,hf⟩:=h w rfl
  refine .inr (.inl ⟨w',?_,hK,hf.1,hf.2.1,hf.2.2,aB.run _ _ _ _ _ hr⟩)
  rw[he]
  simp only[Sem.run_bind,hr,Result.andThen_ok,Sem.run_pure]
theorem bD.mono{α:Type}{P:Program}{s:Sem α}{h:Heap}{K K':α->Heap->Prop}(hh:bD P s h K)(hk:∀v h',K v h'->K' v h'):bD P s h K':=
  fun w hw=>let ⟨v,w',hr,hK,hf⟩:=hh w hw;⟨v,w',hr,hk _ _ hK,hf⟩
theorem Fn.mono[aB]{P:Program}{f:FuncId}{args:Array Value}{h:Heap}{R R':Value->Heap->Prop}(hh:Fn P f args h R)(hk:∀v h',R v h'->R' v h'):Fn P f args h R':=
  fun w hw=>(hh w hw).mono fun _ _ ⟨v,he,hR,hf⟩=>⟨v,he,hk _ _ hR,hf⟩
theorem nA[aB]{P:Program}{t:TypeId}{F:Value->Prop}(h:Cc P t F):∃v,F v:=let ⟨_,_,hF⟩:=jr _ _ h;⟨_,hF⟩
theorem tH[aB]{P:Program}{v:Value}{K:Value->Prop}:∀(ts:List TypeId) (acc:List Value),HO P v K ts acc->K v
  | [],_,h=>by obtain⟨he,hK⟩:=h;rw[he];exact hK
  | _::r,_,h=>let ⟨_,hF⟩:=nA h;tH r _ hF
theorem fj[aB]{P:Program}{t:TypeId}{v:Value}{K:Value->Prop}(h:om P t v K):K v:=by
  unfold om at h
  split at h
  . exact tH _ _ h
  . obtain⟨u,he,hK⟩:=nA h;rw[he];exact hK
  . exact h.elim
theorem Gv[aB]{P:Program}{ρ:Env}{o:Oper}{w:World}{K:Value->Heap->Prop}{c:Call}(ho:o.op=.call c)(h:oY P ρ o w.heap K):rJ P w ((execOp (bN ρ) o).run P w) K:=by
  unfold oY at h
  rw[ho] at h
  simp only at h
  obtain⟨callee,⟨args⟩,⟨ts⟩⟩:=c
  split at h
  . rename_i hc
    simp only at hc h
    subst hc
    split at h
    . rename_i s x t u ha
      refine cH (s:=Builtin.append_ #[t,u] o.type #[s,x]) (by simp[execOp,ho,resolve,invoke,Go.builtin,ha]) ?_
      exact (h o.type).mono fun v h' ⟨r,hv,hK⟩=>by rw[hv];exact hK
    . exact h.elim
  . rename_i hc
    simp only at hc h
    subst hc
    split at h
    . rename_i s x t u ha
      refine cH (s:=Builtin.copy_ #[t,u] o.type #[s,x]) (by simp[execOp,ho,resolve,invoke,Go.builtin,ha]) ?_
      exact (h o.type).mono fun v h' ⟨r,hv,hK⟩=>by rw[hv];exact hK
    . exact h.elim
  . rename_i hc
    simp only at hc h
    subst hc
    refine cH (s:=Builtin.len_ ⟨ts⟩ o.type (Array.map (bN ρ) ⟨args⟩)) (by simp[execOp,ho,resolve,invoke,Go.builtin]) (h.mono fun v h' hv=>fj hv)
  . rename_i hc
    simp only at hc h
    subst hc
    refine cH (s:=Builtin.delete_ ⟨ts⟩ o.type (Array.map (bN ρ) ⟨args⟩)) (by simp[execOp,ho,resolve,invoke,Go.builtin]) h
  . rename_i hc
    simp only at hc h
    subst hc
    refine cH (s:=Builtin.clear_ ⟨ts⟩ o.type (Array.map (bN ρ) ⟨args⟩)) (by simp[execOp,ho,resolve,invoke,Go.builtin]) h
  . rename_i f hc
    simp only at hc h
    subst hc
    split at h
    . rename_i g first cap hf
      cases hcal:aJ P g with
      | false=>
        rw[hcal] at h
        obtain⟨v,w',hr,hK,Ho⟩:=h w rfl
        refine .inl ⟨v,w',?_,fj hK,Ho.1,Ho.2.1,Ho.2.2,aB.run _ _ _ _ _ hr⟩
        simp only[execOp,ho,resolve,Deferred.ofValue,hf,Sem.run_bind,Sem.run_pure,Result.andThen_ok,invoke]
        exact hr
      | true=>
      rw[hcal] at h
      have h1:=h
      unfold aJ at hcal
      split at hcal
      . rename_i fn BQ
        simp only[Yt,Bool.not_eq_true'] at hcal
        refine .inr (.inr ⟨g,first++Array.map (bN ρ) ⟨args⟩++cap,?_,?_⟩)
        . obtain⟨body,WK⟩:=Option.isSome_iff_exists.1 hcal.1
          simp only[execOp,ho,resolve,Deferred.ofValue,hf,Sem.run_bind,Sem.run_pure,Result.andThen_ok,invoke,callFunc,run_program,BQ,hcal.2,Bool.false_eq_true,if_false,WK,Option.isNone_some]
        . exact (h1 w rfl).mono fun e w' ⟨v,he,hR,Ho⟩=>⟨v,he,fj hR,Ho⟩
      . cases hcal
    . exact h.elim
  . exact h.elim
theorem DH[aB]{P:Program}{ρ:Env}{o:Oper}{w:World}{K:Value->Heap->Prop}(h:oY P ρ o w.heap K):rJ P w ((execOp (bN ρ) o).run P w) K:=by
  cases ho:o.op with
  | alloc t=>exact DJ ho h
  | box t x=>exact KH ho h
  | store t x y=>exact DG ho h
  | buildSlice t n ps=>exact qw ho h
  | makeSlice t l c=>exact sg ho h
  | convert s d x=>unfold oY at h;rw[ho] at h;exact cH (by simp only[execOp,ho]) (h.mono fun v h' hv=>fj hv)
  | lookup t m k ok=>unfold oY at h;rw[ho] at h;exact cH (by simp only[execOp,ho]) (h.mono fun v h' hv=>fj hv)
  | mapUpdate t m k x=>unfold oY at h;rw[ho] at h;exact nB (by simp only[execOp,ho]) h
  | insert t m k x=>unfold oY at h;rw[ho] at h;exact nB (by simp only[execOp,ho]) h
  | mapEntry t m k=>
    unfold oY at h;rw[ho] at h
    refine cH (by simp only[execOp,ho]) (h.mono fun v h' hv=>?_)
    split at hv
    . obtain⟨u,n,he,hK⟩:=nA hv;rw[he];exact hK
    . exact hv.elim
  | entryStore t m s x=>unfold oY at h;rw[ho] at h;exact nB (by simp only[execOp,ho]) h
  | makeMap t r=>unfold oY at h;rw[ho] at h;exact cH (by simp only[execOp,ho]) (h.mono fun v h' hv=>fj hv)
  | range t x=>unfold oY at h;rw[ho] at h;exact cH (by simp only[execOp,ho]) (h.mono fun v h' ⟨a,hv,hK⟩=>by rw[hv];exact hK)
  | next x s=>
    unfold oY at h;rw[ho] at h;simp only at h
    cases s with
    | true=>
      refine cH (by simp only[execOp,ho]) (h.mono fun v h' hv=>?_)
      rcases hv with ⟨hv,hK⟩ | ⟨k,e,hv,hK⟩<;>rw[hv]<;>exact hK
    | false=>
      refine cH (by simp only[execOp,ho]) (h.mono fun v h' hv=>?_)
      rcases hv with ⟨hv,hK⟩ | ⟨k,e,hv,hK⟩<;>rw[hv]<;>exact hK
  | call c=>exact Gv ho h
  | _=>unfold oY at h;rw[ho] at h;exact h.elim
theorem sY[aB]{P:Program}{ρ:Env}{o:Oper}{w:World}{K:Value->Heap->Prop}(h:opW P ρ o w.heap K):rJ P w ((execOp (bN ρ) o).run P w) K:=by
  unfold opW at h
  split at h
  . obtain⟨v,hK,hr⟩:=sZ h
    exact .inl ⟨v,w,hr w,hK,Fr.refl w⟩
  . obtain⟨v,_,hK,_,hr⟩:=s6 h
    exact .inl ⟨v,w,hr w (fun _ _ h3=>h3),hK,Fr.refl w⟩
  . exact DH h
end Go.VC
end

section
namespace Go.VC
def Sat[aB](n:Nat)(w0:World)(Q:Ex->Env->Heap->Prop):Exit->Act->World->Prop:=fun e a w=>
  a.defers=[]/\a.tmps.size=n/\Fr w0 w/\match e with
    | .normal=>Q .n (bm a) w.heap
    | .exit i=>Q (.x i) (bm a) w.heap
    | .ret=>Q .r (bm a) w.heap
    | _=>False
theorem cU{a:Act}{d:Option Nat}{v:Value}:(a.put d v).defers=a.defers:=by cases d<;>rfl
theorem Cg[aB]{P:Program}{o:Oper}{a:Act}{w:World}{K:Value->Heap->Prop}{next:Act->World->Prop}{Q:Exit->Act->World->Prop}
    (h:rJ P w ((execOp (bN (bm a)) o).run P w) K) (hn:∀v w',K v w'.heap->Fr w w'->next (a.put o.dst v) w'):o.wp P a w next Q:=by
  unfold Oper.wp
  rw[l6]
  rcases h with ⟨v,w',hr,hK,hf⟩ | ⟨w',hr,hK,hf⟩ | ⟨f,args,hr,hc⟩
  . rw[hr];exact hn v w' hK hf
  . rw[hr];exact hn undef w' hK hf
  . rw[hr]
    refine hc.mono ?_
    rintro e w' ⟨v,rfl,hK,hf⟩
    exact hn v w' hK hf
theorem qT{ops:List Oper}{a:Act}{o:Oper}{go skip:Prop}(h:Xn ops (bm a) o.guard go skip):
    (Region.wanted o (yielded ops.toArray a.tmps)=true/\go)\/(Region.wanted o (yielded ops.toArray a.tmps)=false/\skip):=by
  unfold Xn at h
  unfold Region.wanted
  split at h
  . rename_i hg;rw[hg];exact .inl ⟨rfl,h⟩
  . rename_i j want hg
    rw[hg]
    simp only[yielded]
    have e:ops.toArray[j]?=ops[j]?:=by simp
    rw[e]
    split at h
    . rename_i d hd
      rw[hd]
      simp only[Option.bind_some]
      have hv:bm a d=(a.tmps[d]?).getD undef:=by simp[bm,Array.getD_eq_getD_getElem?]
      split at h
      . rename_i b hb
        rw[hv] at hb
        cases ht:a.tmps[d]? with
        | none=>rw[ht] at hb;cases hb
        | some v=>
          rw[ht] at hb
          simp only[Option.getD_some] at hb
          subst hb
          unfold sB at h
          split at h
          . rename_i hbw;exact .inl ⟨by simpa using hbw,h⟩
          . rename_i hbw;exact .inr ⟨by simpa using hbw,h⟩
      . rename_i hb
        refine .inr ⟨?_,h⟩
        cases ht:a.tmps[d]? with
        | none=>rfl
        | some v=>
          rw[hv,ht] at hb
          simp only[Option.getD_some] at hb
          cases v<;>first | rfl | exact absurd rfl (hb _)
    . rename_i hd
      rw[hd]
      exact .inr ⟨rfl,h⟩
theorem jS[aB]{n:Nat}{used:Bool}{a:Act}{d:Option Nat}{v:Value}{K:Env->Prop}(hn:a.tmps.size=n)(h:EH n used (bm a) d v K):
    K (bm (a.put d v))/\(a.put d v).tmps.size=n:=by
  unfold EH at h
  cases used with
  | false=>exact fu hn h
  | true=>
    simp only[cond] at h
    split at h
    . rename_i b
      unfold sB at h
      cases b<;>exact fu hn h
    . exact h.elim
def fI(D:List Nat)(ρ:Env)(a:Act):Prop:=∀j,j∉D->bm a j=ρ j
theorem fI.put{D:List Nat}{ρ:Env}{a:Act}(h:fI D ρ a){d:Option Nat}{v:Value}(hd:∀x,d=some x->x∈D):fI D ρ (a.put d v):=by
  intro j hj
  rw[<-h j hj]
  cases d with
  | none=>rfl
  | some x=>
    have hx:x≠j:=fun e=>hj (e ▸ hd x rfl)
    simp only[bm,Act.put,Array.getD_eq_getD_getElem?]
    rw[Array.getElem?_setIfInBounds_ne hx]
theorem mZ[aB]{P:Program}{n:Nat}{all:List Oper}{K:Env->Heap->Prop}{w0:World}{Q:Exit->Act->World->Prop}{D:List Nat}{ρ0:Env}
    (hQ:∀a w,a.defers=[]->a.tmps.size=n->Fr w0 w->fI D ρ0 a->K (bm a) w.heap->Q .normal a w) :
    ∀(l:List Oper) (i:Nat) (a:Act) (w:World),(∀o∈l,∀x,o.dst=some x->x∈D)->a.defers=[]->a.tmps.size=n->Fr w0 w->fI D ρ0 a->Gr P n all l i (bm a) w.heap K->wpList P all.toArray Q l a w
  | [],_,a,w,_,hd,hs,hf,hk,h=>hQ a w hd hs hf hk h
  | o::rest,i,a,w,hD,hd,hs,hf,sw,h=>by
    have hDr:∀o∈rest,∀x,o.dst=some x->x∈D:=fun q hq=>hD q (Yn _ hq)
    have hDo:=hD o Yx
    simp only[Gr] at h
    unfold wpList
    rcases qT h with ⟨hw,PA⟩ | ⟨hw,Fb⟩
    . rw[if_pos hw]
      refine .inl (Cg (sY PA) fun v w' hK Ho=>?_)
      obtain⟨hk,bL⟩:=jS hs hK
      exact mZ hQ rest (i+1) _ w' hDr (by rw[cU];exact hd) bL (hf.trans Ho) (sw.put hDo) hk
    . rw[if_neg (by simp[hw])]
      obtain⟨hk,bL⟩:=fu hs Fb
      exact mZ hQ rest (i+1) _ w hDr (by rw[cU];exact hd) bL hf (sw.put hDo) hk
/- drawn regions -/
section
variable {P:Program} {ops:Array Oper} {Q:Exit->Act->World->Prop} {md:Region.Mode}
def kv(P:Program)(md:Region.Mode)(ops:Array Oper)(Q:Exit->Act->World->Prop)(Fo:Nat->Bool)(T:Nat->World->World->Prop):Nat->Array Bool->Act->World->Prop
  | 0,L,a,w=>Region.ready md ops L=[]/\Q .normal a w
  | f+1,L,a,w=>(Region.ready md ops L=[]->Q .normal a w) /\
    ∀i∈Region.ready md ops L,wpOp P ops Q i (fun a' w'=>((Fo i=false->w'=w)/\(Fo i=true->T i w w'))/\kv P md ops Q Fo T f (L.setIfInBounds i true) a' w') a w
variable {Fo:Nat->Bool} {T:Nat->World->World->Prop}
theorem xY:∀(f:Nat) (L:Array Bool) (a:Act) (w:World),kv P md ops Q Fo T f L a w->wpAny P md ops Q f L a w
  | 0,_,_,_,h=>h
  | f+1,_,_,_,h=>⟨h.1,fun i hi=>wpOp_mono (fun a' w' h'=>xY f _ a' w' h'.2) (h.2 i hi)⟩
theorem Jx{T':Nat->World->World->Prop}(hT:∀i w w',T' i w w'->T i w w'):∀(f:Nat) (L:Array Bool) (a:Act) (w:World),kv P md ops Q Fo T' f L a w->kv P md ops Q Fo T f L a w
  | 0,_,_,_,h=>h
  | f+1,_,_,_,h=>⟨h.1,fun i hi=>wpOp_mono (fun a' w' h'=>⟨⟨h'.1.1,fun he=>hT _ _ _ (h'.1.2 he)⟩,Jx hT f _ a' w' h'.2⟩) (h.2 i hi)⟩
theorem C7{i j:Nat}{L:Array Bool}(hi:i∈Region.ready md ops L)(hj:j∈Region.ready md ops L){oj:Oper}(nv:ops[j]?=some oj):
    ∀e∈oj.after,Region.binds md e=true->e.on≠i:=by
  rintro e he hb rfl
  obtain⟨_,o',k6,hw⟩:=mem_ready.1 hj
  obtain rfl:oj=o':=fH (nv.symm.trans k6)
  have qM:=hw e he hb
  have ca:=(mem_ready.1 hi).1
  rw[Array.getD_eq_getD_getElem?] at qM ca
  cases hL:L[e.on]? with
  | none=>rw[hL] at qM;exact Bool.noConfusion qM
  | some b=>rw[hL] at qM ca;simp only[Option.getD_some] at qM ca;rw[qM] at ca;exact Bool.noConfusion ca
inductive Path (md:Region.Mode) (ops:Array Oper) (i:Nat):Oper->Prop
  | one {o:Oper} {e:Edge}:e∈o.after->Region.binds md e=true->e.on=i->Path md ops i o
  | step {o o':Oper} {e:Edge}:e∈o.after->Region.binds md e=true->ops[e.on]?=some o'->Path md ops i o'->Path md ops i o
def jx(md:Region.Mode)(ops:Array Oper)(L:Array Bool):Prop:=∀j oj,ops[j]?=some oj->L.getD j false=true->∀e∈oj.after,Region.binds md e=true->L.getD e.on false=true
theorem jx.path{L:Array Bool}(hc:jx md ops L){i:Nat}(hi:L.getD i false=false){o:Oper}(hp:Path md ops i o):¬∀e∈o.after,Region.binds md e=true->L.getD e.on false=true:=by
  induction hp with
  | one he hb ho=>intro h;have:=h _ he hb;rw[ho,hi] at this;cases this
  | step he hb ho _ ih=>intro h;exact ih (hc _ _ ho (h _ he hb))
theorem jx.set{L:Array Bool}(hc:jx md ops L){j:Nat}{oj:Oper}(nv:ops[j]?=some oj)(hw:∀e∈oj.after,Region.binds md e=true->L.getD e.on false=true):jx md ops (L.setIfInBounds j true):=by
  have up:∀k,L.getD k false=true->(L.setIfInBounds j true).getD k false=true:=fun k hk=>by
    by_cases e:j=k
    . subst e
      rw[Array.getD_eq_getD_getElem?] at hk ⊢
      rw[Array.getElem?_setIfInBounds]
      cases hL:L[j]? with
      | none=>rw[hL] at hk;cases hk
      | some b=>have:=(yH.1 hL).1;simp[this]
    . rw[getD_set_ne false e];exact hk
  intro k ok lR hk e he hb
  by_cases ek:j=k
  . subst ek
    rw[nv] at lR;cases lR
    exact up _ (hw e he hb)
  . rw[getD_set_ne false ek] at hk
    exact up _ (hc k ok lR hk e he hb)
theorem zT{i:Nat}{L:Array Bool}(hi:i∈Region.ready md ops L):L.getD i false=false:=by
  have:=(mem_ready.1 hi).1
  rw[Array.getD_eq_getD_getElem?] at this ⊢
  cases hL:L[i]? with
  | none=>rfl
  | some b=>rw[hL] at this;exact this
theorem KK[aB]{i j:Nat}{L:Array Bool}(hc:jx md ops L)(hi:i∈Region.ready md ops L)(hj:j∈Region.ready md ops L){oj:Oper}(nv:ops[j]?=some oj):¬Path md ops i oj:=by
  intro hp
  obtain⟨_,o',k6,hw⟩:=mem_ready.1 hj
  obtain rfl:oj=o':=fH (nv.symm.trans k6)
  exact hc.path (zT hi) hp hw
theorem vt[aB]{S:World->Prop}{i:Nat}{oi:Oper}{v:Value}(hi:ops[i]?=some oi)(xh:∀(j:Nat) (o:Oper) cs b,ops[j]?=some o->o.op ≠ .select cs b)
    (hQ:∀c a w,Q (.panic c) (a.put oi.dst v) w->Q (.panic c) a w) (NF:Fo i=false)
    (hS:∀(j:Nat) (oj:Oper) (w w':World),ops[j]?=some oj->j≠i->¬Path md ops i oj->S w->(Fo j=false->w'=w)->(Fo j=true->T j w w')->S w')
    (fuel:Nat):∀(L:Array Bool) (a:Act) (w:World),jx md ops L ->
      (∀j oj,ops[j]?=some oj->j≠i->L.getD j true=false->(∀e∈oj.after,Region.binds md e=true->e.on≠i)->oi.apart ops oj=true) ->
      i∈Region.ready md ops L->YieldsIf P ops S oi v a->S w ->
      kv P md ops Q Fo T fuel (L.setIfInBounds i true) (a.put oi.dst v) w->kv P md ops Q Fo T (fuel+1) L a w:=by
  induction fuel with
  | zero=>
    intro L a w eN _ hr hy hSw H
    constructor
    . intro he;rw[he] at hr;exact absurd hr List.not_mem_nil
    . intro j hj
      rcases Nat.decEq j i with bH | rfl
      . exact absurd (H.1 ▸ ready_mono hj bH) List.not_mem_nil
      . exact hy.wpOp hi hSw ⟨⟨fun _=>rfl,fun he=>absurd (NF.symm.trans he) Bool.false_ne_true⟩,H⟩
  | succ fuel ih=>
    intro L a w WJ BP hr hy hSw H
    constructor
    . intro he;rw[he] at hr;exact absurd hr List.not_mem_nil
    . intro j hj
      rcases Nat.decEq j i with bH | rfl
      . obtain⟨zG,oj,nv,hwj⟩:=mem_ready.1 hj
        have SD:=KK WJ hr hj nv
        have ca:=C7 hr hj nv
        refine wpOp_mono (fun a' w' h3=>?_) (wpOp_putIf nv (BP j oj nv bH zG ca) (fun cs b=>xh i oi cs b hi) (fun cs b=>xh j oj cs b nv) hQ hy (H.2 j (ready_mono hj bH)))
        obtain⟨E7,eN,Nt⟩:=h3
        rw[Array.setIfInBounds_comm _ _ (Ne.symm bH)] at Nt
        refine⟨eN,ih _ a' w' (WJ.set nv hwj) (fun k ok hk Ps tv=>BP k ok hk Ps ?_) (ready_mono hr (Ne.symm bH)) E7 (hS j oj w w' nv bH SD hSw eN.1 eN.2) Nt⟩
        rcases Nat.decEq j k with Wq | rfl
        . rwa [getD_set_ne true Wq] at tv
        . exact zG
      . exact hy.wpOp hi hSw ⟨⟨fun _=>rfl,fun he=>absurd (NF.symm.trans he) Bool.false_ne_true⟩,H⟩
end
/- the lists of VcCore against the model's arrays -/
def Rl(N:Nat)(L:Array Bool)(l:List Nat):Prop:=L.size=N/\∀i,L.getD i false=(bZ l i&&decide (i<N))
theorem Rl.nil(N:Nat):Rl N (Array.replicate N false) []:=⟨by simp,fun i=>by simp[bZ,Array.getD_eq_getD_getElem?];cases h:(Array.replicate N false)[i]? with | none=>rfl | some b=>have:=yH.1 h;obtain⟨bR,hb⟩:=this;simp at hb;simp[hb.symm]⟩
theorem lK(l:List Nat)(i j:Nat):bZ (i::l) j=(decide (j=i)||bZ l j):=by
  simp only[bZ,List.any_cons]
  congr 1
  by_cases h:j=i
  . subst h;simp[Nat.beq_refl]
  . have:Nat.beq j i=false:=by
      cases hb:Nat.beq j i
      . rfl
      . exact absurd (Nat.eq_of_beq_eq_true hb) h
    simp[this,h]
theorem Rl.set[aB]{N:Nat}{L:Array Bool}{l:List Nat}(h:Rl N L l){i:Nat}(hi:i<N):Rl N (L.setIfInBounds i true) (i::l):=by
  refine⟨by simp[h.1],fun j=>?_⟩
  by_cases hj:i=j
  . subst hj
    have:i<L.size:=by rw[h.1];exact hi
    simp[lK,this,hi]
  . rw[getD_set_ne false hj,h.2 j,lK]
    have:¬j=i:=fun e=>hj e.symm
    simp[this]
theorem Rl.FD{N:Nat}{L:Array Bool}{l:List Nat}(h:Rl N L l){i:Nat}(hi:i<N):L.getD i true=bZ l i:=by
  have:=h.2 i
  have hs:i<L.size:=by rw[h.1];exact hi
  simp only[Array.getD_eq_getD_getElem?,Array.getElem?_eq_getElem hs,Option.getD_some,hi,decide_true,Bool.and_true] at this ⊢
  exact this
theorem jP(e:Edge):Region.binds .any e=nD e:=by
  unfold Region.binds nD
  cases e.ground<;>rfl
theorem wu[aB]{N:Nat}{L:Array Bool}{l:List Nat}(h:Rl N L l)(hl:∀i∈l,i<N)(o:Oper):
    Ds o l=true ↔ ∀e∈o.after,Region.binds .any e=true->L.getD e.on false=true:=by
  unfold Ds
  rw[List.all_eq_true]
  constructor
  . intro hh e he hb
    have:=hh e (by simpa using he)
    rw[<-jP,hb] at this
    simp only[Bool.not_true,Bool.false_or] at this
    rw[h.2,this]
    have hm:e.on∈l:=by
      simp only[bZ,List.any_eq_true] at this
      obtain⟨x,hx,hb⟩:=this
      rw[Nat.eq_of_beq_eq_true hb];exact hx
    simp[hl _ hm]
  . intro hh e he
    rw[<-jP]
    cases hb:Region.binds .any e with
    | false=>rfl
    | true=>
      have:=hh e (by simpa using he) hb
      rw[h.2] at this
      simp only[Yt] at this
      simp[this.1]
theorem lC(ops:List Oper)(l:List Nat):∀(r:List Oper) (k i:Nat),i∈r7 ops l k r ↔ k<=i/\∃o,r[i-k]?=some o/\bZ l i=false/\Ds o l=true
  | [],k,i=>by simp[r7]
  | o::r,k,i=>by
    have ih:=lC ops l r (k+1) i
    have key:i∈r7 ops l (k+1) r ↔ k<i/\∃o',(o::r)[i-k]?=some o'/\bZ l i=false/\Ds o' l=true:=by
      rw[ih]
      constructor
      . rintro⟨h1,o',h2,h3⟩
        refine⟨h1,o',?_,h3⟩
        rw[show i-k=(i-(k+1))+1 by omega,List.getElem?_cons_succ];exact h2
      . rintro⟨h1,o',h2,h3⟩
        refine⟨h1,o',?_,h3⟩
        rw[show i-k=(i-(k+1))+1 by omega,List.getElem?_cons_succ] at h2;exact h2
    unfold r7
    cases hb:(!bZ l k&&Ds o l) with
    | true=>
      simp only[cond,Yr,key]
      simp only[Yt,Bool.not_eq_true'] at hb
      constructor
      . rintro (rfl | ⟨h1,h2⟩)
        . exact⟨bc _,o,by simp,hb.1,hb.2⟩
        . exact⟨Nat.le_of_lt h1,h2⟩
      . rintro⟨h1,h2⟩
        rcases Nat.eq_or_lt_of_le h1 with h | h
        . exact .inl h.symm
        . exact .inr ⟨h,h2⟩
    | false=>
      simp only[cond,key]
      constructor
      . rintro⟨h1,h2⟩;exact⟨Nat.le_of_lt h1,h2⟩
      . rintro⟨h1,o',h2,h3,h4⟩
        refine⟨?_,o',h2,h3,h4⟩
        rcases Nat.eq_or_lt_of_le h1 with h | h
        . subst h
          simp at h2
          subst h2
          rw[h3,h4] at hb
          cases hb
        . exact h
theorem gJ[aB]{ops:List Oper}{L:Array Bool}{l:List Nat}(h:Rl ops.length L l)(hl:∀i∈l,i<ops.length)(i:Nat):
    i∈Region.ready .any ops.toArray L ↔ i∈r7 ops l 0 ops:=by
  rw[mem_ready,lC]
  simp only[Nat.zero_le,true_and,Nat.sub_zero,List.getElem?_toArray]
  constructor
  . rintro⟨h0,o,ho,dq⟩
    have bR:i<ops.length:=(Ya.1 ho).1
    exact⟨o,ho,by rw[<-h.FD bR];exact h0,(wu h hl o).2 dq⟩
  . rintro⟨o,ho,h1,h2⟩
    have bR:i<ops.length:=(Ya.1 ho).1
    exact⟨by rw[h.FD bR];exact h1,o,ho,(wu h hl o).1 h2⟩
end Go.VC
end

section
namespace Go.VC
theorem jh{l:List Nat}{i:Nat}:bZ l i=true ↔ i∈l:=by
  simp only[bZ,List.any_eq_true]
  constructor
  . rintro⟨x,hx,hb⟩;rw[Nat.eq_of_beq_eq_true hb];exact hx
  . intro h;exact⟨i,h,Nat.beq_refl i⟩
theorem mem_zipIdx'{α:Type}{l:List α}{i:Nat}{x:α}(h:l[i]?=some x):(x,i)∈l.zipIdx:=by
  rw[List.mk_mem_zipIdx_iff_getElem?];exact h
theorem xZ[aB]{o:Oper}{i:Nat}(h:∀e∈o.after,Region.binds .any e=true->e.on≠i):(o.after.toList.any fun e=>nD e&&Nat.beq e.on i)=false:=by
  rw[List.any_eq_false]
  intro e he
  simp only[Yt,not_and]
  intro hb Ht
  rw[<-jP] at hb
  exact absurd (Nat.eq_of_beq_eq_true Ht) (h e (by simpa using he) hb)
theorem gM[aB](l:List Nat)(d:Nat):l.contains d=bZ l d:=by
  rw[Bool.eq_iff_iff,jh,List.contains_iff_mem]
theorem HP(a b:Option Nat):LY a b=(a==b):=by
  cases a<;>cases b<;>try rfl
  rename_i x y
  by_cases h:x=y
  . subst h;simp[LY,Nat.beq_refl]
  . have:Nat.beq x y=false:=by
      cases hb:Nat.beq x y
      . rfl
      . exact absurd (Nat.eq_of_beq_eq_true hb) h
    simp[LY,this,h]
theorem s9(ops:List Oper)(o:Oper):o.looksAt ops.toArray=uH ops o:=by
  unfold Oper.looksAt uH
  congr 1
  cases o.guard with
  | none=>rfl
  | some g=>simp
theorem ve[aB]{ops:List Oper}{x y:Oper}(h:Ag ops x y=true):x.apart ops.toArray y=true:=by
  unfold Ag at h
  unfold Oper.apart
  rw[s9,s9]
  simp only[Yt] at h ⊢
  constructor
  . have h1:=h.1
    cases hx:x.dst with
    | none=>rfl
    | some d=>
      rw[hx] at h1
      simp only[Yt,Bool.not_eq_true'] at h1 ⊢
      refine⟨by rw[gM];exact h1.1,?_⟩
      have h2:=h1.2
      rw[HP] at h2
      rw[bne,h2];rfl
  . have h1:=h.2
    cases hy:y.dst with
    | none=>rfl
    | some d=>
      rw[hy] at h1
      simp only[Bool.not_eq_true'] at h1 ⊢
      rw[gM];exact h1
theorem xy[aB]{ops:List Oper}{L:Array Bool}{l:List Nat}(h:Rl ops.length L l){i:Nat}{oi:Oper}(hf:xz ops l i oi=true):
    ∀j oj,ops.toArray[j]?=some oj->j≠i->L.getD j true=false->(∀e∈oj.after,Region.binds .any e=true->e.on≠i)->oi.apart ops.toArray oj=true:=by
  intro j oj nv bH zG ca
  rw[List.getElem?_toArray] at nv
  have bR:j<ops.length:=(Ya.1 nv).1
  unfold xz at hf
  rw[List.all_eq_true] at hf
  have:=hf _ (mem_zipIdx' nv)
  simp only[Bool.or_eq_true] at this
  rcases this with ((h1 | h1) | h1) | h1
  . exact absurd (Nat.eq_of_beq_eq_true h1) bH
  . rw[h.FD bR,h1] at zG;cases zG
  . rw[xZ ca] at h1;cases h1
  . exact ve h1
theorem jo{P:Program}{ops:List Oper}{l:List Nat}:∀(rs:List Nat) {i:Nat} {o:Oper},qU P ops l rs=some (i,o)->i∈rs/\ops[i]?=some o/\KG P o.op<2/\xz ops l i o=true
  | [],i,o,h=>by cases h
  | j::r,i,o,h=>by
    unfold qU at h
    split at h
    . rename_i oj nv
      cases hb:(Nat.blt (KG P oj.op) 2&&xz ops l j oj) with
      | true=>
        rw[hb] at h
        simp only[cond,Option.some.injEq,Prod.mk.injEq] at h
        obtain⟨rfl,rfl⟩:=h
        simp only[Yt] at hb
        exact⟨Yx,nv,by simpa using hb.1,hb.2⟩
      | false=>
        rw[hb] at h
        have:=jo r h
        exact⟨Yn _ this.1,this.2⟩
    . have:=jo r h
      exact⟨Yn _ this.1,this.2⟩
theorem mK{ops:List Oper}(h:FW ops=true)(j:Nat)(o:Oper)(cs:Array SelectCase)(b:Bool)(ho:ops.toArray[j]?=some o):o.op ≠ .select cs b:=by
  intro e
  rw[List.getElem?_toArray] at ho
  unfold FW at h
  rw[List.all_eq_true] at h
  have:=h o (Yb ho)
  rw[e] at this
  cases this
theorem rA{F:Nat->Prop}:∀(l:List Nat),Ah l F->∀i∈l,F i
  | [],_,i,hi=>by cases hi
  | [j],h,i,hi=>by simp at hi;subst hi;exact h
  | j::k::r,h,i,hi=>by
    rcases Yr.1 hi with rfl | hi
    . exact h.1
    . exact rA (k::r) h.2 i hi
theorem nL[aB]{ops:List Oper}{i:Nat}:∀(f:Nat) {o:Oper},mH ops i f o=true->Path .any ops.toArray i o
  | 0,o,h=>by cases h
  | f+1,o,h=>by
    unfold mH at h
    rw[List.any_eq_true] at h
    obtain⟨e,he,h⟩:=h
    rw[Yt,Bool.or_eq_true,Yt] at h
    obtain⟨hb,h⟩:=h
    have Lu:e∈o.after:=by simpa using he
    have Hu:Region.binds .any e=true:=by rw[jP];exact hb
    rcases h with h | ⟨_,h⟩
    . exact .one Lu Hu (Nat.eq_of_beq_eq_true h)
    . split at h
      . rename_i o' k6
        exact .step Lu Hu (by rw[List.getElem?_toArray];exact k6) (nL f h)
      . cases h
def Es(P:Program)(ops:List Oper)(j:Nat):Bool:=match ops[j]? with | some o=>Nat.beq (KG P o.op) 2 | none=>false
def smT(ops:List Oper)(ad:List (Nat × Addr))(j:Nat)(w1 w2:World):Prop:=∀oj,ops[j]?=some oj->Sm (nW ops oj ad) w1.heap w2.heap
theorem Kq{al:List Addr}{h h':Heap}{K:Prop}(hk:smW al h h' K):Sm al h h'/\K:=by
  cases al with
  | nil=>exact⟨fun a ha=>(by cases ha),hk⟩
  | cons a r=>exact hk
theorem zy{ops:List Oper}{o:Oper}{p:Nat × Addr}{ad:List (Nat × Addr)}{x:Addr}(hx:x∈nW ops o ad):x∈nW ops o (p::ad):=by
  obtain⟨i,a⟩:=p
  unfold nW
  cases mH ops i 9 o
  . exact Yn _ hx
  . exact hx
theorem nS{md:Region.Mode}{ops:Array Oper}{L:Array Bool}{i:Nat}(hi:i∈Region.ready md ops L){o:Oper}(ho:ops[i]?=some o):∀e∈o.after,Region.binds md e=true->L.getD e.on false=true:=by
  obtain⟨_,o',k6,hw⟩:=mem_ready.1 hi
  obtain rfl:o=o':=fH (ho.symm.trans k6)
  exact hw
theorem zY[aB]{P:Program}{n:Nat}{ops:List Oper}{K:Env->Heap->Prop}{w0:World}{Q:Exit->Act->World->Prop}{D:List Nat}{ρ0:Env}(xh:FW ops=true)(hD:∀o∈ops,∀x,o.dst=some x->x∈D)
    (hQn:∀a w,a.defers=[]->a.tmps.size=n->Fr w0 w->fI D ρ0 a->K (bm a) w.heap->Q .normal a w) (WQ:∀c a w,¬Q (.panic c) a w) :
    ∀(fuel:Nat) (l:List Nat) (ad:List (Nat × Addr)) (L:Array Bool) (a:Act) (w:World) (T:Nat->World->World->Prop),Rl ops.length L l->jx .any ops.toArray L->(∀i∈l,i<ops.length)->a.defers=[]->a.tmps.size=n->Fr w0 w->fI D ρ0 a ->
      (∀j w1 w2,smT ops ad j w1 w2->T j w1 w2)->kl P n ops fuel l ad (bm a) w.heap K->kv P .any ops.toArray Q (Es P ops) T fuel L a w:=by
  intro fuel
  induction fuel with
  | zero=>
    intro l ad L a w T hR hC hl hd hs hf sw hT h
    unfold kl at h
    split at h
    . rename_i he
      refine⟨?_,hQn a w hd hs hf sw h⟩
      apply List.eq_nil_iff_forall_not_mem.2
      intro i hi
      rw[gJ hR hl,he] at hi
      cases hi
    . exact h.elim
  | succ fuel ih=>
    intro l ad L a w T hR hC hl hd hs hf sw hT h
    unfold kl at h
    split at h
    . rename_i he
      have PB:Region.ready .any ops.toArray L=[]:=by
        apply List.eq_nil_iff_forall_not_mem.2
        intro i hi
        rw[gJ hR hl,he] at hi
        cases hi
      refine⟨fun _=>hQn a w hd hs hf sw h,fun i hi=>?_⟩
      rw[PB] at hi;cases hi
    . split at h
      . rename_i rs BI _ i o hfq
        obtain⟨Pv,ho,hk,BP⟩:=jo _ hfq
        have bR:i<ops.length:=(Ya.1 ho).1
        have Lo:i∈Region.ready .any ops.toArray L:=(gJ hR hl i).2 Pv
        have k6:ops.toArray[i]?=some o:=by rw[List.getElem?_toArray];exact ho
        have yw:=nS Lo k6
        have NF:Es P ops i=false:=by
          unfold Es;rw[ho]
          cases hb:Nat.beq (KG P o.op) 2
          . exact hb
          . have:=Nat.eq_of_beq_eq_true hb;omega
        have k8:∀k∈i::l,k<ops.length:=fun k hk=>by
          rcases Yr.1 hk with rfl | hk
          . exact bR
          . exact hl k hk
        have zG:i∉l:=by
          have:=(lC ops l ops 0 i).1 Pv
          obtain⟨_,_,_,hn,_⟩:=this
          intro hm
          rw[jh.2 hm] at hn;cases hn
        have Ho:=xy hR BP
        rcases qT h with ⟨hw,PA⟩ | ⟨hw,Fb⟩
        . split at PA
          . -- a pure operation
            obtain⟨v,hK,hr⟩:=sZ PA
            obtain⟨tv,bL⟩:=jS hs hK
            refine vt (S:=fun _=>True) k6 (mK xh) (fun c a' w' hq=>absurd hq (WQ c _ _)) NF (fun _ _ _ _ _ _ _ _ _ _=>trivial) fuel L a w hC Ho Lo
              (.inl ⟨hw,fun w' _=>by rw[l6];exact hr w'⟩) trivial ?_
            exact ih (i::l) ad _ _ w T (hR.set bR) (hC.set k6 yw) k8 (by rw[cU];exact hd) bL hf (sw.put (hD o (Yb ho))) hT tv
          . -- a load
            obtain⟨v,a0,hK,had,hr⟩:=s6 PA
            rw[had] at hK
            obtain⟨tv,bL⟩:=jS hs hK
            refine Jx (T':=smT ops ((i,a0)::ad)) (fun j w1 w2 h3=>hT j w1 w2 fun oj nv x hx=>h3 oj nv x (zy hx)) _ _ _ _ ?_
            refine vt (S:=fun w'=>∀k u,hc w.heap (fG a0 k)=some u->hc w'.heap (fG a0 k)=some u) k6 (mK xh) (fun c a' w' hq=>absurd hq (WQ c _ _)) NF ?_ fuel L a w hC Ho Lo
              (.inl ⟨hw,fun w' hE=>by rw[l6];exact hr w' hE⟩) (fun _ _ h3=>h3) ?_
            . intro j oj w1 w2 nv hji ca hS JR WE
              cases hej:Es P ops j with
              | false=>rw[JR hej];exact hS
              | true=>
                rw[List.getElem?_toArray] at nv
                intro k u hu
                refine WE hej oj nv a0 ?_ k u (hS k u hu)
                unfold nW
                cases hwt:mH ops i 9 oj with
                | false=>exact Yx
                | true=>exact absurd (nL _ hwt) ca
            . exact ih (i::l) ((i,a0)::ad) _ _ w _ (hR.set bR) (hC.set k6 yw) k8 (by rw[cU];exact hd) bL hf (sw.put (hD o (Yb ho))) (fun _ _ _ h3=>h3) tv
        . obtain⟨tv,bL⟩:=fu hs Fb
          refine vt (S:=fun _=>True) k6 (mK xh) (fun c a' w' hq=>absurd hq (WQ c _ _)) NF (fun _ _ _ _ _ _ _ _ _ _=>trivial) fuel L a w hC Ho Lo (.inr ⟨hw,rfl⟩) trivial ?_
          exact ih (i::l) ad _ _ w T (hR.set bR) (hC.set k6 yw) k8 (by rw[cU];exact hd) bL hf (sw.put (hD o (Yb ho))) hT tv
      . rename_i rs BI _ hnq
        refine⟨fun he=>?_,fun i hi=>?_⟩
        . exfalso
          have:r7 ops l 0 ops=[]:=by
            apply List.eq_nil_iff_forall_not_mem.2
            intro i hi
            rw[<-gJ hR hl,he] at hi
            cases hi
          exact BI this
        . have Pv:=(gJ hR hl i).1 hi
          have hF:=rA _ h i Pv
          split at hF
          . rename_i o ho
            have bR:i<ops.length:=(Ya.1 ho).1
            have k6:ops.toArray[i]?=some o:=by rw[List.getElem?_toArray];exact ho
            have yw:=nS hi k6
            have k8:∀k∈i::l,k<ops.length:=fun k hk=>by
              rcases Yr.1 hk with rfl | hk
              . exact bR
              . exact hl k hk
            have zG:i∉l:=by
              obtain⟨_,_,_,hn,_⟩:=(lC ops l ops 0 i).1 Pv
              intro hm
              rw[jh.2 hm] at hn;cases hn
            obtain⟨jn,hF⟩:=av hF
            have agy:KG P o.op=2:=Nat.eq_of_beq_eq_true jn
            have NF:Es P ops i=true:=by unfold Es;rw[ho];exact jn
            unfold wpOp
            simp only[k6]
            rcases qT hF with ⟨hw,PA⟩ | ⟨hw,Fb⟩
            . rw[if_pos hw]
              refine .inl (Cg (sY PA) fun v w' hK hfw=>?_)
              obtain⟨hE,hK⟩:=Kq hK
              obtain⟨tv,bL⟩:=jS hs hK
              refine⟨⟨fun he=>(by rw[NF] at he;cases he),fun _=>hT i w w' fun oj nv=>(by rw[ho] at nv;cases nv;exact hE)⟩,?_⟩
              exact ih (i::l) ad _ _ w' T (hR.set bR) (hC.set k6 yw) k8 (by rw[cU];exact hd) bL (hf.trans hfw) (sw.put (hD o (Yb ho))) hT tv
            . rw[if_neg (by simp[hw])]
              obtain⟨tv,bL⟩:=fu hs Fb
              refine⟨⟨by intros;first | trivial | rfl,fun _=>hT i w w fun oj _ x _ k v h3=>h3⟩,?_⟩
              exact ih (i::l) ad _ _ w T (hR.set bR) (hC.set k6 yw) k8 (by rw[cU];exact hd) bL hf (sw.put (hD o (Yb ho))) hT tv
          . exact hF.elim
theorem oC[aB]{P:Program}{n:Nat}{ops:Array Oper}{K:Env->Heap->Prop}{w0:World}{Q:Exit->Act->World->Prop}{id:Nat}{a:Act}{w:World}{D:List Nat}{ρ0:Env}(hm:P.follows .mixedOrders=true)(xh:FW ops.toList=true)(hD:∀o∈ops.toList,∀x,o.dst=some x->x∈D)
    (hQn:∀a w,a.defers=[]->a.tmps.size=n->Fr w0 w->fI D ρ0 a->K (bm a) w.heap->Q .normal a w) (WQ:∀c a w,¬Q (.panic c) a w) (hd:a.defers=[]) (hs:a.tmps.size=n) (hf:Fr w0 w) (sw:fI D ρ0 a)
    (h:kl P n ops.toList ops.toList.length [] [] (bm a) w.heap K):(Code.region id ops true).wp P Q a w:=by
  refine wp_region_any hm ?_
  have:=zY (Q:=Q) (D:=D) (ρ0:=ρ0) xh hD hQn WQ ops.toList.length [] [] (Array.replicate ops.size false) a { w with drawn:=w.drawn+1 } (fun _ _ _=>True) (by have:=Rl.nil ops.toList.length;simpa using this)
    (fun j oj _ hj=>by rw[Array.getD_eq_getD_getElem?] at hj;cases hL:(Array.replicate ops.size false)[j]? with | none=>rw[hL] at hj;cases hj | some b=>rw[hL] at hj;obtain⟨bR,hb⟩:=yH.1 hL;simp at hb;rw[hb] at hj;cases hj) (fun i hi=>by cases hi) hd hs ⟨hf.1,hf.2.1,hf.2.2.1,aB.trans hf.2.2.2 (aB.drew w)⟩ sw (fun _ _ _ _=>trivial) h
  have h2:=xY _ _ _ _ this
  simpa using h2
end Go.VC
end

section
namespace Go.VC
theorem Cf{ops:List Oper}:∀o∈ops,∀x,o.dst=some x->x∈uu ops:=by
  intro o ho x hx
  exact Yym.2 ⟨o,ho,hx⟩
theorem AE[aB]{X:Prop}:∀ {k:Kd} {v:Value} {F:k.T->Prop},k.J9 v F->∃x:k.T,v=k.val x/\F x
  | .int k,v,F,h=>by
    cases v<;>simp only[Kd.J9] at h
    obtain⟨hk,h1⟩:=av h
    obtain rfl:=qL hk
    exact⟨_,rfl,h1⟩
  | .bool,v,F,h=>by cases v<;>simp only[Kd.J9] at h;exact⟨_,rfl,h⟩
  | .str,v,F,h=>by cases v<;>simp only[Kd.J9] at h;exact⟨_,rfl,h⟩
  | .ptr,v,F,h=>by cases v<;>simp only[Kd.J9] at h;exact⟨_,rfl,h⟩
  | .slice,v,F,h=>by cases v<;>simp only[Kd.J9] at h;exact⟨_,rfl,h⟩
  | .map,v,F,h=>by cases v<;>simp only[Kd.J9] at h;exact⟨_,rfl,h⟩
  | .any,v,F,h=>⟨v,rfl,h⟩
theorem vQ(ρ:Env)(s:Nat):FC ρ s (ρ s)=ρ:=by
  funext j
  unfold FC
  cases hb:Nat.beq j s with
  | true=>rw[Nat.eq_of_beq_eq_true hb];rfl
  | false=>rfl
theorem Nh[aB]{X:Type}:∀(ks:List Kd) (f:JB ks X) (vs:List Value) (F:List Value->X->Prop) (G:X->Prop),Iv ks f F->Il ks f vs G->∃f',F vs f'/\G f'
  | [],f,vs,F,G,h1,h2=>by cases vs<;>simp only[Il] at h2;exact⟨f,h1,h2⟩
  | k::r,f,vs,F,G,h1,h2=>by
    cases vs with
    | nil=>simp only[Il] at h2
    | cons v vs=>
      obtain⟨x,rfl,h3⟩:=AE (X:=True) h2
      exact Nh r (f x) vs _ G (h1 x) h3
theorem AN[aB]{X:Type}:∀(sl:List (Nat × SK)) (f:Ax sl X) (ρ:Env) (F:Env->X->Prop) (G:X->Prop),ya sl f ρ F->xW sl f ρ G->∃f',F ρ f'/\G f'
  | [],f,ρ,F,G,h1,h2=>⟨f,h1,h2⟩
  | (s,.one k)::r,f,ρ,F,G,h1,h2=>by
    obtain⟨x,hx,h3⟩:=AE (X:=True) h2
    have h4:=h1 x
    rw[<-hx,vQ] at h4
    exact AN r (f x) ρ F G h4 h3
  | (s,.agg ks)::r,f,ρ,F,G,h1,h2=>by
    simp only[xW] at h2
    split at h2
    . rename_i cs hc
      obtain⟨f',h3,h4⟩:=Nh ks f cs.toList _ _ h1 h2
      rw[show (Value.agg ⟨cs.toList⟩)=ρ s from hc.symm,vQ] at h3
      exact AN r f' ρ F G h3 h4
    . exact h2.elim
theorem n9{D:List Nat}{ρ:Env}{a:Act}(h:fI D ρ a):BX D ρ (bm a)=bm a:=by
  funext j
  unfold BX
  cases hb:D.any (Nat.beq j) with
  | true=>rfl
  | false=>
    refine (h j fun hm=>?_).symm
    rw[List.any_eq_false] at hb
    exact hb j hm (Nat.beq_refl j)
theorem least{p:Nat->Prop}(h:∃m,p m):∃m,p m/\∀k,p k->m<=k:=by
  obtain⟨m,hm⟩:=h
  induction m using Nat.strongRecOn with
  | _ m ih=>
    by_cases h1:∃k,k<m/\p k
    . obtain⟨k,hk,hp⟩:=h1
      exact ih k hk hp
    . exact⟨m,hm,fun k hk=>Nat.le_of_not_lt fun hl=>h1 ⟨k,hl,hk⟩⟩
open Classical in
theorem K5[aB]{P:Program}{Q:Exit->Act->World->Prop}{c:Code}{a:Act}{w:World}(I:Nat->Act->World->Prop)(h0:∃m,I m a w)
    (round:∀m a w,I m a w->c.wp P (Exit.then (fun a' w'=>∃m',m'<m/\I m' a' w') Q) a w):(Code.loop c).wp P Q a w:=by
  let μ:Act->World->Nat:=fun a w=>if h:∃m,I m a w then Classical.choose (least h) else 0
  refine wp_loop (fun a w=>∃m,I m a w) μ h0 fun a w hI=>?_
  have hm:=(Classical.choose_spec (least hI)).1
  refine Code.wp_mono (fun e a' w' hq=>?_) (round _ a w hm)
  cases e with
  | normal=>
    obtain⟨m',bR,hI'⟩:=hq
    refine⟨⟨m',hI'⟩,?_⟩
    have h1:∃m,I m a' w':=⟨m',hI'⟩
    have hle:=(Classical.choose_spec (least h1)).2 m' hI'
    simp only[μ,dif_pos hI,dif_pos h1]
    exact Nat.lt_of_le_of_lt hle bR
  | _=>exact hq
theorem cp[aB]{P:Program}{n:Nat}{w0:World}:∀(c:Code) (A:mG) (Q:Ex->Env->Heap->Prop) (a:Act) (w:World),a.defers=[]->a.tmps.size=n->Fr w0 w ->
    dN P n c A Q (bm a) w.heap->c.wp P (fun e a' w'=>Sat n w0 Q e a' w'/\fI (l9 c) (bm a) a') a w
  | .skip,A,Q,a,w,hd,hs,hf,h=>wp_skip ⟨⟨hd,hs,hf,h⟩,fun _ _=>rfl⟩
  | .label l,A,Q,a,w,hd,hs,hf,h=>wp_label ⟨⟨hd,hs,hf,h⟩,fun _ _=>rfl⟩
  | .exit id,A,Q,a,w,hd,hs,hf,h=>wp_exit ⟨⟨hd,hs,hf,h⟩,fun _ _=>rfl⟩
  | .ret,A,Q,a,w,hd,hs,hf,h=>wp_ret ⟨⟨hd,hs,hf,h⟩,fun _ _=>rfl⟩
  | .region id ops draw,A,Q,a,w,hd,hs,hf,h=>by
    cases draw with
    | false=>
      simp only[dN] at h
      refine wp_region_list ?_
      have:=mZ (Q:=fun e a' w'=>Sat n w0 Q e a' w'/\fI (l9 (.region id ops false)) (bm a) a') (all:=ops.toList) (D:=uu ops.toList) (ρ0:=bm a)
        (fun a' w' h1 h2 h3 h4 h5=>⟨⟨h1,h2,h3,h5⟩,h4⟩) ops.toList 0 a w Cf hd hs hf (fun _ _=>rfl) h
      simpa using this
    | true=>
      simp only[dN] at h
      obtain⟨hb,h1⟩:=av h
      simp only[Yt] at hb
      exact oC (D:=uu ops.toList) (ρ0:=bm a) hb.1 hb.2 Cf (fun a' w' h1 h2 h3 h4 h5=>⟨⟨h1,h2,h3,h5⟩,h4⟩) (fun c a' w' hq=>hq.1.2.2.2) hd hs hf (fun _ _=>rfl) h1
  | .cond c x y,A,Q,a,w,hd,hs,hf,h=>by
    simp only[dN] at h
    split at h
    . rename_i b hb
      have Hu:a.eval c=.bool b:=by rw[l6];exact hb
      cases b with
      | true=>exact wp_cond_true Hu (Code.wp_mono (fun e a' w' hq=>⟨hq.1,fun j hj=>hq.2 j (fun hm=>hj (List.mem_append_left _ hm))⟩) (cp x _ Q a w hd hs hf h))
      | false=>exact wp_cond_false Hu (Code.wp_mono (fun e a' w' hq=>⟨hq.1,fun j hj=>hq.2 j (fun hm=>hj (List.mem_append_right _ hm))⟩) (cp y _ Q a w hd hs hf h))
    . exact h.elim
  | .block id x,A,Q,a,w,hd,hs,hf,h=>by
    simp only[dN] at h
    refine wp_block (Code.wp_mono (fun e a' w' hq=>?_) (cp x _ _ a w hd hs hf h))
    obtain⟨⟨h1,h2,h3,h4⟩,h5⟩:=hq
    cases e with
    | exit i=>
      simp only[Exit.inBlock]
      simp only[H6] at h4
      by_cases hi:i=id
      . subst hi
        rw[Nat.beq_refl] at h4
        rw[if_pos rfl]
        exact⟨⟨h1,h2,h3,h4⟩,h5⟩
      . rw[if_neg hi]
        have:Nat.beq i id=false:=by
          cases hb:Nat.beq i id
          . rfl
          . exact absurd (Nat.eq_of_beq_eq_true hb) hi
        rw[this] at h4
        exact⟨⟨h1,h2,h3,h4⟩,h5⟩
    | _=>exact⟨⟨h1,h2,h3,h4⟩,h5⟩
  | .seq x y,A,Q,a,w,hd,hs,hf,h=>by
    have plain:∀(A1 A2:mG),dN P n x A1 (AK (dN P n y A2 Q) Q) (bm a) w.heap->(Code.seq x y).wp P (fun e a' w'=>Sat n w0 Q e a' w'/\fI (l9 (.seq x y)) (bm a) a') a w:=by
      intro A1 A2 h
      refine wp_seq (Code.wp_mono (fun e a' w' hq=>?_) (cp x _ _ a w hd hs hf h))
      obtain⟨⟨h1,h2,h3,h4⟩,h5⟩:=hq
      cases e with
      | normal=>
        refine Code.wp_mono (fun e a2 w2 hq=>⟨hq.1,fun j hj=>?_⟩) (cp y _ Q a' w' h1 h2 h3 h4)
        rw[hq.2 j (fun hm=>hj (List.mem_append_right _ hm)),h5 j (fun hm=>hj (List.mem_append_left _ hm))]
      | _=>exact⟨⟨h1,h2,h3,h4⟩,fun j hj=>h5 j (fun hm=>hj (List.mem_append_left _ hm))⟩
    simp only[dN] at h
    split at h
    . rename_i sl A1 A2
      obtain⟨J,hx,hy⟩:=h
      refine wp_seq (Code.wp_mono (fun e a' w' hq=>?_) (cp x _ _ a w hd hs hf hx))
      obtain⟨⟨h1,h2,h3,h4⟩,h5⟩:=hq
      cases e with
      | normal=>
        have E7:=hy (bm a')
        rw[n9 h5] at E7
        obtain⟨J',h6,h7⟩:=AN sl J (bm a') _ _ E7 h4
        refine Code.wp_mono (fun e a2 w2 hq=>⟨hq.1,fun j hj=>?_⟩) (cp y _ Q a' w' h1 h2 h3 (h6 _ h7))
        rw[hq.2 j (fun hm=>hj (List.mem_append_right _ hm)),h5 j (fun hm=>hj (List.mem_append_left _ hm))]
      | _=>exact⟨⟨h1,h2,h3,h4⟩,fun j hj=>h5 j (fun hm=>hj (List.mem_append_left _ hm))⟩
    . exact plain _ _ h
  | .loop x,A,Q,a,w,hd,hs,hf,h=>by
    simp only[dN] at h
    split at h
    . rename_i sl A1
      obtain⟨I,⟨m0,hi0⟩,Pf⟩:=h
      refine K5 (fun m a' w'=>a'.defers=[]/\a'.tmps.size=n/\Fr w0 w'/\fI (l9 x) (bm a) a'/\xW sl I (bm a') fun I'=>I' w'.heap m)
        ⟨m0,hd,hs,hf,fun _ _=>rfl,hi0⟩ fun m a1 w1 ⟨g1,g2,g3,g4,g5⟩=>?_
      have hr:=Pf (bm a1)
      rw[n9 g4] at hr
      obtain⟨I',h6,h7⟩:=AN sl I (bm a1) _ _ hr g5
      refine Code.wp_mono (fun e a' w' hq=>?_) (cp x _ _ a1 w1 g1 g2 g3 (h6 _ _ h7))
      obtain⟨⟨h1,h2,h3,h4⟩,h5⟩:=hq
      have hk:fI (l9 x) (bm a) a':=fun j hj=>(h5 j hj).trans (g4 j hj)
      cases e with
      | normal=>
        obtain⟨m',bR,jZ⟩:=h4
        exact⟨m',bR,h1,h2,h3,hk,jZ⟩
      | _=>exact⟨⟨h1,h2,h3,h4⟩,hk⟩
    . exact h.elim
  | .rangeFunc f ps al b,A,Q,a,w,hd,hs,hf,h=>h.elim
  | .scope x,A,Q,a,w,hd,hs,hf,h=>by
    refine wp_scope_straight (Code.wp_mono (fun e a' w' hq=>?_) (cp x _ Q a w hd hs hf h))
    cases e with
    | goto l=>exact hq.1.2.2.2.elim
    | _=>exact hq
  | .goto l,A,Q,a,w,hd,hs,hf,h=>h.elim
  | .refuse s,A,Q,a,w,hd,hs,hf,h=>h.elim
def wg(ρ:Env):ResultVar->Sem Value
  | .tmp t=>pure (ρ t)
  | .cell a t=>do loadVar t (<-asAddr (ρ a))
theorem mM[aB]{P:Program}{ρ:Env}{w:World}:∀(rs:List ResultVar) (K:List Value->Prop),Dq P w.heap ρ rs K ->
    ∃vs,vs.length=rs.length/\K vs/\(rs.mapM (wg ρ)).run P w=.ok vs w
  | [],K,h=>⟨[],rfl,h,rfl⟩
  | .tmp t::r,K,h=>by
    obtain⟨vs,hl,hK,hr⟩:=mM r _ h
    refine⟨ρ t::vs,by simp[hl],hK,?_⟩
    simp only[List.mapM_cons,wg,Sem.run_bind,Sem.run_pure,Result.andThen_ok,hr]
  | .cell t ty::r,K,h=>by
    simp only[Dq] at h
    split at h
    . rename_i a ha
      obtain⟨hb,h1⟩:=av h
      simp only[Yt] at hb
      obtain⟨us,hlu,h2⟩:=jr _ _ h1
      obtain⟨Hw,h3⟩:=ov h2
      obtain⟨vs,hl,hK,hr⟩:=mM r _ h3
      refine⟨_::vs,by simp[hl],hK,?_⟩
      have gl:=nV (P:=P) (w:=w) (t:=ty) (a:=a) (vs:=us) hb.1 (by rw[eI hb.2,hlu]) Hw (fun bu e=>by
        have:=xB hb.1 bu
        rw[<-hlu,e] at this
        cases this)
      simp only[List.mapM_cons,wg,Sem.run_bind,Sem.run_pure,Result.andThen_ok,ha,asAddr,gl,hr]
    . exact h.elim
theorem nP[aB]{P:Program}{fn:Func}{a:Act}{w:World}{R:Value->Heap->Prop}(h:Dq P w.heap (bm a) fn.results.toList fun vs=>match vs with | [v]=>R v w.heap | vs=>R (.tuple ⟨vs⟩) w.heap):
    ∃v,(results fn a.tmps).run P w=.ok v w/\R v w.heap:=by
  obtain⟨vs,hl,hK,hr⟩:=mM _ _ h
  have hm:(fn.results.mapM (wg (bm a))).run P w=.ok ⟨vs⟩ w:=by
    rw[Array.mapM_eq_mapM_toList]
    simp only[Sem.run_map,hr,Result.andThen_ok]
  have he:results fn a.tmps=(do let vs <-fn.results.mapM (wg (bm a));pure (if h:vs.size=1 then vs[0] else .tuple vs)):=by
    unfold results
    congr 1
  rw[he]
  simp only[Sem.run_bind,hm,Result.andThen_ok,Sem.run_pure]
  cases vs with
  | nil=>exact⟨_,rfl,hK⟩
  | cons v r=>
    cases r with
    | nil=>exact⟨_,rfl,hK⟩
    | cons u r=>exact⟨_,rfl,hK⟩
theorem LZ{args:Array Value}{n:Nat}:bm { tmps:=args++Array.replicate (n-args.size) undef,defers:=[] }=Qx args:=by
  funext j
  simp only[bm,Qx,Array.getD_eq_getD_getElem?,Yo,Array.getElem?_toList]
  by_cases hj:j<args.size
  . rw[Array.getElem?_append_left hj]
  . rw[Array.getElem?_append_right (by omega),Array.getElem?_eq_none (xs:=args) (by omega)]
    cases h:(Array.replicate (n-args.size) undef)[j-args.size]? with
    | none=>rfl
    | some v=>
      obtain⟨bR,hv⟩:=yH.1 h
      simp at hv
      simp[hv.symm]
theorem fnI[aB]{P:Program}{f:FuncId}{A:mG}{args:Array Value}{h:Heap}{R:Value->Heap->Prop}{W:Prop}(e:W=fnW P f A args h R)(H:W):Fn P f args h R:=by
  rw[e] at H
  unfold fnW at H
  split at H
  . rename_i fn BQ
    split at H
    . rename_i c hc
      obtain⟨hb,H⟩:=av H
      have hle:args.size<=fn.ntmps:=by simpa using hb
      intro w hw
      subst hw
      refine calls_of_wp BQ hc ?_
      rw[<-LZ (n:=fn.ntmps)] at H
      refine Code.wp_mono (fun e a' w' hq=>?_) (cp (w0:=w) c A _ { tmps:=args++Array.replicate (fn.ntmps-args.size) undef,defers:=[] } w rfl (by simp;omega) (Fr.refl w) H)
      obtain⟨⟨h1,h2,h3,h4⟩,_⟩:=hq
      cases e with
      | normal=>
        obtain⟨v,hr,hR⟩:=nP h4
        exact⟨h1,v,hr,v,rfl,hR,h3⟩
      | ret=>
        obtain⟨v,hr,hR⟩:=nP h4
        exact⟨h1,v,hr,v,rfl,hR,h3⟩
      | _=>exact h4.elim
    . exact H.elim
  . exact H.elim
end Go.VC
end

section
namespace Go.VC
instance aaD:aB:=⟨fun _ _=>True,fun _=>trivial,fun _ _=>trivial,fun _ _=>trivial,fun _=>trivial,fun _ _ _ _ _ _=>trivial⟩
theorem Ov{b:Bool}{p q:Prop}:sB b p q ↔ (b=true->p)/\(b=false->q):=by cases b<;>simp[sB]
theorem aa{b:Bool}{p q:Prop}(h1:b=true->p)(h2:b=false->q):sB b p q:=Ov.2 ⟨h1,h2⟩
theorem qf{b:Bool}{p q:Prop}(hb:b=true)(h:p):sB b p q:=by subst hb;exact h
theorem ja{b:Bool}{p q:Prop}(hb:b=false)(h:q):sB b p q:=by subst hb;exact h
theorem a7{n:Int}(h0:-9223372036854775808<=n)(h1:n<=9223372036854775807):IntKind.wrap .i64 n=n:=IntWalk.i64_in n ⟨h0,h1⟩
theorem C4{b o:Nat}{F:Nat->Nat->Prop}:NB (some ⟨b,o,none⟩) F=F b o:=rfl
theorem Fn.of_same[aB]{P:Program}{f:FuncId}{args:Array Value}{h:Heap}{v:Value}(hc:∀w,Calls P f args w fun e w'=>e=.returned v/\w'=w):
    Fn P f args h fun u h'=>u=v/\h'=h:=by
  intro w hw
  refine (hc w).mono ?_
  rintro e w' ⟨he,rfl⟩
  exact⟨v,he,⟨rfl,hw⟩,rfl,rfl,rfl,aB.refl _⟩
/- heaps -/
theorem dA{h h':Heap}{a:Addr}(hb:h'[a.block]?=h[a.block]?):hc h' a=hc h a:=by unfold hc;rw[hb]
theorem xw{h h':Heap}{a:Addr}(hb:h'[a.block]?=h[a.block]?):fz h' a=fz h a:=by unfold fz;rw[hb]
theorem KB{h:Heap}{o:Obj}{k:Nat}(hk:k<h.size):(h.push o)[k]?=h[k]?:=by rw[Array.getElem?_push,if_neg (by omega)]
theorem KC{h:Heap}{o:Obj}:(h.push o)[h.size]?=some o:=by simp
theorem Ext.push(h:Heap)(o:Obj):Ext h (h.push o):=⟨by simp,fun _ hk=>KB hk⟩
theorem Ext.hc{h h':Heap}(hE:Ext h h'){a:Addr}(ha:a.block<h.size):hc h' a=VC.hc h a:=dA (hE.2 _ ha)
theorem fW{h h':Heap}(hE:Ext h h'){a:Addr}{vs:List Value}(hv:a6 h a vs):a6 h' a vs:=fun i v hi=>ay hE (hv i v hi)
def Own(h:Heap)(b:Nat)(xs:List Value)(e:TypeId):Prop:=h[b]?=some (.cells ⟨xs⟩ e (0,0))
theorem Own.lt{h:Heap}{b:Nat}{xs:List Value}{e:TypeId}(ho:Own h b xs e):b<h.size:=(yH.1 ho).1
theorem Own.hc{h:Heap}{b:Nat}{xs:List Value}{e:TypeId}(ho:Own h b xs e)(i:Nat):hc h ⟨b,i,none⟩=xs[i]?:=by
  unfold VC.hc;rw[ho];simp
theorem Own.fz{h:Heap}{b:Nat}{xs:List Value}{e:TypeId}(ho:Own h b xs e)(i:Nat):fz h ⟨b,i,none⟩=false:=by
  unfold VC.fz;rw[ho];simp
theorem Own.push{h:Heap}{xs:List Value}{e:TypeId}:Own (h.push (.cells ⟨xs⟩ e)) h.size xs e:=KC
theorem fe(b o i:Nat):fG ⟨b,o,none⟩ i=⟨b,o+i,none⟩:=by cases i<;>rfl
theorem Own.je{h:Heap}{b:Nat}{xs:List Value}{e:TypeId}(ho:Own h b xs e){o n:Nat}(hn:o+n<=xs.length):je h ⟨b,o,none⟩ n:=by
  intro i hi
  rw[fe,ho.hc,ho.fz]
  have:o+i<xs.length:=by omega
  simp[this]
theorem Own.a6{h:Heap}{b:Nat}{xs:List Value}{e:TypeId}(ho:Own h b xs e){o:Nat}{vs:List Value}(hv:∀i v,vs[i]?=some v->xs[o+i]?=some v):a6 h ⟨b,o,none⟩ vs:=by
  intro i v hi
  rw[fe,ho.hc]
  exact hv i v hi
def kr(b:Nat)(h h':Heap):Prop:=h'.size=h.size/\∀k,k≠b->h'[k]?=h[k]?
theorem kr.refl(b:Nat)(h:Heap):kr b h h:=⟨rfl,fun _ _=>rfl⟩
theorem kr.trans{b:Nat}{h1 h2 h3:Heap}(h:kr b h1 h2)(k:kr b h2 h3):kr b h1 h3:=⟨k.1.trans h.1,fun i hi=>(k.2 i hi).trans (h.2 i hi)⟩
theorem kr.ep{h:Heap}{a:Addr}{v:Value}:kr a.block h (ep h a v):=⟨by simp[VC.ep],fun k hk=>kN hk⟩
theorem eK(a:Addr)(i:Nat):(fG a i).block=a.block:=by cases i<;>rfl
theorem kr.bI{a:Addr}:∀(vs:List Value) (i:Nat) (h:Heap),kr a.block h (bI h a i vs)
  | [],i,h=>kr.refl _ h
  | v::vs,i,h=>by
    have h1:kr a.block h (VC.ep h (fG a i) v):=by have:=kr.ep (h:=h) (a:=fG a i) (v:=v);rwa [eK] at this
    exact h1.trans (kr.bI vs (i+1) _)
theorem Own.ep{h:Heap}{b:Nat}{xs:List Value}{e:TypeId}(ho:Own h b xs e)(i:Nat)(v:Value):Own (ep h ⟨b,i,none⟩ v) b (xs.set i v) e:=by
  unfold Own VC.ep at *
  rw[Array.getElem?_modify,if_pos rfl,ho]
  simp
theorem Own.bI{b o:Nat}{e:TypeId}:∀(vs:List Value) (i:Nat) (h:Heap) (xs:List Value),Own h b xs e->o+i+vs.length<=xs.length->Own (bI h ⟨b,o,none⟩ i vs) b (aH xs (o+i) vs) e
  | [],i,h,xs,ho,hl=>by simp only[VC.bI,aH];simpa using ho
  | v::vs,i,h,xs,ho,hl=>by
    simp only[j8] at hl
    have h1:=ho.ep (o+i) v
    have h2:=Own.bI vs (i+1) _ _ h1 (show o+(i+1)+vs.length<=(xs.set (o+i) v).length by simp;omega)
    simp only[VC.bI,fe]
    have:=lp o (v::vs) i xs (by simp;omega)
    have h3:=lp o vs (i+1) (xs.set (o+i) v) (by simp;omega)
    rw[List.zipIdx_cons,List.foldl_cons] at this
    simp only[] at this
    rw[show (Array.mk xs).setIfInBounds (o+i) v=⟨xs.set (o+i) v⟩ by simp,h3] at this
    have e1:aH (xs.set (o+i) v) (o+(i+1)) vs=aH xs (o+i) (v::vs):=by simpa using this
    rw[<-e1];exact h2
theorem Ext.Gz{b:Nat}{h h':Heap}{n:Nat}(hb:kr b h h')(hn:n<=b):∀k,k<n->h'[k]?=h[k]?:=fun k hk=>hb.2 k (by omega)
end Go.VC
end

section
namespace Go.VC
open Go.Proofs
abbrev AI(k:Nat):mG:=.s .z (.b (.l [(k,.one (.int .i64))] .z))
abbrev AJ(j k:Nat):mG:=.s .z (.b (.l [(j,.one (.slice)),(k,.one (.int .i64))] .z))
theorem aY[aB]{P:Program}{f:FuncId}{A:mG}{args:Array Value}{h:Heap}{R:Value->Heap->Prop}{W:Prop}(H:W)(e:W=fnW P f A args h R:=by kernel_rfl):Fn P f args h R:=fnI e H
end Go.VC
end

section
namespace Go.VC
open Go.RowKit
def Kp(n:Nat)(h h':Heap):Prop:=h.size<=h'.size/\∀k,k<n->h'[k]?=h[k]?
theorem Kp.trans{n:Nat}{a b c:Heap}(h:Kp n a b)(k:Kp n b c):Kp n a c:=⟨mn h.1 k.1,fun i hi=>(k.2 i hi).trans (h.2 i hi)⟩
theorem Kp.ext{h h':Heap}(hk:Kp h.size h h'):Ext h h':=hk
theorem Ext.kp{h h':Heap}(hE:Ext h h'){n:Nat}(hn:n<=h.size):Kp n h h':=⟨hE.1,fun k hk=>hE.2 k (by omega)⟩
theorem Kp.but{n b:Nat}{h h':Heap}(hb:kr b h h')(hn:n<=b):Kp n h h':=⟨by rw[hb.1];exact bc _,fun k hk=>hb.2 k (by omega)⟩
def Stp(b:Nat)(h h':Heap):Prop:=h.size<=h'.size/\∀k,k<h.size->k≠b->h'[k]?=h[k]?
theorem Stp.Gz{b:Nat}{h h':Heap}(hb:kr b h h'):Stp b h h':=⟨by rw[hb.1];exact bc _,fun k _ hk=>hb.2 k hk⟩
def cM(h:Heap)(base:Nat)(e:TypeId)(size:Nat)(s:Sl)(xs:List Value):Prop:=
  xs.length=s.n*size/\((s.a=none/\s.n=0/\s.c=0) \/
    ∃g cur,s.a=some ⟨g,0,none⟩/\base<=g/\h[g]?=some (.cells cur e (0,0))/\s.n<=s.c/\s.c<=maxLen/\cur.size=s.c*size/\cur.toList.take (s.n*size)=xs)
theorem cM.nil{h:Heap}{base:Nat}{e:TypeId}{size:Nat}:cM h base e size ⟨none,0,0⟩ []:=⟨by simp,.inl ⟨rfl,rfl,rfl⟩⟩
theorem cM.row{w:World}{base:Nat}{e:TypeId}{size:Nat}{s:Sl}{xs:List Value}(h:cM w.heap base e size s xs):w.ownsRow base e size (.slice s.a s.n s.c) s.n xs:=by
  obtain⟨h1,h2⟩:=h
  refine⟨h1,?_⟩
  rcases h2 with ⟨ha,hn,hc⟩ | ⟨g,cur,ha,hb,hh,hn,hc,hs,ht⟩
  . exact .inl ⟨by rw[ha,hn,hc],hn⟩
  . exact .inr ⟨g,s.c,cur,by rw[ha],hb,hh,hn,hc,hs,ht⟩
theorem cM.Gy{w:World}{base:Nat}{e:TypeId}{size:Nat}{v:Value}{n:Nat}{xs:List Value}(h:w.ownsRow base e size v n xs):
    ∃s:Sl,v=.slice s.a s.n s.c/\s.n=n/\cM w.heap base e size s xs:=by
  obtain⟨h1,h2⟩:=h
  rcases h2 with ⟨hv,hn⟩ | ⟨g,cap,cur,hv,hb,hh,hn,hc,hs,ht⟩
  . exact⟨⟨none,0,0⟩,hv,hn.symm,by rw[hn] at h1;exact⟨h1,.inl ⟨rfl,rfl,rfl⟩⟩⟩
  . exact⟨⟨some ⟨g,0,none⟩,n,cap⟩,hv,rfl,h1,.inr ⟨g,cur,rfl,hb,hh,hn,hc,hs,ht⟩⟩
theorem cM.kp{h h':Heap}{base:Nat}{e:TypeId}{size:Nat}{s:Sl}{xs:List Value}(ho:cM h base e size s xs)(hE:∀g,s.a=some ⟨g,0,none⟩->g<h.size->h'[g]?=h[g]?):cM h' base e size s xs:=by
  obtain⟨h1,h2⟩:=ho
  refine⟨h1,?_⟩
  rcases h2 with h2 | ⟨g,cur,ha,hb,hh,r⟩
  . exact .inl h2
  . exact .inr ⟨g,cur,ha,hb,by rw[hE g ha (yH.1 hh).1];exact hh,r⟩
theorem cM.hc{h:Heap}{base:Nat}{e:TypeId}{size:Nat}{s:Sl}{xs:List Value}(ho:cM h base e size s xs){g:Nat}(hg:s.a=some ⟨g,0,none⟩){i:Nat}{v:Value}(hv:xs[i]?=some v):hc h ⟨g,i,none⟩=some v:=by
  obtain⟨h1,h2⟩:=ho
  rcases h2 with ⟨ha,_⟩ | ⟨g',cur,ha,hb,hh,hn,hc,hs,ht⟩
  . rw[ha] at hg;cases hg
  . rw[ha] at hg;cases hg
    unfold VC.hc
    rw[hh]
    simp only[Option.isSome_none,Bool.false_eq_true,if_false]
    rw[<-ht] at hv
    rw[tQ] at hv
    split at hv
    . rw[<-Array.getElem?_toList];exact hv
    . cases hv
def cI(P:Program)(t e size bytes:Nat):Bool:=
  sliceB P t&&Nat.beq (elemOf P t) e&&kK P e&&((P.info? e).bind (·.zero)).isSome&&Nat.beq (bV P e).length size&&Nat.beq (a8 P e) size&&Nat.beq (xQ P e) bytes&&Nat.blt 0 size
end Go.VC
end
