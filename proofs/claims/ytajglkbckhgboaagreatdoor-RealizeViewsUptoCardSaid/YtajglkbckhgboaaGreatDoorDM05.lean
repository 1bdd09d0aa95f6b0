/- SxI0 SxJ0 SxK0 SxL0 SxO0 SxQ0 SxR0 SxT0 SxCa SxLsA SxX0 SxShelf SxSh SxStA SxG0 SxStB SxLi0 SxLi SxStub SxB SxC SxD SxE SxF SxG SxH SxI. -/
import Derived.Test.YtajglkbckhgboaaGreatDoorDM04
import Derived.Shelf.Strings.Split
import Derived.Shelf.Bits.Mul64
import Derived.Shelf.Spec.TrailingZeros
import Derived.Shelf.SlLaysF0
import Derived.Ground.NamesProg
import Derived.Ground.Names7Prog
import Derived.Ground.SlsfProg
import Derived.Lib.TrailingZeros
import Derived.Maps.AppendAt
set_option linter.all false
set_option maxRecDepth 100000
set_option maxHeartbeats 8000000

section
namespace Go.VC
theorem Gu{n:Int}(h0:0<=n)(h1:n<=18446744073709551615):IntKind.wrap .u64 n=n:=by
 simp[IntKind.wrap,IntKind.signed,IntKind.bits];omega
def aM(n:Int):List Value:=[.int .i64 n]
def wC(w:Nat):List Value:=[.int .u64 w]
def iR(ws:List Nat)(k:Nat):Bool:=(ws.getD (k/64) 0).testBit (k%64)
theorem LL{w k:Nat}(hk:k<64):lF .u64 (w:Int) (k:Int)=((w/2^k:Nat):Int):=by
 unfold lF;have e:min (Int.toNat (k:Int)) (IntKind.bits .u64)=k:=by simp[IntKind.bits];omega
 rw[e];show Int.fdiv (w:Int) ((2:Int)^k)=_;rw[show ((2:Int)^k)=((2^k:Nat):Int) by simp,Int.fdiv_eq_ediv_of_nonneg _ (Int.natCast_nonneg _)];rfl
theorem and_one{w:Nat}(hw:w<2^64):mH .u64 (w:Int) 1=((w%2:Nat):Int):=by
 unfold mH;have e:(BitVec.ofInt (IntKind.bits .u64) (w:Int)&&&BitVec.ofInt (IntKind.bits .u64) 1).toNat=w%2:=by
  show (BitVec.ofInt 64 (w:Int)&&&BitVec.ofInt 64 ((1:Nat):Int)).toNat=w%2;rw[BitVec.ofInt_natCast,BitVec.ofInt_natCast,BitVec.toNat_and,BitVec.toNat_ofNat,BitVec.toNat_ofNat,Nat.mod_eq_of_lt hw];exact Nat.and_one_is_mod w
 rw[e];exact Gu (by omega) (by omega)
theorem NN{w k:Nat}(hw:w<2^64)(hk:k<64):(mH .u64 (lF .u64 (w:Int) (k:Int)) 1==1)=w.testBit k:=by
 rw[LL hk,and_one (Nat.lt_of_le_of_lt (Nat.div_le_self _ _) hw),Nat.testBit_eq_decide_div_mod_eq];by_cases h:w/2^k%2=1
 .rw[h,decide_eq_true rfl];rfl
 .rw[decide_eq_false h];exact beq_eq_false_iff_ne.2 (by omega)
theorem LM{k:Nat}(hk:k<64):dW .u64 1 (k:Int)=((2^k:Nat):Int):=by
 unfold dW;have e:min (Int.toNat (k:Int)) (IntKind.bits .u64)=k:=by simp[IntKind.bits];omega
 rw[e,Int.one_mul];have h2:2^k<2^64:=Nat.pow_lt_pow_right (by omega) hk;rw[show ((2:Int)^k)=((2^k:Nat):Int) by simp];generalize 2^k=m at *;exact Gu (by omega) (by omega)
theorem Qg{a b:Nat}(ha:a<2^64)(hb:b<2^64):zy .u64 (a:Int) (b:Int)=((a|||b:Nat):Int):=by
 unfold zy;have e:(BitVec.ofInt (IntKind.bits .u64) (a:Int)|||BitVec.ofInt (IntKind.bits .u64) (b:Int)).toNat=a|||b:=by
  show (BitVec.ofInt 64 (a:Int)|||BitVec.ofInt 64 (b:Int)).toNat=_;rw[BitVec.ofInt_natCast,BitVec.ofInt_natCast,BitVec.toNat_or,BitVec.toNat_ofNat,BitVec.toNat_ofNat,Nat.mod_eq_of_lt ha,Nat.mod_eq_of_lt hb]
 rw[e];have:=Nat.or_lt_two_pow ha hb;exact Gu (by omega) (by omega)
theorem Jn{a b:Nat}(ha:a<2^64)(hb:b<2^64):FD .u64 (a:Int) (b:Int)=0 ↔ ∀k,k<64->a.testBit k=true->b.testBit k=true:=by
 have bt:(BitVec.ofNat 64 a &&& ~~~BitVec.ofNat 64 b).toNat<18446744073709551616:=(BitVec.ofNat 64 a &&& ~~~BitVec.ofNat 64 b).isLt;have key:FD .u64 (a:Int) (b:Int)=((BitVec.ofNat 64 a &&& ~~~BitVec.ofNat 64 b).toNat:Int):=by
  unfold FD;show IntKind.wrap .u64 ((BitVec.ofInt 64 (a:Int) &&& ~~~BitVec.ofInt 64 (b:Int)).toNat:Int)=_;rw[BitVec.ofInt_natCast,BitVec.ofInt_natCast];exact Gu (by omega) (by omega)
 rw[key];have ZV:∀k,k<64->(BitVec.ofNat 64 a &&& ~~~BitVec.ofNat 64 b).getLsbD k=(a.testBit k && !b.testBit k):=fun k hk=>by
  rw[BitVec.getLsbD_and,BitVec.getLsbD_not,BitVec.getLsbD_ofNat,BitVec.getLsbD_ofNat];simp[hk]
 constructor
 .intro h k hk hak;have h0:(BitVec.ofNat 64 a &&& ~~~BitVec.ofNat 64 b)=0#64:=BitVec.eq_of_toNat_eq (by rw[show (BitVec.ofNat 64 a &&& ~~~BitVec.ofNat 64 b).toNat=0 by omega];rfl);have:=ZV k hk;rw[h0,BitVec.getLsbD_zero,hak] at this;cases M9:b.testBit k
  .rw[M9] at this;cases this
  .rfl
 .intro h;have h0:(BitVec.ofNat 64 a &&& ~~~BitVec.ofNat 64 b)=0#64:=by
   apply BitVec.eq_of_getLsbD_eq;intro k hk;rw[ZV k hk,BitVec.getLsbD_zero];cases hak:a.testBit k
   .rfl
   .rw[h k hk hak];rfl
  rw[h0];rfl
theorem HJ{ws:List Nat}{n k:Nat}(hn:n/64<ws.length):iR (ws.set (n/64) (ws.getD (n/64) 0|||2^(n%64))) k=(decide (k=n)||iR ws k):=by
 unfold iR;by_cases h:k/64=n/64
 .rw[h,Yo,Yq hn];show Nat.testBit (ws.getD (n/64) 0|||2^(n%64)) (k%64)=_;rw[Nat.testBit_or,Nat.testBit_two_pow,Bool.or_comm];congr 1;by_cases h2:k=n
  .subst h2;simp
  .rw[decide_eq_false h2];simp only[decide_eq_false_iff_not];omega
 .rw[Yo,Yy (fun e=>h e.symm),<-Yo];have:k≠n:=fun e=>h (by rw[e]);simp[this]
theorem Ey(n k:Nat):iR (List.replicate n 0) k=false:=by
 unfold iR;rw[Yo,List.getElem?_replicate];split<;>simp
theorem Ez{ws:List Nat}{n:Nat}(h:∀i w,n<=i->ws[i]?=some w->w=0)(k:Nat):iR (ws.take n) k=iR ws k:=by
 unfold iR;rw[Yo,Yo,rO];split
 .rfl
 .rename_i hn;cases hw:ws[k/64]? with
  | none=>rfl
  | some w=>rw[h _ w (by omega) hw];simp
structure ie (h:Heap) (s:Sl) (p:Nat->Bool):Prop where
 ex:∃ws:List Nat,Rw h 1 s (ws.map wC)/\ws.length<=64/\(∀w∈ws,w<2^64)/\∀k,iR ws k=p k
theorem ie.ext{h h':Heap}{s:Sl}{p:Nat->Bool}(hs:ie h s p)(E:Ext h h'):ie h' s p:=by
 obtain⟨ws,h1,h2⟩:=hs.ex;exact⟨ws,h1.ext E,h2⟩
end Go.VC
end

section
namespace Go.VC
open Go.RowKit
structure Ev where
 send:Bool
 peer:Int
 label:Int
 deriving DecidableEq
def Ev.cs(x:Ev):List Value:=[.bool x.send,.int .i64 x.peer,.int .i64 x.label]
structure Ar where
 x:Ev
 to:Int
def Ar.cs(a:Ar):List Value:=[.bool a.x.send,.int .i64 a.x.peer,.int .i64 a.x.label,.int .i64 a.to]
def dv(s:Sl):List Value:=[.slice s.a s.n s.c]
def aG(role:Int)(x:Ed):Option Ev:=if role=x.a then some ⟨true,x.b,x.l⟩ else if role=x.b then some ⟨false,x.a,x.l⟩ else none
def dH(es:List Ed)(role:Int)(n:Nat):List Int:=es.filterMap fun x=>if x.f=(n:Int) then (match aG role x with | none=>some x.t | some _=>none) else none
def bS(es:List Ed)(role:Int)(n:Nat):List Ar:=es.filterMap fun x=>if x.f=(n:Int) then (aG role x).map fun e=>⟨e,x.t⟩ else none
theorem oh(es:List Ed)(role:Int)(n:Nat)(x:Ed):dH (es++[x]) role n=dH es role n++(if x.f=(n:Int) then (match aG role x with | none=>[x.t] | some _=>[]) else []):=by
 unfold dH;rw[List.filterMap_append];congr 1;by_cases h:x.f=(n:Int)
 .simp only[List.filterMap_cons,List.filterMap_nil,if_pos h];cases aG role x<;>rfl
 .simp only[List.filterMap_cons,List.filterMap_nil,if_neg h]
theorem sE(es:List Ed)(role:Int)(n:Nat)(x:Ed):bS (es++[x]) role n=bS es role n++(if x.f=(n:Int) then (match aG role x with | none=>[] | some e=>[⟨e,x.t⟩]) else []):=by
 unfold bS;rw[List.filterMap_append];congr 1;by_cases h:x.f=(n:Int)
 .simp only[List.filterMap_cons,List.filterMap_nil,if_pos h];cases aG role x<;>rfl
 .simp only[List.filterMap_cons,List.filterMap_nil,if_neg h]
def nest{α:Type}(e:TypeId)(k:Nat)(cs:α->List Value)(q:Sl × List α):It:=.sl q.1 e k (q.2.map cs)
theorem Bq{α:Type}{P R Q:List α}{i:Nat}(hi:i<Q.length)(x:α):(P++Q++R).set (P.length+i) x=P++Q.set i x++R:=by
 rw[Yz,List.set_append_right _ _ (by omega),Nat.add_sub_cancel_left,List.set_append_left _ _ hi,Yz]
theorem mo{α:Type}{P R Q:List α}{i:Nat}(hi:i<Q.length):(P++Q++R)[P.length+i]?=Q[i]?:=by
 rw[Yz,sz (by omega),Nat.add_sub_cancel_left,lg hi]
theorem St.iw{α:Type}{P:Program}{h0 h:Heap}{A B:List It}{Q:List (Sl × List α)}{e:TypeId}{n:Nat}{cs:α->List Value}(hs:St h0 h (A++Q.map (nest e n cs)++B)){i:Nat}{q:Sl × List α}(hi:Q[i]?=some q)
  {t bytes:Nat} (hT:cu P t e n bytes=true) (d:α) {a:Addr} (ha:aY h a (cs d)) (hn:(cs d).length=n) (h1:(cs d).all eF=true) (hb:(q.1.n+1)*bytes<=140737488355328) (oI:q.1.n+1<=maxLen)
  {K:Sl->Heap->Prop} (hK:∀(r:Sl) (h':Heap),r.n=q.1.n+1->St h0 h' (A++(Q.set i (r,q.2++[d])).map (nest e n cs)++B)->K r h') :
  App P t t (.slice q.1.a q.1.n q.1.c) (.slice (some a) 1 1) h K:=by
 have mc:i<Q.length:=(Ya.1 hi).1;have Iq:i<(Q.map (nest e n cs)).length:=by rw[Yc];exact mc
 refine hs.appended (A.length+i) (rows:=q.2.map cs) (by rw[mo Iq,Yd,hi];rfl) hT (news:=[cs d]) (by simpa using ha) rfl (fun r hr=>by rw[Ye] at hr;rw[hr];exact hn) (by simpa using h1) hb oI fun r h' l8 h3=>hK r h' l8 ?_;rw[Bq Iq] at h3;have e1:(Q.map (nest e n cs)).set i (.sl r e n (q.2.map cs++[cs d]))=(Q.set i (r,q.2++[d])).map (nest e n cs):=by
  rw[List.map_set];congr 1;unfold nest;simp
 rw[e1] at h3;exact h3
theorem St.aq{h0 h:Heap}{L:List It}(hs:St h0 h L){xs:List Value}{e:TypeId}{K:Heap->Prop}(hK:∀h2,Ext h h2->St h0 h2 (.af h.size xs e::L)->K h2):∀h2:Heap,h2=h.push (.cells ⟨xs⟩ e)->K h2:=
 VC.ao fun h2 E o=>hK h2 E (hs.more E (i:=.af h.size xs e) o fun b hb=>by cases hb;exact bu _)
theorem St.perm{h0 h:Heap}{L L':List It}(hs:St h0 h L)(hp:L.Perm L'):St h0 h L':=
 ⟨hs.ext,fun i hi=>hs.ok i (hp.mem_iff.2 hi),(hp.pairwise_iff (fun {a b} kj x hx hy=>kj x hy hx)).1 hs.ap⟩
theorem St.kh{α:Type}{h0 h:Heap}{A B:List It}{e:TypeId}{k:Nat}{cs:α->List Value}(hs:St h0 h (A++B)):∀n:Nat,St h0 h (A++(List.replicate n ((⟨.none,0,0⟩,[]):Sl × List α)).map (nest e k cs)++B)
 | 0=>by simpa using hs
 | n+1=>by
  have h1:=(hs.kh (α:=α) (e:=e) (k:=k) (cs:=cs) n).cn e k;refine h1.perm ?_;rw[List.replicate_succ,iM,Yz,Yz];have:nest e k cs ((⟨.none,0,0⟩,[]):Sl × List α)=.sl ⟨.none,0,0⟩ e k []:=rfl;rw[this];exact List.perm_middle.symm
theorem eJ{h h':Heap}:Sm [] h h':=fun a ha=>by cases ha
theorem bG{h h':Heap}{a:Addr}{al:List Addr}(hb:h'[a.block]?=h[a.block]?)(hr:Sm al h h'):Sm (a::al) h h':=by
 intro x hx k v hv;rcases Yr.1 hx with rfl | hx
 .rw[dQ (h:=h) (by rw[eZ];exact hb)];exact hv
 .exact hr x hx k v hv
theorem St.same{h0 h h':Heap}{L L':List It}(hs:St h0 h L)(cj:St h0 h' L')(k k':Nat){b:Nat}{xs:List Value}{e:TypeId}(hk:L[k]?=some (.af b xs e))(tu:L'[k']?=some (.af b xs e)):h'[b]?=h[b]?:=(cj.get tu).trans (hs.get hk).symm
structure PI (h:Heap) (p:Addr) (g:Gl) (role:Int):Prop where
 ex:∃(hq hv:Sl) (qs vs:Nat->Sl),p.spot=none/\aY h p (g.cs++[.int .i64 role,.slice hq.a hq.n hq.c,.slice hv.a hv.n hv.c])/\hq.n=g.n.toNat/\hv.n=g.n.toNat /\
  Rw h 1 hq ((List.range g.n.toNat).map fun i=>dv (qs i))/\Rw h 1 hv ((List.range g.n.toNat).map fun i=>dv (vs i)) /\
  (∀i,i<g.n.toNat->Rw h 1 (qs i) ((dH g.es role i).map aM))/\∀i,i<g.n.toNat->Rw h 4 (vs i) ((bS g.es role i).map Ar.cs)
theorem PI.ext{h h':Heap}{p:Addr}{g:Gl}{role:Int}(hl:PI h p g role)(E:Ext h h'):PI h' p g role:=by
 obtain⟨hq,hv,qs,vs,h0,h1,h2,h3,h4,h5,h6,h7⟩:=hl.ex;exact⟨hq,hv,qs,vs,h0,dE E h1,h2,h3,h4.ext E,h5.ext E,fun i hi=>(h6 i hi).ext E,fun i hi=>(h7 i hi).ext E⟩
end Go.VC
end

section
namespace Go.VC
theorem uL{α β:Type}(f:α->β)(L:List α)(i:Nat):(L.map f)[i]?=(L[i]?).map f:=Yd
theorem cI{α:Type}(f:α->Value){L:List α}{i:Nat}(hi:i<L.length)(y:α):aA (L.map f) i [f y]=(L.set i y).map f:=by
 unfold aA;rw[List.map_set,List.set_eq_take_append_cons_drop,if_pos (by rw[Yc];exact hi)];simp
inductive Qr (es:List Ed) (role:Int) (l:List Int):Int->Prop where
 | base {a:Int}:a∈l->Qr es role l a
 | step {a b:Int}:Qr es role l a->(∃x∈es,aG role x=none/\x.f=a/\x.t=b)->Qr es role l b
theorem Qr.mono{es:List Ed}{role:Int}{l l':List Int}(h:∀x∈l,x∈l'){a:Int}(ha:Qr es role l a):Qr es role l' a:=by
 induction ha with
 | base hm=>exact .base (h _ hm)
 | step _ hx ih=>exact .step ih hx
structure CL (es:List Ed) (role:Int) (n:Nat) (l:List Int) (D:List Bool) (T:List Int):Prop where
 len:D.length=n
 Gn:T.length=D.count true
 mem:∀v,v∈T ↔ 0<=v/\D[v.toNat]?=some true
 r:∀v∈T,Qr es role l v
theorem CL.start(es:List Ed)(role:Int)(n:Nat)(l:List Int):CL es role n l (List.replicate n false) []:=by
 refine⟨by rw[Yg],by rw[List.count_replicate];rfl,fun v=>⟨fun h=>(by cases h),fun ⟨_,h⟩=>?_⟩,fun v h=>by cases h⟩;have:=List.eq_of_mem_replicate (Yb h);cases this
theorem CL.push{es:List Ed}{role:Int}{n:Nat}{l:List Int}{D:List Bool}{T:List Int}(h:CL es role n l D T){b:Int}(h0:0<=b)(hb:D[b.toNat]?=some false)(hr:Qr es role l b):CL es role n l (D.set b.toNat true) (T++[b]):=by
 have yW:=(Ya.1 hb).1;have Fh:=(Ya.1 hb).2;refine⟨by rw[lh];exact h.len,?_,fun v=>?_,fun v hv=>?_⟩
 .rw[List.count_set yW,Fh,Yh,h.Gn];rfl
 .rw[Yk,Ye,h.mem];constructor
  .rintro (⟨h1,h2⟩ | rfl)
   .refine⟨h1,?_⟩;by_cases e:b.toNat=v.toNat
    .rw[e,Yq (by omega)]
    .rw[Yy e];exact h2
   .exact⟨h0,by rw[Yq yW]⟩
  .rintro⟨h1,h2⟩;by_cases e:b.toNat=v.toNat
   .right;omega
   .left;rw[Yy e] at h2;exact⟨h1,h2⟩
 .rcases Yk.1 hv with hv | hv
  .exact h.r v hv
  .rw[Ye] at hv;rw[hv];exact hr
theorem CL.le{es:List Ed}{role:Int}{n:Nat}{l:List Int}{D:List Bool}{T:List Int}(h:CL es role n l D T):T.length<=n:=by
 rw[h.Gn,<-h.len];exact List.count_le_length
theorem ir{es:List Ed}{role:Int}{n:Nat}{b:Int}:b∈dH es role n ↔ ∃x∈es,aG role x=none/\x.f=n/\x.t=b:=by
 unfold dH;rw[vT];constructor
 .rintro⟨x,hx,h⟩;split at h
  .rename_i hf;cases hv:aG role x with
   | none=>rw[hv] at h;exact⟨x,hx,hv,hf,eP h⟩
   | some e=>rw[hv] at h;cases h
  .cases h
 .rintro⟨x,hx,hv,hf,rfl⟩;exact⟨x,hx,by rw[if_pos hf,hv]⟩
theorem CL.end_{es:List Ed}{role:Int}{n:Nat}{l:List Int}{D:List Bool}{T:List Int}(h:CL es role n l D T)(hl:∀x∈l,x∈T)(hc:∀v∈T,∀b∈dH es role v.toNat,b∈T)(v:Int):v∈T ↔ Qr es role l v:=by
 refine⟨h.r v,fun hq=>?_⟩
 induction hq with
 | base hm=>exact hl _ hm
 | @step a b _ hx ih=>
  obtain⟨x,hx,hv,hf,rfl⟩:=hx;exact hc _ ih _ (ir.2 ⟨x,hx,hv,by have:=((h.mem a).1 ih).1;omega,rfl⟩)
noncomputable def eD(es:List Ed)(role:Int)(l:List Int):Nat->Bool:=fun j=>by classical exact decide (Qr es role l (j:Int))
theorem bK{es:List Ed}{role:Int}{l:List Int}{j:Nat}:eD es role l j=true ↔ Qr es role l (j:Int):=by unfold eD;simp
def cB(x y:Int):Int:=if x<y then -1 else if x>y then 1 else 0
def dI(x y:Int):Int:=if x≠0 then x else y
def jx(x y:Ev):Int:=if x.send≠y.send then (if x.send then -1 else 1) else dI (cB x.peer y.peer) (cB x.label y.label)
def cy(x y:Ev):Prop:=(x.send=true/\y.send=false)\/(x.send=y.send/\(x.peer<y.peer\/(x.peer=y.peer/\x.label<y.label)))
instance (x y:Ev):Decidable (cy x y):=by unfold cy;infer_instance
theorem jw{x y:Ev}:jx x y<0 ↔ cy x y:=by
 unfold jx cy dI cB;obtain⟨s,p,l⟩:=x;obtain⟨t,q,m⟩:=y;cases s<;>cases t<;>simp<;>(repeat' split)<;>omega
theorem Jb{x y:Ev}(h1:x.send=y.send)(h2:x.peer=y.peer)(h3:x.label=y.label):x=y:=by
 obtain⟨s,p,l⟩:=x;obtain⟨t,q,m⟩:=y
 simp_all
theorem my(x:Ev):¬cy x x:=by unfold cy;intro h;rcases h with ⟨h1,h2⟩ | ⟨_,h | ⟨_,h⟩⟩<;>first | (rw[h1] at h2;cases h2) | omega
theorem iG{x y z:Ev}(h1:cy x y)(h2:cy y z):cy x z:=by
 unfold cy at *;obtain⟨s,p,l⟩:=x;obtain⟨t,q,m⟩:=y;obtain⟨u,r,n⟩:=z;cases s<;>cases t<;>cases u<;>simp_all<;>omega
theorem xV(x y:Ev):cy x y\/x=y\/cy y x:=by
 unfold cy;obtain⟨s,p,l⟩:=x;obtain⟨t,q,m⟩:=y;cases s<;>cases t<;>simp<;>omega
def aL:List Ev->List Ev
 | []=>[]
 | x::r=>match aL r with
  | []=>[x]
  | y::t=>if x=y then y::t else x::y::t
theorem fm:∀(l:List Ev) (x:Ev),x∈aL l ↔ x∈l
 | [],x=>by simp[aL]
 | a::r,x=>by
  have ih:=fm r;rw[aL];split
  .rename_i h;rw[h] at ih;have:=ih x
   simp_all
  .rename_i y t h;rw[h] at ih;have h1:=ih x;split
   .rename_i e;subst e;have h2:=(ih a).1 (by simp);rw[h1];simp only[Yr];constructor
    .exact .inr
    .rintro (rfl | h)
     .exact h2
     .exact h
   .rw[Yr,h1,Yr]
theorem iL:∀(l:List Ev),l.Pairwise (fun a b=>¬cy b a)->(aL l).Pairwise cy
 | [],_=>by simp[aL]
 | a::r,h=>by
  obtain⟨h1,h2⟩:=List.pairwise_cons.1 h;have ih:=iL r h2;rw[aL];split
  .simp
  .rename_i y t hc;rw[hc] at ih;split
   .exact ih
   .rename_i bI;refine List.pairwise_cons.2 ⟨fun z hz=>?_,ih⟩;have hay:cy a y:=by
     have hy:y∈r:=(fm r y).1 (by rw[hc];simp);rcases xV a y with h3 | h3 | h3
     .exact h3
     .exact absurd h3 bI
     .exact absurd h3 (h1 y hy)
    rcases Yr.1 hz with rfl | hz
    .exact hay
    .exact iG hay ((List.pairwise_cons.1 ih).1 z hz)
theorem fB:∀(l m:List Ev),l.Pairwise cy->m.Pairwise cy->(∀x,x∈l ↔ x∈m)->l=m
 | [],[],_,_,_=>rfl
 | [],b::m,_,_,h=>absurd ((h b).2 (by simp)) (by simp)
 | a::l,[],_,_,h=>absurd ((h a).1 (by simp)) (by simp)
 | a::l,b::m,hl,hm,h=>by
  obtain⟨h1,h2⟩:=List.pairwise_cons.1 hl;obtain⟨h3,h4⟩:=List.pairwise_cons.1 hm;have kj:a=b:=by
   rcases Yr.1 ((h a).1 (by simp)) with e | ha
   .exact e
   .rcases Yr.1 ((h b).2 (by simp)) with e | hb
    .exact e.symm
    .exact absurd (iG (h1 b hb) (h3 a ha)) (my a)
  subst kj;congr 1;refine fB l m h2 h4 fun x=>?_;have hx:=h x;rw[Yr,Yr] at hx;constructor
  .intro oC;rcases hx.1 (.inr oC) with rfl | h5
   .exact absurd (h1 x oC) (my x)
   .exact h5
  .intro oC;rcases hx.2 (.inr oC) with rfl | h5
   .exact absurd (h3 x oC) (my x)
   .exact h5
def fK(x:Ev):List Ev->List Ev
 | []=>[x]
 | y::r=>if cy y x then y::fK x r else if x=y then y::r else x::y::r
theorem l4(x z:Ev):∀l:List Ev,z∈fK x l ↔ z=x\/z∈l
 | []=>by simp[fK]
 | y::r=>by
  rw[fK];split
  .rw[Yr,l4 x z r,Yr];constructor
   .rintro (h | h | h)
    .exact .inr (.inl h)
    .exact .inl h
    .exact .inr (.inr h)
   .rintro (h | h | h)
    .exact .inr (.inl h)
    .exact .inl h
    .exact .inr (.inr h)
  .split
   .rename_i e;subst e;simp
   .simp
theorem jq(x:Ev):∀l:List Ev,l.Pairwise cy->(fK x l).Pairwise cy
 | [],_=>by simp[fK]
 | y::r,h=>by
  obtain⟨h1,h2⟩:=List.pairwise_cons.1 h;rw[fK];split
  .rename_i hyx;refine List.pairwise_cons.2 ⟨fun z hz=>?_,jq x r h2⟩;rcases (l4 x z r).1 hz with rfl | hz
   .exact hyx
   .exact h1 z hz
  .split
   .exact h
   .rename_i hyx bI;have XD:cy x y:=by
     rcases xV x y with h3 | h3 | h3
     .exact h3
     .exact absurd h3 bI
     .exact absurd h3 hyx
    refine List.pairwise_cons.2 ⟨fun z hz=>?_,h⟩;rcases Yr.1 hz with rfl | hz
    .exact XD
    .exact iG XD (h1 z hz)
def jd(l:List Ev):List Ev:=l.foldr fK []
theorem fq(l:List Ev)(x:Ev):x∈jd l ↔ x∈l:=by
 unfold jd
 induction l with
 | nil=>simp
 | cons a l ih=>rw[List.foldr_cons,l4,ih,Yr]
theorem dm(l:List Ev):(jd l).Pairwise cy:=by
 unfold jd
 induction l with
 | nil=>simp
 | cons a l ih=>exact jq a _ ih
theorem kr{l l':List Ev}(hp:l'.Perm l)(hs:l'.Pairwise fun a b=>¬cy b a):aL l'=jd l:=
 fB _ _ (iL l' hs) (dm l) fun x=>by rw[fm,fq,hp.mem_iff]
def elems(p:Nat->Bool):List Nat:=(List.range 4096).filter p
theorem br{p:Nat->Bool}{j:Nat}:j∈elems p ↔ j<4096/\p j=true:=by unfold elems;rw[List.mem_filter,List.mem_range]
def jZ(es:List Ed)(role:Int)(p:Nat->Bool)(x:Ev):List Int:=(elems p).flatMap fun n=>(bS es role n).filterMap fun a=>if a.x=x then some a.to else none
def Pq(es:List Ed)(role:Int)(p:Nat->Bool):List Ev:=(elems p).flatMap fun n=>(bS es role n).map (·.x)
def j8(es:List Ed)(role:Int)(p:Nat->Bool):List Ev:=jd (Pq es role p)
end Go.VC
end

section
namespace Go.VC
structure Mv where
 f:Int
 send:Bool
 peer:Int
 label:Int
 t:Int
 ag:Bool
 deriving DecidableEq
def Mv.cs(m:Mv):List Value:=[.int .i64 m.f,.bool m.send,.int .i64 m.peer,.int .i64 m.label,.int .i64 m.t,.bool m.ag]
abbrev aX:=Nat->Bool
open Classical in
noncomputable def fe:List aX->aX->Nat
 | [],_=>0
 | q::r,p=>if q=p then 0 else fe r p+1
open Classical in
noncomputable def fW(S:List aX)(p:aX):List aX:=if p∈S then S else S++[p]
theorem pM{S:List aX}{p:aX}:fe S p<S.length ↔ p∈S:=by
 induction S with
 | nil=>simp[fe]
 | cons q r ih=>
  rw[fe,Yr];split
  .rename_i h;simp[h]
  .rename_i h;rw[jC];constructor
   .intro h1;exact .inr (ih.1 (by omega))
   .rintro (h1 | h1)
    .exact absurd h1.symm h
    .have:=ih.2 h1;omega
theorem jf{S:List aX}{p:aX}(h:p∉S):fe S p=S.length:=by
 induction S with
 | nil=>rfl
 | cons q r ih=>
  rw[Yr,not_or] at h;rw[fe,if_neg (fun e=>h.1 e.symm),ih h.2,jC]
theorem qm{S:List aX}{p:aX}{i:Nat}(hi:S[i]?=some p)(h:∀(j:Nat) (q:aX),j<i->S[j]?=some q->q≠p):fe S p=i:=by
 induction S generalizing i with
 | nil=>simp at hi
 | cons q r ih=>
  cases i with
  | zero=>simp at hi;rw[fe,if_pos hi]
  | succ i=>
   rw[fe,if_neg (h 0 q (by omega) rfl),ih (by simpa using hi) fun j q' hj hq=>h (j+1) q' (by omega) (by simpa using hq)]
noncomputable def cH(es:List Ed)(role:Int)(i:Nat)(p:aX):List Ev->List aX->List Mv->List aX × List Mv
 | [],S,M=>(S,M)
 | x::r,S,M=>cH es role i p r (fW S (eD es role (jZ es role p x))) (M++[⟨i,x.send,x.peer,x.label,fe S (eD es role (jZ es role p x)),false⟩])
noncomputable def du(es:List Ed)(role:Int):Nat->Nat->List aX->List Mv->Option (List aX × List Mv)
 | 0,_,_,_=>none
 | f+1,i,S,M=>match S[i]? with
  | none=>some (S,M)
  | some p=>if (cH es role i p (j8 es role p) S M).1.length>200 then none else du es role f (i+1) (cH es role i p (j8 es role p) S M).1 (cH es role i p (j8 es role p) S M).2
noncomputable def views(g:Gl)(role:Int):Option (List aX × List Mv):=du g.es role 202 0 [eD g.es role [g.s]] []
end Go.VC
end

section
namespace Go.VC
structure Ti where
 ag:Bool
 k:Int
 x:Ev
 deriving DecidableEq
def Ti.cs(t:Ti):List Value:=[.bool t.ag,.int .i64 t.k,.bool t.x.send,.int .i64 t.x.peer,.int .i64 t.x.label]
def Oj:Ti:=⟨false,0,⟨false,0,0⟩⟩
def rX(T:List Ti)(n:Nat)(f:Ti->Ti):List Ti:=match T[n]? with | some t=>T.set n (f t) | none=>T
def uu(role:Int)(s:List Bool × List Ti)(x:Ed):List Bool × List Ti:=
 if x.a=role then (s.1.set x.f.toNat true,rX s.2 x.f.toNat fun t=>{ t with ag:=x.ag }) else s
def wP(es:List Ed)(O:List Bool)(T:List Ti)(t:To):List Ti:=
 match O[t.s.toNat]?,es[t.e.toNat]? with
 | some true,some x=>rX T t.s.toNat fun q=>⟨q.ag,t.k,⟨true,x.b,x.l⟩⟩
 | _,_=>T
def ur(es:List Ed)(role:Int)(n:Nat):List Bool × List Ti:=es.foldl (uu role) (List.replicate n false,List.replicate n Oj)
def D8(es:List Ed)(ts:List To)(role:Int)(n:Nat):List Ti:=ts.foldl (wP es (ur es role n).1) (ur es role n).2
def a8(L:List Ev)(i:Nat):Bool:=match L[i]? with | some x=>x.send | none=>false
def agi(F:Nat->List Ev)(en:Nat->Bool)(l:List Nat)(n:Nat):Bool:=a8 (F n) 0&&(en n || !a8 (F n) ((F n).length-1)||l.any fun k=>en k||decide (F n≠F k))
def W9(F:Nat->List Ev)(en:Nat->Bool)(O:List Bool)(T:List Ti)(l:List Nat)(st:Option (Bool × Ti))(n:Nat):Option (Bool × Ti):=
 match st with
 | none=>none
 | some (k,o)=>if agi F en l n then none else match O[n]?,T[n]? with
  | some true,some t=>if k&&decide (t≠o) then none else some (true,t)
  | _,_=>some (k,o)
def UQ(F:Nat->List Ev)(en:Nat->Bool)(O:List Bool)(T:List Ti)(l:List Nat):Option Ti:=(l.foldl (W9 F en O T l) (some (false,Oj))).map Prod.snd
structure mL where
 role:Int
 n:Int
 s:Int
 fin:List Bool
 mv:List Mv
 li:List To
def adI(n:Nat)(x:Ti)(y:Mv):Mv:=if y.f=n/\y.send=true then { y with ag:=x.ag } else y
def adZ(n:Nat)(x:Ti)(q:Mv × Nat):Option To:=if q.1.f=n/\q.1.send=true/\x.k>0/\x.x=⟨true,q.1.peer,q.1.label⟩ then some ⟨n,x.k,q.2⟩ else none
def adY(n:Nat)(x:Ti)(M:List Mv):List To:=M.zipIdx.filterMap (adZ n x)
def Xd(vw:List Nat->Option Ti):Nat->List aX->List Mv->List To->Option (List Mv × List To)
 | _,[],M,L=>some (M,L)
 | n,p::S,M,L=>match vw (elems p) with
  | none=>none
  | some x=>Xd vw (n+1) S (M.map (adI n x)) (L++adY n x M)
end Go.VC
end

section
namespace Go.VC
section
variable {K K':Type} [DecidableEq K] [DecidableEq K']
end
structure Sg where
 b:Int
 k:Int
 x:Ev
 ag:Bool
 num:Int
 deriving DecidableEq
def Sg.v(s:Sg):Value:=.agg ⟨[.int .i64 s.b,.int .i64 s.k,.bool s.x.send,.int .i64 s.x.peer,.int .i64 s.x.label,.bool s.ag,.int .i64 s.num]⟩
def Mv.ev(x:Mv):Ev:=⟨x.send,x.peer,x.label⟩
end Go.VC
end

section
namespace Go.VC
open Go.Proofs Go.LexS
namespace M
theorem bX(L:List Int):∀r∈L.map aM,r.length=1:=fun r hr=>by obtain⟨x,_,rfl⟩:=Yp.1 hr;rfl
end M
variable [aB]
namespace M
theorem qG(x:Int)(h:Heap):Fn Pz 111 #[.int .i64 x] h fun v h'=>v=.bool false/\h'=h:=by
 apply GB;unfold JS;exact⟨by rw[bne_self_eq_false],rfl⟩
theorem eC(x y:Int)(h:Heap):Fn Pz 54 #[.int .i64 x,.int .i64 y] h fun v h'=>v=.int .i64 (cB x y)/\h'=h:=by
 apply PT;unfold Z8;refine (qG x h).mono ?_;rintro _ _ ⟨rfl,rfl⟩;refine⟨_,rfl,?_⟩;refine (qG y _).mono ?_;rintro _ _ ⟨rfl,rfl⟩;refine⟨_,rfl,?_⟩;refine im rfl (im rfl ?_);unfold cB;refine aQ (fun c=>?_) (fun c=>aQ (fun d=>?_) (fun d=>?_))
 .exact⟨by rw[if_pos c],rfl⟩
 .exact⟨by rw[if_neg c,if_pos d],rfl⟩
 .exact⟨by rw[if_neg c,if_neg d],rfl⟩
theorem qD(l:List Int)(s:Sl)(h:Heap)(hr:Rw h 1 s (l.map aM))(hm:l.length<=1048576):
  Fn Pz 53 #[.slice s.a s.n s.c] h fun v h'=>v=.int .i64 (l.foldr dI 0)/\h'=h:=by
 apply PU;unfold Z9;have hn:=hr.ln;refine bU (n:=s.n) (fun i h'=>h'=h/\l.foldr dI 0=(l.drop i).foldr dI 0) ⟨rfl,rfl⟩ ?_;rintro-i h5 hi ⟨rfl,hq⟩;refine aa (fun l2=>?_) (fun l2=>?_)
 .replace l2:=bw l2;refine hr.ax (by omega) (by omega) fun b o d g t=>?_;replace g:l[i]?=some d:=g;have hd:l.drop i=d::l.drop (i+1):=by
   obtain⟨hl,he⟩:=Ya.1 g;rw[List.drop_eq_getElem_cons hl,he]
  rw[hd,List.foldr_cons] at hq;refine⟨_,t.hd,?_⟩;refine dY (fun c=>?_) (fun c=>?_)
  .refine⟨?_,rfl⟩;rw[hq];unfold dI;rw[if_pos c]
  .refine Up.next l2 (by omega) ⟨rfl,?_⟩;rw[hq];unfold dI;rw[if_neg (by omega)]
 .replace l2:=bz l2;rw[List.drop_eq_nil_of_le (by omega)] at hq;exact⟨by rw[hq];rfl,rfl⟩
theorem rh(x y:Ev)(h:Heap):Fn Pz 125 #[.agg ⟨x.cs⟩,.agg ⟨y.cs⟩] h fun v h'=>v=.int .i64 (jx x y)/\Ext h h':=by
 apply GA x.send x.peer x.label y.send y.peer y.label;unfold JR;have hs:=St.refl h;refine hs.ao fun h7 hs=>?_;refine hs.ao fun h8 hs=>?_;refine⟨_,hs.rd 1 rfl rfl,?_⟩;refine⟨_,hs.rd 0 rfl rfl,?_⟩;refine aa (fun c=>?_) (fun c=>?_)
 .have bI:x.send≠y.send:=by simpa using c
  refine⟨_,hs.rd 1 rfl rfl,?_⟩;unfold jx;rw[if_pos bI];refine aa (fun d=>?_) (fun d=>?_)
  .exact⟨by rw[if_pos d],hs.ext⟩
  .exact⟨by rw[if_neg (by rw[d];simp)],hs.ext⟩
 .have he:x.send=y.send:=by simpa using c
  refine⟨_,hs.rd 1 rfl rfl,_,hs.rd 0 rfl rfl,_,hs.rd 1 rfl rfl,_,hs.rd 0 rfl rfl,?_⟩;refine (eC _ _ _).mono ?_;rintro _ _ ⟨rfl,rfl⟩;refine⟨_,rfl,fun _ _ _ _ hv=>hv,?_⟩;refine (eC _ _ _).mono ?_;rintro _ _ ⟨rfl,rfl⟩;refine⟨_,rfl,fun _ _ _ _ hv=>hv,?_⟩;refine hs.ao fun cR hs=>?_;have bQ:=hs.dz 2 1 ([cB x.peer y.peer,cB x.label y.label].map aM) rfl (bX _) rfl (by decide);refine (qD [cB x.peer y.peer,cB x.label y.label] _ cR (bQ.rows 0 rfl (by omega)) (show 2<=1048576 by decide)).mono ?_;rintro _ _ ⟨rfl,rfl⟩;refine⟨_,rfl,?_,hs.ext⟩;unfold jx;rw[if_neg (by simpa using he)];show Value.int .i64 (dI _ (dI _ 0))=_;congr 1;unfold dI;split
  .rfl
  .split<;>omega
end M
end Go.VC
end

section
namespace Go.VC
open Go.Proofs Go.LexS
structure Ms where
 p:Int
 l:Int
 deriving DecidableEq
def Ms.cs(x:Ms):List Value:=[.int .i64 x.p,.int .i64 x.l]
structure Ac where
 a:Int
 b:Int
 l:Int
 deriving DecidableEq
def Ac.cs(x:Ac):List Value:=[.int .i64 x.a,.int .i64 x.b,.int .i64 x.l]
def Ed.act(x:Ed):Ac:=⟨x.a,x.b,x.l⟩
def yf(x y:Ms):Int:=dI (cB x.p y.p) (dI (cB x.l y.l) 0)
def NK(x y:Ac):Int:=dI (cB x.a y.a) (dI (cB x.b y.b) (dI (cB x.l y.l) 0))
def ri(x y:Ed):Int:=NK x.act y.act
def dd(x y:Ms):Prop:=x.p<y.p\/(x.p=y.p/\x.l<y.l)
instance (x y:Ms):Decidable (dd x y):=by unfold dd;infer_instance
def acLt(x y:Ac):Prop:=x.a<y.a\/(x.a=y.a/\(x.b<y.b\/(x.b=y.b/\x.l<y.l)))
instance (x y:Ac):Decidable (acLt x y):=by unfold acLt;infer_instance
theorem jT{x y:Ms}:yf x y<0 ↔ dd x y:=by
 unfold yf dd dI cB
 repeat' split
 all_goals omega
theorem mD{x y:Ac}:NK x y<0 ↔ acLt x y:=by
 unfold NK acLt dI cB
 repeat' split
 all_goals omega
variable [aB]
namespace M
theorem oQ(x y:Ev)(h:Heap):Fn Pz 185 #[.agg ⟨x.cs⟩,.agg ⟨y.cs⟩] h fun v h'=>v=.int .i64 (jx x y)/\Ext h h':=by
 apply Gz x.send x.peer x.label y.send y.peer y.label;unfold JQ;have hs:=St.refl h;refine hs.ao fun h7 hs=>?_;refine hs.ao fun h8 hs=>?_;refine⟨_,hs.rd 1 rfl rfl,?_⟩;refine⟨_,hs.rd 0 rfl rfl,?_⟩;refine aa (fun c=>?_) (fun c=>?_)
 .have bI:x.send≠y.send:=by simpa using c
  refine⟨_,hs.rd 1 rfl rfl,?_⟩;unfold jx;rw[if_pos bI];refine aa (fun d=>?_) (fun d=>?_)
  .exact⟨by rw[if_pos d],hs.ext⟩
  .exact⟨by rw[if_neg (by rw[d];simp)],hs.ext⟩
 .have he:x.send=y.send:=by simpa using c
  refine⟨_,hs.rd 1 rfl rfl,_,hs.rd 0 rfl rfl,_,hs.rd 1 rfl rfl,_,hs.rd 0 rfl rfl,?_⟩;refine (eC _ _ _).mono ?_;rintro _ _ ⟨rfl,rfl⟩;refine⟨_,rfl,fun _ _ _ _ hv=>hv,?_⟩;refine (eC _ _ _).mono ?_;rintro _ _ ⟨rfl,rfl⟩;refine⟨_,rfl,fun _ _ _ _ hv=>hv,?_⟩;refine hs.ao fun cR hs=>?_;have bQ:=hs.dz 2 1 ([cB x.peer y.peer,cB x.label y.label].map aM) rfl (bX _) rfl (by decide);refine (qD [cB x.peer y.peer,cB x.label y.label] _ cR (bQ.rows 0 rfl (by omega)) (show 2<=1048576 by decide)).mono ?_;rintro _ _ ⟨rfl,rfl⟩;refine⟨_,rfl,?_,hs.ext⟩;unfold jx;rw[if_neg (by simpa using he)];show Value.int .i64 (dI _ (dI _ 0))=_;congr 1;unfold dI;split
  .rfl
  .split<;>omega
theorem NI(x y:Ms)(h:Heap):Fn Pz 70 #[.agg ⟨x.cs⟩,.agg ⟨y.cs⟩] h fun v h'=>v=.int .i64 (yf x y)/\Ext h h':=by
 apply acX x.p x.l y.p y.l;unfold W70;have hs:=St.refl h;refine hs.ao fun h7 hs=>?_;refine hs.ao fun h8 hs=>?_;refine⟨_,hs.rd 1 rfl rfl,_,hs.rd 0 rfl rfl,_,hs.rd 1 rfl rfl,_,hs.rd 0 rfl rfl,?_⟩;refine (eC _ _ _).mono ?_;rintro _ _ ⟨rfl,rfl⟩;refine⟨_,rfl,fun _ _ _ _ hv=>hv,?_⟩;refine (eC _ _ _).mono ?_;rintro _ _ ⟨rfl,rfl⟩;refine⟨_,rfl,fun _ _ _ _ hv=>hv,?_⟩;refine hs.ao fun cR hs=>?_;have bQ:=hs.dz 2 1 ([cB x.p y.p,cB x.l y.l].map aM) rfl (bX _) rfl (by decide);refine (qD [cB x.p y.p,cB x.l y.l] _ cR (bQ.rows 0 rfl (by omega)) (show 2<=1048576 by decide)).mono ?_;rintro _ _ ⟨rfl,rfl⟩;exact⟨_,rfl,rfl,hs.ext⟩
theorem Hs(x y:Ac)(h:Heap):Fn Pz 130 #[.agg ⟨x.cs⟩,.agg ⟨y.cs⟩] h fun v h'=>v=.int .i64 (NK x y)/\Ext h h':=by
 apply WB x.a x.b x.l y.a y.b y.l;unfold abP;have hs:=St.refl h;refine hs.ao fun h7 hs=>?_;refine hs.ao fun h8 hs=>?_;refine⟨_,hs.rd 1 rfl rfl,_,hs.rd 0 rfl rfl,_,hs.rd 1 rfl rfl,_,hs.rd 0 rfl rfl,_,hs.rd 1 rfl rfl,_,hs.rd 0 rfl rfl,?_⟩;refine (eC _ _ _).mono ?_;rintro _ _ ⟨rfl,rfl⟩;refine⟨_,rfl,fun _ _ _ _ hv=>hv,?_⟩;refine (eC _ _ _).mono ?_;rintro _ _ ⟨rfl,rfl⟩;refine⟨_,rfl,fun _ _ _ _ hv=>hv,?_⟩;refine (eC _ _ _).mono ?_;rintro _ _ ⟨rfl,rfl⟩;refine⟨_,rfl,fun _ _ _ _ hv=>hv,?_⟩;refine hs.ao fun cR hs=>?_;have bQ:=hs.dz 3 1 ([cB x.a y.a,cB x.b y.b,cB x.l y.l].map aM) rfl (bX _) rfl (by decide);refine (qD [cB x.a y.a,cB x.b y.b,cB x.l y.l] _ cR (bQ.rows 0 rfl (by omega)) (show 3<=1048576 by decide)).mono ?_;rintro _ _ ⟨rfl,rfl⟩;exact⟨_,rfl,rfl,hs.ext⟩
theorem NJ(x y:Ed)(h:Heap):Fn Pz 129 #[.agg ⟨x.cs⟩,.agg ⟨y.cs⟩] h fun v h'=>v=.int .i64 (ri x y)/\Ext h h':=by
 apply WC x.f x.a x.b x.l x.t x.ag y.f y.a y.b y.l y.t y.ag;unfold abQ;have hs:=St.refl h;refine hs.ao fun h7 hs=>?_;refine hs.ao fun h8 hs=>?_;refine⟨x.a,x.b,x.l,hs.at 1 rfl (o:=1) (n:=3) rfl,y.a,y.b,y.l,hs.at 0 rfl (o:=1) (n:=3) rfl,?_⟩;refine (Hs x.act y.act h8).mono ?_;rintro _ nM ⟨rfl,E⟩;exact⟨_,rfl,rfl,(hs.step E).ext⟩
end M
end Go.VC
end

section
namespace Go.VC
def setOf(L:List Nat):aX:=fun j=>decide (j∈L)
def Can(n:Nat)(L:List Nat):Prop:=L=(List.range n).filter fun j=>decide (j∈L)
theorem Can.mk(n:Nat)(p:Nat->Bool):Can n ((List.range n).filter p):=by
 unfold Can;apply List.filter_congr;intro x hx;by_cases hm:x∈(List.range n).filter p
 .rw[decide_eq_true hm];exact (List.mem_filter.1 hm).2
 .rw[decide_eq_false hm];cases hp:p x
  .rfl
  .exact absurd (List.mem_filter.2 ⟨hx,hp⟩) hm
theorem Can.lt{n:Nat}{L:List Nat}(h:Can n L):∀j∈L,j<n:=by
 intro j hj;rw[h,List.mem_filter,List.mem_range] at hj;exact hj.1
theorem xX{n:Nat}{L:List Nat}(h:Can n L)(hn:n<=4096):elems (setOf L)=L:=by
 unfold elems;have e:List.range 4096=List.range n++(List.range (4096-n)).map (n + ·):=by rw[<-List.range_add];congr 1;omega
 rw[e,List.filter_append];have e2:((List.range (4096-n)).map (n + ·)).filter (setOf L)=[]:=by
  rw[List.filter_eq_nil_iff];intro x hx;obtain⟨y,_,rfl⟩:=Yp.1 hx;unfold setOf;simp only[decide_eq_true_eq];intro hm;have:=h.lt _ hm;omega
 rw[e2,Yw];exact h.symm
def Sb(es:List Ed)(role:Int)(L:List Nat):List Ev:=jd (L.flatMap fun n=>(bS es role n).map (·.x))
theorem Fv{n:Nat}{L:List Nat}(h:Can n L)(hn:n<=4096)(es:List Ed)(role:Int):j8 es role (setOf L)=Sb es role L:=by unfold j8 Pq Sb;rw[xX h hn]
def agp(es:List Ed)(role:Int)(L:List Nat):List Nat:=es.foldl (fun L x=>if (aG role x).isNone&&decide (x.f.toNat∈L) && !decide (x.t.toNat∈L) then L++[x.t.toNat] else L) L
def SL(es:List Ed)(role:Int):Nat->List Nat->List Nat
 | 0,L=>L
 | f+1,L=>SL es role f (agp es role L)
def okC(es:List Ed)(role:Int)(l:List Int)(L:List Nat):Bool:=
 l.all (fun v=>decide (0<=v)&&decide (v.toNat∈L))&&es.all (fun x=>!(aG role x).isNone || !decide (x.f.toNat∈L)||decide (x.t.toNat∈L)) &&
  (List.range L.length).all fun i=>match L[i]? with
   | some j=>l.any (fun v=>decide (v=(j:Int)))||es.any fun x=>(aG role x).isNone&&decide (x.f.toNat∈L.take i)&&decide (x.t=(j:Int))
   | none=>false
theorem Bz{es:List Ed}{role:Int}{l:List Int}{L:List Nat}(Fe:∀x∈es,0<=x.f/\0<=x.t)(h:okC es role l L=true)(j:Nat):eD es role l j=decide (j∈L):=by
 unfold okC at h;simp only[Yt,List.all_eq_true,List.mem_range] at h;obtain⟨⟨h1,h2⟩,h3⟩:=h;have fwd:∀a:Int,Qr es role l a->0<=a/\a.toNat∈L:=by
  intro a ha
  induction ha with
  | base hm=>have:=h1 _ hm;simpa using this
  | step _ hx ih=>
   obtain⟨x,hx,hv,hf,rfl⟩:=hx;refine⟨(Fe x hx).2,?_⟩;have:=h2 x hx;simp only[Bool.or_eq_true,Bool.not_eq_true',decide_eq_false_iff_not,decide_eq_true_eq] at this;rcases this with (h4 | h4) | h4
   .rw[hv] at h4;cases h4
   .exact absurd (by rw[hf];exact ih.2) h4
   .exact h4
 have bwd:∀i,i<=L.length->∀j∈L.take i,Qr es role l (j:Int):=by
  intro i
  induction i with
  | zero=>intro _ j hj;rw[iY] at hj;cases hj
  | succ i ih=>
   intro hi j hj;obtain⟨y,hy⟩:=get_some (l:=L) (i:=i) (by omega);rw[ae hy,Yk,Ye] at hj;rcases hj with hj | rfl
   .exact ih (by omega) j hj
   .have:=h3 i (by omega);rw[hy] at this;simp only[Bool.or_eq_true,List.any_eq_true,decide_eq_true_eq,Yt] at this;rcases this with ⟨v,hv,rfl⟩ | ⟨x,hx,⟨h4,h5⟩,h6⟩
    .exact .base hv
    .have hq:=ih (by omega) _ h5;rw[show ((x.f.toNat:Nat):Int)=x.f by have:=Fe x hx;omega] at hq;exact .step hq ⟨x,hx,Option.isNone_iff_eq_none.1 h4,rfl,h6⟩
 have M4:eD es role l j=true ↔ j∈L:=by
  rw[bK];constructor
  .intro h;have:=(fwd _ h).2;rwa [Ys] at this
  .intro h;exact bwd L.length (bu _) j (by rw[vV];exact h)
 by_cases hj:j∈L
 .rw[decide_eq_true hj];exact M4.2 hj
 .rw[decide_eq_false hj];cases hc:eD es role l j
  .rfl
  .exact absurd (M4.1 hc) hj
def Sk(es:List Ed)(role:Int)(n:Nat)(l:List Int):Option (List Nat):=
 let L:=SL es role n (l.map Int.toNat).eraseDups
 if okC es role l L then some ((List.range n).filter fun j=>decide (j∈L)) else none
theorem NM{es:List Ed}{role:Int}{n:Nat}{l:List Int}{L:List Nat}(Fe:∀x∈es,0<=x.f/\0<=x.t)(bt:∀j:Nat,eD es role l j=true->j<n)(h:Sk es role n l=some L):Can n L/\eD es role l=setOf L:=by
 unfold Sk at h;simp only at h;split at h
 .rename_i hk;cases h;refine⟨Can.mk _ _,?_⟩
  funext j
  rw[Bz Fe hk];unfold setOf;by_cases hj:j∈SL es role n (l.map Int.toNat).eraseDups
  .rw[decide_eq_true hj,decide_eq_true];have:eD es role l j=true:=by rw[Bz Fe hk,decide_eq_true hj]
   exact List.mem_filter.2 ⟨List.mem_range.2 (bt j this),decide_eq_true hj⟩
  .rw[decide_eq_false hj,decide_eq_false];intro hm;exact hj (cd (List.mem_filter.1 hm).2)
 .cases h
end Go.VC
end

section
namespace Go.Proofs
open Go.Shelf
def Tryz.jo:Go.Shelf.Ren:=⟨fun | 146=>298 | 221=>309 | 268=>311 | 138=>312 | 143=>313 | 195=>314 | 197=>315 | 218=>316 | 219=>317 | 260=>318 | 217=>319 | 225=>320 | 224=>321 | 267=>322 | 266=>323 | 314=>324 | n=>n,fun | 9=>9 | 31=>22 | 3=>3 | 4=>4 | 0=>0 | 105=>419 | 21=>21 | 5=>5 | 46=>204 | 119=>423 | 139=>426 | 138=>425 | 146=>338 | 51=>324 | n=>n,fun | 1=>1 | 3=>2 | 4=>3 | n=>n⟩
theorem Tryz.MG:Go.Proofs.Lays.n146 Tryz.prog Tryz.jo:={
 mixed:=by kernel_rfl
 f138:=Tryz.func312.trans (congrArg some (by kernel_rfl))
 f143:=Tryz.func313.trans (congrArg some (by kernel_rfl))
 f146:=Tryz.func298.trans (congrArg some (by kernel_rfl))
 f195:=Tryz.func314.trans (congrArg some (by kernel_rfl))
 f197:=Tryz.func315.trans (congrArg some (by kernel_rfl))
 f217:=Tryz.func319.trans (congrArg some (by kernel_rfl))
 f218:=Tryz.func316.trans (congrArg some (by kernel_rfl))
 f219:=Tryz.func317.trans (congrArg some (by kernel_rfl))
 f221:=Tryz.func309.trans (congrArg some (by kernel_rfl))
 f224:=Tryz.func321.trans (congrArg some (by kernel_rfl))
 f225:=Tryz.func320.trans (congrArg some (by kernel_rfl))
 f260:=Tryz.func318.trans (congrArg some (by kernel_rfl))
 f266:=Tryz.func323.trans (congrArg some (by kernel_rfl))
 f267:=Tryz.func322.trans (congrArg some (by kernel_rfl))
 f268:=Tryz.func311.trans (congrArg some (by kernel_rfl))
 f314:=Tryz.func324.trans (congrArg some (by kernel_rfl))
 t0:=Tryz.underlying0
 a0:=Tryz.isAgg0
 z0:=Tryz.sizeOf0
 v0:=Tryz.zeroValue0
 t3:=Tryz.underlying3
 a3:=Tryz.isAgg3
 z3:=Tryz.sizeOf3
 v3:=Tryz.zeroValue3
 t4:=Tryz.underlying4
 a4:=Tryz.isAgg4
 z4:=Tryz.sizeOf4
 v4:=Tryz.zeroValue4
 t5:=Tryz.underlying5
 a5:=Tryz.isAgg5
 z5:=Tryz.sizeOf5
 v5:=Tryz.zeroValue5
 t9:=Tryz.underlying9
 a9:=Tryz.isAgg9
 z9:=Tryz.sizeOf9
 v9:=Tryz.zeroValue9
 t21:=Tryz.underlying21
 a21:=Tryz.isAgg21
 z21:=Tryz.sizeOf21
 v21:=Tryz.zeroValue21
 t31:=Tryz.underlying22
 a31:=Tryz.isAgg22
 z31:=Tryz.sizeOf22
 v31:=Tryz.zeroValue22
 t46:=Tryz.underlying204
 a46:=Tryz.isAgg204
 z46:=Tryz.sizeOf204
 v46:=Tryz.zeroValue204
 t51:=Tryz.underlying324
 a51:=Tryz.isAgg324
 z51:=Tryz.sizeOf324
 v51:=Tryz.zeroValue324
 t105:=Tryz.underlying419
 a105:=Tryz.isAgg419
 z105:=Tryz.sizeOf419
 v105:=Tryz.zeroValue419
 t119:=Tryz.underlying423
 a119:=Tryz.isAgg423
 z119:=Tryz.sizeOf423
 t138:=Tryz.underlying425
 a138:=Tryz.isAgg425
 z138:=Tryz.sizeOf425
 v138:=Tryz.zeroValue425
 t139:=Tryz.underlying426
 a139:=Tryz.isAgg426
 z139:=Tryz.sizeOf426
 v139:=Tryz.zeroValue426
 t146:=Tryz.underlying338
 a146:=Tryz.isAgg338
 z146:=Tryz.sizeOf338
 v146:=Tryz.zeroValue338
 g1:=by kernel_rfl
 g3:=by kernel_rfl
 g4:=by kernel_rfl }
def Tryz.xb:Go.Shelf.Ren:=⟨fun | 212=>141 | 263=>210 | 264=>211 | n=>n,fun | 46=>204 | 51=>324 | 146=>338 | 53=>144 | 148=>340 | n=>n,fun | n=>n⟩
theorem Tryz.MF:Go.Proofs.Lays.n212 Tryz.prog Tryz.xb:={
 mixed:=by kernel_rfl
 f212:=Tryz.func141.trans (congrArg some (by kernel_rfl))
 f263:=Tryz.func210.trans (congrArg some (by kernel_rfl))
 f264:=Tryz.func211.trans (congrArg some (by kernel_rfl))
 t46:=Tryz.underlying204
 a46:=Tryz.isAgg204
 z46:=Tryz.sizeOf204
 v46:=Tryz.zeroValue204
 t51:=Tryz.underlying324
 a51:=Tryz.isAgg324
 z51:=Tryz.sizeOf324
 v51:=Tryz.zeroValue324
 t53:=Tryz.underlying144
 a53:=Tryz.isAgg144
 z53:=Tryz.sizeOf144
 v53:=Tryz.zeroValue144
 t146:=Tryz.underlying338
 a146:=Tryz.isAgg338
 z146:=Tryz.sizeOf338
 v146:=Tryz.zeroValue338
 t148:=Tryz.underlying340
 a148:=Tryz.isAgg340
 z148:=Tryz.sizeOf340
 v148:=Tryz.zeroValue340 }
def Tryz.uN:Go.Shelf.Ren:=⟨fun | 29=>215 | n=>n,fun | 22=>144 | 3=>3 | 4=>4 | 25=>204 | 54=>383 | 0=>0 | 5=>5 | n=>n,fun | 1=>0 | n=>n⟩
theorem Tryz.HS:Go.Proofs.Lays7.n29 Tryz.prog Tryz.uN:={
 mixed:=by kernel_rfl
 f29:=Tryz.func215.trans (congrArg some (by kernel_rfl))
 t0:=Tryz.underlying0
 a0:=Tryz.isAgg0
 z0:=Tryz.sizeOf0
 v0:=Tryz.zeroValue0
 i0:=by kernel_rfl
 t3:=Tryz.underlying3
 a3:=Tryz.isAgg3
 z3:=Tryz.sizeOf3
 v3:=Tryz.zeroValue3
 i3:=by kernel_rfl
 t4:=Tryz.underlying4
 a4:=Tryz.isAgg4
 z4:=Tryz.sizeOf4
 v4:=Tryz.zeroValue4
 i4:=by kernel_rfl
 t5:=Tryz.underlying5
 a5:=Tryz.isAgg5
 z5:=Tryz.sizeOf5
 v5:=Tryz.zeroValue5
 i5:=by kernel_rfl
 t22:=Tryz.underlying144
 a22:=Tryz.isAgg144
 z22:=Tryz.sizeOf144
 v22:=Tryz.zeroValue144
 i22:=by kernel_rfl
 t25:=Tryz.underlying204
 a25:=Tryz.isAgg204
 z25:=Tryz.sizeOf204
 v25:=Tryz.zeroValue204
 i25:=by kernel_rfl
 t54:=Tryz.underlying383
 a54:=Tryz.isAgg383
 z54:=Tryz.sizeOf383
 g1:=by kernel_rfl }
def Tryz.ue:Go.Shelf.Ren:=⟨fun | 6=>124 | 15=>110 | 14=>200 | 28=>196 | 29=>197 | 20=>242 | 21=>243 | 22=>244 | 23=>245 | 24=>246 | 25=>247 | 26=>248 | 27=>249 | 46=>287 | 47=>234 | 48=>235 | 49=>288 | 50=>289 | 57=>305 | n=>n,fun | 22=>127 | 24=>140 | 25=>236 | 3=>3 | 39=>204 | 0=>0 | 53=>324 | 55=>144 | 4=>4 | 46=>318 | 45=>317 | 50=>296 | 5=>5 | 9=>9 | 66=>357 | 70=>361 | 76=>396 | 77=>216 | n=>n,fun | n=>n⟩
theorem Tryz.GZ:Go.Proofs.SlLaysF0.n6 Tryz.prog Tryz.ue:={
 mixed:=by kernel_rfl
 f6:=⟨Tryz.f124.name,by decide,Tryz.func124.trans (congrArg some (by kernel_rfl))⟩
 f14:=⟨Tryz.f200.name,by decide,Tryz.func200.trans (congrArg some (by kernel_rfl))⟩
 f15:=Tryz.func110.trans (congrArg some (by kernel_rfl))
 f20:=⟨Tryz.f242.name,by decide,Tryz.func242.trans (congrArg some (by kernel_rfl))⟩
 f21:=⟨Tryz.f243.name,by decide,Tryz.func243.trans (congrArg some (by kernel_rfl))⟩
 f22:=⟨Tryz.f244.name,by decide,Tryz.func244.trans (congrArg some (by kernel_rfl))⟩
 f23:=⟨Tryz.f245.name,by decide,Tryz.func245.trans (congrArg some (by kernel_rfl))⟩
 f24:=⟨Tryz.f246.name,by decide,Tryz.func246.trans (congrArg some (by kernel_rfl))⟩
 f25:=⟨Tryz.f247.name,by decide,Tryz.func247.trans (congrArg some (by kernel_rfl))⟩
 f26:=⟨Tryz.f248.name,by decide,Tryz.func248.trans (congrArg some (by kernel_rfl))⟩
 f27:=⟨Tryz.f249.name,by decide,Tryz.func249.trans (congrArg some (by kernel_rfl))⟩
 f28:=Tryz.func196.trans (congrArg some (by kernel_rfl))
 f29:=Tryz.func197.trans (congrArg some (by kernel_rfl))
 f46:=⟨Tryz.f287.name,by decide,Tryz.func287.trans (congrArg some (by kernel_rfl))⟩
 f47:=Tryz.func234.trans (congrArg some (by kernel_rfl))
 f48:=Tryz.func235.trans (congrArg some (by kernel_rfl))
 f49:=⟨Tryz.f288.name,by decide,Tryz.func288.trans (congrArg some (by kernel_rfl))⟩
 f50:=⟨Tryz.f289.name,by decide,Tryz.func289.trans (congrArg some (by kernel_rfl))⟩
 f57:=⟨Tryz.f305.name,by decide,Tryz.func305.trans (congrArg some (by kernel_rfl))⟩
 t0:=Tryz.underlying0
 a0:=Tryz.isAgg0
 z0:=Tryz.sizeOf0
 v0:=Tryz.zeroValue0
 t3:=Tryz.underlying3
 a3:=Tryz.isAgg3
 z3:=Tryz.sizeOf3
 v3:=Tryz.zeroValue3
 t4:=Tryz.underlying4
 a4:=Tryz.isAgg4
 z4:=Tryz.sizeOf4
 v4:=Tryz.zeroValue4
 t5:=Tryz.underlying5
 a5:=Tryz.isAgg5
 z5:=Tryz.sizeOf5
 v5:=Tryz.zeroValue5
 t9:=Tryz.underlying9
 a9:=Tryz.isAgg9
 z9:=Tryz.sizeOf9
 v9:=Tryz.zeroValue9
 t22:=Tryz.underlying127
 a22:=Tryz.isAgg127
 z22:=Tryz.sizeOf127
 v22:=Tryz.zeroValue127
 t25:=Tryz.underlying236
 a25:=Tryz.isAgg236
 z25:=Tryz.sizeOf236
 v25:=Tryz.zeroValue236
 t39:=Tryz.underlying204
 a39:=Tryz.isAgg204
 z39:=Tryz.sizeOf204
 v39:=Tryz.zeroValue204
 t45:=Tryz.underlying317
 a45:=Tryz.isAgg317
 z45:=Tryz.sizeOf317
 v45:=Tryz.zeroValue317
 t46:=Tryz.underlying318
 a46:=Tryz.isAgg318
 z46:=Tryz.sizeOf318
 v46:=Tryz.zeroValue318
 t50:=Tryz.underlying296
 a50:=Tryz.isAgg296
 z50:=Tryz.sizeOf296
 v50:=Tryz.zeroValue296
 t53:=Tryz.underlying324
 a53:=Tryz.isAgg324
 z53:=Tryz.sizeOf324
 v53:=Tryz.zeroValue324
 t55:=Tryz.underlying144
 a55:=Tryz.isAgg144
 z55:=Tryz.sizeOf144
 v55:=Tryz.zeroValue144
 t66:=Tryz.underlying357
 a66:=Tryz.isAgg357
 z66:=Tryz.sizeOf357
 v66:=Tryz.zeroValue357
 t70:=Tryz.underlying361
 a70:=Tryz.isAgg361
 z70:=Tryz.sizeOf361
 v70:=Tryz.zeroValue361
 t76:=Tryz.underlying396
 a76:=Tryz.isAgg396
 z76:=Tryz.sizeOf396
 v76:=Tryz.zeroValue396
 t77:=Tryz.underlying216
 a77:=Tryz.isAgg216
 z77:=Tryz.sizeOf216
 v77:=Tryz.zeroValue216 }
def Tryz.ud:Go.Shelf.Ren:=⟨fun | 6=>184 | 15=>110 | 14=>231 | 28=>196 | 29=>197 | 20=>277 | 21=>278 | 22=>279 | 23=>280 | 24=>281 | 25=>282 | 26=>283 | 27=>284 | 46=>302 | 47=>234 | 48=>235 | 49=>303 | 50=>304 | 57=>310 | n=>n,fun | 22=>193 | 24=>188 | 25=>312 | 3=>3 | 39=>204 | 0=>0 | 53=>324 | 55=>144 | 4=>4 | 46=>318 | 45=>317 | 50=>296 | 5=>5 | 9=>9 | 66=>357 | 70=>361 | 76=>396 | 77=>216 | n=>n,fun | n=>n⟩
theorem Tryz.GY:Go.Proofs.SlLaysF0.n6 Tryz.prog Tryz.ud:={
 mixed:=by kernel_rfl
 f6:=⟨Tryz.f184.name,by decide,Tryz.func184.trans (congrArg some (by kernel_rfl))⟩
 f14:=⟨Tryz.f231.name,by decide,Tryz.func231.trans (congrArg some (by kernel_rfl))⟩
 f15:=Tryz.func110.trans (congrArg some (by kernel_rfl))
 f20:=⟨Tryz.f277.name,by decide,Tryz.func277.trans (congrArg some (by kernel_rfl))⟩
 f21:=⟨Tryz.f278.name,by decide,Tryz.func278.trans (congrArg some (by kernel_rfl))⟩
 f22:=⟨Tryz.f279.name,by decide,Tryz.func279.trans (congrArg some (by kernel_rfl))⟩
 f23:=⟨Tryz.f280.name,by decide,Tryz.func280.trans (congrArg some (by kernel_rfl))⟩
 f24:=⟨Tryz.f281.name,by decide,Tryz.func281.trans (congrArg some (by kernel_rfl))⟩
 f25:=⟨Tryz.f282.name,by decide,Tryz.func282.trans (congrArg some (by kernel_rfl))⟩
 f26:=⟨Tryz.f283.name,by decide,Tryz.func283.trans (congrArg some (by kernel_rfl))⟩
 f27:=⟨Tryz.f284.name,by decide,Tryz.func284.trans (congrArg some (by kernel_rfl))⟩
 f28:=Tryz.func196.trans (congrArg some (by kernel_rfl))
 f29:=Tryz.func197.trans (congrArg some (by kernel_rfl))
 f46:=⟨Tryz.f302.name,by decide,Tryz.func302.trans (congrArg some (by kernel_rfl))⟩
 f47:=Tryz.func234.trans (congrArg some (by kernel_rfl))
 f48:=Tryz.func235.trans (congrArg some (by kernel_rfl))
 f49:=⟨Tryz.f303.name,by decide,Tryz.func303.trans (congrArg some (by kernel_rfl))⟩
 f50:=⟨Tryz.f304.name,by decide,Tryz.func304.trans (congrArg some (by kernel_rfl))⟩
 f57:=⟨Tryz.f310.name,by decide,Tryz.func310.trans (congrArg some (by kernel_rfl))⟩
 t0:=Tryz.underlying0
 a0:=Tryz.isAgg0
 z0:=Tryz.sizeOf0
 v0:=Tryz.zeroValue0
 t3:=Tryz.underlying3
 a3:=Tryz.isAgg3
 z3:=Tryz.sizeOf3
 v3:=Tryz.zeroValue3
 t4:=Tryz.underlying4
 a4:=Tryz.isAgg4
 z4:=Tryz.sizeOf4
 v4:=Tryz.zeroValue4
 t5:=Tryz.underlying5
 a5:=Tryz.isAgg5
 z5:=Tryz.sizeOf5
 v5:=Tryz.zeroValue5
 t9:=Tryz.underlying9
 a9:=Tryz.isAgg9
 z9:=Tryz.sizeOf9
 v9:=Tryz.zeroValue9
 t22:=Tryz.underlying193
 a22:=Tryz.isAgg193
 z22:=Tryz.sizeOf193
 v22:=Tryz.zeroValue193
 t25:=Tryz.underlying312
 a25:=Tryz.isAgg312
 z25:=Tryz.sizeOf312
 v25:=Tryz.zeroValue312
 t39:=Tryz.underlying204
 a39:=Tryz.isAgg204
 z39:=Tryz.sizeOf204
 v39:=Tryz.zeroValue204
 t45:=Tryz.underlying317
 a45:=Tryz.isAgg317
 z45:=Tryz.sizeOf317
 v45:=Tryz.zeroValue317
 t46:=Tryz.underlying318
 a46:=Tryz.isAgg318
 z46:=Tryz.sizeOf318
 v46:=Tryz.zeroValue318
 t50:=Tryz.underlying296
 a50:=Tryz.isAgg296
 z50:=Tryz.sizeOf296
 v50:=Tryz.zeroValue296
 t53:=Tryz.underlying324
 a53:=Tryz.isAgg324
 z53:=Tryz.sizeOf324
 v53:=Tryz.zeroValue324
 t55:=Tryz.underlying144
 a55:=Tryz.isAgg144
 z55:=Tryz.sizeOf144
 v55:=Tryz.zeroValue144
 t66:=Tryz.underlying357
 a66:=Tryz.isAgg357
 z66:=Tryz.sizeOf357
 v66:=Tryz.zeroValue357
 t70:=Tryz.underlying361
 a70:=Tryz.isAgg361
 z70:=Tryz.sizeOf361
 v70:=Tryz.zeroValue361
 t76:=Tryz.underlying396
 a76:=Tryz.isAgg396
 z76:=Tryz.sizeOf396
 v76:=Tryz.zeroValue396
 t77:=Tryz.underlying216
 a77:=Tryz.isAgg216
 z77:=Tryz.sizeOf216
 v77:=Tryz.zeroValue216 }
def Tryz.uc:Go.Shelf.Ren:=⟨fun | 6=>69 | 15=>110 | 14=>134 | 28=>196 | 29=>197 | 20=>202 | 21=>203 | 22=>204 | 23=>205 | 24=>206 | 25=>207 | 26=>208 | 27=>209 | 46=>258 | 47=>234 | 48=>235 | 49=>259 | 50=>260 | 57=>293 | n=>n,fun | 22=>68 | 24=>72 | 25=>136 | 3=>3 | 39=>204 | 0=>0 | 53=>324 | 55=>144 | 4=>4 | 46=>318 | 45=>317 | 50=>296 | 5=>5 | 9=>9 | 66=>357 | 70=>361 | 76=>396 | 77=>216 | n=>n,fun | n=>n⟩
theorem Tryz.GX:Go.Proofs.SlLaysF0.n6 Tryz.prog Tryz.uc:={
 mixed:=by kernel_rfl
 f6:=⟨Tryz.f69.name,by decide,Tryz.func69.trans (congrArg some (by kernel_rfl))⟩
 f14:=⟨Tryz.f134.name,by decide,Tryz.func134.trans (congrArg some (by kernel_rfl))⟩
 f15:=Tryz.func110.trans (congrArg some (by kernel_rfl))
 f20:=⟨Tryz.f202.name,by decide,Tryz.func202.trans (congrArg some (by kernel_rfl))⟩
 f21:=⟨Tryz.f203.name,by decide,Tryz.func203.trans (congrArg some (by kernel_rfl))⟩
 f22:=⟨Tryz.f204.name,by decide,Tryz.func204.trans (congrArg some (by kernel_rfl))⟩
 f23:=⟨Tryz.f205.name,by decide,Tryz.func205.trans (congrArg some (by kernel_rfl))⟩
 f24:=⟨Tryz.f206.name,by decide,Tryz.func206.trans (congrArg some (by kernel_rfl))⟩
 f25:=⟨Tryz.f207.name,by decide,Tryz.func207.trans (congrArg some (by kernel_rfl))⟩
 f26:=⟨Tryz.f208.name,by decide,Tryz.func208.trans (congrArg some (by kernel_rfl))⟩
 f27:=⟨Tryz.f209.name,by decide,Tryz.func209.trans (congrArg some (by kernel_rfl))⟩
 f28:=Tryz.func196.trans (congrArg some (by kernel_rfl))
 f29:=Tryz.func197.trans (congrArg some (by kernel_rfl))
 f46:=⟨Tryz.f258.name,by decide,Tryz.func258.trans (congrArg some (by kernel_rfl))⟩
 f47:=Tryz.func234.trans (congrArg some (by kernel_rfl))
 f48:=Tryz.func235.trans (congrArg some (by kernel_rfl))
 f49:=⟨Tryz.f259.name,by decide,Tryz.func259.trans (congrArg some (by kernel_rfl))⟩
 f50:=⟨Tryz.f260.name,by decide,Tryz.func260.trans (congrArg some (by kernel_rfl))⟩
 f57:=⟨Tryz.f293.name,by decide,Tryz.func293.trans (congrArg some (by kernel_rfl))⟩
 t0:=Tryz.underlying0
 a0:=Tryz.isAgg0
 z0:=Tryz.sizeOf0
 v0:=Tryz.zeroValue0
 t3:=Tryz.underlying3
 a3:=Tryz.isAgg3
 z3:=Tryz.sizeOf3
 v3:=Tryz.zeroValue3
 t4:=Tryz.underlying4
 a4:=Tryz.isAgg4
 z4:=Tryz.sizeOf4
 v4:=Tryz.zeroValue4
 t5:=Tryz.underlying5
 a5:=Tryz.isAgg5
 z5:=Tryz.sizeOf5
 v5:=Tryz.zeroValue5
 t9:=Tryz.underlying9
 a9:=Tryz.isAgg9
 z9:=Tryz.sizeOf9
 v9:=Tryz.zeroValue9
 t22:=Tryz.underlying68
 a22:=Tryz.isAgg68
 z22:=Tryz.sizeOf68
 v22:=Tryz.zeroValue68
 t25:=Tryz.underlying136
 a25:=Tryz.isAgg136
 z25:=Tryz.sizeOf136
 v25:=Tryz.zeroValue136
 t39:=Tryz.underlying204
 a39:=Tryz.isAgg204
 z39:=Tryz.sizeOf204
 v39:=Tryz.zeroValue204
 t45:=Tryz.underlying317
 a45:=Tryz.isAgg317
 z45:=Tryz.sizeOf317
 v45:=Tryz.zeroValue317
 t46:=Tryz.underlying318
 a46:=Tryz.isAgg318
 z46:=Tryz.sizeOf318
 v46:=Tryz.zeroValue318
 t50:=Tryz.underlying296
 a50:=Tryz.isAgg296
 z50:=Tryz.sizeOf296
 v50:=Tryz.zeroValue296
 t53:=Tryz.underlying324
 a53:=Tryz.isAgg324
 z53:=Tryz.sizeOf324
 v53:=Tryz.zeroValue324
 t55:=Tryz.underlying144
 a55:=Tryz.isAgg144
 z55:=Tryz.sizeOf144
 v55:=Tryz.zeroValue144
 t66:=Tryz.underlying357
 a66:=Tryz.isAgg357
 z66:=Tryz.sizeOf357
 v66:=Tryz.zeroValue357
 t70:=Tryz.underlying361
 a70:=Tryz.isAgg361
 z70:=Tryz.sizeOf361
 v70:=Tryz.zeroValue361
 t76:=Tryz.underlying396
 a76:=Tryz.isAgg396
 z76:=Tryz.sizeOf396
 v76:=Tryz.zeroValue396
 t77:=Tryz.underlying216
 a77:=Tryz.isAgg216
 z77:=Tryz.sizeOf216
 v77:=Tryz.zeroValue216 }
def Tryz.ub:Go.Shelf.Ren:=⟨fun | 6=>128 | 15=>110 | 14=>201 | 28=>196 | 29=>197 | 20=>250 | 21=>251 | 22=>252 | 23=>253 | 24=>254 | 25=>255 | 26=>256 | 27=>257 | 46=>290 | 47=>234 | 48=>235 | 49=>291 | 50=>292 | 57=>306 | n=>n,fun | 22=>24 | 24=>67 | 25=>243 | 3=>3 | 39=>204 | 0=>0 | 53=>324 | 55=>144 | 4=>4 | 46=>318 | 45=>317 | 50=>296 | 5=>5 | 9=>9 | 66=>357 | 70=>361 | 76=>396 | 77=>216 | n=>n,fun | n=>n⟩
theorem Tryz.GW:Go.Proofs.SlLaysF0.n6 Tryz.prog Tryz.ub:={
 mixed:=by kernel_rfl
 f6:=⟨Tryz.f128.name,by decide,Tryz.func128.trans (congrArg some (by kernel_rfl))⟩
 f14:=⟨Tryz.f201.name,by decide,Tryz.func201.trans (congrArg some (by kernel_rfl))⟩
 f15:=Tryz.func110.trans (congrArg some (by kernel_rfl))
 f20:=⟨Tryz.f250.name,by decide,Tryz.func250.trans (congrArg some (by kernel_rfl))⟩
 f21:=⟨Tryz.f251.name,by decide,Tryz.func251.trans (congrArg some (by kernel_rfl))⟩
 f22:=⟨Tryz.f252.name,by decide,Tryz.func252.trans (congrArg some (by kernel_rfl))⟩
 f23:=⟨Tryz.f253.name,by decide,Tryz.func253.trans (congrArg some (by kernel_rfl))⟩
 f24:=⟨Tryz.f254.name,by decide,Tryz.func254.trans (congrArg some (by kernel_rfl))⟩
 f25:=⟨Tryz.f255.name,by decide,Tryz.func255.trans (congrArg some (by kernel_rfl))⟩
 f26:=⟨Tryz.f256.name,by decide,Tryz.func256.trans (congrArg some (by kernel_rfl))⟩
 f27:=⟨Tryz.f257.name,by decide,Tryz.func257.trans (congrArg some (by kernel_rfl))⟩
 f28:=Tryz.func196.trans (congrArg some (by kernel_rfl))
 f29:=Tryz.func197.trans (congrArg some (by kernel_rfl))
 f46:=⟨Tryz.f290.name,by decide,Tryz.func290.trans (congrArg some (by kernel_rfl))⟩
 f47:=Tryz.func234.trans (congrArg some (by kernel_rfl))
 f48:=Tryz.func235.trans (congrArg some (by kernel_rfl))
 f49:=⟨Tryz.f291.name,by decide,Tryz.func291.trans (congrArg some (by kernel_rfl))⟩
 f50:=⟨Tryz.f292.name,by decide,Tryz.func292.trans (congrArg some (by kernel_rfl))⟩
 f57:=⟨Tryz.f306.name,by decide,Tryz.func306.trans (congrArg some (by kernel_rfl))⟩
 t0:=Tryz.underlying0
 a0:=Tryz.isAgg0
 z0:=Tryz.sizeOf0
 v0:=Tryz.zeroValue0
 t3:=Tryz.underlying3
 a3:=Tryz.isAgg3
 z3:=Tryz.sizeOf3
 v3:=Tryz.zeroValue3
 t4:=Tryz.underlying4
 a4:=Tryz.isAgg4
 z4:=Tryz.sizeOf4
 v4:=Tryz.zeroValue4
 t5:=Tryz.underlying5
 a5:=Tryz.isAgg5
 z5:=Tryz.sizeOf5
 v5:=Tryz.zeroValue5
 t9:=Tryz.underlying9
 a9:=Tryz.isAgg9
 z9:=Tryz.sizeOf9
 v9:=Tryz.zeroValue9
 t22:=Tryz.underlying24
 a22:=Tryz.isAgg24
 z22:=Tryz.sizeOf24
 v22:=Tryz.zeroValue24
 t25:=Tryz.underlying243
 a25:=Tryz.isAgg243
 z25:=Tryz.sizeOf243
 v25:=Tryz.zeroValue243
 t39:=Tryz.underlying204
 a39:=Tryz.isAgg204
 z39:=Tryz.sizeOf204
 v39:=Tryz.zeroValue204
 t45:=Tryz.underlying317
 a45:=Tryz.isAgg317
 z45:=Tryz.sizeOf317
 v45:=Tryz.zeroValue317
 t46:=Tryz.underlying318
 a46:=Tryz.isAgg318
 z46:=Tryz.sizeOf318
 v46:=Tryz.zeroValue318
 t50:=Tryz.underlying296
 a50:=Tryz.isAgg296
 z50:=Tryz.sizeOf296
 v50:=Tryz.zeroValue296
 t53:=Tryz.underlying324
 a53:=Tryz.isAgg324
 z53:=Tryz.sizeOf324
 v53:=Tryz.zeroValue324
 t55:=Tryz.underlying144
 a55:=Tryz.isAgg144
 z55:=Tryz.sizeOf144
 v55:=Tryz.zeroValue144
 t66:=Tryz.underlying357
 a66:=Tryz.isAgg357
 z66:=Tryz.sizeOf357
 v66:=Tryz.zeroValue357
 t70:=Tryz.underlying361
 a70:=Tryz.isAgg361
 z70:=Tryz.sizeOf361
 v70:=Tryz.zeroValue361
 t76:=Tryz.underlying396
 a76:=Tryz.isAgg396
 z76:=Tryz.sizeOf396
 v76:=Tryz.zeroValue396
 t77:=Tryz.underlying216
 a77:=Tryz.isAgg216
 z77:=Tryz.sizeOf216
 v77:=Tryz.zeroValue216 }
end Go.Proofs
end

section
namespace Go.VC
open Go.Proofs Go.LexS Go.Shelf
structure Gm (h:Heap):Prop where
 m:∃m:Int,hc h ⟨1,0,none⟩=some (.int .i64 m)
theorem Gm.ext{h h':Heap}(hx:Gm h)(E:Ext h h'):Gm h':=by
 obtain⟨m,hm⟩:=hx.m;exact⟨⟨m,aw E hm⟩⟩
structure Gx (h:Heap):Prop where
 m:∃m:Int,hc h ⟨1,0,none⟩=some (.int .i64 m)
 t:∀j,j<Lib.deBruijn64tab.length->hc h ⟨0,j,none⟩=some (.int .u8 (Lib.deBruijn64tab.getD j 0))
theorem Gx.ext{h h':Heap}(hx:Gx h)(E:Ext h h'):Gx h':=by
 obtain⟨m,hm⟩:=hx.m;exact⟨⟨m,aw E hm⟩,fun j hj=>aw E (hx.t j hj)⟩
instance {h:Heap}:Coe (Gx h) (Gm h):=⟨fun hx=>⟨hx.m⟩⟩
theorem Qm(x y:Nat)(hx:x<18446744073709551616)(hy:y<18446744073709551616)(h:Heap):Fn Pz 141 #[.int .u64 x,.int .u64 y] h fun v h'=>v=.tuple ⟨[.int .u64 ((x*y/18446744073709551616:Nat):Int),.int .u64 ((x*y%18446744073709551616:Nat):Int)]⟩/\h'=h:=
 Fn.of_same fun w=>Any.bits_Mul Tryz.MF x y hx hy w
def pieces(l:Nm):List Nm:=Go.Lib.split l [46]
theorem GV(l:Nm)(h:Heap)(hx:Gm h)(hl:l.length<=50):Fn Pz 298 #[.string (bs l),.string (bs [46])] h fun v h'=>Ext h h'/\∃s:Sl,v=.slice s.a s.n s.c/\RL h' 1 s Es (pieces l):=by
 intro w hw;subst hw;obtain⟨m,hm⟩:=hx.m;have hle:=Lib.countB_le (bs [46]) (by decide) (bs l).size (bs l) (bu _);have hlen:=Lib.splitB_all (bs [46]) (by decide) 0 _ (bs l) rfl;have aeK:=Lib.splitB_data (bs [46]) 0 (Lib.countB (bs l) (bs [46])) (bs l);have hp:pieces l=(Lib.splitB (bs [46]) 0 (Lib.countB (bs l) (bs [46])) (bs l)).map (·.data.toList):=aeK.symm;have Rt:(Lib.splitB (bs [46]) 0 (Lib.countB (bs l) (bs [46])) (bs l)).map Value.string=(pieces l).map fun x=>Value.string (bs x):=by
  rw[hp,List.map_map];rfl
 have rK:(pieces l).length=Lib.countB (bs l) (bs [46])+1:=by rw[hp,Yc,hlen]
 rw[vf] at hle;refine (Any.strings_Split Tryz.MG (by kernel_rfl) (bs l) (bs [46]) m w (by rw[vf];omega) hm (by decide)).mono ?_;rintro e w' ⟨rfl,rfl⟩;rw[Rt];have ho:Own (w.alloc (.cells ((pieces l).map fun x=>Value.string (bs x)).toArray (Tryz.jo.t 9))).heap w.heap.size ((pieces l).map fun x=>Value.string (bs x)) (Tryz.jo.t 9):=Own.push;refine⟨_,rfl,⟨Ext.push _ _,⟨some ⟨w.heap.size,0,none⟩,Lib.countB (bs l) (bs [46])+1,Lib.countB (bs l) (bs [46])+1⟩,rfl,⟨⟨by rw[Yc,rK],fun _=>⟨w.heap.size,0,rfl,fun i row hi=>?_⟩⟩,bu _,(fun e=>by cases e),by rw[rK];omega⟩⟩,rfl,rfl,rfl,trivial⟩;rw[Yd] at hi;obtain⟨x,MN,Ak⟩:=rP.1 hi;subst Ak;refine ho.aY fun j v hj=>?_
 match j,hj with
 | 0,hj=>cases hj;rw[show 0+i*1+0=i by omega,Yd,MN];rfl
theorem W8:Go.Sort.SWO (ltOf jx) where
 irrefl x:=by unfold ltOf;rw[decide_eq_false_iff_not,jw];exact my x
 trans x y z h1 h2:=by unfold ltOf at *;rw[decide_eq_true_eq,jw] at *;exact iG h1 h2
 ntrans x y z h1 h2:=by
  unfold ltOf at *;rw[decide_eq_false_iff_not,jw] at *;obtain⟨a,b,c⟩:=x;obtain⟨a',b',c'⟩:=y;obtain⟨a'',b'',c''⟩:=z;unfold cy at *;cases a<;>cases a'<;>cases a''<;>simp at *<;>omega
instance:Inhabited Ev:=⟨⟨false,0,0⟩⟩
instance:Inhabited Mv:=⟨⟨0,false,0,0,0,false⟩⟩
theorem LJ{h0 h:Heap}{L:List It}(hs:St h0 h L)(k:Nat){s:Sl}{l:List Ev}(hk:L[k]?=some (.sl s 140 3 (l.map Ev.cs)))(hm:l.length<=1048576):
  Fn Pz 124 #[.slice s.a s.n s.c,.func (.func 125) #[] #[]] h fun v h'=>v=.tuple ⟨[]⟩/\∃l':List Ev,l'.Perm l/\l'.Pairwise (fun a b=>¬cy b a)/\St h0 h' (L.set k (.sl s 140 3 (l'.map Ev.cs))):=by
 refine Fn.mono (lC Tryz.GZ 3 140 Tryz.isAgg140 Tryz.sizeOf140 Ev.cs (fun _=>rfl) (fun x v hv=>by simp[Ev.cs] at hv;rcases hv with rfl | rfl | rfl<;>rfl) jx W8 125 (enters_of Tryz.func125 (by kernel_rfl) rfl) (fun x y h=>@M.rh fv x y h) hs k hk (by omega) (by omega)) ?_;rintro v h' ⟨rfl,l',hp,hw,cj⟩;exact⟨rfl,l',hp,hw.imp fun {a b} kj=>by unfold ltOf at kj;rw[decide_eq_false_iff_not,jw] at kj;exact kj,cj⟩
end Go.VC
end

section
namespace Go.VC
open Go.Proofs Go.LexS
theorem ye{l:List Ev}(h:l≠[]):aL l≠[]:=by
 cases l with
 | nil=>exact absurd rfl h
 | cons a r=>
  intro e;have:=(fm (a::r) a).2 (by simp);rw[e] at this;cases this
theorem ku:∀(l:List Ev) (x:Ev),aL (l++[x])=if l.getLast?=some x then aL l else aL l++[x]
 | [],x=>by simp[aL]
 | a::r,x=>by
  have ih:=ku r x;cases r with
  | nil=>
   by_cases h:a=x
   .subst h;simp[aL]
   .simp[aL,h]
  | cons b r'=>
   have bI:=ye (l:=b::r') (by simp);have hl:(a::b::r').getLast?=(b::r').getLast?:=by simp[List.getLast?_cons_cons]
   rw[List.cons_append,aL,ih,hl];by_cases h:(b::r').getLast?=some x
   .rw[if_pos h,if_pos h]
    conv=>rhs;rw[aL]
   .rw[if_neg h,if_neg h]
    conv=>rhs;rw[aL]
    cases hc:aL (b::r') with
    | nil=>exact absurd hc bI
    | cons y t=>
     simp only[List.cons_append];split<;>rfl
theorem eT{l:List Ev}{k:Nat}{x y:Ev}(hx:l[k]?=some x)(hk:1<=k)(hy:l[k-1]?=some y):aL (l.take (k+1))=if x=y then aL (l.take k) else aL (l.take k)++[x]:=by
 rw[ae hx,ku];have hl:(l.take k).getLast?=some y:=by
  have nH:=(Ya.1 hx).1;rw[List.getLast?_eq_getElem?,Yu,Nat.min_eq_left (by omega),rO,if_pos (by omega)];exact hy
 rw[hl];by_cases e:x=y
 .rw[if_pos e,if_pos (by rw[e])]
 .rw[if_neg e,if_neg (fun h=>e (by cases h;rfl))]
theorem Jc(x y:Ev):((x.send==y.send)&&((x.peer==y.peer)&&((x.label==y.label)&&true)))=decide (x=y):=by
 obtain⟨a,b,c⟩:=x;obtain⟨d,e,f⟩:=y;rw[Bool.eq_iff_iff];simp
theorem PW:Pz.underlying 127=some (.slice 140):=by kernel_rfl
theorem Ln(w:World):(zeroValue 140).run Pz w=.ok (.agg #[.bool false,.int .i64 0,.int .i64 0]) w:=by
 have hi:(Pz.info? 140).bind (·.zero)=some (.agg #[.bool false,.int .i64 0,.int .i64 0]):=by kernel_rfl
 cases h:Pz.info? 140 with
 | none=>rw[h] at hi;cases hi
 | some i=>rw[h] at hi;simp only[Option.bind_some] at hi;simp[zeroValue,typeInfo,h,hi]
theorem AQ{h0 h:Heap}{L:List It}(hs:St h0 h L)(k:Nat){s:Sl}{l:List Ev}(hk:L[k]?=some (.sl s 140 3 (l.map Ev.cs)))(hm:l.length<=1048576):
  Fn Pz 126 #[.slice s.a s.n s.c] h fun v h'=>∃r:Sl,v=.slice r.a r.n r.c/\St h0 h' (L.set k (.sl r 140 3 ((aL l).map Ev.cs))):=by
 apply WE s;unfold abS;have hlen:=hs.len k hk (by omega);have hn:s.n=l.length:=by rw[hlen.1,Yc]
 have nH:k<L.length:=(Ya.1 hk).1;have cN:L.set k (.sl s 140 3 (l.map Ev.cs))=L:=by
  obtain⟨a,b⟩:=Ya.1 hk;rw[<-b];exact List.set_getElem_self a
 have qQ:aL l=l->(∃r:Sl,Value.slice s.a s.n s.c=.slice r.a r.n r.c/\St h0 h (L.set k (.sl r 140 3 ((aL l).map Ev.cs)))):=fun e=>⟨s,rfl,by rw[e,cN];exact hs⟩;refine aa (fun c=>?_) (fun c=>?_)
 .have:l.length<2:=by have:=cd c;omega
  refine qQ ?_
  match l,this with
  | [],_=>rfl
  | [a],_=>rfl
 .have h2:2<=l.length:=by have:=eI c;omega
  refine⟨fun x h' m=>∃i:Nat,x=i/\1<=i/\i<=l.length/\m=l.length-i/\h'=h/\aL (l.take i)=l.take i,⟨_,1,rfl,by omega,by omega,rfl,rfl,?_⟩,?_⟩
  .match l,h2 with
   | a::r,_=>rfl
  rintro-x h5 m ⟨i,rfl,hi1,dC,rfl,rfl,Fg⟩;refine aa (fun l2=>?_) (fun l2=>?_)
  .replace l2:=bw l2;have iy:=hs.rows k hk (by omega);refine iy.ax (by omega) (by omega) fun b o x1 g t=>?_;replace g:l[i]?=some x1:=g;refine⟨_,_,_,t,?_⟩;have OO:IntKind.wrap .i64 ((i:Int)-1)=((i-1:Nat):Int):=by rw[bd (by omega) (by omega)];omega
   rw[OO];refine iy.ax (x:=((i-1:Nat):Int)) (by omega) (by omega) fun b' o' y1 g' t'=>?_;replace g':l[i-1]?=some y1:=g';refine⟨_,_,_,t',?_⟩;rw[Jc];have gu:=eT g hi1 g';refine aa (fun e=>?_) (fun e=>?_)
   .replace e:=cd e;rw[if_pos e,Fg] at gu;have uS:=hlen.2.1;refine⟨⟨by omega,by omega,by omega⟩,?_⟩;refine⟨fun kk x h' m=>∃(q j:Nat) (cl:List Ev),kk=q/\x=j/\1<=j/\i+j<=l.length/\q<=i+j-1/\m=l.length-j/\cl.length=l.length/\cl.take q=aL (l.take (i+j))/\(∀a,i+j-1<=a->cl[a]?=l[a]?)/\St h0 h' (L.set k (.sl s 140 3 (cl.map Ev.cs))),
     ⟨_,i,1,l,rfl,rfl,by omega,by omega,by omega,rfl,rfl,gu.symm,fun _ _=>rfl,by rw[cN];exact hs⟩,?_⟩
    rintro-kk x ko m' ⟨q,j,cl,rfl,rfl,hj1,K5,hq,rfl,dU,hct,r9,hs⟩;have Ip:(L.set k (.sl s 140 3 (cl.map Ev.cs)))[k]?=some (.sl s 140 3 (cl.map Ev.cs)):=by rw[Yq nH]
    have me:=(hs.rows k Ip (by omega)).from (i:=i) (by omega) (by omega)
    rw[<-List.map_drop] at me;have QT:Int.toNat ((s.n:Nat):Int)-Int.toNat ((i:Nat):Int)=s.n-i:=by simp
    have htI:Int.toNat ((i:Nat):Int)=i:=by simp
    refine aa (fun c2=>?_) (fun c2=>?_)
    .have Cp:i+j<l.length:=by have:=cd c2;rw[QT] at this;omega
     rw[QT,htI];refine me.ax (x:=(j:Int)) (by omega) (by show (j:Int)<((s.n-i:Nat):Int);omega) fun b2 o2 x2 g2 t2=>?_;replace g2:(cl.drop i)[j]?=some x2:=g2;rw[List.getElem?_drop,r9 _ (by omega)] at g2;refine⟨_,_,_,t2,?_⟩;have Am:IntKind.wrap .i64 ((j:Int)-1)=((j-1:Nat):Int):=by rw[bd (by omega) (by omega)];omega
     rw[Am];refine me.ax (x:=((j-1:Nat):Int)) (by omega) (by show ((j-1:Nat):Int)<((s.n-i:Nat):Int);omega) fun b3 o3 y2 g3 t3=>?_;replace g3:(cl.drop i)[j-1]?=some y2:=g3;rw[List.getElem?_drop,show i+(j-1)=i+j-1 by omega,r9 _ (by omega)] at g3;refine⟨_,_,_,t3,?_⟩;rw[Jc];have ff:=eT g2 (by omega) g3;have QM:IntKind.wrap .i64 ((j:Int)+1)=((j+1:Nat):Int):=by rw[bd (by omega) (by omega)];omega
     have hwq:IntKind.wrap .i64 ((q:Int)+1)=((q+1:Nat):Int):=by rw[bd (by omega) (by omega)];omega
     refine aa (fun e2=>?_) (fun e2=>?_)
     .have bI:x2≠y2:=by simpa using e2
      rw[if_neg bI] at ff;refine me.ax (x:=(j:Int)) (by omega) (by show (j:Int)<((s.n-i:Nat):Int);omega) fun b4 o4 x3 g4 t4=>?_;replace g4:(cl.drop i)[j]?=some x3:=g4;rw[List.getElem?_drop,r9 _ (by omega)] at g4;rw[g2] at g4;cases g4;refine⟨_,_,_,t4,?_⟩;refine hs.set k Ip (by omega) (x:=(q:Int)) (by omega) (by omega) x2 rfl rfl (fun b5 o5 sw hs=>?_) rfl;rw[List.set_set] at hs;refine⟨l.length-(j+1),by omega,q+1,j+1,cl.set q x2,hwq,QM,by omega,by omega,by omega,rfl,by rw[lh];exact dU,?_,?_,hs⟩
      .rw[show i+(j+1)=i+j+1 by omega,ff,<-hct,ae (x:=x2) (by rw[Yq (by omega)]),List.take_set_of_le (bu _)]
      .intro a ha;rw[Yy (by omega)];exact r9 a (by omega)
     .have heq:x2=y2:=by simpa using e2
      rw[if_pos heq] at ff;refine⟨l.length-(j+1),by omega,q,j+1,cl,rfl,QM,by omega,by omega,by omega,rfl,dU,?_,fun a ha=>r9 a (by omega),hs⟩;rw[show i+(j+1)=i+j+1 by omega,ff];exact hct
    .have Cp:i+j=l.length:=by have:=eI c2;rw[QT] at this;omega
     refine⟨⟨by omega,by omega,by omega⟩,?_⟩;have htq:Int.toNat ((q:Nat):Int)=q:=by simp
     have OT:Int.toNat ((s.n:Nat):Int)=s.n:=by simp
     rw[htq,OT];refine hs.clear k Ip (by omega) q (by omega) PW Ln rfl rfl fun v vO hs=>?_;refine⟨⟨by omega,by omega,by omega⟩,⟨s.a,q,s.c⟩,?_,?_⟩
     .rw[show Int.toNat 0=0 from rfl,cp];rfl
     .rw[List.set_set,<-List.map_take,hct,Cp,vV] at hs;exact hs
   .replace e:=eI e;rw[if_neg e,Fg] at gu;refine⟨l.length-(i+1),by omega,i+1,by rw[bd (by omega) (by omega)];omega,by omega,by omega,rfl,rfl,?_⟩;rw[gu,ae g]
  .replace l2:=bz l2;rw[Yj (by omega)] at Fg;exact qQ Fg
end Go.VC
end

section
namespace Go.VC
def GU(bk:Bool)(x:Ed):Int:=if bk then x.t else x.f
def Jj(bk:Bool)(x:Ed):Int:=if bk then x.f else x.t
def Adj(es:List Ed)(bk:Bool)(a b:Int):Prop:=∃x∈es,GU bk x=a/\Jj bk x=b
inductive gL (es:List Ed) (bk:Bool) (a:Int):Int->Prop where
 | refl:gL es bk a a
 | step {b c:Int}:gL es bk a b->Adj es bk b c->gL es bk a c
def mK(D:List Int)(v:Int):Prop:=0<=v/\∃d,D[v.toNat]?=some d/\0<=d
structure BF (es:List Ed) (bk:Bool) (n:Nat) (s:Int) (D T:List Int):Prop where
 len:D.length=n
 src:mK D s
 r:∀v,mK D v->gL es bk s v
 t:∀t∈T,mK D t
 c:∀v w,mK D v->v∉T->Adj es bk v w->mK D w
 b:∀d∈D,-1<=d/\d+D.count (-1)<=200
theorem jE{D:List Int}{b d v:Int}(Fi:0<=b)(hb:b<D.length)(hd:0<=d):mK (D.set b.toNat d) v ↔ v=b\/mK D v:=by
 unfold mK;constructor
 .rintro⟨h0,e,he,h1⟩;by_cases hvb:v=b
  .exact .inl hvb
  .rw[Yy (by omega)] at he;exact .inr ⟨h0,e,he,h1⟩
 .rintro (rfl | ⟨h0,e,he,h1⟩)
  .exact⟨Fi,d,by rw[Yq (by omega)],hd⟩
  .by_cases hvb:v=b
   .subst hvb;exact⟨Fi,d,by rw[Yq (by omega)],hd⟩
   .exact⟨h0,e,by rw[Yy (by omega)];exact he,h1⟩
theorem BF.push{es:List Ed}{bk:Bool}{n:Nat}{s:Int}{D T:List Int}(h:BF es bk n s D T){a b da db:Int}(ha:mK D a)(Ui:D[a.toNat]?=some da)(Fi:0<=b)(hb:D[b.toNat]?=some db)(M3:db<0)(kj:Adj es bk a b):
  BF es bk n s (D.set b.toNat (da+1)) (T++[b])/\(D.set b.toNat (da+1)).count (-1)+1=D.count (-1)/\0<=da/\da+1<=200:=by
 have yW:=(Ya.1 hb).1;have Fh:=(Ya.1 hb).2;have Rq:0<=da:=by
  obtain⟨_,e,he,h1⟩:=ha;rw[Ui] at he;cases he;exact h1
 have hdb:db=-1:=by have:=(h.b db (Yb hb)).1;omega
 subst hdb;have Ao:∀v,mK (D.set b.toNat (da+1)) v ↔ v=b\/mK D v:=fun v=>jE Fi (by omega) (by omega);have gG:0<D.count (-1):=List.count_pos_iff.2 (Yb hb);have M7:(D.set b.toNat (da+1)).count (-1)+1=D.count (-1):=by
  rw[List.count_set yW,Fh];have:((da+1)==(-1:Int))=false:=by simp;omega
  rw[this];simp;omega
 have hub:=(h.b da (Yb Ui)).2;refine⟨⟨by rw[lh];exact h.len,(Ao s).2 (.inr h.src),fun v hv=>?_,fun t ht=>?_,fun v w hv hn yQ=>?_,fun d hd=>?_⟩,M7,Rq,by omega⟩
 .rcases (Ao v).1 hv with rfl | hv
  .exact (h.r a ha).step kj
  .exact h.r v hv
 .rcases Yk.1 ht with ht | ht
  .exact (Ao t).2 (.inr (h.t t ht))
  .rw[Ye] at ht;exact (Ao t).2 (.inl ht)
 .rw[Yk,Ye,not_or] at hn;rcases (Ao v).1 hv with rfl | hv
  .exact absurd rfl hn.2
  .exact (Ao w).2 (.inr (h.c v w hv hn.1 yQ))
 .rcases List.mem_or_eq_of_mem_set hd with hd | rfl
  .have:=h.b d hd;omega
  .omega
theorem BF.start{es:List Ed}{bk:Bool}{n:Nat}{s:Int}(h0:0<=s)(h1:s<n)(hn:n<=200):BF es bk n s ((List.replicate n (-1:Int)).set s.toNat 0) [s]:=by
 have hl:s<(List.replicate n (-1:Int)).length:=by rw[Yg];exact h1
 have hv:∀v,mK ((List.replicate n (-1:Int)).set s.toNat 0) v ↔ v=s:=fun v=>by
  rw[jE h0 hl (by omega)];refine⟨fun h=>h.elim id fun h=>?_,.inl⟩;obtain⟨_,d,hd,h2⟩:=h;have:=List.eq_of_mem_replicate (Yb hd);omega
 have hc:((List.replicate n (-1:Int)).set s.toNat 0).count (-1)<=200:=iX List.count_le_length (by rw[lh,Yg];exact hn);refine⟨by rw[lh,Yg],(hv s).2 rfl,fun v h=>?_,fun t ht=>?_,fun v w h hn=>?_,fun d hd=>?_⟩
 .rw[(hv v).1 h];exact .refl
 .rw[Ye] at ht;exact (hv t).2 ht
 .rw[(hv v).1 h] at hn;exact absurd (Ye.2 rfl) hn
 .rcases List.mem_or_eq_of_mem_set hd with hd | rfl
  .rw[List.eq_of_mem_replicate hd];omega
  .omega
theorem BF.end_{es:List Ed}{bk:Bool}{n:Nat}{s:Int}{D:List Int}(h:BF es bk n s D [])(v:Int):mK D v ↔ gL es bk s v:=by
 refine⟨h.r v,fun hr=>?_⟩
 induction hr with
 | refl=>exact h.src
 | step _ hbc ih=>exact h.c _ _ ih (by simp) hbc
theorem BF.all{es:List Ed}{bk:Bool}{n:Nat}{s:Int}{D:List Int}(h:BF es bk n s D []):(-1:Int)∈D ↔ ¬∀v:Int,0<=v->v<n->gL es bk s v:=by
 constructor
 .intro hm cA;obtain⟨j,hj⟩:=Yf.1 hm;have hl:=(Ya.1 hj).1;obtain⟨_,d,hd,h0⟩:=(h.end_ (j:Int)).2 (cA j (by omega) (by have:=h.len;omega));rw[show ((j:Int)).toNat=j from rfl,hj] at hd;cases hd;omega
 .intro hn;apply Classical.byContradiction;intro hm;apply hn;intro v h0 hv;have hl:v.toNat<D.length:=by have:=h.len;omega
  refine (h.end_ v).1 ⟨h0,D[v.toNat],Yi hl,?_⟩;have h1:=(h.b _ (List.getElem_mem hl)).1;have h2:D[v.toNat] ≠ -1:=fun e=>hm (e ▸ List.getElem_mem hl);omega
end Go.VC
end

section
namespace Go.VC
open Go.Proofs Go.LexS
theorem Og:Pz.underlying 102=some (.slice 3):=by kernel_rfl
theorem Oo:(Pz.info? 3).map (·.size)=some 1:=by kernel_rfl
theorem HN(n:Nat):ak Pz 3 n=List.replicate n (.int .i64 0):=by
 have hz:bN Pz 3=[.int .i64 0]:=by kernel_rfl
 unfold ak;rw[hz]
 induction n with
 | zero=>rfl
 | succ n ih=>rw[List.replicate_succ,pI,ih];rfl
theorem Hf{xs:List Value}{n:Nat}(hl:xs.length=n)(h:∀j,j<n->xs[j]?=some (.int .i64 (-1))):xs=((List.replicate n (-1:Int)).map aM).flatten:=by
 subst hl
 induction xs with
 | nil=>rfl
 | cons a r ih=>
  have h0:=h 0 (by simp);simp only[List.getElem?_cons_zero,Option.some.injEq] at h0;rw[jC,List.replicate_succ,iM,pI,<-ih fun j hj=>by have:=h (j+1) (by simpa using hj);simpa using this,h0];rfl
theorem Od{n:Int}(h0:0<=n)(h1:n<18446744073709551616):IntKind.wrap .u64 n=n:=by
 simp[IntKind.wrap,IntKind.signed,IntKind.bits];omega
theorem qd{xs:List Value}{o m:Nat}(hm:o+m<=xs.length)(h:∀j,j<o->xs[j]?=some (.int .i64 (-1))):(aA xs o (List.replicate m (.int .i64 (-1)))).length=xs.length/\∀j,j<o+m->(aA xs o (List.replicate m (.int .i64 (-1))))[j]?=some (.int .i64 (-1)):=by
 unfold aA;refine⟨by simp only[Yh,Yu,List.length_drop,Yg];omega,fun j hj=>?_⟩;by_cases hjo:j<o
 .rw[Yz,lg (by rw[Yu];omega),rO,if_pos hjo];exact h j hjo
 .rw[lg (by simp only[Yh,Yu,Yg];omega),sz (by rw[Yu];omega),Yu,List.getElem?_replicate,if_pos (by omega)]
theorem CJ{h h1 h2:Heap}{b:Nat}(E:Ext h h1)(B:kx b h1 h2)(hb:h.size<=b):Ext h h2:=⟨by rw[B.1];exact E.1,fun k hk=>(B.2 k (by omega)).trans (E.2 k hk)⟩
theorem He(n:Int)(h0:0<=n)(h1:n<=200)(b:Nat)(h:Heap)(hb:hc h ⟨b,0,none⟩=some (.int .i64 (-1))):
  Fn Pz 77 #[.slice (some ⟨b,0,none⟩) 1 1,.int .i64 n] h fun v h'=>Ext h h'/\∃s:Sl,v=.slice s.a s.n s.c/\cF h' h.size 3 1 s ((List.replicate n.toNat (-1)).map aM).flatten:=by
 obtain⟨N,rfl⟩:∃N:Nat,n=N:=⟨n.toNat,by omega⟩;have hN:N<=200:=by omega
 have yW:b<h.size:=by
  rcases Nat.lt_or_ge b h.size with bt | Fb
  .exact bt
  .unfold hc at hb;rw[Array.getElem?_eq_none (by simpa using Fb)] at hb;cases hb
 apply acS ⟨some ⟨b,0,none⟩,1,1⟩;unfold W77;refine⟨fun h'=>h'=h,im (decide_eq_false (by omega)) rfl,?_⟩;rintro-_ rfl;rw[show IntKind.wrap .u64 (((1:Nat):Int))=((1:Nat):Int) from Od (by omega) (by omega),show IntKind.wrap .u64 (N:Int)=((N:Nat):Int) from Od (by omega) (by omega)];refine (Qm 1 N (by omega) (by omega) _).mono ?_;rintro _ h6 ⟨rfl,rfl⟩;rw[show 1*N/18446744073709551616=0 by omega,show 1*N%18446744073709551616=N by omega];refine⟨_,_,rfl,fun h'=>h'=h6,im rfl (im (decide_eq_false (by omega)) rfl),?_⟩;rintro-h8 rfl;rw[show IntKind.wrap .i64 ((N:Nat):Int)=N from bd (by omega) (by omega)];refine⟨⟨by omega,by omega,by omega⟩,?_⟩;rw[Ys,HN];intro h9 hh9;have o9:Own h9 h8.size (List.replicate N (.int .i64 0)) 3:=by rw[hh9];exact Own.push
 have E9:Ext h8 h9:=by rw[hh9];exact Ext.push _ _
 have hb9:hc h9 ⟨b,0,none⟩=some (.int .i64 (-1)):=by rw[E9.hc yW];exact hb
 refine DF Og Oo o9 (g2:=b) (o2:=0) (l:=List.replicate (min 1 N) (.int .i64 (-1))) (by simp) ?_ (by simp;omega) (fun v hv=>by rw[List.eq_of_mem_replicate hv];rfl) fun jP B11 TM=>?_
 .intro j c hj;rw[List.getElem?_replicate] at hj;split at hj
  .cases hj;rw[show 0+j=0 by omega];exact hb9
  .cases hj
 obtain⟨e1,e2⟩:=qd (xs:=List.replicate N (.int .i64 0)) (o:=0) (m:=min 1 N) (by simp;omega) (fun j hj=>by omega);generalize TZ:aA (List.replicate N (Value.int .i64 0)) 0 (List.replicate (min 1 N) (.int .i64 (-1)))=xs at TM e1 e2;rw[Yg] at e1;have E11:=CJ E9 B11 (bu _);clear TZ B11 o9;rw[Yg];refine⟨fun x h' m=>∃(i:Nat) (xs:List Value),x=i/\i<=N/\(1<=i\/N=0)/\m=N-i/\Own h' h8.size xs 3/\xs.length=N/\(∀j,j<i->xs[j]?=some (.int .i64 (-1)))/\Ext h8 h',
  ⟨_,min 1 N,xs,rfl,by omega,by omega,rfl,TM,e1,fun j hj=>e2 j (by omega),E11⟩,?_⟩
 rintro-x fx m ⟨i,xs,rfl,hi,hi1,rfl,Qj,hl,cA,E16⟩;refine aa (fun c=>?_) (fun c=>?_)
 .replace c:=bw c;refine⟨⟨by omega,by omega,by omega⟩,⟨by omega,by omega,by omega⟩,?_⟩;rw[show Int.toNat ((i:Nat):Int)=i from Ys i,show Int.toNat ((N:Nat):Int)=N from Ys N,show Int.toNat 0=0 from rfl,cp,mU c];refine DF Og Oo Qj (g2:=h8.size) (o2:=0) (l:=List.replicate (min i (N-i)) (.int .i64 (-1))) (by simp) ?_ (by simp;omega) (fun v hv=>by rw[List.eq_of_mem_replicate hv];rfl) fun gJ B18 TK=>?_
  .intro j c hj;rw[List.getElem?_replicate] at hj;split at hj
   .cases hj;rw[Qj.hc];exact cA _ (by omega)
   .cases hj
  obtain⟨e3,e4⟩:=qd (xs:=xs) (o:=0+i*1) (m:=min i (N-i)) (by omega) (fun j hj=>cA j (by omega));rw[Yg];refine⟨N-(i+min i (N-i)),by omega,i+min i (N-i),_,by rw[bd (by omega) (by omega)];omega,by omega,by omega,rfl,TK,by rw[e3];exact hl,fun j hj=>e4 j (by omega),CJ E16 B18 (bu _)⟩
 .replace c:=bz c;have hiN:i=N:=by omega
  subst hiN;refine⟨E16,⟨some ⟨h8.size,0,none⟩,i,i⟩,rfl,?_,.inr ⟨h8.size,⟨xs⟩,rfl,bu _,Qj,bu _,?_,?_,?_⟩⟩
  .rw[<-Hf hl cA];show xs.length=i*1;omega
  .show i<=9223372036854775807;omega
  .show xs.length=i*1;omega
  .show xs.take (i*1)=_;rw[Yj (by omega)];exact Hf hl cA
end Go.VC
end

section
namespace Go.VC
def fS(w:Nat):List Nat:=(List.range 64).filter fun j=>w.testBit j
theorem mu{f g:Nat->Bool}{k:Nat}(h1:∀j,j<k->f j=false/\g j=false)(h2:f k=true)(h3:g k=false)(h4:∀j,k<j->f j=g j):∀d:Nat,(List.range (k+1+d)).filter f=k::(List.range (k+1+d)).filter g
 | 0=>by
  have e1:(List.range k).filter f=[]:=List.filter_eq_nil_iff.2 fun j hj=>by rw[(h1 j (List.mem_range.1 hj)).1];simp
  have e2:(List.range k).filter g=[]:=List.filter_eq_nil_iff.2 fun j hj=>by rw[(h1 j (List.mem_range.1 hj)).2];simp
  rw[Nat.add_zero,List.range_succ,List.filter_append,List.filter_append,e1,e2];simp[h2,h3]
 | d+1=>by
  have ih:=mu h1 h2 h3 h4 d;rw[<-Nat.add_assoc,List.range_succ,List.filter_append,List.filter_append,ih,List.cons_append];congr 2;simp only[List.filter_cons,List.filter_nil,h4 (k+1+d) (by omega)]
theorem FM{w:Nat}(h0:w≠0)(h1:w<2^64):fS w=Lib.ctz 64 w::fS (w&&&(w-1)):=by
 obtain⟨m,hm,hk⟩:=Lib.ctzFrom_spec 64 w (by omega) h1;have hc:Lib.ctz 64 w=Lib.ctzFrom 64 w:=by unfold Lib.ctz;rw[if_neg h0]
 rw[hc];generalize Lib.ctzFrom 64 w=k at hm hk ⊢;have hp:0<2^k:=Nat.two_pow_pos k;have OO:w-1=2^k*(2*m)+(2^k-1):=by rw[hm,Nat.mul_add];omega
 have tb:∀j,w.testBit j=if j<k then false else (2*m+1).testBit (j-k):=by
  intro j;have e:w=(2*m+1) <<< k:=by rw[Nat.shiftLeft_eq,Nat.mul_comm];exact hm
  rw[e,Nat.testBit_shiftLeft];by_cases hj:j<k
  .rw[if_pos hj];simp;omega
  .rw[if_neg hj];simp;omega
 have tb1:∀j,(w-1).testBit j=if j<k then true else (2*m).testBit (j-k):=by
  intro j;rw[OO,Nat.testBit_two_pow_mul_add _ (by omega)];by_cases hj:j<k
  .rw[if_pos hj,if_pos hj,Nat.testBit_two_pow_sub_one];simpa using hj
  .rw[if_neg hj,if_neg hj]
 have odd:∀i,0<i->(2*m+1).testBit i=(2*m).testBit i:=by
  intro i hi;obtain⟨i,rfl⟩:∃i',i=i'+1:=⟨i-1,by omega⟩;rw[Nat.testBit_succ,Nat.testBit_succ];congr 1;omega
 have e:=mu (f:=fun j=>w.testBit j) (g:=fun j=>(w&&&(w-1)).testBit j) (k:=k) (fun j hj=>by
   have h2:=tb j;rw[if_pos hj] at h2;exact⟨h2,by rw[Nat.testBit_and,h2];rfl⟩)
  (by show w.testBit k=true;rw[tb,if_neg (by omega),Nat.sub_self];simp[Nat.testBit_zero])
  (by show (w&&&(w-1)).testBit k=false;rw[Nat.testBit_and,tb1,if_neg (by omega),Nat.sub_self];simp[Nat.testBit_zero])
  (fun j hj=>by
   show w.testBit j=(w&&&(w-1)).testBit j;rw[Nat.testBit_and,tb,tb1,if_neg (by omega),if_neg (by omega),odd _ (by omega),Bool.and_self]) (63-k)
 rw[show k+1+(63-k)=64 by omega] at e;exact e
theorem yv{w:Nat}(h0:w≠0):w&&&(w-1)<w:=Nat.lt_of_le_of_lt Nat.and_le_right (by omega)
theorem qt(p:Nat->Bool):∀n:Nat,(List.range (64*n)).filter p=(List.range n).flatMap fun i=>((List.range 64).filter fun j=>p (64*i+j)).map (64*i + ·)
 | 0=>rfl
 | n+1=>by
  rw[show 64*(n+1)=64*n+64 by omega,List.range_add,List.filter_append,qt p n,List.range_succ (n:=n),List.flatMap_append,List.flatMap_singleton,List.filter_map];rfl
theorem tF(f:Nat->List Nat){n:Nat}(h:∀i,n<=i->f i=[]):∀d:Nat,(List.range (n+d)).flatMap f=(List.range n).flatMap f
 | 0=>rfl
 | d+1=>by rw[<-Nat.add_assoc,List.range_succ,List.flatMap_append,tF f h d,List.flatMap_singleton,h _ (by omega),Yw]
def dG(ws:List Nat)(n:Nat):List Nat:=(List.range n).flatMap fun i=>(fS (ws.getD i 0)).map (64*i + ·)
theorem vY(ws:List Nat)(n:Nat):dG ws (n+1)=dG ws n++(fS (ws.getD n 0)).map (64*n + ·):=by
 unfold dG;rw[List.range_succ,List.flatMap_append,List.flatMap_singleton]
theorem xW{p:Nat->Bool}{ws:List Nat}(hl:ws.length<=64)(hm:∀k,iR ws k=p k):elems p=dG ws ws.length:=by
 unfold elems;rw[show 4096=64*64 from rfl,qt];have e:∀i,(((List.range 64).filter fun j=>p (64*i+j)).map (64*i + ·))=(fS (ws.getD i 0)).map (64*i + ·):=by
  intro i;congr 1;unfold fS;apply List.filter_congr;intro j hj;have hj:=List.mem_range.1 hj;rw[<-hm];unfold iR;rw[show (64*i+j)/64=i by omega,show (64*i+j)%64=j by omega]
 simp only[e];have:=tF (fun i=>(fS (ws.getD i 0)).map (64*i + ·)) (n:=ws.length) (fun i hi=>by
  rw[Yo,Yl (by omega),Option.getD_none];have:fS 0=[]:=by unfold fS;exact List.filter_eq_nil_iff.2 fun j _=>by simp
  rw[this];rfl) (64-ws.length)
 rw[show ws.length+(64-ws.length)=64 by omega] at this;exact this
end Go.VC
end

section
namespace Go.VC
open Go.Proofs Go.LexS Go.Shelf Go.RowKit
attribute [local go_sem] Oper.semAt_some
theorem WZ(x:Nat)(hx:x<18446744073709551616)(w:World)(hT:TabAt 0 Lib.deBruijn64tab w):CallsIn Fence.wide 1 Pz 215 #[.int .u64 x] w fun e w'=>e=.returned (.int .i64 (Lib.ctz 64 x))/\w'=w:=
 callsIn_wide.2 (Any7.bits_TrailingZeros64 Tryz.HS x hx w fun _=>hT)
theorem CV{w:Nat}(h0:w≠0)(hw:w<2^64):bits BinOp.and IntKind.u64 (w:Int) ((w:Int)-1)=((w&&&(w-1):Nat):Int):=by
 have e1:((w:Int)-1)=((w-1:Nat):Int):=by omega
 rw[e1];show IntKind.u64.wrap ((BitVec.ofInt 64 (w:Int)&&&BitVec.ofInt 64 ((w-1:Nat):Int)).toNat:Int)=_;have ha:(BitVec.ofInt 64 (w:Int)&&&BitVec.ofInt 64 ((w-1:Nat):Int)).toNat=w&&&(w-1):=by
  rw[BitVec.toNat_and];congr 1
  .simp[BitVec.toNat_ofInt];omega
  .simp[BitVec.toNat_ofInt];omega
 rw[ha];have bt:w&&&(w-1)<2^64:=Nat.lt_of_le_of_lt Nat.and_le_left hw;exact Gu (by omega) (by omega)
theorem y7(ws:List Nat){k n:Nat}(h:k<=n):dG ws k <+: dG ws n:=by
 obtain⟨d,rfl⟩:∃d,n=k+d:=⟨n-k,by omega⟩;unfold dG;rw[List.range_add,List.flatMap_append];exact List.prefix_append _ _
set_option maxRecDepth 100000 in
theorem A6(b off len cap:Nat)(ws:List Nat)(hl:ws.length=len)(tw:len<=64)(hw:∀x∈ws,x<2^64)(n₀:Nat)(hb:b<n₀)(M6:0<n₀)(l:Nat)(J:List Nat->World->Prop)
  (hY:∀pre x W1,J pre W1->pre++[x] <+: dG ws len->YieldAt Fence.wide 1 Pz l #[.int .i64 (x:Nat)] W1 fun e W'=>e=.returned (.bool true)/\J (pre++[x]) W'/\Below n₀ W1 W')
  (W:World) (hc:∀j,j<len->W.cell? ⟨b,off+j,none⟩=some (.int .u64 (ws.getD j 0:Nat))) (hT:TabAt 0 Lib.deBruijn64tab W) (h0:J [] W) :
  CallsIn Fence.wide 2 Pz 153 #[.slice (some ⟨b,off,none⟩) len cap,.func (.yield l) #[] #[]] W fun e W'=>(∃v,e=.returned v)/\J (dG ws len) W':=by
 refine callsIn_of_wp Tryz.func153 rfl trivial ?_ rfl;simp only[Tryz.ntmps153,List.size_toArray,jC,List.length_nil,Nat.reduceAdd,Nat.reduceSub,Array.replicate_succ,Array.replicate_zero,List.push_toArray,List.append_toArray,List.nil_append,List.cons_append]
 gi_wp2
 gi_loopw [9] (fun i wr=>∃k:Nat,k<=len/\i=.int .i64 k/\J (dG ws k) wr/\Below n₀ W wr)
  (fun i _=>len-(Proofs.intOf i).toNat)
 case atStart=>exact⟨0,Nat.zero_le _,rfl,h0,Below.refl _ _⟩
 case round=>
  obtain⟨k,hk,rfl,hJs,EV⟩:=hrel;by_cases bt:k<len
  .have hcx:wr.cell? ⟨b,off+k,none⟩=some (.int .u64 (ws.getD k 0:Nat)):=(EV.cell (p:=⟨b,off+k,none⟩) hb).trans (hc k bt);have nH:k<ws.length:=by omega
   have Rk:ws.getD k 0=ws[k]:=by rw[Yo,Yi nH,Option.getD_some]
   rw[Rk] at hcx;have XF:ws[k]<2^64:=hw _ (List.getElem_mem nH);have QV:dG ws (k+1)=dG ws k++(fS ws[k]).map (64*k + ·):=by rw[vY,Rk]
   have Av:dG ws (k+1) <+: dG ws len:=y7 ws (by omega);generalize ws[k]=wk at hcx XF QV
   gi_wp2
   have hd:decide ((k:Int)<min (len:Int) 64)=true:=decide_eq_true (by omega);simp only[hd]
   gi_loopw [5] (fun c wr'=>∃(cur:Nat) (dn:List Nat),c=.int .u64 cur/\cur<2^64/\dn++fS cur=fS wk/\J (dG ws k++dn.map (64*k + ·)) wr'/\Below n₀ W wr') (fun c _=>(Proofs.intOf c).toNat)
   case atStart=>exact⟨wk,[],rfl,XF,rfl,by simpa using hJs,EV⟩
   case round=>
    obtain⟨cur,dn,rfl,YT,sk,hJc,xz⟩:=hrel;by_cases hz:cur=0
    .subst hz;have aeI:dn=fS wk:=by rw[<-sk];unfold fS;simp
     gi_wp2
     refine⟨⟨k+1,by omega,by simp,by rw[QV,<-aeI];exact hJc,xz⟩,?_⟩;simp[Proofs.intOf];omega
    .have dB:=FM hz YT;have hTc:TabAt 0 Lib.deBruijn64tab wr:=fun j hj=>(xz.cell (p:=⟨0,j,none⟩) M6).trans (hT j hj);obtain⟨fn,tmps,assign,body,hy,hR⟩:=hY _ (64*k+Lib.ctz 64 cur) wr hJc (by
      refine List.IsPrefix.trans ?_ Av;rw[QV,<-sk,dB,Ym,iM];exact⟨(fS (cur&&&(cur-1))).map (64*k + ·),by simp⟩)
     gi_wp2_with (refine⟨trivial,?_⟩;gi_at_call 215;refine (WZ cur (by omega) _ hTc).mono ?_;rintro e w' ⟨rfl,rfl⟩)
     have ahU:Lib.ctz 64 cur<64:=by
      unfold Lib.ctz;rw[if_neg hz];obtain⟨_,_,h⟩:=Lib.ctzFrom_spec 64 cur (by omega) YT;exact h
     have hwr:wrap64 (64*(k:Int)+(Lib.ctz 64 cur:Nat))=((64*k+Lib.ctz 64 cur:Nat):Int):=by
      rw[IntWalk.wrap64_in _ (by omega)];omega
     rw[hwr,hy]
     gi_wp2
     refine hR.mono ?_;rintro e W3 ⟨rfl,hJ3,hk3⟩
     gi_wp2
     go_roundw
     case rel=>
      refine⟨cur&&&(cur-1),dn++[Lib.ctz 64 cur],by rw[CV hz YT],Nat.lt_of_le_of_lt Nat.and_le_left YT,?_,?_,xz.trans hk3⟩
      .rw[Yz,List.singleton_append,<-dB];exact sk
      .rw[Ym,<-Yz];exact hJ3
     case measure=>
      rw[CV hz YT];simp only[Proofs.intOf,Ys];exact yv hz
  .obtain rfl:k=len:=by omega
   gi_wp2
   go_end0
   exact⟨⟨_,rfl⟩,hJs⟩
set_option maxRecDepth 100000 in
theorem A5(p:Option Addr)(cap l:Nat)(J:List Nat->World->Prop)(W:World)(h0:J [] W):
  CallsIn Fence.wide 2 Pz 153 #[.slice p 0 cap,.func (.yield l) #[] #[]] W fun e W'=>(∃v,e=.returned v)/\J [] W':=by
 refine callsIn_of_wp Tryz.func153 rfl trivial ?_ rfl;simp only[Tryz.ntmps153,List.size_toArray,jC,List.length_nil,Nat.reduceAdd,Nat.reduceSub,Array.replicate_succ,Array.replicate_zero,List.push_toArray,List.append_toArray,List.nil_append,List.cons_append]
 gi_wp2
 gi_loopw [9] (fun i wr=>i=.int .i64 0/\J [] wr) (fun _ _=>0)
 case atStart=>exact⟨rfl,h0⟩
 case round=>
  obtain⟨rfl,hJs⟩:=hrel
  gi_wp2
  go_end0
  exact⟨⟨_,rfl⟩,hJs⟩
theorem vj{s:Sl}{p:Nat->Bool}{w w0:World}(hs:ie w.heap s p)(hx:Gx w.heap)(hB:Below w.heap.size w w0):Yields Fence.wide 2 Pz 153 #[.slice s.a s.n s.c] (fun x:Nat=>#[Value.int .i64 (x:Nat)]) w.heap.size (elems p) w0:=by
 intro l J W hW hY hJ;obtain⟨ws,iy,tw,hw,hm⟩:=hs.ex;rw[xW tw hm] at hY ⊢;have hn:s.n=ws.length:=iy.ln;have hWB:=hB.trans hW;rcases Nat.eq_zero_or_pos ws.length with h0 | h0
 .have hws:ws=[]:=List.length_eq_zero_iff.1 h0;subst hws;rw[hn];exact A5 s.a s.c l J W hJ
 .obtain⟨b,o,ha,Fj⟩:=iy.2 (by rw[Yc];exact h0);have xG:∀j,j<ws.length->w.cell? ⟨b,o+j,none⟩=some (.int .u64 (ws.getD j 0:Nat)):=by
   intro j hj;have h1:=Fj j (wC (ws.getD j 0)) (by rw[Yd,Yi hj,Yo,Yi hj];rfl);have h2:=h1.hd;rw[Nat.mul_one] at h2;exact h2
  have hb:b<w.heap.size:=by
   have h1:=xG 0 h0;exact World.block_lt_of_cell? _ _ h1
  have M6:0<w.heap.size:=by omega
  rw[ha,hn];exact A6 b o ws.length s.c ws rfl tw hw w.heap.size hb M6 l J hY W (fun j hj=>(hWB.cell (p:=⟨b,o+j,none⟩) hb).trans (xG j hj))
   (fun j hj=>(hWB.cell (p:=⟨0,j,none⟩) M6).trans (hx.t j hj)) hJ
theorem QJ:(Pz.info? 3).map (fun i=>(i.zero,i.size,i.bytes))=some (some (.int .i64 0),1,8):=by kernel_rfl
theorem Fy(p:Nat->Bool):(elems p).length<=4096:=by
 unfold elems;exact iX (List.length_filter_le _ _) (by rw[kv];exact bu _)
set_option maxRecDepth 100000 in
theorem EC(p:Nat->Bool)(s:Sl)(w:World)(hx:Gx w.heap)(hs:ie w.heap s p):
  CallsIn Fence.wide 3 Pz 84 #[.slice s.a s.n s.c] w fun e W'=>∃v,e=.returned v/\W'.ownsRow w.heap.size 3 1 v (elems p).length ((elems p).map fun n:Nat=>Value.int .i64 (n:Nat))/\Below w.heap.size w W':=by
 obtain⟨i0,hi,hz0,xm,xl⟩:=info_parts QJ;have hlen:=Fy p;refine callsIn_of_wp_marks Tryz.func84 rfl trivial ?_ rfl;simp only[Tryz.ntmps84,List.size_toArray,jC,List.length_nil,Nat.reduceAdd,Nat.reduceSub,Array.replicate_succ,Array.replicate_zero,List.push_toArray,List.append_toArray,List.nil_append,List.cons_append]
 gi_wp2
 have bO:=Boxed.new w 102 (.slice none 0 0);have hB0:Below w.heap.size w (w.alloc (.cells #[.slice none 0 0] 102)):=(Below.refl _ w).alloc (bu _) _;refine wH (n:=3) rfl (by omega) (gf:=153) (fb:=#[.slice s.a s.n s.c]) rfl trivial (enters_of Tryz.func153 (by kernel_rfl) rfl) (n₀:=w.heap.size) (by simp)
  (vj hs hx hB0) (fun _=>rfl)
  (fun pre W=>(∃v,Boxed W w.heap.size 102 v/\W.ownsRow w.heap.size 3 1 v pre.length (pre.map fun n:Nat=>Value.int .i64 (n:Nat))/\True)/\Below w.heap.size w W)
  (OwnFrom.and (Own.from (holdsRow_own w.heap.size w.heap.size 102 3 1 (fun pre:List Nat=>pre.length) (fun pre=>pre.map fun n:Nat=>Value.int .i64 (n:Nat)) (fun _ _=>True)) _) (ownFrom_below (bu _) (by simp)))
  ⟨⟨_,bO,World.ownsRow_nil _ _ _ _,trivial⟩,hB0⟩
  (fun x=>{ tmps:=#[.slice s.a s.n s.c,undef,.slice none 0 0,.pointer (some ⟨w.heap.size,0,none⟩),.int .i64 (x:Nat),.slice s.a s.n s.c,.func (.func 153) #[.slice s.a s.n s.c] #[],.int .i64 (x:Nat),undef,undef,undef,undef,undef],defers:=[] }) ?assign ?body ?done
 case assign=>
  intro l x W K hK
  gi_wp2
  exact hK
 case body=>
  rintro l pre x W ⟨⟨v,hv,bL,-⟩,hB⟩ Av;have hc:=hv.cell;have rK:pre.length<(elems p).length:=by have:=Av.length_le;simp at this;omega
  gi_wp2_with (gi_at_builtin;refine wpListIn_append_own _ rfl _ _ 102 rfl w.heap.size 3 i0 (.int .i64 0) 1 8 Tryz.underlying102 hi hz0 xm xl rfl (by decide) _ _ _ rfl (bL.alloc _) ⟨W.heap.size,0,none⟩ 1 1 [.int .i64 (x:Nat)] rfl rfl (cell_one_new _ _ _) (by simp[Value.oneCell']) (by have:maxLen=9223372036854775807:=rfl;omega) (by omega) (by have:=hB.size;simp;omega) ?_;intro v' w1 xw YE _;obtain⟨g',aiS,rfl⟩:=ownsRow_succ xw;obtain⟨hv1,QQ,kO,fg,jr⟩:=hv.appended (by decide) bL hB.size (bu _) xw YE;have rL:=hv1.cell;have YJ:=hv1.frozen)
  exact⟨⟨_,QQ,by simpa using kO⟩,hB.trans jr⟩
 case done=>
  rintro W ⟨⟨v,hv,bL,-⟩,hB⟩ hK;have hc:=hv.cell
  gi_wp2
  refine⟨by simp,.inl ⟨_,_,rfl,run_takeDeferred hK,?_⟩⟩;exact⟨_,results_tmp rfl _ _ _,v,rfl,ownsRow_putObj bL _ hK rfl,hB.trans (belowK_b (w:=w) (bu _) W _ _ _ (by simp) hK rfl rfl)⟩
theorem Ae(p:Nat->Bool)(s:Sl)(h:Heap)(hx:Gx h)(hs:ie h s p):
  Fn Pz 84 #[.slice s.a s.n s.c] h fun v h'=>Ext h h'/\∃r:Sl,v=.slice r.a r.n r.c/\cF h' h.size 3 1 r (((elems p).map fun n:Nat=>(n:Int)).map aM).flatten:=by
 intro w hw;subst hw;refine (callsIn_wide.1 (EC p s w hx hs)).mono ?_;rintro e w' ⟨v,rfl,bL,hB⟩;obtain⟨r,hr,hn,ho⟩:=cF.zD bL;have e1:(((elems p).map fun n:Nat=>(n:Int)).map aM).flatten=(elems p).map fun n:Nat=>Value.int .i64 (n:Nat):=by
  rw[List.map_map]
  induction elems p with
  | nil=>rfl
  | cons a l ih=>rw[iM,pI,ih];rfl
 exact⟨v,rfl,⟨⟨hB.size,fun k hk=>hB.block k hk⟩,r,hr,by rw[e1];exact ho⟩,hB.os,hB.tape,hB.output,trivial⟩
end Go.VC
end

section

end

section
namespace Go.VC
open Go.Proofs Go.LexS
def ix(l:Nm):Bool:=decide (l.length<=50)&&(pieces l).all isWord
theorem Zp(l:Nm)(h:Heap):Fn Pz 299 #[.string (bs l)] h fun v h'=>v=.bool (!isWord l)/\Ext h h':=by
 apply UW;unfold aad;refine (jK (bs l) h).mono ?_;rintro _ h3 ⟨rfl,E⟩;exact⟨_,rfl,rfl,E⟩
theorem Su:aF Pz 299=true:=by kernel_rfl
theorem QK(L:List Nm)(s:Sl)(h:Heap)(hr:RL h 1 s Es L):
  Fn Pz 308 #[.slice s.a s.n s.c,.func (.func 299) #[] #[]] h fun v h'=>(∃k:Int,v=.int .i64 k/\decide (k>=0)=L.any fun x=>!isWord x)/\Ext h h':=by
 apply US;unfold aaa;have hn:=hr.ln;have hm:=hr.sm;have hs:=St.refl h;refine aD (n:=s.n) hs (fun i=>∀(j:Nat) (y:Nm),j<i->L[j]?=some y->(!isWord y)=false) (fun j y hj=>by omega) ?_;rintro-i h5 hi ⟨hs,hd⟩;refine aa (fun l=>?_) (fun l=>?_)
 .replace l:=bw l;refine (hr.ext hs.ext).rw.ax (by omega) (by omega) fun b o d g t=>?_;replace g:L[i]?=some d:=g;refine⟨_,t.hd,?_⟩;rw[Su,cond_true];refine (Zp d h5).mono ?_;rintro _ jP ⟨rfl,E⟩;replace hs:=hs.step E;refine⟨_,rfl,aa (fun c=>?_) (fun c=>?_)⟩
  .exact⟨⟨_,rfl,by rw[JK g (p:=fun x=>!isWord x) c];exact decide_eq_true (by omega)⟩,hs.ext⟩
  .exact Up.next l (by omega) ⟨hs,eM (p:=fun x=>!isWord x) g c hd⟩
 .replace l:=bz l;refine⟨⟨_,rfl,?_⟩,hs.ext⟩;rw[JL (p:=fun x=>!isWord x) fun j x hj=>hd j x (by have:=(Ya.1 hj).1;omega) hj];rfl
theorem Ta(L:List Nm)(s:Sl)(h:Heap)(hr:RL h 1 s Es L):
  Fn Pz 297 #[.slice s.a s.n s.c,.func (.func 299) #[] #[]] h fun v h'=>v=.bool (L.any fun x=>!isWord x)/\Ext h h':=by
 apply UX;unfold aae;refine (QK L s h hr).mono ?_;rintro _ h3 ⟨⟨k,rfl,hk⟩,E⟩;exact⟨_,rfl,by rw[hk],E⟩
theorem NR(L:List Nm):(!(L.any fun x=>!isWord x))=L.all isWord:=by
 induction L with
 | nil=>rfl
 | cons a L ih=>rw[List.any_cons,List.all_cons,<-ih];cases isWord a<;>simp
theorem Ma(l:Nm)(h:Heap)(hx:Gm h):Fn Pz 268 #[.string (bs l)] h fun v h'=>v=.bool (ix l)/\Ext h h':=by
 apply Vb;unfold aaq;rw[vf];refine aQ (fun c=>?_) (fun c=>?_)
 .have hl:l.length<=50:=by omega
  refine (GV l h hx hl).mono ?_;rintro _ h3 ⟨E3,s,rfl,hr⟩;refine⟨_,rfl,?_⟩;refine (Ta _ s h3 hr).mono ?_;rintro _ h6 ⟨rfl,E6⟩;refine⟨_,rfl,?_,E3.trans E6⟩;unfold ix;rw[decide_eq_true hl,NR];rfl
 .refine⟨?_,(St.refl h).ext⟩;unfold ix;rw[decide_eq_false (by omega)];rfl
def cc(L:List Dc):List oW:=L.flatMap (·.fs)
theorem S7:cu Pz 166 260 4 40=true:=by kernel_rfl
theorem vi:∀(L:List Dc),(∀d∈L,d.fs.length<=1048576)->(cc L).length<=L.length*1048576
 | [],_=>by simp[cc]
 | d::L,h=>by
  have h1:=vi L fun x hx=>h x (Yn _ hx);have h2:=h d (by simp);unfold cc at *;rw[List.flatMap_cons,Yh,jC,Nat.succ_mul];omega
theorem ia(L:List Dc)(d:Dc):cc (L++[d])=cc L++d.fs:=by unfold cc;rw[List.flatMap_append,List.flatMap_singleton]
theorem CE(L:List oW):∀r∈L.map oW.cs,r.length=4:=fun r hr=>by obtain⟨x,_,rfl⟩:=Yp.1 hr;rfl
theorem zB{α:Type}{cs:α->List Value}(h:∀x,(cs x).all eF=true)(L:List α):(L.map cs).flatten.all eF=true:=by
 induction L with
 | nil=>rfl
 | cons a L ih=>rw[iM,pI,List.all_append,h a,ih];rfl
theorem Ft(L:List Dc)(s:Sl)(h:Heap)(hL:DL h s L)(km:L.length<=40):
  Fn Pz 267 #[.slice s.a s.n s.c] h fun v h'=>Ext h h'/\∃r:Sl,v=.slice r.a r.n r.c/\cF h' h.size 260 4 r ((cc L).map oW.cs).flatten:=by
 apply Vc;unfold aar;have hn:=hL.r.ln;have hs:=(St.refl h).cn 260 4;refine dV (n:=s.n) hs (fun i rows=>rows=(cc (L.take i)).map oW.cs) rfl ?_;rintro-i out h6 rows hi hs q;refine aa (fun l=>?_) (fun l=>?_)
 .replace l:=bw l;refine (hL.ext hs.ext).r.rw.ax (by omega) (by omega) fun b o d g t=>?_;replace g:L[i]?=some d:=g;refine⟨_,_,_,_,_,t,?_⟩;refine hs.aj (vs:=d.cs) rfl rfl fun tD hs=>?_;refine⟨_,hs.rd 0 rfl rfl,?_⟩;have hd:=(hL.i d (Yb g)).pf.ext hs.ext;have hlen:=(hs.len 1 rfl (by omega)).1;have h1:=vi (L.take i) fun x hx=>(hL.i x (List.mem_of_mem_take hx)).pf.sm;have h2:=hd.sm;have h3:=hd.ln;have h4:(L.take i).length*1048576<=40*1048576:=Nat.mul_le_mul_right _ (by rw[Yu];omega);rw[q,Yc] at hlen;refine hs.gB 1 rfl S7 hd.rw (CE _) hd.nil (zB (fun _=>rfl) _) (by omega) (by simp only[maxLen];omega) fun r gJ hr hs=>?_;refine A8.next l (by omega) ⟨_,hs.drop 1,?_⟩;rw[q,ae g,ia,Ym]
 .replace l:=bz l;rw[Yj (by omega)] at q;have:=hs.RV 0 rfl;rw[q] at this;exact⟨hs.ext,out,rfl,this⟩
theorem Sx:aF Pz 270=true:=by kernel_rfl
theorem Sw:aF Pz 273=true:=by kernel_rfl
theorem ZU(a b:Nm):(ByteArray.toList (bs a)==ByteArray.toList (bs b))=decide (a=b):=qb _ _
theorem Zr(d:Dc)(n:Nm)(c:Addr)(h:Heap)(iA:hc h c=some (.string (bs n))):Fn Pz 270 #[.agg ⟨d.cs⟩,.pointer (some c)] h fun v h'=>v=.bool (decide (d.nm=n))/\Ext h h':=by
 apply U9 (bs d.nm) d.hf d.first d.hd d.he c;unfold aao
 have hs:=St.refl h;refine hs.ao fun h6 hs=>?_;refine⟨_,hs.rd 0 rfl rfl,_,aw hs.ext iA,?_⟩;rw[ZU];exact⟨rfl,hs.ext⟩
theorem Zq(d:oW)(n:Nm)(c:Addr)(h:Heap)(iA:hc h c=some (.string (bs n))):Fn Pz 273 #[.agg ⟨d.cs⟩,.pointer (some c)] h fun v h'=>v=.bool (decide (d.nm=n))/\Ext h h':=by
 apply U6 (bs d.nm) d.k d.lo d.hi c;unfold aal;have hs:=St.refl h;refine hs.ao fun h6 hs=>?_;refine⟨_,hs.rd 0 rfl rfl,_,aw hs.ext iA,?_⟩;rw[ZU];exact⟨rfl,hs.ext⟩
theorem RB(L:List Dc)(n:Nm)(c:Addr)(s:Sl)(h:Heap)(hr:RL h 5 s Dc.cs L)(iA:hc h c=some (.string (bs n))):
  Fn Pz 269 #[.slice s.a s.n s.c,.func (.func 270) #[] #[.pointer (some c)]] h fun v h'=>v=.bool (L.any fun d=>decide (d.nm=n))/\Ext h h':=by
 apply Va;unfold aap;have key:Fn Pz 300 #[.slice s.a s.n s.c,.func (.func 270) #[] #[.pointer (some c)]] h fun v h'=>(∃k:Int,v=.int .i64 k/\decide (k>=0)=L.any fun d=>decide (d.nm=n))/\Ext h h':=by
  apply UU;unfold aac;have hn:=hr.ln;have hm:=hr.sm;have hs:=St.refl h;refine aD (n:=s.n) hs (fun i=>∀(j:Nat) (y:Dc),j<i->L[j]?=some y->decide (y.nm=n)=false) (fun j y hj=>by omega) ?_;rintro-i h5 hi ⟨hs,hd⟩;refine aa (fun l=>?_) (fun l=>?_)
  .replace l:=bw l;refine (hr.ext hs.ext).rw.ax (by omega) (by omega) fun b o d g t=>?_;replace g:L[i]?=some d:=g;refine⟨_,_,_,_,_,t,?_⟩;rw[Sx,cond_true];refine (Zr d n c h5 (aw hs.ext iA)).mono ?_;rintro _ jP ⟨rfl,E⟩;replace hs:=hs.step E;refine⟨_,rfl,aa (fun c=>?_) (fun c=>?_)⟩
   .exact⟨⟨_,rfl,by rw[JK g (p:=fun d=>decide (d.nm=n)) c];exact decide_eq_true (by omega)⟩,hs.ext⟩
   .exact Up.next l (by omega) ⟨hs,eM (p:=fun d=>decide (d.nm=n)) g c hd⟩
  .replace l:=bz l;refine⟨⟨_,rfl,?_⟩,hs.ext⟩;rw[JL (p:=fun d:Dc=>decide (d.nm=n)) fun j x hj=>hd j x (by have:=(Ya.1 hj).1;omega) hj];rfl
 refine key.mono ?_;rintro _ h3 ⟨⟨k,rfl,hk⟩,E⟩;exact⟨_,rfl,by rw[hk],E⟩
theorem RA(L:List oW)(n:Nm)(c:Addr)(s:Sl)(h:Heap)(hr:RL h 4 s oW.cs L)(iA:hc h c=some (.string (bs n))):
  Fn Pz 272 #[.slice s.a s.n s.c,.func (.func 273) #[] #[.pointer (some c)]] h fun v h'=>v=.bool (L.any fun d=>decide (d.nm=n))/\Ext h h':=by
 apply U7;unfold aam;have key:Fn Pz 301 #[.slice s.a s.n s.c,.func (.func 273) #[] #[.pointer (some c)]] h fun v h'=>(∃k:Int,v=.int .i64 k/\decide (k>=0)=L.any fun d=>decide (d.nm=n))/\Ext h h':=by
  apply UT;unfold aab;have hn:=hr.ln;have hm:=hr.sm;have hs:=St.refl h;refine aD (n:=s.n) hs (fun i=>∀(j:Nat) (y:oW),j<i->L[j]?=some y->decide (y.nm=n)=false) (fun j y hj=>by omega) ?_;rintro-i h5 hi ⟨hs,hd⟩;refine aa (fun l=>?_) (fun l=>?_)
  .replace l:=bw l;refine (hr.ext hs.ext).rw.ax (by omega) (by omega) fun b o d g t=>?_;replace g:L[i]?=some d:=g;refine⟨_,_,_,_,t,?_⟩;rw[Sw,cond_true];refine (Zq d n c h5 (aw hs.ext iA)).mono ?_;rintro _ jP ⟨rfl,E⟩;replace hs:=hs.step E;refine⟨_,rfl,aa (fun c=>?_) (fun c=>?_)⟩
   .exact⟨⟨_,rfl,by rw[JK g (p:=fun d=>decide (d.nm=n)) c];exact decide_eq_true (by omega)⟩,hs.ext⟩
   .exact Up.next l (by omega) ⟨hs,eM (p:=fun d=>decide (d.nm=n)) g c hd⟩
  .replace l:=bz l;refine⟨⟨_,rfl,?_⟩,hs.ext⟩;rw[JL (p:=fun d:oW=>decide (d.nm=n)) fun j x hj=>hd j x (by have:=(Ya.1 hj).1;omega) hj];rfl
 refine key.mono ?_;rintro _ h3 ⟨⟨k,rfl,hk⟩,E⟩;exact⟨_,rfl,by rw[hk],E⟩
def rE(k lo hi:Int):Prop:=k=1 /\ -1000<=lo/\lo<=hi/\hi<=1000\/k=2/\0<=lo/\lo<=hi/\hi<=40
instance (k lo hi:Int):Decidable (rE k lo hi):=by unfold rE;infer_instance
theorem DT(k lo hi:Int)(h:Heap):Fn Pz 271 #[.agg ⟨[.int .i64 k,.int .i64 lo,.int .i64 hi]⟩] h fun v h'=>v=.bool (decide (rE k lo hi))/\Ext h h':=by
 apply U8 k lo hi;unfold aan;have hs:=St.refl h;refine hs.ao fun h4 hs=>?_;have E:=hs.ext;have r0:=hs.rd 0 rfl (i:=0) rfl;have r1:=hs.rd 0 rfl (i:=1) rfl;have r2:=hs.rd 0 rfl (i:=2) rfl;clear hs
 repeat' first
  | refine Exists.intro k (And.intro r0 ?_)
  | refine Exists.intro lo (And.intro r1 ?_)
  | refine Exists.intro hi (And.intro r2 ?_)
  | refine aQ (fun _=>?_) (fun _=>?_)
  | refine eS (fun _=>?_) (fun _=>?_)
 all_goals
  refine⟨?_,E⟩;clear r0 r1 r2 E;congr 1;rw[Bool.eq_iff_iff];simp only[decide_eq_true_eq,Bool.false_eq_true,false_iff];unfold rE;omega
def ic(all:List oW)(x:Int):Prop:=0<=x/\∃f,all[x.toNat]?=some f/\f.k=2
structure nU (all:List oW) (ds:List Df) (es:List KN):Prop where
 nd:ds.length<=20
 ne:es.length<=20
 d:∀x∈ds,-1<=min x.x x.y/\max x.x x.y<all.length /\ -20000<=x.c/\x.c<=20000
 e:∀x∈es,ic all x.x/\ic all x.y
noncomputable instance (all:List oW) (ds:List Df) (es:List KN):Decidable (nU all ds es):=Classical.propDecidable _
theorem PX{x y:Int}{i:Nat}(hi:i<2):List.take 1 (List.drop (Int.toNat (i:Int)*1) ([.int .i64 x,.int .i64 y]:List Value))=[.int .i64 (if i=0 then x else y)]:=by
 rcases i with _ | _ | i
 .rfl
 .rfl
 .omega
theorem AD(all:List oW)(ds:List Df)(es:List KN)(sd se sa:Sl)(h:Heap)(hd:RL h 3 sd Df.cs ds)(he:RL h 2 se KN.cs es)(ha:Rw h 4 sa (all.map oW.cs)):
  Fn Pz 274 #[.agg ⟨[.slice sd.a sd.n sd.c,.slice se.a se.n se.c]⟩,.slice sa.a sa.n sa.c] h fun v h'=>v=.bool (decide (nU all ds es))/\Ext h h':=by
 apply U5 sd se sa;unfold aak;have hs:=St.refl h;have EW:=hd.ln;have bI:=he.ln;have Gg:=ha.ln;refine hs.ao fun h3 hs=>?_;refine⟨_,hs.rd 0 rfl rfl,?_⟩;refine aQ (fun c1=>?_) (fun c1=>?_)
 .exact⟨dF fun hG=>by have:=hG.nd;omega,hs.ext⟩
 .refine⟨_,hs.rd 0 rfl rfl,?_⟩;refine aQ (fun c2=>?_) (fun c2=>?_)
  .exact⟨dF fun hG=>by have:=hG.ne;omega,hs.ext⟩
  .refine⟨_,hs.rd 0 rfl rfl,?_⟩;refine aD (n:=sd.n) hs (fun i=>∀(j:Nat) (x:Df),j<i->ds[j]?=some x -> -1<=min x.x x.y/\max x.x x.y<all.length /\ -20000<=x.c/\x.c<=20000) (fun j x hj=>by omega) ?_;rintro-i7 jP k7 ⟨hs,q7⟩;refine aa (fun l7=>?_) (fun l7=>?_)
   .have l7:=bw l7;refine (hd.ext hs.ext).rw.ax (by omega) (by omega) fun b12 o13 d12 g12 t12=>?_;replace g12:_[i7]?=some d12:=g12;have hm:=Yb g12;refine⟨_,_,_,t12,?_⟩;refine hs.aj (vs:=d12.cs) rfl rfl fun gJ hs=>?_;refine⟨_,hs.rd 0 rfl rfl,?_⟩;refine⟨_,hs.rd 0 rfl rfl,?_⟩;rw[l5];refine aQ (fun c3=>?_) (fun c3=>?_)
    .exact⟨dF fun hG=>by have:=hG.d _ hm;omega,hs.ext⟩
    .refine⟨_,hs.rd 0 rfl rfl,?_⟩;refine⟨_,hs.rd 0 rfl rfl,?_⟩;rw[xk];refine aQ (fun c4=>?_) (fun c4=>?_)
     .exact⟨dF fun hG=>by have:=hG.d _ hm;omega,hs.ext⟩
     .refine⟨_,hs.rd 0 rfl rfl,?_⟩;refine aQ (fun c5=>?_) (fun c5=>?_)
      .exact⟨dF fun hG=>by have:=hG.d _ hm;omega,hs.ext⟩
      .refine⟨_,hs.rd 0 rfl rfl,?_⟩;refine aQ (fun c6=>?_) (fun c6=>?_)
       .exact⟨dF fun hG=>by have:=hG.d _ hm;omega,hs.ext⟩
       .refine Up.next l7 (by omega) ⟨hs.drop 1,fun j x hj hx=>?_⟩;by_cases e:j=i7
        .subst e;rw[g12] at hx;cases hx;refine⟨?_,?_,?_,?_⟩<;>omega
        .exact q7 j x (by omega) hx
   .have l7:=bz l7;have Q7:∀x∈ds,-1<=min x.x x.y/\max x.x x.y<all.length /\ -20000<=x.c/\x.c<=20000:=fun x hx=>by
     obtain⟨j,hj⟩:=Yf.1 hx;exact q7 j x (by have:=(Ya.1 hj).1;omega) hj
    clear q7;refine⟨_,hs.rd 0 rfl rfl,?_⟩;refine aD (n:=se.n) hs (fun i=>∀(j:Nat) (x:KN),j<i->es[j]?=some x->ic all x.x/\ic all x.y) (fun j x hj=>by omega) ?_;rintro-i27 xH k27 ⟨hs,q27⟩;refine aa (fun TU=>?_) (fun TU=>?_)
    .have TU:=bw TU;refine (he.ext hs.ext).rw.ax (by omega) (by omega) fun b32 o33 d32 IX t32=>?_;replace IX:_[i27]?=some d32:=IX;have hm:=Yb IX;refine⟨_,_,t32,?_⟩;refine hs.aj (vs:=d32.cs) rfl rfl fun oK hs=>?_;refine⟨_,_,hs.at 0 rfl (n:=2) rfl,?_⟩;refine aD (n:=2) hs (fun i=>∀j,j<i->ic all (if j=0 then d32.x else d32.y)) (fun j hj=>by omega) ?_;rintro-i40 Az k40 ⟨hs,q40⟩;refine aQ (fun c7=>?_) (fun c7=>?_)
     .have l40:i40<2:=by omega
      refine⟨⟨by omega,by omega⟩,_,PX l40,?_⟩;have hx:nU all ds es->ic all (if i40=0 then d32.x else d32.y):=fun hG=>by
       have:=hG.e _ hm;split
       .exact this.1
       .exact this.2
      generalize j6:(if i40=0 then d32.x else d32.y)=x at *;refine aQ (fun c8=>?_) (fun c8=>?_)
      .exact⟨dF fun hG=>by have:=(hx hG).1;omega,hs.ext⟩
      .refine aQ (fun c9=>?_) (fun c9=>?_)
       .exact⟨dF fun hG=>by obtain⟨f,hf,_⟩:=(hx hG).2;have:=(Ya.1 hf).1;omega,hs.ext⟩
       .refine (ha.ext hs.ext).ax (by omega) (by omega) fun b46 o47 d46 g46 t46=>?_;refine⟨_,t46.nth 1 rfl,?_⟩;refine dY (fun FG=>?_) (fun FG=>?_)
        .exact⟨dF fun hG=>by obtain⟨f,hf,hk⟩:=(hx hG).2;rw[g46] at hf;cases hf;exact FG hk,hs.ext⟩
        .refine Up.next l40 (by omega) ⟨hs,fun j hj=>?_⟩;by_cases e:j=i40
         .subst e;rw[j6];exact⟨by omega,d46,g46,FG⟩
         .exact q40 j (by omega)
     .have h0:=q40 0 (by omega);have h1:=q40 1 (by omega);refine Up.next TU (by omega) ⟨hs.drop 1,fun j x hj hx=>?_⟩;by_cases e:j=i27
      .subst e;rw[IX] at hx;cases hx;exact⟨h0,h1⟩
      .exact q27 j x (by omega) hx
    .have TU:=bz TU;have Q27:∀x∈es,ic all x.x/\ic all x.y:=fun x hx=>by
      obtain⟨j,hj⟩:=Yf.1 hx;exact q27 j x (by have:=(Ya.1 hj).1;omega) hj
     exact⟨dT ⟨by omega,by omega,Q7,Q27⟩,hs.ext⟩
structure KM (fs:List oW) (i:Nat) (f:oW):Prop where
 pw:isWord f.nm=true
 ps:rE f.k f.lo f.hi
 pd:((fs.take i).any fun x=>decide (x.nm=f.nm))=false
structure DcS (L:List Dc) (i:Nat) (d:Dc):Prop where
 pp:ix d.nm=true
 pn:d.fs.length<=4
 pf:d.first=((cc (L.take i)).length:Nat)
 pd:((L.take i).any fun x=>decide (x.nm=d.nm))=false
 TI:∀k f,d.fs[k]?=some f->KM d.fs k f
 pg:nU (cc L) d.ds d.es
structure oX (L:List Dc):Prop where
 pn:L.length<=40
 pv:(cc L).length<=24
 pd:∀i d,L[i]?=some d->DcS L i d
noncomputable instance (L:List Dc):Decidable (oX L):=Classical.propDecidable _
theorem tT(L:List Dc)(i:Nat):(cc (L.take i)).length<=(cc L).length:=by
 have:cc L=cc (L.take i)++cc (L.drop i):=by unfold cc;rw[<-List.flatMap_append,List.take_append_drop]
 rw[this,Yh];omega
theorem bF{b:Bool}(h:(!b)=true):b=false:=by cases b<;>simp_all
theorem bT{b:Bool}(h:(!b)=false):b=true:=by cases b<;>simp_all
theorem GD(L:List Dc)(s:Sl)(h:Heap)(hL:DL h s L)(hx:Gm h):
  Fn Pz 224 #[.slice s.a s.n s.c] h fun v h'=>v=.bool (decide (oX L))/\Ext h h':=by
 apply Vu;unfold aaH;have hs:=St.refl h;have hn:=hL.r.ln;have yS:=hL.r.sm;refine aQ (fun c1=>?_) (fun c1=>?_)
 .exact⟨dF fun hG=>by have:=hG.pn;omega,hs.ext⟩
 .refine (Ft L s h hL (by omega)).mono ?_;rintro _ h3 ⟨E3,x2,rfl,cA⟩;replace hs:=hs.xK E3 cA (CE _);have hxn:x2.n=(cc L).length:=(hs.rows 0 rfl (by omega)).ln;refine⟨_,rfl,?_⟩;refine aQ (fun c2=>?_) (fun c2=>?_)
  .exact⟨dF fun hG=>by have:=hG.pv;omega,hs.ext⟩
  .refine⟨fun ago x_8 h' m=>∃i:Nat,x_8=i/\m=s.n-i/\i<=s.n/\St h h' [.sl x2 260 4 ((cc L).map oW.cs)]/\(ago=((cc (L.take i)).length:Nat))/\∀j d,j<i->L[j]?=some d->DcS L j d,⟨_,0,rfl,rfl,by omega,hs,rfl,fun j d hj=>by omega⟩,?_⟩;rintro-_ _ h9 m ⟨i,rfl,rfl,hi,hs,rfl,q⟩;refine aQ (fun c3=>?_) (fun c3=>?_)
   .have l3:i<s.n:=by omega
    refine (hL.ext hs.ext).r.rw.ax (by omega) (by omega) fun b10 TM d10 g10 t10=>?_;replace g10:_[i]?=some d10:=g10;have hle:=tT L i;have hd:=hL.i d10 (Yb g10);refine⟨_,_,_,_,_,t10,?_⟩;refine hs.aj (vs:=d10.cs) rfl rfl fun gJ hs=>?_;refine⟨_,hs.rd 0 rfl rfl,?_⟩;refine (Ma d10.nm gJ (hx.ext hs.ext)).mono ?_;rintro _ cR ⟨rfl,Eh22⟩;replace hs:=hs.step Eh22;refine⟨_,rfl,?_⟩;refine aa (fun c4=>?_) (fun c4=>?_)
    .exact⟨dF fun hG=>(by have:=(hG.pd i _ g10).pp;rw[bF c4] at this;cases this),hs.ext⟩
    .refine⟨_,hs.rd 0 rfl rfl,?_⟩;have fV:=hd.pf.ln;refine aQ (fun c5=>?_) (fun c5=>?_)
     .exact⟨dF fun hG=>by have:=(hG.pd i _ g10).pn;omega,hs.ext⟩
     .refine⟨_,hs.rd 0 rfl rfl,?_⟩;refine dY (fun c6=>?_) (fun c6=>?_)
      .exact⟨dF fun hG=>c6 (hG.pd i _ g10).pf,hs.ext⟩
      .have uS:=hL.r.cap;refine⟨by omega,?_⟩;refine (RB (L.take i) d10.nm _ _ cR ((hL.r.ext hs.ext).take (by omega)) (hs.rd 0 rfl rfl)).mono ?_;rintro _ rM ⟨rfl,Eh27⟩;replace hs:=hs.step Eh27;refine⟨_,rfl,?_⟩;refine aa (fun c7=>?_) (fun c7=>?_)
       .exact⟨dF fun hG=>(by have:=(hG.pd i _ g10).pd;rw[c7] at this;cases this),hs.ext⟩
       .refine⟨_,hs.rd 0 rfl rfl,?_⟩;refine⟨_,hs.rd 0 rfl rfl,?_⟩;refine aD (n:=d10.hf.n) hs (fun k=>∀(j:Nat) (f:oW),j<k->d10.fs[j]?=some f->KM d10.fs j f) (fun j x hj=>by omega) ?_;rintro-i30 kP k30 ⟨hs,q30⟩;refine aa (fun TT=>?_) (fun TT=>?_)
        .have TT:=bw TT;refine (hd.pf.ext hs.ext).rw.ax (by omega) (by omega) fun UB TJ d35 Uv t35=>?_;replace Uv:_[i30]?=some d35:=Uv;refine⟨_,_,_,_,t35,?_⟩;refine hs.aj (vs:=d35.cs) rfl rfl fun vO hs=>?_;refine⟨_,hs.rd 0 rfl rfl,?_⟩;refine (jK (bs d35.nm) vO).mono ?_;rintro _ oJ ⟨rfl,Eh46⟩;replace hs:=hs.step Eh46;refine⟨_,rfl,?_⟩;rw[dp];refine aa (fun c8=>?_) (fun c8=>?_)
         .exact⟨dF fun hG=>(by have:=((hG.pd i _ g10).TI _ _ Uv).pw;rw[bF c8] at this;cases this),hs.ext⟩
         .refine⟨_,_,_,hs.at 0 rfl (n:=3) rfl,?_⟩;refine (DT d35.k d35.lo d35.hi oJ).mono ?_;rintro _ vM ⟨rfl,Eh52⟩;replace hs:=hs.step Eh52;refine⟨_,rfl,?_⟩;refine aa (fun c9=>?_) (fun c9=>?_)
          .exact⟨dF fun hG=>eI (bF c9) ((hG.pd i _ g10).TI _ _ Uv).ps,hs.ext⟩
          .refine⟨_,hs.rd 1 rfl rfl,?_⟩;have uS:=hd.pf.cap;refine⟨⟨by omega,by omega,by omega⟩,?_⟩;refine (RA (d10.fs.take i30) d35.nm _ _ vM ((hd.pf.ext hs.ext).take (by omega)) (hs.rd 0 rfl rfl)).mono ?_;rintro _ jO ⟨rfl,Eh56⟩;replace hs:=hs.step Eh56;refine⟨_,rfl,?_⟩;refine aa (fun FG=>?_) (fun FG=>?_)
           .exact⟨dF fun hG=>(by have:=((hG.pd i _ g10).TI _ _ Uv).pd;rw[FG] at this;cases this),hs.ext⟩
           .refine Up.next TT (by omega) ⟨hs.drop 1,fun j f hj hf=>?_⟩;by_cases e:j=i30
            .subst e;rw[Uv] at hf;cases hf;exact⟨bT c8,cd (bT c9),FG⟩
            .exact q30 j f (by omega) hf
        .have TT:=bz TT;have Q30:∀k f,d10.fs[k]?=some f->KM d10.fs k f:=fun k f hf=>q30 k f (by have:=(Ya.1 hf).1;omega) hf;refine⟨_,_,hs.at 0 rfl (n:=2) rfl,?_⟩;refine (AD (cc L) d10.ds d10.es d10.hd d10.he x2 kP (hd.pd.ext hs.ext) (hd.pe.ext hs.ext) (hs.rows 1 rfl (by omega))).mono ?_;rintro _ Cz ⟨rfl,Eh62⟩;replace hs:=hs.step Eh62;refine⟨_,rfl,?_⟩;refine aa (fun ZT=>?_) (fun ZT=>?_)
         .exact⟨dF fun hG=>eI (bF ZT) (hG.pd i _ g10).pg,hs.ext⟩
         .refine⟨_,by omega,i+1,?_,rfl,by omega,hs.drop 1,?_,fun j d hj Rr=>?_⟩
          .rw[bd (by omega) (by omega)];omega
          .rw[ae g10,ia,Yh,bd (by omega) (by omega)];omega
          .by_cases e:j=i
           .subst e;rw[g10] at Rr;cases Rr;exact⟨bT c4,by omega,c6,c7,Q30,cd (bT ZT)⟩
           .exact q j d (by omega) Rr
   .exact⟨dT ⟨by omega,by omega,fun i' d hd=>q i' d (by have:=(Ya.1 hd).1;omega) hd⟩,hs.ext⟩
theorem AY:cu Pz 167 263 3 24=true:=by kernel_rfl
theorem Sh(L:List Df):∀r∈L.map Df.cs,r.length=3:=fun r hr=>by obtain⟨x,_,rfl⟩:=Yp.1 hr;rfl
theorem FK(d:Dc)(h:Heap)(hd:DI h d)(h4:d.fs.length<=4)(h5:d.ds.length<=20)(h6:d.es.length<=20):
  Fn Pz 225 #[.agg ⟨d.cs⟩] h fun v h'=>Ext h h'/\∃s:Sl,v=.slice s.a s.n s.c:=by
 apply Vr (bs d.nm) d.hf d.first d.hd d.he;unfold aaG
 have hs:=St.refl h;have n1:=hd.pf.ln;have n2:=hd.pd.ln;have n3:=hd.pe.ln;refine hs.ao fun h6 hs=>?_;refine⟨_,hs.rd 0 rfl rfl,?_⟩;refine dV (n:=d.hf.n) (hs.cn 263 3) (fun i rows=>rows.length=2*i) rfl ?_;rintro-i out_11 AB rows hi hs q;refine aa (fun l=>?_) (fun l=>?_)
 .replace l:=bw l;refine (hd.pf.ext hs.ext).rw.ax (by omega) (by omega) fun b14 o15 d14 g14 t14=>?_;refine⟨_,_,_,_,t14,?_⟩;refine hs.aj (vs:=d14.cs) rfl rfl fun ko hs=>?_;refine⟨_,hs.rd 2 rfl rfl,?_⟩;refine⟨_,hs.rd 0 rfl rfl,?_⟩;refine⟨_,hs.rd 2 rfl rfl,?_⟩;refine⟨_,hs.rd 0 rfl rfl,?_⟩;have hl:=(hs.len 1 rfl (by omega)).1;refine hs.app 1 rfl AY (m:=2) [[_,_,_],[_,_,_]] rfl rfl (by simp) rfl (by omega) (by simp only[maxLen];omega) fun s27 Ur ahA hs=>?_;exact A8.next l (by omega) ⟨_,hs.drop 1,by rw[Yh,q];rfl⟩
 .replace l:=bz l;refine⟨_,hs.rd 1 rfl rfl,?_⟩;have hl:=(hs.len 0 rfl (by omega)).1;refine hs.gB 0 rfl AY (hd.pd.ext hs.ext).rw (Sh _) hd.pd.nil (zB (fun _=>rfl) _) (by omega) (by simp only[maxLen];omega) fun s31 CC ahz hs=>?_;refine⟨_,hs.rd 1 rfl rfl,?_⟩;refine dV (n:=d.he.n) hs (fun i rows=>rows.length<=28+2*i) (by rw[Yh,Yc];omega) ?_;rintro-i out_37 sw rows hi hs q;refine aa (fun l=>?_) (fun l=>?_)
  .replace l:=bw l;refine (hd.pe.ext hs.ext).rw.ax (by omega) (by omega) fun b40 o41 d40 g40 t40=>?_;refine⟨_,_,t40,?_⟩;refine hs.aj (vs:=d40.cs) rfl rfl fun CA hs=>?_;refine⟨by omega,_,hs.rd 0 rfl (i:=0) rfl,by omega,_,hs.rd 0 rfl (i:=1) rfl,by omega,_,hs.rd 0 rfl (i:=1) rfl,by omega,_,hs.rd 0 rfl (i:=0) rfl,?_⟩;have hl:=(hs.len 1 rfl (by omega)).1;refine hs.app 1 rfl AY (m:=2) [[_,_,_],[_,_,_]] rfl rfl (by simp) rfl (by omega) (by simp only[maxLen];omega) fun s51 vM ahx hs=>?_;exact A8.next l (by omega) ⟨_,hs.drop 1,by rw[Yh];show _+2<=_;omega⟩
  .exact⟨hs.ext,out_37,rfl⟩
theorem FL(L:List Dc)(s:Sl)(h:Heap)(hL:DL h s L)(hx:Gm h)(bI:L≠[]):
  Fn Pz 162 #[.slice s.a s.n s.c,.int .i64 0] h fun v h'=>Ext h h'/\∃s:Sl,v=.tuple ⟨[.slice s.a s.n s.c,.int .i64 (if oX L then 0 else 1)]⟩:=by
 apply Wb;unfold abr;have hn:=hL.r.ln;have gG:0<L.length:=List.length_pos_iff.2 bI;have hs:=St.refl h;refine aQ (fun c1=>by omega) (fun c1=>?_);refine aQ (fun c2=>by omega) (fun c2=>?_);refine (GD L s h hL hx).mono ?_;rintro _ h3 ⟨rfl,Eh3⟩;replace hs:=hs.step Eh3;refine⟨_,rfl,?_⟩;refine aa (fun c3=>?_) (fun c3=>?_)
 .rw[if_neg (eI (bF c3))];exact⟨hs.ext,⟨none,0,0⟩,rfl⟩
 .have hD:=cd (bT c3);rw[if_pos hD];refine (hL.ext hs.ext).r.rw.ax (by omega) (by omega) fun b4 o5 d4 g4 t4=>?_;refine⟨_,_,_,_,_,t4,?_⟩;have hd:=hD.pd _ _ g4;refine (FK d4 h3 ((hL.i d4 (Yb g4)).ext hs.ext) hd.pn hd.pg.nd hd.pg.ne).mono ?_;rintro _ AB ⟨Eh13,r,rfl⟩;exact⟨_,rfl,(hs.step Eh13).ext,r,rfl⟩
theorem AO(L:List Dc)(s:Sl)(h:Heap)(hL:DL h s L)(hx:Gm h):Fn Pz 90 #[.slice s.a s.n s.c] h fun v h'=>v=.bool (decide (oX L))/\Ext h h':=by
 apply acJ;unfold W90;have hn:=hL.r.ln;refine eS (fun c1=>?_) (fun c1=>?_)
 .have:L=[]:=List.length_eq_zero_iff.1 (by omega);subst this;exact⟨dT ⟨by simp,by simp[cc],fun i d hd=>by simp at hd⟩,(St.refl h).ext⟩
 .refine (FL L s h hL hx (fun e=>by subst e;simp at hn;omega)).mono ?_;rintro _ h4 ⟨E,r,rfl⟩;refine⟨_,_,rfl,?_,E⟩;by_cases hD:oX L
  .rw[if_pos hD,decide_eq_true hD];rfl
  .rw[if_neg hD,decide_eq_false hD];rfl
structure vx (g:Gl):Prop where
 w:isWord g.nm=true
 n1:1<=g.rs.length
 n6:g.rs.length<=6
 r:∀i s,g.rs[i]?=some s->isWord s=true/\s∉g.rs.take i
noncomputable instance (g:Gl):Decidable (vx g):=Classical.propDecidable _
theorem Mi(g:Gl)(h:Heap)(hg:GI h g):Fn Pz 88 #[g.v] h fun v h'=>v=.bool (decide (vx g))/\Ext h h':=by
 apply acL (bs g.nm) g.hr g.hd g.n g.s g.e g.he g.ht;unfold W88;have hs:=St.refl h;have hn:=hg.r.ln;have uS:=hg.r.cap;refine hs.ao fun h9 hs=>?_;refine⟨_,hs.rd 0 rfl rfl,?_⟩;refine (jK _ _).mono ?_;rintro _ AB ⟨rfl,Eh13⟩;replace hs:=hs.step Eh13;refine⟨_,rfl,?_⟩;refine aa (fun c1=>?_) (fun c1=>?_)
 .skip
  exact⟨dF fun hG=>(by have:=hG.w;rw[show isWord g.nm=false from bF c1] at this;cases this),hs.ext⟩
 .skip
  refine⟨_,hs.rd 0 rfl rfl,?_⟩;refine aQ (fun c2=>?_) (fun c2=>?_)
  .skip
   exact⟨dF fun hG=>(by have:=hG.n1;omega),hs.ext⟩
  .skip
   refine⟨_,hs.rd 0 rfl rfl,?_⟩;refine aQ (fun c3=>?_) (fun c3=>?_)
   .skip
    exact⟨dF fun hG=>(by have:=hG.n6;omega),hs.ext⟩
   .skip
    refine⟨_,hs.rd 0 rfl rfl,?_⟩;refine aD (n:=g.hr.n) hs (fun i17=>∀(j:Nat) (s:Nm),j<i17->g.rs[j]?=some s->isWord s=true/\s∉g.rs.take j) (fun j s hj=>by omega) ?_;rintro-i17 ko k17 ⟨hs,q17⟩;refine aa (fun TW=>?_) (fun TW=>?_)
    .have TW:=bw TW;refine ((hg.r.ext hs.ext).rw).ax (by omega) (by omega) fun b22 o23 d22 g22 t22=>?_;replace g22:_[i17]?=some d22:=g22;refine⟨_,t22.hd,?_⟩;refine (jK _ _).mono ?_;rintro _ rM ⟨rfl,Eh27⟩;replace hs:=hs.step Eh27;refine⟨_,rfl,?_⟩;refine aa (fun c4=>?_) (fun c4=>?_)
     .skip
      exact⟨dF fun hG=>(by have:=(hG.r _ _ g22).1;rw[show isWord d22=false from bF c4] at this;cases this),hs.ext⟩
     .skip
      refine⟨_,hs.rd 0 rfl rfl,?_⟩;refine⟨by omega,?_⟩;refine (IC (g.rs.take i17) (bs d22) ⟨aN g.hr.a (Int.toNat 0) g.hr.c 1,Int.toNat (i17:Int)-Int.toNat 0,g.hr.c-Int.toNat 0⟩ _ ((hg.r.ext hs.ext).take (by omega))).mono ?_;rintro _ xH ⟨rfl,rfl⟩;refine⟨_,rfl,?_⟩;refine aa (fun c5=>?_) (fun c5=>?_)
      .skip
       exact⟨dF fun hG=>(hG.r _ _ g22).2 (cd c5),hs.ext⟩
      .skip
       exact Up.next TW (by omega) ⟨hs,fun j s hj hx=>by by_cases e:j=i17;(subst e;rw[g22] at hx;cases hx;exact⟨bT c4,eI c5⟩);exact q17 j s (by omega) hx⟩
    .have TW:=bz TW;exact⟨dT ⟨bT c1,by omega,by omega,fun j s hx=>q17 j s (by have:=(Ya.1 hx).1;omega) hx⟩,hs.ext⟩
def fp(g:Gl)(x:Ed):Prop:=0<=x.f/\0<=x.t/\0<=x.a/\0<=x.b/\0<=x.l/\x.f<g.n/\x.t<g.n/\x.a<g.rs.length/\x.b<g.rs.length/\x.a≠x.b/\x.l<g.ds.length
structure yF (g:Gl):Prop where
 n:1<=g.n/\g.n<=200/\0<=g.s/\0<=g.e/\g.s<g.n/\g.e<g.n
 m:g.es.length<=400
 e:∀x∈g.es,fp g x
noncomputable instance (g:Gl):Decidable (yF g):=Classical.propDecidable _
theorem zG(g:Gl)(h:Heap)(hg:GI h g):Fn Pz 89 #[g.v] h fun v h'=>v=.bool (decide (yF g))/\Ext h h':=by
 apply acK (bs g.nm) g.hr g.hd g.n g.s g.e g.he g.ht;unfold W89;have hs:=St.refl h;have hn:=hg.e.ln;have hnr:=hg.r.ln;have EW:=hg.d.r.ln;simp only[l5,xk];refine hs.ao fun h9 hs=>?_;refine⟨_,hs.rd 0 rfl rfl,?_⟩;refine aQ (fun c1=>?_) (fun c1=>?_);rotate_left;refine⟨_,hs.rd 0 rfl rfl,?_⟩;refine aQ (fun c2=>?_) (fun c2=>?_);rotate_left;refine⟨_,hs.rd 0 rfl rfl,?_⟩;refine⟨_,hs.rd 0 rfl rfl,?_⟩;refine aQ (fun c3=>?_) (fun c3=>?_);rotate_left;refine⟨_,hs.rd 0 rfl rfl,?_⟩;refine⟨_,hs.rd 0 rfl rfl,?_⟩;refine⟨_,hs.rd 0 rfl rfl,?_⟩;refine aQ (fun c4=>?_) (fun c4=>?_);rotate_left;refine⟨_,hs.rd 0 rfl rfl,?_⟩;refine aQ (fun c5=>?_) (fun c5=>?_);rotate_left;refine⟨_,hs.rd 0 rfl rfl,?_⟩;refine aD (n:=g.he.n) hs (fun i19=>∀(j:Nat) (x:Ed),j<i19->g.es[j]?=some x->fp g x) (fun j s hj=>by omega) ?_;rintro-i19 nM k19 ⟨hs,q19⟩;refine aa (fun TV=>?_) (fun TV=>?_);have TV:=bw TV;refine ((hg.e.ext hs.ext).rw).ax (by omega) (by omega) fun b24 o25 d24 g24 t24=>?_;replace g24:_[i19]?=some d24:=g24;refine⟨_,_,_,_,_,_,t24,?_⟩;refine hs.aj rfl rfl fun pG hs=>?_;refine⟨_,_,_,hs.at 0 rfl (n:=3) rfl,?_⟩;refine hs.aj rfl rfl fun tB hs=>?_;refine⟨_,hs.rd 1 rfl rfl,?_⟩;refine⟨_,hs.rd 1 rfl rfl,?_⟩;refine⟨_,hs.rd 0 rfl rfl,?_⟩;refine⟨_,hs.rd 0 rfl rfl,?_⟩;refine⟨_,hs.rd 0 rfl rfl,?_⟩;refine aQ (fun c6=>?_) (fun c6=>?_);rotate_left;refine⟨_,hs.rd 1 rfl rfl,?_⟩;refine⟨_,hs.rd 1 rfl rfl,?_⟩;refine⟨_,hs.rd 2 rfl rfl,?_⟩;refine aQ (fun c7=>?_) (fun c7=>?_);rotate_left;refine⟨_,hs.rd 0 rfl rfl,?_⟩;refine⟨_,hs.rd 0 rfl rfl,?_⟩;refine⟨_,hs.rd 2 rfl rfl,?_⟩;refine aQ (fun c8=>?_) (fun c8=>?_);rotate_left;refine⟨_,hs.rd 0 rfl rfl,?_⟩;refine⟨_,hs.rd 0 rfl rfl,?_⟩;refine eS (fun c9=>?_) (fun c9=>?_);rotate_left;refine⟨_,hs.rd 0 rfl rfl,?_⟩;refine⟨_,hs.rd 2 rfl rfl,?_⟩;refine aQ (fun FG=>?_) (fun FG=>?_);rotate_left;exact Up.next TV (by omega) ⟨hs.drop 2,fun j x hj hx=>by by_cases e:j=i19;(subst e;rw[g24] at hx;cases hx;unfold fp;omega);exact q19 j x (by omega) hx⟩;have TV:=bz TV;exact⟨dT ⟨by omega,by omega,fun x hx=>by obtain⟨j,hj⟩:=Yf.1 hx;exact q19 j x (by have:=(Ya.1 hj).1;omega) hj⟩,hs.ext⟩;all_goals first | exact⟨dF fun hG=>(by have:=hG.n;have:=hG.m;first | omega | (have:=hG.e _ (Yb g24);unfold fp at this;omega)),hs.ext⟩
def cJ(i k:Nat)(x y:Ed):Prop:=(i≠k/\x.f=y.f/\((x.a=y.a/\x.b=y.b/\x.l=y.l)\/x.a≠y.a\/x.ag=true))\/(x.ag=true/\y.t=x.f/\(x.a≠y.a\/x.l≠y.l))
structure TA (g:Gl):Prop where
 e:∀x∈g.es,x.f≠g.e
 s:∀x∈g.es,x.ag=true->x.f≠g.s
 p:∀i x,g.es[i]?=some x->∀k y,g.es[k]?=some y->¬cJ i k x y
noncomputable instance (g:Gl):Decidable (TA g):=Classical.propDecidable _
theorem D9(g:Gl)(h:Heap)(hg:GI h g):Fn Pz 91 #[g.v] h fun v h'=>v=.bool (decide (TA g))/\Ext h h':=by
 apply acI (bs g.nm) g.hr g.hd g.n g.s g.e g.he g.ht;unfold W91 Tl NV;have hs:=St.refl h;have hn:=hg.e.ln;have yS:=hg.e.sm;refine hs.ao fun h9 hs=>?_;refine⟨_,hs.rd 0 rfl rfl,?_⟩;refine aD (n:=g.he.n) hs (fun i11=>∀(j:Nat) (x:Ed),j<i11->g.es[j]?=some x->x.f≠g.e/\(x.ag=true->x.f≠g.s)/\∀k y,g.es[k]?=some y->¬cJ j k x y) (fun j s hj=>by omega) ?_;rintro-i11 tD k11 ⟨hs,q11⟩;refine aa (fun QE=>?_) (fun QE=>?_);have QE:=bw QE;refine ((hg.e.ext hs.ext).rw).ax (by omega) (by omega) fun b16 o17 d16 g16 t16=>?_;replace g16:_[i11]?=some d16:=g16;refine⟨_,_,_,_,_,_,t16,?_⟩;refine hs.aj rfl rfl fun lu hs=>?_;refine⟨_,hs.rd 0 rfl rfl,?_⟩;refine⟨_,hs.rd 1 rfl rfl,?_⟩;refine eS (fun c1=>?_) (fun c1=>?_);rotate_left;refine⟨_,hs.rd 0 rfl rfl,?_⟩;refine aa (fun c2=>?_) (fun c2=>?_);refine⟨_,hs.rd 0 rfl rfl,?_⟩;refine⟨_,hs.rd 1 rfl rfl,?_⟩;refine eS (fun c3=>?_) (fun c3=>?_);rotate_left;refine⟨_,hs.rd 1 rfl rfl,?_⟩;refine aD (n:=g.he.n) hs (fun i32=>∀(k:Nat) (y:Ed),k<i32->g.es[k]?=some y->¬cJ i11 k d16 y) (fun j s hj=>by omega) ?_;rintro-i32 fO k32 ⟨hs,q32⟩;refine aa (fun TS=>?_) (fun TS=>?_);have TS:=bw TS;refine ((hg.e.ext hs.ext).rw).ax (by omega) (by omega) fun b37 o38 d37 g37 t37=>?_;replace g37:_[i32]?=some d37:=g37;refine⟨_,_,_,_,_,_,t37,?_⟩;refine hs.aj rfl rfl fun oJ hs=>?_;refine dY (fun c4=>?_) (fun c4=>?_);refine⟨_,hs.rd 1 rfl rfl,?_⟩;refine⟨_,hs.rd 0 rfl rfl,?_⟩;refine eS (fun c5=>?_) (fun c5=>?_);refine⟨_,_,_,hs.at 1 rfl (n:=3) rfl,?_⟩;refine⟨_,_,_,hs.at 0 rfl (n:=3) rfl,?_⟩;refine aa (fun c6=>?_) (fun c6=>?_);rotate_left;refine⟨_,hs.rd 1 rfl rfl,?_⟩;refine⟨_,hs.rd 0 rfl rfl,?_⟩;refine dY (fun c7=>?_) (fun c7=>?_);rotate_left;refine⟨_,hs.rd 1 rfl rfl,?_⟩;refine aa (fun c8=>?_) (fun c8=>?_);rotate_left;refine⟨_,hs.rd 1 rfl rfl,?_⟩;refine aa (fun c9=>?_) (fun c9=>?_);refine⟨_,hs.rd 0 rfl rfl,?_⟩;refine⟨_,hs.rd 1 rfl rfl,?_⟩;refine eS (fun FG=>?_) (fun FG=>?_);refine⟨_,hs.rd 1 rfl rfl,?_⟩;refine⟨_,hs.rd 0 rfl rfl,?_⟩;refine dY (fun ZT=>?_) (fun ZT=>?_);rotate_left;refine⟨_,hs.rd 1 rfl rfl,?_⟩;refine⟨_,hs.rd 0 rfl rfl,?_⟩;refine dY (fun c12=>?_) (fun c12=>?_);rotate_left;rotate_left;rotate_left;rotate_left;refine⟨_,hs.rd 1 rfl rfl,?_⟩;refine aa (fun c13=>?_) (fun c13=>?_);refine⟨_,hs.rd 0 rfl rfl,?_⟩;refine⟨_,hs.rd 1 rfl rfl,?_⟩;refine eS (fun c14=>?_) (fun c14=>?_);refine⟨_,hs.rd 1 rfl rfl,?_⟩;refine⟨_,hs.rd 0 rfl rfl,?_⟩;refine dY (fun c15=>?_) (fun c15=>?_);rotate_left;refine⟨_,hs.rd 1 rfl rfl,?_⟩;refine⟨_,hs.rd 0 rfl rfl,?_⟩;refine dY (fun c16=>?_) (fun c16=>?_);rotate_left;rotate_left;rotate_left;rotate_left;refine⟨_,hs.rd 1 rfl rfl,?_⟩;refine aa (fun c17=>?_) (fun c17=>?_);refine⟨_,hs.rd 0 rfl rfl,?_⟩;refine⟨_,hs.rd 1 rfl rfl,?_⟩;refine eS (fun c18=>?_) (fun c18=>?_);refine⟨_,hs.rd 1 rfl rfl,?_⟩;refine⟨_,hs.rd 0 rfl rfl,?_⟩;refine dY (fun c19=>?_) (fun c19=>?_);rotate_left;refine⟨_,hs.rd 1 rfl rfl,?_⟩;refine⟨_,hs.rd 0 rfl rfl,?_⟩;refine dY (fun c20=>?_) (fun c20=>?_);rotate_left;rotate_left;rotate_left;rotate_left;have TS:=bz TS;exact Up.next QE (by omega) ⟨hs.drop 1,fun j x hj hx=>by by_cases e:j=i11;(subst e;rw[g16] at hx;cases hx;exact⟨c1,by first | exact fun _=>c3 | exact fun hc=>(by rw[c2] at hc;cases hc),by first | exact fun k y hk=>q32 k y (by have:=(Ya.1 hk).1;omega) hk | exact fun k y hk=>q90 k y (by have:=(Ya.1 hk).1;omega) hk⟩);exact q11 j x (by omega) hx⟩;refine⟨_,hs.rd 1 rfl rfl,?_⟩;refine aD (n:=g.he.n) hs (fun i90=>∀(k:Nat) (y:Ed),k<i90->g.es[k]?=some y->¬cJ i11 k d16 y) (fun j s hj=>by omega) ?_;rintro-i90 h94 k90 ⟨hs,q90⟩;refine aa (fun TQ=>?_) (fun TQ=>?_);have TQ:=bw TQ;refine ((hg.e.ext hs.ext).rw).ax (by omega) (by omega) fun b95 o96 d95 g95 t95=>?_;replace g95:_[i90]?=some d95:=g95;refine⟨_,_,_,_,_,_,t95,?_⟩;refine hs.aj rfl rfl fun Nj hs=>?_;refine dY (fun c21=>?_) (fun c21=>?_);refine⟨_,hs.rd 1 rfl rfl,?_⟩;refine⟨_,hs.rd 0 rfl rfl,?_⟩;refine eS (fun c22=>?_) (fun c22=>?_);refine⟨_,_,_,hs.at 1 rfl (n:=3) rfl,?_⟩;refine⟨_,_,_,hs.at 0 rfl (n:=3) rfl,?_⟩;refine aa (fun c23=>?_) (fun c23=>?_);rotate_left;refine⟨_,hs.rd 1 rfl rfl,?_⟩;refine⟨_,hs.rd 0 rfl rfl,?_⟩;refine dY (fun c24=>?_) (fun c24=>?_);rotate_left;refine⟨_,hs.rd 1 rfl rfl,?_⟩;refine aa (fun c25=>?_) (fun c25=>?_);rotate_left;refine⟨_,hs.rd 1 rfl rfl,?_⟩;refine aa (fun c26=>?_) (fun c26=>?_);refine⟨_,hs.rd 0 rfl rfl,?_⟩;refine⟨_,hs.rd 1 rfl rfl,?_⟩;refine eS (fun c27=>?_) (fun c27=>?_);refine⟨_,hs.rd 1 rfl rfl,?_⟩;refine⟨_,hs.rd 0 rfl rfl,?_⟩;refine dY (fun c28=>?_) (fun c28=>?_);rotate_left;refine⟨_,hs.rd 1 rfl rfl,?_⟩;refine⟨_,hs.rd 0 rfl rfl,?_⟩;refine dY (fun c29=>?_) (fun c29=>?_);rotate_left;rotate_left;rotate_left;rotate_left;refine⟨_,hs.rd 1 rfl rfl,?_⟩;refine aa (fun c30=>?_) (fun c30=>?_);refine⟨_,hs.rd 0 rfl rfl,?_⟩;refine⟨_,hs.rd 1 rfl rfl,?_⟩;refine eS (fun c31=>?_) (fun c31=>?_);refine⟨_,hs.rd 1 rfl rfl,?_⟩;refine⟨_,hs.rd 0 rfl rfl,?_⟩;refine dY (fun c32=>?_) (fun c32=>?_);rotate_left;refine⟨_,hs.rd 1 rfl rfl,?_⟩;refine⟨_,hs.rd 0 rfl rfl,?_⟩;refine dY (fun c33=>?_) (fun c33=>?_);rotate_left;rotate_left;rotate_left;rotate_left;refine⟨_,hs.rd 1 rfl rfl,?_⟩;refine aa (fun c34=>?_) (fun c34=>?_);refine⟨_,hs.rd 0 rfl rfl,?_⟩;refine⟨_,hs.rd 1 rfl rfl,?_⟩;refine eS (fun c35=>?_) (fun c35=>?_);refine⟨_,hs.rd 1 rfl rfl,?_⟩;refine⟨_,hs.rd 0 rfl rfl,?_⟩;refine dY (fun c36=>?_) (fun c36=>?_);rotate_left;refine⟨_,hs.rd 1 rfl rfl,?_⟩;refine⟨_,hs.rd 0 rfl rfl,?_⟩;refine dY (fun c37=>?_) (fun c37=>?_);rotate_left;rotate_left;rotate_left;rotate_left;have TQ:=bz TQ;exact Up.next QE (by omega) ⟨hs.drop 1,fun j x hj hx=>by by_cases e:j=i11;(subst e;rw[g16] at hx;cases hx;exact⟨c1,by first | exact fun _=>c3 | exact fun hc=>(by rw[c2] at hc;cases hc),by first | exact fun k y hk=>q32 k y (by have:=(Ya.1 hk).1;omega) hk | exact fun k y hk=>q90 k y (by have:=(Ya.1 hk).1;omega) hk⟩);exact q11 j x (by omega) hx⟩;have QE:=bz QE;exact⟨dT ⟨fun x hx=>by obtain⟨j,hj⟩:=Yf.1 hx;exact (q11 j x (by have:=(Ya.1 hj).1;omega) hj).1,fun x hx=>by obtain⟨j,hj⟩:=Yf.1 hx;exact (q11 j x (by have:=(Ya.1 hj).1;omega) hj).2.1,fun i x hx=>(q11 i x (by have:=(Ya.1 hx).1;omega) hx).2.2⟩,hs.ext⟩;all_goals first | exact⟨dF fun hG=>(by first | exact hG.e _ (Yb g16) c1 | exact hG.s _ (Yb g16) c2 c3 | (refine hG.p _ _ g16 _ _ g37 ?_;clear hG q11 q32 t37 t16 hs hg;unfold cJ;grind) | (refine hG.p _ _ g16 _ _ g95 ?_;clear hG q11 q90 t95 t16 hs hg;unfold cJ;grind)),hs.ext⟩ | exact Up.next TS (by omega) ⟨hs.drop 1,fun k y hk hy=>by by_cases e:k=i32;(subst e;rw[g37] at hy;cases hy;clear q11 q32 t37 t16 hs hg;unfold cJ;grind);exact q32 k y (by omega) hy⟩ | exact Up.next TQ (by omega) ⟨hs.drop 1,fun k y hk hy=>by by_cases e:k=i90;(subst e;rw[g95] at hy;cases hy;clear q11 q90 t95 t16 hs hg;unfold cJ;grind);exact q90 k y (by omega) hy⟩
def lW(ts:List To)(i:Nat):Int:=if i=0 then -1 else match ts[i-1]? with | some t=>t.s | none=>-1
structure TmS (g:Gl) (i:Nat) (t:To):Prop where
 o:lW g.ts i<t.s
 k:1<=t.k/\t.k<=1000
 e:0<=t.e/\∃x,g.es[t.e.toNat]?=some x/\x.f=t.s/\x.ag=false
def A9(g:Gl):Prop:=∀i t,g.ts[i]?=some t->TmS g i t
noncomputable instance (g:Gl):Decidable (A9 g):=Classical.propDecidable _
theorem qK{ts:List To}{i:Nat}{t:To}(h:ts[i]?=some t):lW ts (i+1)=t.s:=by
 unfold lW;rw[if_neg (by omega),Nat.add_sub_cancel,h]
theorem Lx(g:Gl)(h:Heap)(hg:GI h g):Fn Pz 92 #[g.v] h fun v h'=>v=.bool (decide (A9 g))/\Ext h h':=by
 apply acH (bs g.nm) g.hr g.hd g.n g.s g.e g.he g.ht;unfold W92;have hs:=St.refl h;have hn:=hg.t.ln;have bI:=hg.e.ln;have yS:=hg.t.sm;refine hs.ao fun h9 hs=>?_;refine⟨_,hs.rd 0 rfl rfl,?_⟩;refine⟨fun MH acu h' m=>∃i:Nat,acu=i/\m=g.ht.n-i/\i<=g.ht.n/\St h h' [.af h.size g.cs 27]/\MH=lW g.ts i/\∀j t,j<i->g.ts[j]?=some t->TmS g j t,⟨_,0,rfl,rfl,by omega,hs,rfl,fun j t hj=>by omega⟩,?_⟩;rintro-_ _ fx m ⟨i,rfl,rfl,hi,hs,rfl,q⟩;refine aQ (fun c1=>?_) (fun c1=>?_);refine ((hg.t.ext hs.ext).rw).ax (by omega) (by omega) fun b17 TK d17 g17 t17=>?_;refine⟨_,_,_,t17,?_⟩;refine hs.aj rfl rfl fun nM hs=>?_;refine⟨_,hs.rd 0 rfl rfl,?_⟩;refine aQ (fun c2=>?_) (fun c2=>?_);rotate_left;refine⟨_,hs.rd 0 rfl rfl,?_⟩;refine aQ (fun c3=>?_) (fun c3=>?_);rotate_left;refine⟨_,hs.rd 0 rfl rfl,?_⟩;refine aQ (fun c4=>?_) (fun c4=>?_);rotate_left;refine⟨_,hs.rd 0 rfl rfl,?_⟩;refine aQ (fun c5=>?_) (fun c5=>?_);rotate_left;refine⟨_,hs.rd 0 rfl rfl,?_⟩;refine⟨_,hs.rd 1 rfl rfl,?_⟩;refine aQ (fun c6=>?_) (fun c6=>?_);rotate_left;refine⟨_,hs.rd 1 rfl rfl,?_⟩;refine⟨_,hs.rd 0 rfl rfl,?_⟩;refine ((hg.e.ext hs.ext).rw).ax (by omega) (by omega) fun b32 o33 d32 IX t32=>?_;refine⟨_,t32.hd,?_⟩;refine⟨_,hs.rd 0 rfl rfl,?_⟩;refine dY (fun c7=>?_) (fun c7=>?_);rotate_left;refine⟨_,hs.rd 1 rfl rfl,?_⟩;refine⟨_,hs.rd 0 rfl rfl,?_⟩;refine ((hg.e.ext hs.ext).rw).ax (by omega) (by omega) fun b38 o39 d38 No t38=>?_;refine⟨_,t38.nth 5 rfl,?_⟩;refine aa (fun c8=>?_) (fun c8=>?_);rotate_left;refine⟨_,hs.rd 0 rfl rfl,?_⟩;exact⟨_,by omega,i+1,by rw[bd (by omega) (by omega)];omega,rfl,by omega,hs.drop 1,(qK g17).symm,fun j t hj hx=>by by_cases e:j=i;(subst e;rw[show g.ts[j]?=some d17 from g17] at hx;cases hx;exact⟨by omega,by omega,by omega,d32,IX,c7,by rw[No] at IX;cases IX;exact c8⟩);exact q j t (by omega) hx⟩;exact⟨dT fun j t hx=>q j t (by have:=(Ya.1 hx).1;omega) hx,hs.ext⟩;all_goals first | exact⟨dF fun hG=>(by replace hG:=hG i _ g17;have ho:=hG.o;have hk:=hG.k;obtain⟨Ro,x,hx,hf,bx⟩:=hG.e;have Gc:=(Ya.1 hx).1;first | omega | (rw[IX] at hx;cases hx;first | exact c7 hf | (rw[No] at IX;cases IX;rw[c8] at bx;cases bx))),hs.ext⟩
theorem dt:cu Pz 102 3 1 8=true:=by kernel_rfl
theorem bX(L:List Int):∀r∈L.map aM,r.length=1:=fun r hr=>by obtain⟨x,_,rfl⟩:=Yp.1 hr;rfl
theorem HY(L:List Int)(x:Int)(s:Sl)(h:Heap)(hr:Rw h 1 s (L.map aM))(hm:L.length<=1048576):
  Fn Pz 163 #[.slice s.a s.n s.c,.int .i64 x] h fun v h'=>(∃k:Int,v=.int .i64 k/\decide (k>=0)=decide (x∈L))/\h'=h:=by
 apply Wa;unfold abq;have hn:=hr.ln;refine bU (n:=s.n) (fun i h'=>h'=h/\∀(j:Nat) (y:Int),j<i->L[j]?=some y->decide (x=y)=false) ⟨rfl,fun j y hj=>by omega⟩ ?_;rintro-i h5 hi ⟨rfl,hd⟩;refine aa (fun l=>?_) (fun l=>?_)
 .replace l:=bw l;refine hr.ax (by omega) (by omega) fun b o d g t=>?_;replace g:L[i]?=some d:=g;refine⟨_,t.hd,?_⟩;refine eS (fun he=>?_) (fun bI=>?_)
  .exact⟨⟨_,rfl,by rw[decide_eq_true (show (i:Int)>=0 by omega),decide_eq_true (by rw[he];exact Yb g)]⟩,rfl⟩
  .exact Up.next l (by omega) ⟨rfl,eM (p:=fun y=>decide (x=y)) g (decide_eq_false bI) hd⟩
 .replace l:=bz l;refine⟨⟨_,rfl,?_⟩,rfl⟩;rw[decide_eq_false (show ¬((-1:Int)>=0) by omega),decide_eq_false];intro hm;obtain⟨j,hj⟩:=Yf.1 hm;exact eI (hd j _ (by have:=(Ya.1 hj).1;omega) hj) rfl
theorem Pb(L:List Int)(x:Int)(s:Sl)(h:Heap)(hr:Rw h 1 s (L.map aM))(hm:L.length<=1048576):
  Fn Pz 93 #[.slice s.a s.n s.c,.int .i64 x] h fun v h'=>v=.bool (decide (x∈L))/\h'=h:=by
 apply acG;unfold W93;refine (HY L x s h hr hm).mono ?_;rintro v h3 ⟨⟨k,rfl,hk⟩,rfl⟩;exact⟨_,rfl,by rw[hk],rfl⟩
theorem wh(g:Gl)(src:Int)(bk:Bool)(h:Heap)(hg:GI h g)(hN:yF g)(h0:0<=src)(h1:src<g.n):
  Fn Pz 94 #[g.v,.int .i64 src,.bool bk] h fun v h'=>Ext h h'/\∃(s:Sl) (D:List Int),v=.slice s.a s.n s.c/\cF h' h.size 3 1 s (D.map aM).flatten/\BF g.es bk g.n.toNat src D []:=by
 apply acF (bs g.nm) g.hr g.hd g.n g.s g.e g.he g.ht;unfold W94;have hs:=St.refl h;have hn:=hg.e.ln;have hb:=hN.n;have he:=hN.e;have hm:=hN.m;refine hs.ao fun h9 hs=>?_;refine hs.ao fun cw hs=>?_;refine⟨_,hs.rd 1 rfl rfl,?_⟩;refine (He g.n (by omega) (by omega) _ cw (hs.rd 0 rfl rfl)).mono ?_;rintro _ uW ⟨E14,tX,rfl,ho⟩;replace hs:=hs.xK E14 ho (bX _);refine⟨_,rfl,?_⟩;have hxn:=(hs.rows 0 rfl (by omega)).ln;rw[Yg] at hxn;refine hs.set 0 rfl (by omega) h0 (by omega) 0 rfl rfl (fun b15 Qj Pl hs=>?_) rfl;refine hs.ao fun gJ hs=>?_;have hs:=(hs.dz 1 1 [[.int .i64 src]] rfl (by simp) rfl (by decide)).toQ (by omega);have bf0:BF g.es bk g.n.toNat src ((List.replicate g.n.toNat (-1:Int)).set src.toNat 0) [src]:=BF.start h0 (by omega) (by omega);refine⟨fun todo h' m=>∃(D T:List Int),St h h' [.q todo 3 1 (T.map aM),.sl tX 3 1 (D.map aM),.af h9.size [.int .i64 (-1)] 3,.af h.size g.cs 27]/\BF g.es bk g.n.toNat src D T/\m=2*D.count (-1)+T.length/\m<=401,⟨_,_,[src],hs,bf0,rfl,?_⟩,?_⟩
 .have:List.count (-1) ((List.replicate g.n.toNat (-1:Int)).set src.toNat 0)<=_:=List.count_le_length;rw[lh,Yg] at this;rw[Yv];omega
 rintro-todo_22 nM m ⟨D,T,hs,bf,rfl,EZ⟩;have hq:=(hs.Xf 0 rfl).1;rw[Yc] at hq;refine aQ (fun c1=>?_) (fun c1=>?_)
 .refine⟨_,hs.rd 3 rfl rfl,?_⟩;obtain⟨a0,R0,rfl⟩:∃a R,T=a::R:=by cases T with
   | nil=>simp at hq;omega
   | cons a R=>exact⟨a,R,rfl⟩
  refine⟨fun todo x h' m=>∃(i:Nat) (D' R:List Int),x=i/\m=g.he.n-i/\i<=g.he.n/\St h h' [.q todo 3 1 ((a0::R).map aM),.sl tX 3 1 (D'.map aM),.af h9.size [.int .i64 (-1)] 3,.af h.size g.cs 27]/\BF g.es bk g.n.toNat src D' (a0::R) /\
   (∀(j:Nat) (x:Ed),j<i->g.es[j]?=some x->GU bk x=a0->mK D' (Jj bk x))/\2*D'.count (-1)+R.length+1<=2*D.count (-1)+(a0::R0).length,⟨_,0,D,R0,rfl,rfl,by omega,hs,bf,fun j x hj=>by omega,by rw[jC];omega⟩,?_⟩
  rintro-todo_28 _ y3 _ ⟨i,D',R,rfl,rfl,hi,hs,bf,Cr,hmea⟩;have hq:=(hs.Xf 0 rfl);rw[Yc,jC] at hq;have hlD:=bf.len;have ahC:=(hs.rows 1 rfl (by omega)).ln;refine aQ (fun c2=>?_) (fun c2=>?_)
  .have l2:i<g.he.n:=by omega
   refine (hg.e.ext hs.ext).rw.ax (by omega) (by omega) fun b31 o32 d31 Zo t31=>?_;replace Zo:g.es[i]?=some d31:=Zo;have hE:=he d31 (Yb Zo);unfold fp at hE;refine⟨_,_,_,_,_,_,t31,?_⟩;refine hs.aj (vs:=d31.cs) rfl rfl fun km hs=>?_;refine⟨_,hs.rd 0 rfl rfl,?_⟩;refine⟨_,hs.rd 0 rfl rfl,?_⟩;refine⟨fun a b h'=>St h h' [.af y3.size d31.cs 67,.q todo_28 3 1 ((a0::R).map aM),.sl tX 3 1 (D'.map aM),.af h9.size [.int .i64 (-1)] 3,.af h.size g.cs 27]/\a=GU bk d31/\b=Jj bk d31,?_,?_⟩
   .cases bk
    .exact⟨hs,rfl,rfl⟩
    .exact⟨hs,rfl,rfl⟩
   .rintro-a b oJ ⟨hs,ha,IB⟩;have ha0:0<=a/\a<g.n/\0<=b/\b<g.n:=by rw[ha,IB];unfold GU Jj;cases bk<;>simp<;>omega
    have HC:∀ {todo:Sl} {h':Heap} {D2 R2:List Int},St h h' [.af y3.size d31.cs 67,.q todo 3 1 ((a0::R2).map aM),.sl tX 3 1 (D2.map aM),.af h9.size [.int .i64 (-1)] 3,.af h.size g.cs 27]->BF g.es bk g.n.toNat src D2 (a0::R2) ->
      (∀v,mK D' v->mK D2 v)->(a=a0->mK D2 b)->2*D2.count (-1)+R2.length+1<=2*D.count (-1)+(a0::R0).length ->
      ∃m,m<g.he.n-i/\∃(i2:Nat) (D' R:List Int),IntKind.wrap .i64 ((i:Int)+1)=i2/\m=g.he.n-i2/\i2<=g.he.n/\St h h' [.q todo 3 1 ((a0::R).map aM),.sl tX 3 1 (D'.map aM),.af h9.size [.int .i64 (-1)] 3,.af h.size g.cs 27]/\BF g.es bk g.n.toNat src D' (a0::R) /\
       (∀(j:Nat) (x:Ed),j<i2->g.es[j]?=some x->GU bk x=a0->mK D' (Jj bk x))/\2*D'.count (-1)+R.length+1<=2*D.count (-1)+(a0::R0).length:=by
     intro todo h' D2 R2 bQ SN X5 YO ik;refine⟨_,by omega,i+1,D2,R2,by rw[bd (by omega) (by omega)];omega,rfl,by omega,bQ.drop 1,SN,fun j x hj hx XH=>?_,ik⟩;by_cases e:j=i
     .subst e;rw[Zo] at hx;cases hx;rw[<-IB];exact YO (by rw[ha,XH])
     .exact X5 _ (Cr j x (by omega) hx XH)
    refine (hs.qrw 1 rfl (by omega)).ax (cs:=aM) (L:=a0::R) (by omega) (by omega) fun b47 o48 d47 g47 t47=>?_;have ed:a0=d47:=by simpa using g47
    subst ed;refine⟨_,t47.hd,?_⟩;refine eS (fun c4=>?_) (fun c4=>?_)
    .subst c4;have hva:mK D' a:=bf.t a (by simp);obtain⟨_,da,Ui,Rq⟩:=hva;refine (hs.rows 2 rfl (by omega)).ax (by omega) (by omega) fun b50 o51 db g50 t50=>?_;refine⟨_,t50.hd,?_⟩;refine aQ (fun c5=>?_) (fun c5=>?_)
     .refine (hs.rows 2 rfl (by omega)).ax (by omega) (by omega) fun b53 o54 d53 g53 t53=>?_;rw[Ui] at g53;cases g53;refine⟨_,t53.hd,?_⟩;have aeT:Adj g.es bk a b:=⟨d31,Yb Zo,ha.symm,IB.symm⟩;obtain⟨SN,M7,Ct,hd2⟩:=bf.push ⟨by omega,da,Ui,Rq⟩ Ui (by omega) g50 c5 aeT;rw[bd (n:=da+1) (by omega) (by omega)];refine hs.set 2 rfl (by omega) (by omega) (by omega) (da+1) rfl rfl (fun ZX Xi h58 hs=>?_) rfl;have dU:D'.count (-1)<=D'.length:=List.count_le_length;have hRl:R.length<=2000:=by omega
      refine hs.adQ 1 rfl dt (m:=1) [[.int .i64 b]] rfl rfl (by omega) (by simp) rfl (by omega) (by simp only[maxLen];omega) fun Ou Ph ahw hs=>?_;have cj:St h Ph [.af y3.size d31.cs 67,.q Ou 3 1 ((a::(R++[b])).map aM),.sl tX 3 1 ((D'.set b.toNat (da+1)).map aM),.af h9.size [.int .i64 (-1)] 3,.af h.size g.cs 27]:=by
       have e:(a::(R++[b])).map aM=(a::R).map aM++[[.int .i64 b]]:=by simp[aM]
       rw[e];exact hs
      refine HC cj SN (fun v hv=>(jE (by omega) (by have:=(Ya.1 g50).1;omega) (by omega)).2 (.inr hv)) (fun _=>(jE (by omega) (by have:=(Ya.1 g50).1;omega) (by omega)).2 (.inl rfl)) ?_;rw[Yh,Yv];omega
     .exact HC hs bf (fun v hv=>hv) (fun _=>⟨by omega,db,g50,by omega⟩) hmea
    .exact HC hs bf (fun v hv=>hv) (fun e=>absurd e c4) hmea
  .refine⟨⟨by omega,by omega,by omega⟩,?_⟩;rw[iM] at hs;refine⟨_,?_,D',R,hs.Xe,?_,rfl,?_⟩
   .rw[jC] at hmea ⊢;omega
   rotate_left
   .omega
   .refine⟨bf.len,bf.src,bf.r,fun t ht=>bf.t t (Yn _ ht),fun v w hv EX yQ=>?_,bf.b⟩;by_cases hva:v=a0
    .subst hva;obtain⟨x,hx,h3,h4⟩:=yQ;obtain⟨j,hj⟩:=Yf.1 hx;rw[<-h4];exact Cr j x (by have:=(Ya.1 hj).1;omega) hj h3
    .exact bf.c v w hv (by rw[Yr,not_or];exact⟨hva,EX⟩) yQ
 .have:T=[]:=List.length_eq_zero_iff.1 (by omega);subst this;exact⟨hs.ext,tX,D,rfl,hs.RV 1 rfl,bf⟩
structure ah (g:Gl):Prop where
 OE:vx g
 num:yF g
 dcl:oX g.ds
 ord:TA g
 TH:A9 g
 fwd:∀v:Int,0<=v->v<g.n->gL g.es false g.s v
 bwd:∀v:Int,0<=v->v<g.n->gL g.es true g.e v
noncomputable instance (g:Gl):Decidable (ah g):=Classical.propDecidable _
theorem pK(g:Gl)(h:Heap)(hg:GI h g)(hx:Gm h):Fn Pz 40 #[g.v] h fun v h'=>v=.bool (decide (ah g))/\Ext h h':=by
 apply adu (bs g.nm) g.hr g.hd g.n g.s g.e g.he g.ht;unfold W40;have hs:=St.refl h;refine hs.ao fun h9 hs=>?_;refine⟨_,_,_,_,_,_,_,_,hs.at 0 rfl (n:=8) rfl,?_⟩;refine (Mi g _ (hg.ext hs.ext)).mono ?_;rintro _ az ⟨rfl,Eh20⟩;replace hs:=hs.step Eh20;refine⟨_,rfl,?_⟩;refine aa (fun c1=>?_) (fun c1=>?_)
 .skip
  refine⟨_,_,_,_,_,_,_,_,hs.at 0 rfl (n:=8) rfl,?_⟩;refine (zG g _ (hg.ext hs.ext)).mono ?_;rintro _ xH ⟨rfl,Eh31⟩;replace hs:=hs.step Eh31;refine⟨_,rfl,?_⟩;refine aa (fun c2=>?_) (fun c2=>?_)
  .skip
   refine⟨_,hs.rd 0 rfl rfl,?_⟩;refine (AO g.ds _ _ (hg.d.ext hs.ext) (hx.ext hs.ext)).mono ?_;rintro _ bA ⟨rfl,Eh35⟩;replace hs:=hs.step Eh35;refine⟨_,rfl,?_⟩;refine aa (fun c3=>?_) (fun c3=>?_)
   .skip
    refine⟨_,_,_,_,_,_,_,_,hs.at 0 rfl (n:=8) rfl,?_⟩;refine (D9 g _ (hg.ext hs.ext)).mono ?_;rintro _ oJ ⟨rfl,Eh46⟩;replace hs:=hs.step Eh46;refine⟨_,rfl,?_⟩;refine aa (fun c4=>?_) (fun c4=>?_)
    .skip
     refine⟨_,_,_,_,_,_,_,_,hs.at 0 rfl (n:=8) rfl,?_⟩;refine (Lx g _ (hg.ext hs.ext)).mono ?_;rintro _ sn ⟨rfl,Eh57⟩;replace hs:=hs.step Eh57;refine⟨_,rfl,?_⟩;refine aa (fun c5=>?_) (fun c5=>?_)
     .skip
      refine⟨_,_,_,_,_,_,_,_,hs.at 0 rfl (n:=8) rfl,?_⟩;refine⟨_,hs.rd 0 rfl rfl,?_⟩;refine (wh g _ _ _ (hg.ext hs.ext) (cd c2) (by have:=(cd c2).n;omega) (by have:=(cd c2).n;omega)).mono ?_;rintro _ Uo ⟨E69,x68,D,rfl,ho,bf⟩;replace hs:=hs.xK E69 ho (bX _);refine⟨_,rfl,?_⟩;refine (Pb _ _ _ _ (hs.rows 0 rfl (by omega)) (by have:=bf.len;have:=(cd c2).n;omega)).mono ?_;rintro _ Gi ⟨rfl,rfl⟩;refine⟨_,rfl,?_⟩;refine aa (fun c6=>?_) (fun c6=>?_)
      .skip
       refine⟨_,_,_,_,_,_,_,_,hs.at 1 rfl (n:=8) rfl,?_⟩;refine⟨_,hs.rd 1 rfl rfl,?_⟩;refine (wh g _ _ _ (hg.ext hs.ext) (cd c2) (by have:=(cd c2).n;omega) (by have:=(cd c2).n;omega)).mono ?_;rintro _ Zb ⟨E84,Lp,D2,rfl,ho2,SN⟩;replace hs:=hs.xK E84 ho2 (bX _);refine⟨_,rfl,?_⟩;refine (Pb _ _ _ _ (hs.rows 0 rfl (by omega)) (by have:=SN.len;have:=(cd c2).n;omega)).mono ?_;rintro _ yZ ⟨rfl,rfl⟩;refine⟨_,rfl,?_⟩;refine⟨?_,hs.ext⟩;have hN:=(cd c2).n;have h1:∀v:Int,0<=v->v<g.n->gL g.es false g.s v:=by
        intro v h0 h2;apply Classical.byContradiction;intro h3;have h4:(-1:Int)∈D:=bf.all.2 fun cA=>h3 (cA v h0 (by omega));rw[decide_eq_true h4] at c6;cases c6
       by_cases h2:∀v:Int,0<=v->v<g.n->gL g.es true g.e v
       .have h4:¬((-1:Int)∈D2):=fun hm=>SN.all.1 hm fun v h0 h3=>h2 v h0 (by omega);rw[decide_eq_false h4,decide_eq_true (show ah g from ⟨cd c1,cd c2,cd c3,cd c4,cd c5,h1,h2⟩)];rfl
       .have h4:(-1:Int)∈D2:=SN.all.2 fun cA=>h2 fun v h0 h3=>cA v h0 (by omega);rw[decide_eq_true h4,decide_eq_false (fun hG:ah g=>h2 hG.bwd)];rfl
      .skip
       exact⟨dF fun hG=>by have h1:=bf.all.1 (by simpa using c6);exact h1 fun v h0 h2=>hG.fwd v h0 (by omega),hs.ext⟩
     .skip
      exact⟨dF fun hG=>eI c5 hG.TH,hs.ext⟩
    .skip
     exact⟨dF fun hG=>eI c4 hG.ord,hs.ext⟩
   .skip
    exact⟨dF fun hG=>eI c3 hG.dcl,hs.ext⟩
  .skip
   exact⟨dF fun hG=>eI c2 hG.num,hs.ext⟩
 .skip
  exact⟨dF fun hG=>eI c1 hG.OE,hs.ext⟩
theorem Gw(ws:List Nat)(s:Sl)(i:Nat)(h:Heap)(hr:Rw h 1 s (ws.map wC))(hl:ws.length<=64):
  Fn Pz 127 #[.slice s.a s.n s.c,.int .i64 i] h fun v h'=>v=.int .u64 ((ws.getD i 0:Nat):Int)/\h'=h:=by
 apply WD;unfold abR;have hn:=hr.ln;rw[l5];refine aQ (fun c1=>?_) (fun c1=>?_)
 .refine hr.ax (by omega) (by omega) fun b1 o2 d1 g1 t1=>?_;refine⟨_,t1.hd,?_,rfl⟩;rw[Yo,show ws[i]?=some d1 from g1];rfl
 .refine⟨?_,rfl⟩;rw[Yo,Yl (by omega)];rfl
theorem YX(p:Nat->Bool)(s:Sl)(n:Int)(h:Heap)(hr:ie h s p):
  Fn Pz 67 #[.slice s.a s.n s.c,.int .i64 n] h fun v h'=>v=.bool (decide (0<=n/\n<4096)&&p n.toNat)/\h'=h:=by
 apply acZ;unfold W67;obtain⟨ws,h1,h2,h3,h4⟩:=hr.ex;refine aQ (fun c1=>?_) (fun c1=>?_)
 .refine aQ (fun c2=>?_) (fun c2=>?_)
  .obtain⟨m,rfl⟩:=Int.eq_ofNat_of_zero_le c1;refine⟨by omega,?_⟩;have e1:IntKind.wrap .i64 (Int.tdiv (m:Int) 64)=((m/64:Nat):Int):=by
    have:Int.tdiv (m:Int) 64=((m/64:Nat):Int):=rfl;rw[this];exact bd (by omega) (by omega)
   rw[e1];refine (Gw ws s (m/64) h h1 h2).mono ?_;rintro _ h5 ⟨rfl,rfl⟩;have e2:Int.tmod (m:Int) 64=((m%64:Nat):Int):=rfl;refine⟨_,rfl,by omega,by rw[e2];omega,?_,rfl⟩;rw[e2,NN (by
    rw[Yo];cases hw:ws[m/64]? with
    | none=>exact Nat.two_pow_pos 64
    | some w=>exact h3 w (Yb hw)) (by omega)]
   rw[decide_eq_true (by omega),Bool.true_and];have:=h4 m;unfold iR at this;rw[show ((m:Int)).toNat=m from rfl,<-this]
  .exact⟨by rw[decide_eq_false (by omega)];rfl,rfl⟩
 .exact⟨by rw[decide_eq_false (by omega)];rfl,rfl⟩
theorem GN(p q:Nat->Bool)(a b:Sl)(h:Heap)(ha:ie h a p)(hb:ie h b q):
  Fn Pz 213 #[.slice a.a a.n a.c,.slice b.a b.n b.c] h fun v h'=>(∃r:Bool,v=.bool r/\(r=true ↔ ∀k,p k=true->q k=true))/\h'=h:=by
 apply VG;unfold aaR;obtain⟨ws,h1,h2,h3,h4⟩:=ha.ex;obtain⟨us,g1,g2,g3,g4⟩:=hb.ex;have hn:=h1.ln;have bt:∀(l:List Nat),(∀w∈l,w<2^64)->∀i,l.getD i 0<2^64:=fun l hl i=>by
  rw[Yo];cases hw:l[i]? with
  | none=>exact Nat.two_pow_pos 64
  | some w=>exact hl w (Yb hw)
 rw[l5,show min (a.n:Int) 64=(a.n:Int) by omega];refine bU (n:=a.n) (fun i h'=>h'=h/\∀j,j<i->∀k,k<64->(ws.getD j 0).testBit k=true->(us.getD j 0).testBit k=true) ⟨rfl,fun j hj=>by omega⟩ ?_;rintro-i h5 hi ⟨rfl,hq⟩;refine aa (fun l=>?_) (fun l=>?_)
 .replace l:=bw l;refine h1.ax (by omega) (by omega) fun b6 o7 d6 g6 t6=>?_;replace g6:ws[i]?=some d6:=g6;have hd:d6=ws.getD i 0:=by rw[Yo,g6];rfl
  refine⟨_,t6.hd,?_⟩;refine (Gw us b i h5 g1 g2).mono ?_;rintro _ jP ⟨rfl,rfl⟩;refine⟨_,rfl,fun _ _ _ _ hv=>hv,?_⟩;have hz:=Jn (a:=d6) (b:=us.getD i 0) (h3 _ (Yb g6)) (bt us g3 i);refine dY (fun c2=>?_) (fun c2=>?_)
  .refine⟨⟨_,rfl,⟨fun e=>(by cases e),fun cA=>absurd (hz.2 fun k hk hb=>?_) c2⟩⟩,rfl⟩;have:=cA (64*i+k);rw[<-h4,<-g4] at this;unfold iR at this;rw[show (64*i+k)/64=i by omega,show (64*i+k)%64=k by omega] at this;exact this (by rw[<-hd];exact hb)
  .refine Up.next l (by omega) ⟨rfl,fun j hj k hk hb=>?_⟩;by_cases e:j=i
   .subst e;rw[<-hd] at hb;exact hz.1 c2 k hk hb
   .exact hq j (by omega) k hk hb
 .replace l:=bz l;refine⟨⟨_,rfl,⟨fun _ k hk=>?_,fun _=>rfl⟩⟩,rfl⟩;rw[<-h4] at hk;rw[<-g4];unfold iR at hk ⊢;by_cases nH:k/64<i
  .exact hq _ nH _ (by omega) hk
  .rw[Yo,Yl (by omega)] at hk;simp at hk
theorem Nw(p q:Nat->Bool)(a b:Sl)(h:Heap)(ha:ie h a p)(hb:ie h b q):
  Fn Pz 147 #[.slice a.a a.n a.c,.slice b.a b.n b.c] h fun v h'=>(∃r:Bool,v=.bool r/\(r=true ↔ p=q))/\h'=h:=by
 apply Wr;unfold abG;refine (GN p q a b h ha hb).mono ?_;rintro _ h3 ⟨⟨r,rfl,hr⟩,rfl⟩;refine⟨_,rfl,aa (fun c=>?_) (fun c=>?_)⟩
 .refine (GN q p b a h3 hb ha).mono ?_;rintro _ h6 ⟨⟨r2,rfl,kO⟩,rfl⟩;refine⟨_,rfl,⟨_,rfl,⟨fun h=>?_,fun h=>?_⟩⟩,rfl⟩
  .funext k
   have h1:=hr.1 c k;have h2:=kO.1 h k;cases hp:p k<;>cases hq:q k<;>simp_all
  .rw[kO];intro k hk;rw[h];exact hk
 .refine⟨⟨_,rfl,⟨fun h=>(by cases h),fun h=>?_⟩⟩,rfl⟩;rw[<-c,hr];intro k hk;rw[<-h];exact hk
theorem SH:aF Pz 136=true:=by kernel_rfl
theorem Mz(n:Nat):ak Pz 144 n=((List.replicate n 0).map wC).flatten:=by
 have e:bN Pz 144=[.int .u64 0]:=by kernel_rfl
 unfold ak;rw[e,List.map_replicate];rfl
theorem vX(L:List Nat):∀r∈L.map wC,r.length=1:=fun r hr=>by obtain⟨x,_,rfl⟩:=Yp.1 hr;rfl
theorem Bk(ws:List Nat)(i:Nat):((ws.map wC).flatten)[i]?=(ws[i]?).map fun w=>.int .u64 (w:Int):=by
 by_cases h:i<ws.length
 .have:=getElem?_flatten (k:=1) (ws.map wC) i 0 (wC ws[i]) (vX ws) (by rw[Yd,Yi h];rfl) (by omega);rw[Nat.mul_one,Nat.add_zero] at this;rw[this,Yi h];rfl
 .have hl:((ws.map wC).flatten).length=ws.length:=by rw[aO _ (vX ws),Yc,Nat.mul_one]
  rw[Yl (by omega),Yl (by omega)];rfl
theorem Bi{ws:List Nat}{i:Nat}(hi:i<ws.length)(w:Nat):aA ((ws.map wC).flatten) (i*1) [.int .u64 (w:Int)]=((ws.set i w).map wC).flatten:=by
 have:=fX (n:=1) (j:=0) (vs:=[.int .u64 (w:Int)]) (row:=wC ws[i]) (ws.map wC) i (vX ws) (by rw[Yd,Yi hi];rfl) (by simp);rw[Nat.add_zero] at this;rw[this,List.map_set];rfl
structure SI (ws:List Nat) (k:Nat) (p:Nat->Bool):Prop where
 pl:ws.length<=64
 pk:k<=ws.length
 pw:∀w∈ws,w<2^64
 pz:∀(i w:Nat),k<=i->ws[i]?=some w->w=0
 pm:∀j,iR ws j=p j
def P6(b:Nat)(ws:List Nat):It:=.af b (ws.map wC).flatten 144
theorem SI.v{ws:List Nat}{k:Nat}{p:Nat->Bool}(hS:SI ws k p){h:Heap}{b:Nat}(ho:Own h b (ws.map wC).flatten 144)(c:Nat):ie h ⟨some ⟨b,0,none⟩,k,c⟩ p:=by
 refine⟨ws.take k,⟨by rw[Yc,Yu];have:=hS.pk;simp only;omega,fun _=>⟨b,0,rfl,fun i row hi j v hj=>?_⟩⟩,by rw[Yu];have:=hS.pl;omega,fun w hw=>hS.pw w (List.mem_of_mem_take hw),fun j=>by rw[Ez hS.pz];exact hS.pm j⟩;rw[Yd] at hi;obtain⟨w,hw,rfl⟩:=rP.1 hi;have hj0:j=0:=by have:=(Ya.1 hj).1;simpa [wC] using this
 subst hj0;have hv:v=.int .u64 (w:Int):=by simpa [wC] using hj.symm
 subst hv;rw[eU,Own.hc ho,Bk];rw[rO] at hw;split at hw
 .rw[show 0+i*1+0=i by omega,hw];rfl
 .cases hw
theorem Ju(ws:List Nat)(p:Nat->Bool)(b:Nat)(h:Heap)(hl:ws.length=64)(hw:∀w∈ws,w<2^64)(hm:∀j,iR ws j=p j)(hb:∀(i w:Nat),ws[i]?=some w->hc h ⟨b,i,none⟩=some (.int .u64 (w:Int))):
  Fn Pz 135 #[.int .i64 64,.func (.func 136) #[] #[.pointer (some ⟨b,0,none⟩)]] h fun v h'=>Ext h h'/\∃(k:Nat),v=.slice (some ⟨h.size,0,none⟩) k k/\Own h' h.size (ws.map wC).flatten 144/\SI ws k p:=by
 apply Wx;unfold abL KA KB;have hs:=St.refl h;rw[show dJ (64:Int) 64=64 from rfl,show Int.toNat 64=64 from rfl,Mz];refine⟨by decide,?_⟩;refine hs.ao fun h1 hs=>?_;refine bU (n:=64) (fun i h'=>∃us:List Nat,us.length=64/\us.take i=ws.take i/\St h h' [.af h.size (us.map wC).flatten 144]) ⟨List.replicate 64 0,by rw[Yg],rfl,hs⟩ ?_;rintro-i h6 hi ⟨us,hul,hut,hs⟩;refine aa (fun l=>?_) (fun l=>?_)
 .replace l:=bw l;rw[SH,cond_true];obtain⟨w,OO⟩:=get_some (l:=ws) (i:=i) (by omega);have yU:Fn Pz 136 #[.int .i64 (i:Int),.pointer (some ⟨b,0,none⟩)] h6 fun v h'=>v=.int .u64 (w:Int)/\h'=h6:=by
   apply Ww (i:Int) b 0;unfold abK;refine⟨by omega,_,?_,rfl,rfl⟩;have:=aw hs.ext (hb i w OO);rw[show (0+Int.toNat (i:Int)*1)=i by simp];exact this
  refine yU.mono ?_;rintro _ h9 ⟨rfl,rfl⟩;refine⟨_,rfl,by omega,?_⟩;rw[show (0+Int.toNat (i:Int)*1)=i*1 by simp];refine hs.put 0 rfl (o:=i*1) (vs:=[.int .u64 (w:Int)]) rfl (by rw[aO _ (vX us),Yc,Yv];omega) fun cw hs=>?_;refine Up.next l (by omega) ⟨us.set i w,by rw[lh];exact hul,?_,?_⟩
  .rw[ae OO,<-hut,ae (x:=w) (by rw[Yq (by omega)]),List.take_set_of_le (bu _)]
  .rw[<-Bi (by omega)];exact hs
 .replace l:=bz l;have aeE:i=64:=by omega
  subst aeE;rw[Yj (by omega),Yj (by omega)] at hut;subst hut;refine⟨fun n h' m=>∃k:Nat,n=k/\m=k/\k<=64/\h'=h6/\∀i w,k<=i->us[i]?=some w->w=0,⟨_,64,rfl,rfl,by omega,rfl,fun i w hi hw=>by have:=(Ya.1 hw).1;omega⟩,?_⟩;rintro-_ fx m ⟨k,rfl,rfl,hk,rfl,hz⟩;have Fc:∀v:Value,v=.slice (aN (some ⟨h.size,0,none⟩) (Int.toNat 0) (Int.toNat (m:Int)) 1) (Int.toNat (m:Int)-Int.toNat 0) (Int.toNat (m:Int)-Int.toNat 0) ->
    Ext h fx/\∃(k:Nat),v=.slice (some ⟨h.size,0,none⟩) k k/\Own fx h.size (us.map wC).flatten 144/\SI us k p:=by
   rintro v rfl;refine⟨hs.ext,m,?_,hs.get (k:=0) rfl,⟨by omega,by omega,hw,hz,hm⟩⟩;rw[show aN (some (⟨h.size,0,none⟩:Addr)) (Int.toNat 0) (Int.toNat (m:Int)) 1=some ⟨h.size,0,none⟩ from cp _ _ _];rfl
  refine aQ (fun c1=>?_) (fun c1=>?_)
  .have K4:IntKind.wrap .i64 ((m:Int)-1)=((m-1:Nat):Int):=by rw[bd (by omega) (by omega)];omega
   rw[K4];obtain⟨w,Am⟩:=get_some (l:=us) (i:=m-1) (by omega);refine⟨by omega,_,hs.rd 0 rfl (by rw[show (0+Int.toNat ((m-1:Nat):Int)*1)=m-1 by simp,Bk,Am];rfl),?_⟩;refine eS (fun c2=>?_) (fun c2=>?_)
   .refine⟨_,by omega,m-1,rfl,rfl,by omega,rfl,fun i w' hi QN=>?_⟩;by_cases e:i=m-1
    .subst e;rw[Am] at QN;cases QN;omega
    .exact hz i w' (by omega) QN
   .exact⟨by omega,Fc _ rfl⟩
  .exact⟨by omega,Fc _ rfl⟩
theorem Qt(l:List Int)(s:Sl)(h:Heap)(hr:Rw h 1 s (l.map aM))(hm:l.length<=1048576):
  Fn Pz 74 #[.slice s.a s.n s.c] h fun v h'=>Ext h h'/\∃(b k:Nat) (ws:List Nat),v=.slice (some ⟨b,0,none⟩) k k/\h.size<=b/\Own h' b (ws.map wC).flatten 144/\SI ws k fun j=>decide (((j:Nat):Int)∈l/\j<4096):=by
 apply acU;unfold W74;have hn:=hr.ln;have hs:=St.refl h;refine hs.ao fun h1 hs=>?_;refine bU (n:=s.n) (fun i h'=>∃ws:List Nat,ws.length=64/\(∀w∈ws,w<2^64)/\(∀j,iR ws j=decide (((j:Nat):Int)∈l.take i/\j<4096))/\St h h' [.af h.size (ws.map wC).flatten 253]) ⟨List.replicate 64 0,by rw[Yg],fun w hw=>by rw[List.eq_of_mem_replicate hw];decide,fun j=>by rw[Ey,iY];exact (decide_eq_false (fun h=>by cases h.1)).symm,hs⟩ ?_;rintro-i h6 hi ⟨ws,T3,hw,dh,hs⟩;refine aa (fun l2=>?_) (fun l2=>?_)
 .replace l2:=bw l2;refine (hr.ext hs.ext).ax (by omega) (by omega) fun b7 o8 d7 g7 t7=>?_;replace g7:l[i]?=some d7:=g7;refine⟨_,t7.hd,?_⟩;have skip:¬(0<=d7/\d7<4096)->∃m,m<s.n-i/\Up s.n (fun i h'=>∃ws:List Nat,ws.length=64/\(∀w∈ws,w<2^64)/\(∀j,iR ws j=decide (((j:Nat):Int)∈l.take i/\j<4096))/\St h h' [.af h.size (ws.map wC).flatten 253]) (IntKind.wrap .i64 ((i:Int)+1)) h6 m:=fun bM=>
   Up.next l2 (by omega) ⟨ws,T3,hw,fun j=>by
    rw[dh j,ae g7];have:(j:Int)∈List.take i l/\j<4096 ↔ (j:Int)∈List.take i l++[d7]/\j<4096:=by
     rw[Yk,Ye];constructor
     .rintro⟨h1,h2⟩;exact⟨.inl h1,h2⟩
     .rintro⟨h1 | h1,h2⟩
      .exact⟨h1,h2⟩
      .omega
    exact decide_eq_decide.2 this,hs⟩
  refine aQ (fun c1=>?_) (fun c1=>?_)
  .refine aQ (fun c2=>?_) (fun c2=>?_)
   .obtain⟨n,rfl⟩:=Int.eq_ofNat_of_zero_le c1;have e1:IntKind.wrap .i64 (Int.tdiv (n:Int) 64)=((n/64:Nat):Int):=by
     have:Int.tdiv (n:Int) 64=((n/64:Nat):Int):=rfl;rw[this];exact bd (by omega) (by omega)
    have e2:Int.tmod (n:Int) 64=((n%64:Nat):Int):=rfl;have e3:(0+Int.toNat ((n/64:Nat):Int)*1)=n/64*1:=Nat.zero_add _;rw[e1,e2,e3];have yT:n/64<ws.length:=by omega
    have hg:ws[n/64]?=some (ws.getD (n/64) 0):=by rw[Yo,Yi yT];rfl
    have bt:=hw _ (Yb hg);refine⟨by omega,by omega,_,hs.rd 0 rfl (by rw[Nat.mul_one,Bk,hg];rfl),by omega,by omega,by omega,?_⟩;have h2k:2^(n%64)<2^64:=Nat.pow_lt_pow_right (by omega) (by omega);rw[LM (by omega),Qg bt h2k];refine hs.put 0 rfl (o:=n/64*1) (vs:=[.int .u64 ((ws.getD (n/64) 0|||2^(n%64):Nat):Int)]) rfl (by rw[aO _ (vX ws),Yc,Yv];omega) fun jP hs=>?_;refine Up.next l2 (by omega) ⟨ws.set (n/64) (ws.getD (n/64) 0|||2^(n%64)),by rw[lh];exact T3,fun w QN=>?_,fun j=>?_,?_⟩
    .rcases List.mem_or_eq_of_mem_set QN with QN | rfl
     .exact hw w QN
     .exact Nat.or_lt_two_pow bt h2k
    .rw[HJ yT,dh j,ae g7,<-Bool.decide_or];refine decide_eq_decide.2 ?_;rw[Yk,Ye];constructor
     .rintro (rfl | ⟨h1,h2⟩)
      .exact⟨.inr rfl,by omega⟩
      .exact⟨.inl h1,h2⟩
     .rintro⟨h1 | h1,h2⟩
      .exact .inr ⟨h1,h2⟩
      .exact .inl (by omega)
    .have bQ:=hs;rw[show (List.set [It.af h.size (ws.map wC).flatten 253] 0 (.af h.size (aA (ws.map wC).flatten (n/64*1) [.int .u64 ((ws.getD (n/64) 0|||2^(n%64):Nat):Int)]) 253))=[.af h.size (aA (ws.map wC).flatten (n/64*1) [.int .u64 ((ws.getD (n/64) 0|||2^(n%64):Nat):Int)]) 253] from rfl,Bi yT] at bQ;exact bQ
   .exact skip (by omega)
  .exact skip (by omega)
 .replace l2:=bz l2;rw[Yj (by omega)] at dh;refine (Ju ws _ h.size h6 T3 hw dh fun i w hiw=>hs.rd 0 rfl (by rw[Bk,hiw];rfl)).mono ?_;rintro _ Pl ⟨E,k,rfl,ho,hS⟩;exact⟨⟨some ⟨h6.size,0,none⟩,k,k⟩,rfl,(hs.step E).ext,_,k,ws,rfl,hs.ext.1,ho,hS⟩
end Go.VC
end
