/- SxLd SxLe0 SxLs SxLe SxLf SxLg SxLh SxLj SxLk SxLl SxLm SxLn0 SxLn SxLo SxLp SxLq0 SxLq SxLr0 SxLr. -/
import Derived.Test.YtajglkbckhgboaaGreatDoorGM06
import Derived.Lib.AppendZerosOnto
set_option linter.all false
set_option maxRecDepth 100000
set_option maxHeartbeats 8000000

section
namespace Go.VC
open Go.Proofs Go.LexS
theorem vb{α:Type}{p:α->Bool}:∀(L:List α) (i:Nat) (x:α),(∀(j:Nat) y,j<i->L[j]?=some y->p y=false)->L[i]?=some x->p x=true->L.find? p=some x
 | [],i,x,_,h,_=>by cases h
 | a::L,0,x,_,h,hp=>by cases h;exact List.find?_cons_of_pos hp
 | a::L,i+1,x,hq,h,hp=>by
  rw[List.find?_cons_of_neg (by rw[hq 0 a (by omega) rfl];decide)];exact vb L i x (fun j y hj hy=>hq (j+1) y (by omega) hy) h hp
theorem Ce{α:Type}{p:α->Bool}{L:List α}(h:∀(j:Nat) y,L[j]?=some y->p y=false):L.find? p=none:=by
 rw[List.find?_eq_none];intro x hx;obtain⟨j,hj⟩:=Yf.1 hx;rw[h j x hj];decide
def dA(K:List Ev)(x:Ev):Bool:=x.send && !decide (x∈K)
theorem ru(p:Addr)(role:Int)(cn cc bt cj:Sl)(fi:List Fs)(li:List Lm)(ag ow:List Bool)(s t:Nat)(fs ft:Fs)(h:Heap)(hA:Tz h p role cn cc bt cj fi li ag ow)(gs:fi[s]?=some fs)(gt:fi[t]?=some ft):
  Fn Pz 170 #[.pointer (some p),.agg ⟨[.int .i64 (s:Nat),.int .i64 (t:Nat)]⟩] h fun v h'=>Ext h h'/\v=(match fs.l.find? (dA ft.l) with | some x=>.tuple ⟨[.agg ⟨x.cs⟩,.bool true]⟩ | none=>.tuple ⟨[.agg ⟨[.bool false,.int .i64 0,.int .i64 0]⟩,.bool false]⟩):=by
 apply UN p (s:Nat) (t:Nat);unfold Z8;have n1:=hA.rf.ln;have ls:=(Ya.1 gs).1;have lt:=(Ya.1 gt).1;have WU:=hA.re fs (Yb gs);have hft:=hA.re ft (Yb gt);have n2:=WU.ln;have m2:=WU.sm;refine (St.refl h).aj fun h3 hs=>?_;refine hs.aj fun h4 hs=>?_;refine⟨cn,(hA.ext hs.ext).f,s,hs.rd 1 rfl (i:=0) rfl,?_⟩;refine (hA.rf.ext hs.ext).rw.aA (by omega) (by omega) fun b7 o8 f gf u=>?_;replace gf:fi[s]?=some f:=gf;rw[gs] at gf;cases gf;refine⟨fs.s,u.nth 0 rfl,?_⟩;refine aJ (n:=fs.s.n) hs (fun i=>∀(j:Nat) x,j<i->fs.l[j]?=some x->dA ft.l x=false) (fun j x hj=>by omega) ?_;clear hs;rintro-i Cc hi ⟨hs,hq⟩;refine aa (fun c=>?_) (fun c=>?_)
 .replace c:=bS c;refine (WU.ext hs.ext).rw.aA (by omega) (by omega) fun b15 O2 x gx ux=>?_;replace gx:fs.l[i]?=some x:=gx;refine⟨x.send,x.peer,x.label,ux,?_⟩;refine hs.ao (vs:=x.cs) rfl rfl fun l8 hs=>?_;have tc:∀ {hZ:Heap},Ext l8 hZ->dA ft.l x=false->∃m42,m42<fs.s.n-i/\Up fs.s.n (fun i h'=>St h h' [.ae h3.size [.bool false,.int .i64 0,.int .i64 0] 188,.ae h.size [.int .i64 (s:Nat),.int .i64 (t:Nat)] 97]/\∀(j:Nat) x,j<i->fs.l[j]?=some x->dA ft.l x=false) (IntKind.wrap .i64 ((i:Int)+1)) hZ m42:=fun {hZ} E hd=>by
   refine Up.next c (by omega) ⟨(hs.step E).drop 1,fun j y hj gy=>?_⟩;by_cases e:j=i
   .subst e;rw[gx] at gy;cases gy;exact hd
   .exact hq j y (by omega) gy
  refine⟨x.send,hs.rd 0 rfl (i:=0) rfl,aa (fun c2=>?_) (fun c2=>tc .iK (by unfold dA;rw[c2];rfl))⟩;refine⟨cn,(hA.ext hs.ext).f,t,hs.rd 2 rfl (i:=1) rfl,?_⟩;refine (hA.rf.ext hs.ext).rw.aA (by omega) (by omega) fun b25 o26 f2 gf2 u2=>?_;replace gf2:fi[t]?=some f2:=gf2;rw[gt] at gf2;cases gf2;refine⟨ft.s,ft.b,u2,x.send,x.peer,x.label,hs.at 0 rfl (o:=0) (n:=3) rfl,?_⟩;refine (B8 ft.l ft.b x ft.s l8 (hft.ext hs.ext).rw hft.sm).mono ?_;rintro _ oq ⟨⟨b,rfl,hb⟩,E⟩;refine⟨b,rfl,E.sm,aa (fun c3=>?_) (fun c3=>tc E ?_)⟩
  .have hs:=hs.step E;have bK:x∉ft.l:=cz hb (bF c3);refine⟨x.send,x.peer,x.label,hs.at 0 rfl (o:=0) (n:=3) rfl,?_⟩;refine hs.put 1 rfl (o:=0) (vs:=x.cs) rfl (bc 3) fun sD hs=>?_;refine⟨x.send,x.peer,x.label,hs.at 1 rfl (o:=0) (n:=3) rfl,hs.ext,?_⟩;rw[vb fs.l i x hq gx (by unfold dA;rw[c2,decide_eq_false bK];rfl)];rfl
  .unfold dA;rw[decide_eq_true (hb.1 (bT c3))];simp
 .replace c:=cd c;refine hs.put 0 rfl (o:=0) (vs:=[.bool false,.int .i64 0,.int .i64 0]) rfl (bc 3) fun xA hs=>?_;refine⟨false,0,0,hs.at 0 rfl (o:=0) (n:=3) rfl,hs.ext,?_⟩;rw[Ce fun j y hj=>hq j y (by have:=(Ya.1 hj).1;omega) hj]
theorem Oy:Pz.underlying 193=some (.slice 188):=by kernel_rfl
theorem Kc(w:World):(zeroValue 188).run Pz w=.ok (.agg #[.bool false,.int .i64 0,.int .i64 0]) w:=by
 have hi:(Pz.info? 188).bind (·.zero)=some (.agg #[.bool false,.int .i64 0,.int .i64 0]):=by kernel_rfl
 cases h:Pz.info? 188 with
 | none=>rw[h] at hi;cases hi
 | some i=>rw[h] at hi;simp only[Option.bind_some] at hi;simp[zeroValue,typeInfo,h,hi]
theorem Ai{h0 h:Heap}{L:List It}(hs:St h0 h L)(k:Nat){s:Sl}{l:List Ev}(hk:L[k]?=some (.sl s 188 3 (l.map Ev.cs)))(hm:l.length<=1048576):
  Fn Pz 186 #[.slice s.a s.n s.c] h fun v h'=>∃r:Sl,v=.slice r.a r.n r.c/\St h0 h' (L.set k (.sl r 188 3 ((aV l).map Ev.cs))):=by
 apply Uz s;unfold ZS;have hlen:=hs.len k hk (by omega);have hn:s.n=l.length:=by rw[hlen.1,Yc]
 have qT:k<L.length:=(Ya.1 hk).1;have et:L.set k (.sl s 188 3 (l.map Ev.cs))=L:=by
  obtain⟨a,b⟩:=Ya.1 hk;rw[<-b];exact List.set_getElem_self a
 have BP:aV l=l->(∃r:Sl,Value.slice s.a s.n s.c=.slice r.a r.n r.c/\St h0 h (L.set k (.sl r 188 3 ((aV l).map Ev.cs)))):=fun e=>⟨s,rfl,by rw[e,et];exact hs⟩;refine aa (fun c=>?_) (fun c=>?_)
 .have:l.length<2:=by have:=cm c;omega
  refine BP ?_
  match l,this with
  | [],_=>rfl
  | [a],_=>rfl
 .have h2:2<=l.length:=by have:=eZ c;omega
  refine⟨fun x h' m=>∃i:Nat,x=i/\1<=i/\i<=l.length/\m=l.length-i/\h'=h/\aV (l.take i)=l.take i,⟨_,1,rfl,by omega,by omega,rfl,rfl,?_⟩,?_⟩
  .match l,h2 with
   | a::r,_=>rfl
  rintro-x h5 m ⟨i,rfl,hi1,cO,rfl,rfl,S5⟩;refine aa (fun l2=>?_) (fun l2=>?_)
  .replace l2:=bS l2;have jW:=hs.rows k hk (by omega);refine jW.aA (by omega) (by omega) fun b o x1 g t=>?_;replace g:l[i]?=some x1:=g;refine⟨_,_,_,t,?_⟩;have hw1:IntKind.wrap .i64 ((i:Int)-1)=((i-1:Nat):Int):=by rw[a7 (by omega) (by omega)];omega
   rw[hw1];refine jW.aA (x:=((i-1:Nat):Int)) (by omega) (by omega) fun b' o' y1 g' t'=>?_;replace g':l[i-1]?=some y1:=g';refine⟨_,_,_,t',?_⟩;rw[QM];have BO:=kj g hi1 g';refine aa (fun e=>?_) (fun e=>?_)
   .replace e:=cm e;rw[if_pos e,S5] at BO;have xw:=hlen.2.1;refine⟨⟨by omega,by omega,by omega⟩,?_⟩;refine⟨fun kk x h' m=>∃(q j:Nat) (cl:List Ev),kk=q/\x=j/\1<=j/\i+j<=l.length/\q<=i+j-1/\m=l.length-j/\cl.length=l.length/\cl.take q=aV (l.take (i+j))/\(∀a,i+j-1<=a->cl[a]?=l[a]?)/\St h0 h' (L.set k (.sl s 188 3 (cl.map Ev.cs))),
     ⟨_,i,1,l,rfl,rfl,by omega,by omega,by omega,rfl,rfl,BO.symm,fun _ _=>rfl,by rw[et];exact hs⟩,?_⟩
    rintro-kk x l8 m' ⟨q,j,cl,rfl,rfl,hj1,LH,hq,rfl,eR,hct,zL,hs⟩;have PH:(L.set k (.sl s 188 3 (cl.map Ev.cs)))[k]?=some (.sl s 188 3 (cl.map Ev.cs)):=by rw[Yq qT]
    have BW:=(hs.rows k PH (by omega)).from (i:=i) (by omega) (by omega)
    rw[<-List.map_drop] at BW;have hti:Int.toNat ((s.n:Nat):Int)-Int.toNat ((i:Nat):Int)=s.n-i:=by simp
    have htI:Int.toNat ((i:Nat):Int)=i:=by simp
    refine aa (fun c2=>?_) (fun c2=>?_)
    .have BV:i+j<l.length:=by have:=cm c2;rw[hti] at this;omega
     rw[hti,htI];refine BW.aA (x:=(j:Int)) (by omega) (by show (j:Int)<((s.n-i:Nat):Int);omega) fun b2 o2 x2 g2 t2=>?_;replace g2:(cl.drop i)[j]?=some x2:=g2;rw[List.getElem?_drop,zL _ (by omega)] at g2;refine⟨_,_,_,t2,?_⟩;have Ea:IntKind.wrap .i64 ((j:Int)-1)=((j-1:Nat):Int):=by rw[a7 (by omega) (by omega)];omega
     rw[Ea];refine BW.aA (x:=((j-1:Nat):Int)) (by omega) (by show ((j-1:Nat):Int)<((s.n-i:Nat):Int);omega) fun b3 o3 y2 g3 t3=>?_;replace g3:(cl.drop i)[j-1]?=some y2:=g3;rw[List.getElem?_drop,show i+(j-1)=i+j-1 by omega,zL _ (by omega)] at g3;refine⟨_,_,_,t3,?_⟩;rw[QM];have uN:=kj g2 (by omega) g3;have hwj:IntKind.wrap .i64 ((j:Int)+1)=((j+1:Nat):Int):=by rw[a7 (by omega) (by omega)];omega
     have hwq:IntKind.wrap .i64 ((q:Int)+1)=((q+1:Nat):Int):=by rw[a7 (by omega) (by omega)];omega
     refine aa (fun e2=>?_) (fun e2=>?_)
     .have bE:x2≠y2:=by simpa using e2
      rw[if_neg bE] at uN;refine BW.aA (x:=(j:Int)) (by omega) (by show (j:Int)<((s.n-i:Nat):Int);omega) fun b4 o4 x3 g4 t4=>?_;replace g4:(cl.drop i)[j]?=some x3:=g4;rw[List.getElem?_drop,zL _ (by omega)] at g4;rw[g2] at g4;cases g4;refine⟨_,_,_,t4,?_⟩;refine hs.set k PH (by omega) (x:=(q:Int)) (by omega) (by omega) x2 rfl rfl (fun b5 o5 yJ hs=>?_) rfl;rw[List.set_set] at hs;refine⟨l.length-(j+1),by omega,q+1,j+1,cl.set q x2,hwq,hwj,by omega,by omega,by omega,rfl,by rw[jR];exact eR,?_,?_,hs⟩
      .rw[show i+(j+1)=i+j+1 by omega,uN,<-hct,ak (x:=x2) (by rw[Yq (by omega)]),List.take_set_of_le (bc _)]
      .intro a ha;rw[Yy (by omega)];exact zL a (by omega)
     .have heq:x2=y2:=by simpa using e2
      rw[if_pos heq] at uN;refine⟨l.length-(j+1),by omega,q,j+1,cl,rfl,hwj,by omega,by omega,by omega,rfl,eR,?_,fun a ha=>zL a (by omega),hs⟩;rw[show i+(j+1)=i+j+1 by omega,uN];exact hct
    .have BV:i+j=l.length:=by have:=eZ c2;rw[hti] at this;omega
     refine⟨⟨by omega,by omega,by omega⟩,?_⟩;have htq:Int.toNat ((q:Nat):Int)=q:=by simp
     have SO:Int.toNat ((s.n:Nat):Int)=s.n:=by simp
     rw[htq,SO];refine hs.clear k PH (by omega) q (by omega) Oy Kc rfl rfl fun v zV hs=>?_;refine⟨⟨by omega,by omega,by omega⟩,⟨s.a,q,s.c⟩,?_,?_⟩
     .rw[show Int.toNat 0=0 from rfl,cM];rfl
     .rw[List.set_set,<-List.map_take,hct,BV,vM] at hs;exact hs
   .replace e:=eZ e;rw[if_neg e,S5] at BO;refine⟨l.length-(i+1),by omega,i+1,by rw[a7 (by omega) (by omega)];omega,by omega,by omega,rfl,rfl,?_⟩;rw[BO,ak g]
  .replace l2:=cd l2;rw[Yj (by omega)] at S5;exact BP S5
end Go.VC
end

section
namespace Go.VC
open Go.Proofs Go.LexS Go.Shelf
theorem Ng:Go.Sort.SWO (ltOf rz) where
 irrefl x:=by unfold ltOf;rw[decide_eq_false_iff_not,gQ];unfold cu;omega
 trans x y z h1 h2:=by unfold ltOf at *;rw[decide_eq_true_eq,gQ] at *;unfold cu at *;omega
 ntrans x y z h1 h2:=by unfold ltOf at *;rw[decide_eq_false_iff_not,gQ] at *;unfold cu at *;omega
theorem VG:Go.Sort.SWO (ltOf rA) where
 irrefl x:=by unfold ltOf rA;rw[decide_eq_false_iff_not,mn];unfold acLt;omega
 trans x y z h1 h2:=by unfold ltOf rA at *;rw[decide_eq_true_eq,mn] at *;unfold acLt at *;omega
 ntrans x y z h1 h2:=by unfold ltOf rA at *;rw[decide_eq_false_iff_not,mn] at *;unfold acLt at *;omega
instance:Inhabited Ms:=⟨⟨0,0⟩⟩
instance:Inhabited Ed:=⟨⟨0,0,0,0,0,false⟩⟩
theorem Kw{h0 h:Heap}{L:List It}(hs:St h0 h L)(k:Nat){s:Sl}{l:List Ev}(hk:L[k]?=some (.sl s 188 3 (l.map Ev.cs)))(hm:l.length<=1048576):
  Fn Pz 184 #[.slice s.a s.n s.c,.func (.func 185) #[] #[]] h fun v h'=>v=.tuple ⟨[]⟩/\∃l':List Ev,l'.Perm l/\l'.Pairwise (fun a b=>¬dh b a)/\St h0 h' (L.set k (.sl s 188 3 (l'.map Ev.cs))):=by
 refine Fn.mono (ll Tryz.FV 3 188 Tryz.isAgg188 Tryz.sizeOf188 Ev.cs (fun _=>rfl) (fun x v hv=>by simp[Ev.cs] at hv;rcases hv with rfl | rfl | rfl<;>rfl) sH acn 185 (enters_of Tryz.func185 (by kernel_rfl) rfl) (fun x y h=>@M.oA fo x y h) hs k hk (by omega) (by omega)) ?_;rintro v h' ⟨rfl,l',hp,hw,bI⟩;exact⟨rfl,l',hp,hw.imp fun {a b} jI=>by unfold ltOf at jI;rw[decide_eq_false_iff_not,mj] at jI;exact jI,bI⟩
theorem Kv{h0 h:Heap}{L:List It}(hs:St h0 h L)(k:Nat){s:Sl}{l:List Ms}(hk:L[k]?=some (.sl s 72 2 (l.map Ms.cs)))(hm:l.length<=1048576):
  Fn Pz 69 #[.slice s.a s.n s.c,.func (.func 70) #[] #[]] h fun v h'=>v=.tuple ⟨[]⟩/\∃l':List Ms,l'.Perm l/\l'.Pairwise (fun a b=>¬cu b a)/\St h0 h' (L.set k (.sl s 72 2 (l'.map Ms.cs))):=by
 refine Fn.mono (ll Tryz.FU 2 72 Tryz.isAgg72 Tryz.sizeOf72 Ms.cs (fun _=>rfl) (fun x v hv=>by simp[Ms.cs] at hv;rcases hv with rfl | rfl<;>rfl) rz Ng 70 (enters_of Tryz.func70 (by kernel_rfl) rfl) (fun x y h=>@M.Mx fo x y h) hs k hk (by omega) (by omega)) ?_;rintro v h' ⟨rfl,l',hp,hw,bI⟩;exact⟨rfl,l',hp,hw.imp fun {a b} jI=>by unfold ltOf at jI;rw[decide_eq_false_iff_not,gQ] at jI;exact jI,bI⟩
theorem Ku{h0 h:Heap}{L:List It}(hs:St h0 h L)(k:Nat){s:Sl}{l:List Ed}(hk:L[k]?=some (.sl s 67 6 (l.map Ed.cs)))(hm:l.length<=1048576):
  Fn Pz 128 #[.slice s.a s.n s.c,.func (.func 129) #[] #[]] h fun v h'=>v=.tuple ⟨[]⟩/\∃l':List Ed,l'.Perm l/\l'.Pairwise (fun a b=>¬acLt b.act a.act)/\St h0 h' (L.set k (.sl s 67 6 (l'.map Ed.cs))):=by
 refine Fn.mono (ll Tryz.FT 6 67 Tryz.isAgg67 Tryz.sizeOf67 Ed.cs (fun _=>rfl) (fun x v hv=>by simp[Ed.cs] at hv;rcases hv with rfl | rfl | rfl | rfl | rfl | rfl<;>rfl) rA VG 129 (enters_of Tryz.func129 (by kernel_rfl) rfl) (fun x y h=>@M.My fo x y h) hs k hk (by omega) (by omega)) ?_;rintro v h' ⟨rfl,l',hp,hw,bI⟩;exact⟨rfl,l',hp,hw.imp fun {a b} jI=>by unfold ltOf rA at jI;rw[decide_eq_false_iff_not,mn] at jI;exact jI,bI⟩
end Go.VC
end

section
namespace Go.VC
open Go.Proofs Go.LexS
structure Kb (h:Heap) (b:Nat) (g:Gl) (role:Int) (ho:Sl) (os:Nat->Sl):Prop where
 at_:aZ h ⟨b,0,none⟩ (g.cs++[.int .i64 role,.slice ho.a ho.n ho.c])
 gi:GI h g
 ro:Rw h 1 ho ((List.range g.n.toNat).map fun i=>eD (os i))
 rs:∀i,i<g.n.toNat->Rw h 1 (os i) ((aw (ah g.es (i:Nat))).map aO)
theorem Kb.ext{h h':Heap}{b:Nat}{g:Gl}{role:Int}{ho:Sl}{os:Nat->Sl}(hA:Kb h b g role ho os)(E:Ext h h'):Kb h' b g role ho os:=
 ⟨gh E hA.at_,hA.gi.ext E,hA.ro.ext E,fun i hi=>(hA.rs i hi).ext E⟩
theorem CL.perm{es:List Ed}{role:Int}{n:Nat}{l:List Int}{D:List Bool}{T T':List Int}(h:CL es role n l D T)(hp:T.Perm T'):CL es role n l D T':=
 ⟨h.len,by rw[<-hp.length_eq];exact h.Fx,fun v=>hp.mem_iff.symm.trans (h.mem v),fun v hv=>h.r v (hp.mem_iff.2 hv)⟩
def Ad(es:List Ed)(role:Int)(k:Nat):Option Ev:=(es[k]?).bind (aW role)
theorem HN{α β:Type}(f:α->Option β)(es:List α):es.filterMap f=(List.range es.length).filterMap fun i=>(es[i]?).bind f:=by
 have key:∀n,n<=es.length->(es.take n).filterMap f=(List.range n).filterMap fun i=>(es[i]?).bind f:=by
  intro n
  induction n with
  | zero=>intro _;simp
  | succ n ih=>
   intro hn;have hx:=Yi (l:=es) (i:=n) (by omega);rw[List.range_succ,List.filterMap_append,<-ih (by omega),ak hx,List.filterMap_append];congr 1;simp only[List.filterMap_cons,List.filterMap_nil,hx,Option.bind_some]
 have:=key es.length (bc _)
 rwa [vM] at this
theorem xG{α β:Type}{f g:α->Option β}:∀ {l:List α},(∀x∈l,f x=g x)->l.filterMap f=l.filterMap g
 | [],_=>rfl
 | a::l,h=>by rw[List.filterMap_cons,List.filterMap_cons,h a (by simp),xG fun x hx=>h x (Yn _ hx)]
theorem abe(es:List Ed)(role:Int)(n:Nat):(ah es (n:Nat)).filterMap (Ad es role)=(iH es role n).map (·.x):=by
 unfold ah iH;rw[List.filterMap_filter,List.map_filterMap,HN _ es];refine xG fun i hi=>?_;unfold cH Ad;have hx:=Yi (l:=es) (i:=i) (by simpa using hi);rw[hx];simp only[Option.bind_some];by_cases h:(es[i]'(by simpa using hi)).f=(n:Int)
 .simp only[h,decide_true,if_true,Option.map_map];cases aW role _<;>rfl
 .simp only[h,decide_false,if_false,Bool.false_eq_true,Option.map_none]
def QK(es:List Ed)(role v:Int):List Ev:=(iH es role v.toNat).map (·.x)
structure FI (g:Gl) (role s:Int) (D:List Bool) (P T:List Int) (E:List Ev):Prop where
 cl:CL g.es role g.n.toNat [s] D (P++T)
 nd:(P++T).Nodup
 q:∀v∈P,∀b∈qv g.es role v.toNat,b∈P++T
 e:E=P.flatMap (QK g.es role)
 s:s∈P++T
structure FJ (g:Gl) (role s:Int) (v:Int) (j:Nat) (D:List Bool) (P T:List Int) (E:List Ev):Prop where
 cl:CL g.es role g.n.toNat [s] D (P++v::T)
 nd:(P++v::T).Nodup
 q:∀w∈P,∀b∈qv g.es role w.toNat,b∈P++v::T
 qj:∀k∈(ah g.es v).take j,∀x,g.es[k]?=some x->aW role x=none->x.t∈P++v::T
 e:E=P.flatMap (QK g.es role)++((ah g.es v).take j).filterMap (Ad g.es role)
 s:s∈P++v::T
theorem FI.pop{g:Gl}{role s v:Int}{D:List Bool}{P T:List Int}{E:List Ev}(h:FI g role s D P (T++[v]) E):FJ g role s v 0 D P T E:=by
 have hp:(P++(T++[v])).Perm (P++v::T):=List.Perm.append_left P List.perm_append_comm;exact⟨h.cl.perm hp,hp.nodup_iff.1 h.nd,fun w hw b hb=>hp.mem_iff.1 (h.q w hw b hb),fun k hk=>by simp at hk,by rw[h.e];simp,hp.mem_iff.1 h.s⟩
theorem FJ.fin{g:Gl}{role s v:Int}{D:List Bool}{P T:List Int}{E:List Ev}{j:Nat}(h:FJ g role s v j D P T E)(h0:0<=v)(hj:(ah g.es v).length<=j):FI g role s D (P++[v]) T E:=by
 have hp:P++v::T=P++[v]++T:=by simp
 obtain⟨n,rfl⟩:∃n:Nat,v=n:=⟨v.toNat,by omega⟩;refine⟨hp ▸ h.cl,hp ▸ h.nd,fun w hw b hb=>?_,?_,hp ▸ h.s⟩
 .rw[<-hp];rcases Yk.1 hw with hw | hw
  .exact h.q w hw b hb
  .rw[Ye] at hw;subst hw;obtain⟨x,hx,hv,hf,rfl⟩:=qs.1 hb;obtain⟨k,hk⟩:=Yf.1 hx;exact h.qj k (by rw[Yj hj];exact az.2 ⟨x,hk,by omega⟩) x hk hv
 .rw[h.e,Yj hj,abe,List.flatMap_append];unfold QK;simp
theorem FJ.vis{g:Gl}{role s v:Int}{D:List Bool}{P T:List Int}{E:List Ev}{j k:Nat}{x:Ed}{e:Ev}(h:FJ g role s v j D P T E)(hk:(ah g.es v)[j]?=some k)(hx:g.es[k]?=some x)(hv:aW role x=some e):FJ g role s v (j+1) D P T (E++[e]):=by
 refine⟨h.cl,h.nd,h.q,fun i hi y hy hn=>?_,?_,h.s⟩
 .rw[ak hk,Yk,Ye] at hi;rcases hi with hi | rfl
  .exact h.qj i hi y hy hn
  .rw[hx] at hy;cases hy;rw[hv] at hn;cases hn
 .rw[ak hk,List.filterMap_append,<-Yz,<-h.e];simp[Ad,hx,hv]
theorem FJ.qB{g:Gl}{role s v:Int}{D:List Bool}{P T:List Int}{E:List Ev}{j k:Nat}{x:Ed}(h:FJ g role s v j D P T E)(hk:(ah g.es v)[j]?=some k)(hx:g.es[k]?=some x)(hv:aW role x=none)(h0:0<=x.t)(hd:D[x.t.toNat]?=some true):FJ g role s v (j+1) D P T E:=by
 refine⟨h.cl,h.nd,h.q,fun i hi y hy hn=>?_,?_,h.s⟩
 .rw[ak hk,Yk,Ye] at hi;rcases hi with hi | rfl
  .exact h.qj i hi y hy hn
  .rw[hx] at hy;cases hy;exact (h.cl.mem _).2 ⟨h0,hd⟩
 .rw[ak hk,List.filterMap_append,<-Yz,<-h.e];simp[Ad,hx,hv]
theorem FJ.new{g:Gl}{role s v:Int}{D:List Bool}{P T:List Int}{E:List Ev}{j k:Nat}{x:Ed}(h:FJ g role s v j D P T E)(hk:(ah g.es v)[j]?=some k)(hx:g.es[k]?=some x)(hv:aW role x=none)(h0:0<=x.t)(hd:D[x.t.toNat]?=some false):FJ g role s v (j+1) (D.set x.t.toNat true) P (T++[x.t]) E:=by
 have Wg:Qr g.es role [s] v:=h.cl.r v (by simp);have hkm:=az.1 (Yb hk);obtain⟨x',D9,hf⟩:=hkm;rw[hx] at D9;cases D9;have eR:=h.cl.push h0 hd (.step Wg ⟨x,Yb hx,hv,hf,rfl⟩);have hp:P++v::T++[x.t]=P++v::(T++[x.t]):=by simp
 rw[hp] at eR;have bK:x.t∉P++v::T:=fun hm=>by have:=((h.cl.mem _).1 hm).2;rw[hd] at this;cases this
 refine⟨eR,?_,fun w hw b hb=>?_,fun i hi y hy hn=>?_,?_,?_⟩
 .rw[<-hp,List.nodup_append];exact⟨h.nd,by simp,fun a ha c hc e=>by rw[Ye] at hc;subst hc;subst e;exact bK ha⟩
 .rw[<-hp];exact List.mem_append_left _ (h.q w hw b hb)
 .rw[<-hp];rw[ak hk,Yk,Ye] at hi;rcases hi with hi | rfl
  .exact List.mem_append_left _ (h.qj i hi y hy hn)
  .rw[hx] at hy;cases hy;simp
 .rw[ak hk,List.filterMap_append,<-Yz,<-h.e];simp[Ad,hx,hv]
 .rw[<-hp];exact List.mem_append_left _ h.s
theorem xM{es:List Ed}{role:Int}{P:List Int}(hP:P.Nodup)(h0:∀v∈P,0<=v):(P.flatMap (QK es role)).length<=es.length:=by
 have h1:=sP es role (P.map Int.toNat) (by
  rw[List.Nodup,List.pairwise_map];refine hP.imp_of_mem fun {a b} ha hb jI e=>jI ?_;have:=h0 a ha;have:=h0 b hb;omega)
 rw[List.flatMap_map] at h1;have h2:∀P:List Int,(P.flatMap (QK es role)).length=(P.flatMap fun v=>iH es role v.toNat).length:=by
  intro P
  induction P with
  | nil=>rfl
  | cons a P ih=>rw[List.flatMap_cons,List.flatMap_cons,Yh,Yh,ih];unfold QK;rw[Yc]
 rw[h2];exact h1
theorem FJ.len{g:Gl}{role s v:Int}{D:List Bool}{P T:List Int}{E:List Ev}{j:Nat}(h:FJ g role s v j D P T E):E.length<=2*g.es.length:=by
 rw[h.e,Yh];have h1:=xM (es:=g.es) (role:=role) (P:=P) (h.nd.sublist (List.sublist_append_left _ _)) fun v hv=>((h.cl.mem v).1 (by simp[hv])).1;have h2:(((ah g.es v).take j).filterMap (Ad g.es role)).length<=(ah g.es v).length:=mw (List.length_filterMap_le _ _) (by rw[Yu];omega);have h3:=cG g.es v;omega
theorem FI.fin{g:Gl}{role s:Int}{D:List Bool}{P:List Int}{E:List Ev}(h:FI g role s D P [] E)(hV:af g)(h0:0<=s)(h1:s<g.n):(∀v,v∈P ↔ Qr g.es role [s] v)/\iY E=ay g role s:=by
 have hc:=h.cl;rw[Yw] at hc;have hq:∀v,v∈P ↔ Qr g.es role [s] v:=hc.end_ (fun x hx=>by rw[Ye] at hx;subst hx;have:=h.s;rwa [Yw] at this) fun v hv b hb=>by have:=h.q v hv b hb;rwa [Yw] at this
 refine⟨hq,gY _ _ (fa _) (fa _) fun x=>?_⟩;unfold ay Fv;rw[jy,jy,h.e];unfold QL QK;rw[List.mem_flatMap,List.mem_flatMap];have hN:=hV.num.n;have hl:∀x∈[s],0<=x/\x<g.n:=fun x hx=>by rw[Ye] at hx;omega
 constructor
 .rintro⟨v,hv,hx⟩;have hb:=((hq v).1 hv).lt hV hl;refine⟨v.toNat,fu.2 ⟨by omega,iv.2 ?_⟩,hx⟩;rw[Int.toNat_of_nonneg hb.1];exact (hq v).1 hv
 .rintro⟨n,hn,hx⟩;exact⟨(n:Int),(hq _).2 (iv.1 (fu.1 hn).2),hx⟩
theorem RB:cC Pz 193 188 3 24=true:=by kernel_rfl
def J6(fb ib:Nat)(td fs:Sl)(D:List Bool)(T:List Int)(E:List Ev)(bl:Bool)(R:List It):List It:=
 .sl td 3 1 (T.map aO) :: .ae fb [.slice fs.a fs.n fs.c,.bool bl] 195 :: .sl fs 188 3 (E.map Ev.cs) :: .ae ib (D.map Value.bool) 4::R
theorem tH{b:Nat}{g:Gl}{role:Int}{ho:Sl}{os:Nat->Sl}{s v:Int}{h0 cB h4 h1:Heap}{R:List It}{td fs:Sl}{bl:Bool}{D:List Bool}{P T:List Int}{E:List Ev}{m9:Nat}{I7:Sl->Heap->Nat->Prop}
  (hA:Kb h0 b g role ho os) (hV:af g) (hv0:0<=v) (hv1:v<g.n) (htd:0<td.n) (Pn:td.n<=4096)
  (hs:St h0 cB (J6 h4.size h1.size ⟨aQ td.a (Int.toNat 0) td.c 1,Int.toNat ((td.n-1:Nat):Int)-Int.toNat 0,td.c-Int.toNat 0⟩ fs D T E bl R)) (hJ:FJ g role s v 0 D P T E)
  (adi:∀(FN Es:Sl) (D':List Bool) (T':List Int) (E':List Ev) (h':Heap),St h0 h' (J6 h4.size h1.size FN Es D' T' E' bl R)->FJ g role s v (ah g.es v).length D' P T' E'->∃m,m<m9/\I7 FN h' m) :
  C7 cB ⟨b,0,none⟩ v td h4 g.n h1 m9 I7:=by
 unfold C7;have hE:=hV.num.e;have hN:=hV.num.n;have hM:=hV.num.m;rw[show IntKind.wrap .i64 ((td.n:Int)-1)=((td.n-1:Nat):Int) by rw[a7 (by omega) (by omega)];omega];have Lz:((v.toNat:Nat):Int)=v:=Int.toNat_of_nonneg hv0;refine⟨ho,(hA.ext hs.ext).at_.nth 9 rfl,?_⟩;refine (hA.ro.ext hs.ext).aA (by omega) (by have:=hA.ro.ln;rw[kV] at this;omega) fun b18 o19 d gd t=>?_;obtain⟨rfl,_⟩:=um gd;refine⟨os v.toNat,t.hd,?_⟩;have eU:=hA.rs v.toNat (by omega);rw[Lz] at eU;have kc:=eU.ln;rw[show (aw (ah g.es v)).length=(ah g.es v).length from Yc _] at kc;have rQ:=cG g.es v;refine⟨fun FN x h' m=>∃(j:Nat) (Es:Sl) (D':List Bool) (T':List Int) (E':List Ev),x=j/\m=(os v.toNat).n-j/\j<=(os v.toNat).n/\St h0 h' (J6 h4.size h1.size FN Es D' T' E' bl R)/\FJ g role s v j D' P T' E',⟨_,0,fs,D,T,E,rfl,rfl,by omega,hs,hJ⟩,?_⟩;clear hs hJ;rintro-FN _ rX m ⟨j,Es,D',T',E',rfl,rfl,hj,hs,hJ⟩;have hle:=hJ.cl.le;have Ta:=hJ.cl.len;have hEl:=hJ.len;have NF:=hs.len 0 (s:=FN) (e:=3) (n:=1) (rows:=T'.map aO) rfl (by omega);have fO:=hs.len 2 (s:=Es) (e:=188) (n:=3) (rows:=E'.map Ev.cs) rfl (by omega);rw[Yc] at NF fO;rw[Yh,j5] at hle;refine aM (fun c=>?_) (fun c=>?_)
 .refine (eU.ext hs.ext).aA (by omega) (by omega) fun b27 o28 d gd t=>?_;replace gd:(aw (ah g.es v))[j]?=some d:=gd;obtain⟨k,hk,rfl⟩:∃k:Nat,(ah g.es v)[j]?=some k/\d=(k:Int):=by
   unfold aw at gd;rw[Yd] at gd;obtain⟨k,hk,e⟩:=sL.1 gd;exact⟨k,hk,e.symm⟩
  obtain⟨x0,jG,D8⟩:=az.1 (Yb hk);have qT:=(Ya.1 jG).1;refine⟨_,t.hd,g.he,(hA.ext hs.ext).at_.nth 6 rfl,?_⟩;have ke:=hA.gi.e.ln;refine (hA.gi.e.rw.ext hs.ext).aA (by omega) (by omega) fun b31 o32 x gx t2=>?_;replace gx:g.es[k]?=some x:=gx;rw[jG] at gx;cases gx;refine⟨x0.f,x0.a,x0.b,x0.l,x0.t,x0.ag,t2,?_⟩;have vF:=hE x0 (Yb jG);unfold gV at vF;refine hs.ao (vs:=x0.cs) rfl rfl fun sC hs=>?_;refine⟨x0.f,x0.a,x0.b,x0.l,x0.t,x0.ag,hs.at 0 rfl (o:=0) (n:=6) rfl,?_⟩;refine (lu ⟨b,0,none⟩ role x0 sC ((hA.ext hs.ext).at_.nth 8 rfl)).mono ?_;rintro _ zT ⟨E52,rfl⟩;replace hs:=hs.step E52;cases hvis:aW role x0 with
  | some e=>
   refine⟨e.send,e.peer,e.label,true,rfl,?_⟩;refine hs.ao (vs:=e.cs) rfl rfl fun Xr hs=>?_;refine ql rfl ?_;refine⟨Es,hs.rd 3 rfl (i:=0) rfl,e.send,e.peer,e.label,hs.at 0 rfl (o:=0) (n:=3) rfl,?_⟩;refine hs.app 4 rfl RB (m:=1) [e.cs] rfl rfl (fun r hr=>by rw[Ye] at hr;rw[hr];rfl) rfl (by omega) (by simp only[maxLen];omega) fun Nn NZ n60 hs=>?_;refine hs.put 3 rfl (o:=0) (vs:=[.slice Nn.a Nn.n Nn.c]) rfl (show 1<=2 by decide) fun Tc hs=>?_;refine⟨_,by omega,j+1,Nn,D',T',E'++[e],by rw[a7 (by omega) (by omega)];omega,rfl,by omega,?_,hJ.vis hk jG hvis⟩;have hs:=hs.drop 2;unfold J6;rw[Ym];exact hs
  | none=>
   refine⟨false,0,0,false,rfl,?_⟩;refine hs.ao (vs:=[.bool false,.int .i64 0,.int .i64 0]) rfl rfl fun Xr hs=>?_;refine gZ rfl ?_;obtain⟨y,hy⟩:=get_some (l:=D') (i:=x0.t.toNat) (by omega);have e0:0+Int.toNat x0.t*1=x0.t.toNat:=by omega
   refine⟨x0.t,hs.rd 1 rfl (i:=4) rfl,⟨by omega,by omega⟩,?_⟩;rw[e0];refine⟨y,hs.rd 5 rfl (by rw[Ld,hy];rfl),?_⟩;refine aa (fun c2=>?_) (fun c2=>?_)
   .have hyf:y=false:=bF c2;subst hyf;refine⟨x0.t,hs.rd 1 rfl (i:=4) rfl,⟨by omega,by omega⟩,?_⟩;rw[e0];refine hs.put 5 rfl (o:=x0.t.toNat) (vs:=[.bool true]) rfl (by rw[Yc,Yv];omega) fun h67 hs=>?_;refine⟨x0.t,hs.rd 1 rfl (i:=4) rfl,?_⟩;refine hs.app 2 rfl dv (m:=1) [[.int .i64 x0.t]] rfl rfl (by simp) rfl (by omega) (by simp only[maxLen];omega) fun s70 LW n70 hs=>?_;refine⟨_,by omega,j+1,Es,D'.set x0.t.toNat true,T'++[x0.t],E',by rw[a7 (by omega) (by omega)];omega,rfl,by omega,?_,hJ.new hk jG hvis (by omega) hy⟩;have hs:=hs.drop 2;unfold J6;rw[Ym,<-bw _ (by omega)];exact hs
   .have hyt:y=true:=bT c2;subst hyt;refine⟨_,by omega,j+1,Es,D',T',E',by rw[a7 (by omega) (by omega)];omega,rfl,by omega,hs.drop 2,hJ.qB hk jG hvis (by omega) hy⟩
 .refine adi FN Es D' T' E' rX hs ?_;rw[show (ah g.es v).length=j by omega];exact hJ
theorem Aa(b:Nat)(g:Gl)(role:Int)(ho:Sl)(os:Nat->Sl)(s:Nat)(h:Heap)(hA:Kb h b g role ho os)(hV:af g)(dx:(s:Int)<g.n):
  Fn Pz 107 #[.pointer (some ⟨b,0,none⟩),.int .i64 (s:Nat)] h fun v h'=>∃r:Sl,v=.agg ⟨[.slice r.a r.n r.c,.bool (bQ g role s)]⟩/\St h h' [.sl r 188 3 ((ay g role s).map Ev.cs)]:=by
 apply Vo ⟨b,0,none⟩ (s:Nat);unfold aaG;have hN:=hV.num.n;have hM:=hV.num.m;refine (St.refl h).aj fun h1 hs=>?_;refine⟨g.n,(hA.ext hs.ext).at_.nth 3 rfl,by omega,?_⟩;rw[Nu];refine hs.aj fun h3 hs=>?_;have e0:0+Int.toNat ((s:Nat):Int)*1=s:=by omega
 refine⟨⟨by omega,by omega⟩,?_⟩;rw[e0];refine hs.put 0 rfl (o:=s) (vs:=[.bool true]) rfl (by rw[Yc,Yg,Yv];omega) fun h4 hs=>?_;refine hs.aj fun h5 hs=>?_;refine hs.aj fun h6 hs=>?_;have n9:=hs.dG 1 1 ([((s:Nat):Int)].map aO) rfl (cA _) rfl (by decide);have n9:=n9.bH 188 3;have eR:CL g.es role g.n.toNat [(s:Int)] ((List.replicate g.n.toNat false).set s true) ([]++[(s:Int)]):=
  (CL.start g.es role g.n.toNat [(s:Int)]).push (b:=(s:Int)) (by omega) (by rw[Ys,List.getElem?_replicate,if_pos (by omega)]) (.base (by simp))
 have hl:∀x∈[(s:Int)],0<=x/\x<g.n:=fun x hx=>by rw[Ye] at hx;omega
 refine⟨fun td h' m=>∃(fs:Sl) (D:List Bool) (P T:List Int) (E:List Ev),m=g.n.toNat-P.length/\St h h' (J6 h4.size h1.size td fs D T E (decide (g.e∈P)) [.ae h.size [.slice none 0 0,.bool false] 195])/\FI g role s D P T E,⟨_,⟨none,0,0⟩,(List.replicate g.n.toNat false).set s true,[],[(s:Int)],[],rfl,?_,⟨eR,by simp,fun v hv=>(by cases hv),rfl,by simp⟩⟩,?_⟩
 .refine n9.perm ?_;unfold J6;rw[<-bw _ (by rw[Yg];omega)];exact (List.Perm.swap _ _ _).trans (List.Perm.cons _ (List.Perm.swap _ _ _))
 clear hs n9 eR;rintro-td iT m ⟨fs,D,P,T,E,rfl,hs,hI⟩;have hle:=hI.cl.le;rw[Yh] at hle;have NF:=hs.len 0 (s:=td) (e:=3) (n:=1) (rows:=T.map aO) rfl (by omega);rw[Yc] at NF;refine aM (fun c=>?_) (fun c=>?_)
 .rw[show IntKind.wrap .i64 ((td.n:Int)-1)=((td.n-1:Nat):Int) by rw[a7 (by omega) (by omega)];omega];refine (hs.rows 0 rfl (by omega)).aA (by omega) (by omega) fun b12 o13 v gv t=>?_;replace gv:T[td.n-1]?=some v:=gv;have hT:T=T.take (td.n-1)++[v]:=by rw[<-ak gv,Yj (by omega)]
  refine⟨v,t.hd,⟨by omega,by omega,by omega⟩,?_⟩;have hJ:FJ g role s v 0 D P (T.take (td.n-1)) E:=by rw[hT] at hI;exact hI.pop
  have Wg:=(hJ.cl.mem v).1 (by simp);have hvl:v<g.n:=((hJ.cl.r v (by simp)).lt hV hl).2;refine⟨_,hs.rd 1 rfl (i:=1) rfl,?_⟩;have fin:∀(bl:Bool),bl=decide (g.e∈P++[v])->∀(FN Es:Sl) (D':List Bool) (T':List Int) (E':List Ev) (h':Heap),St h h' (J6 h4.size h1.size FN Es D' T' E' bl [.ae h.size [.slice none 0 0,.bool false] 195])->FJ g role s v (ah g.es v).length D' P T' E' ->
    ∃m,m<g.n.toNat-P.length/\∃(fs:Sl) (D:List Bool) (P T:List Int) (E:List Ev),m=g.n.toNat-P.length/\St h h' (J6 h4.size h1.size FN fs D T E (decide (g.e∈P)) [.ae h.size [.slice none 0 0,.bool false] 195])/\FI g role s D P T E:=fun bl yF FN Es D' T' E' h' bI hJ'=>by
   subst yF;refine⟨_,?_,Es,D',P++[v],T',E',rfl,bI,hJ'.fin Wg.1 (bc _)⟩;rw[Yh,Yv];omega
  refine aa (fun c2=>?_) (fun c2=>?_)
  .refine hs.put 1 rfl (o:=1) (vs:=[.bool true]) rfl (show 2<=2 by decide) fun cB hs=>?_;refine tH hA hV Wg.1 hvl (by omega) (by omega) (bl:=true) (fs:=fs) (D:=D) (P:=P) (T:=T.take (td.n-1)) (E:=E) ?_ hJ (fin true ?_)
   .have h9:=hs.cut 0 rfl (by omega) (td.n-1) (by omega);rw[<-List.map_take] at h9;rw[show aQ td.a (Int.toNat 0) td.c 1=td.a from cM _ _ _];exact h9
   .rw[decide_eq_true];exact List.mem_append_left _ (cm c2)
  .refine⟨g.e,(hA.ext hs.ext).at_.nth 5 rfl,?_⟩;refine hs.put 1 rfl (o:=1) (vs:=[.bool (v==g.e)]) rfl (show 2<=2 by decide) fun cB hs=>?_;refine tH hA hV Wg.1 hvl (by omega) (by omega) (bl:=v==g.e) (fs:=fs) (D:=D) (P:=P) (T:=T.take (td.n-1)) (E:=E) ?_ hJ (fin _ ?_)
   .have h9:=hs.cut 0 rfl (by omega) (td.n-1) (by omega);rw[<-List.map_take] at h9;rw[show aQ td.a (Int.toNat 0) td.c 1=td.a from cM _ _ _];exact h9
   .have h8:¬g.e∈P:=eZ c2;rw[Bool.eq_iff_iff,decide_eq_true_eq,Yk,Ye,beq_iff_eq];exact⟨fun e=>.inr e.symm,fun h=>h.elim (fun h=>absurd h h8) Eq.symm⟩
 .have hT:T=[]:=List.length_eq_zero_iff.1 (by omega);subst hT;have fO:=hs.len 2 (s:=fs) (e:=188) (n:=3) (rows:=E.map Ev.cs) rfl (by omega);have hEl:E.length<=g.es.length:=by
   rw[hI.e];exact xM (hI.nd.sublist (List.sublist_append_left _ _)) fun v hv=>((hI.cl.mem v).1 (by simp[hv])).1
  refine⟨fs,hs.rd 1 rfl (i:=0) rfl,?_⟩;refine (Kw hs 2 rfl (by omega)).mono ?_;rintro _ Mb ⟨rfl,E',hp,hw,hs⟩;refine⟨rfl,fs,hs.rd 1 rfl (i:=0) rfl,?_⟩;refine (Ai hs 2 rfl (by rw[hp.length_eq];omega)).mono ?_;rintro _ XC ⟨r,rfl,hs⟩;refine⟨r,rfl,?_⟩;refine hs.put 1 rfl (o:=0) (vs:=[.slice r.a r.n r.c]) rfl (show 1<=2 by decide) fun aeg hs=>?_;refine⟨r,_,hs.at 1 rfl (o:=0) (n:=2) rfl,?_⟩;refine hs.put 4 rfl (o:=0) (vs:=[.slice r.a r.n r.c,.bool (decide (g.e∈P))]) rfl (show 2<=2 by decide) fun XB hs=>?_;refine⟨r,_,hs.at 4 rfl (o:=0) (n:=2) rfl,r,?_,?_⟩
  .obtain⟨hq,_⟩:=hI.fin hV (by omega) dx;have hb:decide (g.e∈P)=bQ g role s:=by
    unfold bQ;rw[Bool.eq_iff_iff,decide_eq_true_eq,iv,hq,Int.toNat_of_nonneg (by omega)]
   rw[hb]
  .obtain⟨_,he⟩:=hI.fin hV (by omega) dx;rw[sG hp hw,he] at hs;exact hs.sub (L':=[_]) (by
    refine List.Sublist.trans ?_ (List.drop_sublist 2 _);exact List.singleton_sublist.2 (by simp[J6]))
end Go.VC
end

section
namespace Go.VC
open Go.Proofs Go.LexS Go.RowKit Go.Lib
theorem Fa{P:Program}{t u e:TypeId}{size bytes:Nat}{kn:IntKind}(hT:cC P t e size bytes=true)(zL:P.underlying u=some (.int kn)){h:Heap}{n:Nat}{m:Int}(hm:m=n)(h0:0<n)(dc:n*bytes<=140737488355328)(rV:n<=maxLen)
  {K:Sl->Heap->Prop} (hK:∀(r:Sl) (h':Heap) (xs:List Value),r.n=n->Ext h h'->cP h' h.size e size r xs->K r h'):App P t u (.slice none 0 0) (.int .i64 m) h K:=by
 intro ty w hw;subst hw;subst hm;unfold cC at hT;simp only[Yt] at hT;obtain⟨⟨⟨⟨⟨⟨⟨hs,he⟩,ht⟩,hz⟩,JQ⟩,fF⟩,B6⟩,eJ⟩:=hT;have hu:=cV hs;rw[eL he] at hu;obtain⟨i,hi⟩:=gP ht;obtain⟨z,ny⟩:=Option.isSome_iff_exists.1 hz;rw[hi] at ny;simp only[Option.bind_some] at ny;have e1:i.size=size:=by have:=eL fF;simpa [a8,hi] using this
 have e2:i.bytes=bytes:=by have:=eL B6;simpa [xV,hi] using this
 have e3:z.cells.size=size:=by have:=eL JQ;simpa [bV,hi,ny] using this
 have hp:0<size:=by simpa using eJ
 have acX:((0+n:Nat):Int)<=9223372036854775807:=by simp only[maxLen] at rV;omega
 have hr:=Lib.run_append_grow_zeros w t u ty e i z .i64 kn hu zL hi ny none 0 0 [] (run_firstCells_none w.drew i.size 0 0 0) n h0 (by omega) (by omega) acX
  (by rw[e2];omega) (growslice_fits (by omega) (by rw[Nat.zero_add,e2];exact dc))
 rw[Nat.zero_add] at hr;have JX:=grownCap_ge w n 0 e;have hle:=grownCap_le_maxLen w n 0 e rV;refine⟨_,_,hr,⟨⟨some ⟨w.heap.size,0,none⟩,n,grownCap w n 0 e⟩,rfl,hK _ _ _ rfl (Ext.push _ _) ⟨?_,.inr ⟨w.heap.size,_,rfl,bc _,Array.getElem?_push_size,JX,hle,?_,rfl⟩⟩⟩,rfl,rfl,rfl⟩
 .rw[Yu];have:(List.toArray ([]:List Value)++Builtin.zeroCells z.cells n++Builtin.zeroCells z.cells (grownCap w n 0 e-n)).toList.length=grownCap w n 0 e*size:=by
   simp only[Array.toList_append,Yh,gn,e3];rw[List.length_nil,Nat.zero_add,<-Nat.add_mul];congr 1;omega
  rw[this];exact Nat.min_eq_left (Nat.mul_le_mul_right _ JX)
 .show (List.toArray ([]:List Value)++Builtin.zeroCells z.cells n++Builtin.zeroCells z.cells (grownCap w n 0 e-n)).toList.length=grownCap w n 0 e*size;simp only[Array.toList_append,Yh,gn,e3];rw[List.length_nil,Nat.zero_add,<-Nat.add_mul];congr 1;omega
structure aP where
 x:Int
 y:Int
 s:Int
 t:Int
 deriving DecidableEq
def aP.cs(m:aP):List Value:=[.int .i64 m.x,.int .i64 m.y,.int .i64 m.s,.int .i64 m.t]
theorem OP(L:List aP):∀r∈L.map aP.cs,r.length=4:=fun r hr=>by obtain⟨x,_,rfl⟩:=Yp.1 hr;rfl
theorem kS:cC Pz 197 200 4 32=true:=by kernel_rfl
theorem ack:Pz.underlying 3=some (.int .i64):=by kernel_rfl
theorem Md(n:Nat)(h:Heap)(hn:n<=1048576):Fn Pz 232 #[.slice none 0 0,.int .i64 (n:Nat)] h fun v h'=>∃r:Sl,v=.slice r.a r.n r.c/\St h h' [.sl r 200 4 []]:=by
 apply Ue ⟨none,0,0⟩ (n:Nat);unfold Zz;refine⟨fun h'=>h'=h,aM (fun c=>by omega) (fun _=>rfl),?_⟩;rintro-_ rfl;have e0:IntKind.wrap .i64 (((0:Nat):Int)-((0:Nat):Int))=0:=by rw[a7 (by omega) (by omega)];omega
 have e1:IntKind.wrap .i64 ((n:Int)-IntKind.wrap .i64 (((0:Nat):Int)-((0:Nat):Int)))=n:=by rw[e0,a7 (by omega) (by omega)];omega
 show sB (decide ((IntKind.wrap .i64 ((n:Int)-IntKind.wrap .i64 (((0:Nat):Int)-((0:Nat):Int))))>0)) _ _;refine aM (fun c=>?_) (fun c=>⟨⟨none,0,0⟩,rfl,(St.refl _).bH 200 4⟩);rw[e1] at c;refine⟨⟨by omega,by show (0:Int)<=((0:Nat):Int);omega,by show ((0:Nat):Int)<=((0:Nat):Int);omega⟩,?_⟩;refine Fa kS ack (n:=n) e1 (by omega) (by omega) (by simp only[maxLen];omega) fun r h' xs kc E ho=>?_;refine⟨⟨by omega,by show (0:Int)<=((0:Nat):Int);omega,by show ((0:Nat):Int)<=_;omega⟩,⟨aQ r.a (Int.toNat 0) r.c 4,Int.toNat ((0:Nat):Int)-Int.toNat 0,r.c-Int.toNat 0⟩,rfl,?_⟩;have h0:(It.sl ⟨aQ r.a (Int.toNat 0) r.c 4,Int.toNat ((0:Nat):Int)-Int.toNat 0,r.c-Int.toNat 0⟩ 200 4 []).ok h':=by
  rw[show aQ r.a (Int.toNat 0) r.c 4=r.a from cM _ _ _];refine⟨⟨rfl,?_⟩,fun r hr=>by cases hr⟩;rcases ho.2 with ⟨ha,vJ,fZ⟩ | ⟨g,cur,ha,_,hh,Ee,B5,B4,_⟩
  .exact .inl ⟨ha,rfl,fZ⟩
  .exact .inr ⟨g,cur,ha,Nat.zero_le _,hh,Nat.zero_le _,B5,B4,rfl⟩
 refine (St.refl _).more E h0 fun b hb=>?_;rw[show aQ r.a (Int.toNat 0) r.c 4=r.a from cM _ _ _] at hb;exact (fW ho hb).2.2
theorem vV{α:Type}{L:List (Sl × List α)}{i:Nat}{q:Sl × List α}(h:L[i]?=some q):((L.take (i+1)).map fun q=>q.2.length).sum=((L.take i).map fun q=>q.2.length).sum+q.2.length:=by
 rw[ak h,Ym,List.sum_append];simp
theorem nS{α:Type}(L:List (Sl × List α))(i:Nat):((L.take i).map fun q=>q.2.length).sum<=(L.map fun q=>q.2.length).sum:=by
 conv=>rhs;rw[<-List.take_append_drop i L,Ym,List.sum_append]
 omega
theorem EB(Ls:List (Sl × List aP))(s:Sl)(h:Heap)(hr:Rw h 1 s (Ls.map fun q=>eD q.1))(hL:∀q∈Ls,RL h 4 q.1 aP.cs q.2)(hn:Ls.length<=1048576)(hsm:(Ls.map fun q=>q.2.length).sum<=1048576):
  Fn Pz 187 #[.slice s.a s.n s.c] h fun v h'=>∃r:Sl,v=.slice r.a r.n r.c/\St h h' [.sl r 200 4 ((Ls.flatMap Prod.snd).map aP.cs)]:=by
 apply Uy s;unfold ZR;have iA:=hr.ln;refine⟨fun z x h' m=>∃i:Nat,x=i/\m=s.n-i/\i<=s.n/\h'=h/\z=(((Ls.take i).map fun q=>q.2.length).sum:Nat),⟨_,0,rfl,rfl,by omega,rfl,rfl⟩,?_⟩;rintro-_ _ h6 m ⟨i,rfl,rfl,hi,rfl,rfl⟩;refine aM (fun c=>?_) (fun c=>?_)
 .refine hr.aA (by omega) (by omega) fun b o q gq t=>?_;replace gq:Ls[i]?=some q:=gq;have hq:=hL q (Yb gq);have nz:=hq.ln;have h1:=vV gq;have h2:=nS Ls (i+1);refine⟨q.1,t.hd,?_⟩;have e:IntKind.wrap .i64 (((((Ls.take i).map fun q=>q.2.length).sum:Nat):Int)+(q.1.n:Int))=(((Ls.take (i+1)).map fun q=>q.2.length).sum:Nat):=by rw[a7 (by omega) (by omega)];omega
  rw[e];refine aM (fun c2=>by omega) (fun _=>⟨_,by omega,i+1,by rw[a7 (by omega) (by omega)];omega,rfl,by omega,rfl,rfl⟩)
 .have WT:Ls.take i=Ls:=Yj (by omega);rw[WT];refine (Md _ h6 hsm).mono ?_;rintro _ Fu ⟨r,rfl,hs⟩;refine⟨r,rfl,?_⟩;refine eE (n:=s.n) hs (fun i rows=>rows=((Ls.take i).flatMap Prod.snd).map aP.cs) rfl ?_;clear hs;rintro-i2 ns h19 rows S2 hs rfl;have xw:=hs.len 0 (s:=ns) (e:=200) (n:=4) rfl (by omega);rw[Yc,List.length_flatMap] at xw;refine aM (fun c2=>?_) (fun c2=>?_)
  .refine (hr.ext hs.ext).aA (by omega) (by omega) fun b o q gq t=>?_;replace gq:Ls[i2]?=some q:=gq;have hq:=hL q (Yb gq);have nz:=hq.ln;have h1:=vV gq;have h2:=nS Ls (i2+1);refine⟨q.1,t.hd,?_⟩;refine hs.dZ 0 rfl kS (hq.rw.ext hs.ext) (OP _) hq.nil (by
    rw[List.all_eq_true];intro v hv;obtain⟨r,hr,hv⟩:=List.mem_flatten.1 hv;obtain⟨x,_,rfl⟩:=Yp.1 hr;simp[aP.cs] at hv;rcases hv with rfl | rfl | rfl | rfl<;>rfl) (by omega) (by simp only[maxLen];omega) fun s23 qW n23 hs=>?_
   refine Az.next (by omega) (by omega) ⟨_,hs,?_⟩;rw[ak gq,List.flatMap_append,Ym];simp
  .rw[Yj (by omega)] at hs;exact⟨ns,rfl,hs⟩
def eA(es:List Ed)(k:Nat):Ed:=es.getD k ⟨0,0,0,0,0,false⟩
theorem aL{es:List Ed}{k:Nat}{x:Ed}(h:es[k]?=some x):eA es k=x:=by unfold eA;rw[Yo,h];rfl
def A7(es:List Ed)(role:Int)(k:Nat):Bool:=(aW role (eA es k)).isNone
def kX(es:List Ed)(role:Int)(t:Nat)(l:List Nat):List aP:=(l.filter (A7 es role)).map fun i:Nat=>⟨(i:Int),-1,(eA es i).t,(t:Nat)⟩
def pH(es:List Ed)(role:Int)(s:Nat)(l:List Nat):List aP:=(l.filter (A7 es role)).map fun k:Nat=>⟨-1,(k:Int),(s:Nat),(eA es k).t⟩
def lM(es:List Ed)(role:Int)(i:Nat)(l:List Nat):List aP:=match aW role (eA es i) with
 | none=>[]
 | some a=>(l.filter fun k=>decide (aW role (eA es k)=some a)).map fun k:Nat=>⟨(i:Int),(k:Int),(eA es i).t,(eA es k).t⟩
def kG(es:List Ed)(role:Int)(l m:List Nat):List aP:=l.flatMap fun i=>lM es role i m
def bq(es:List Ed)(role:Int)(s t:Nat):List aP:=kX es role t (ah es (s:Nat))++pH es role s (ah es (t:Nat))++kG es role (ah es (s:Nat)) (ah es (t:Nat))
theorem uH{es:List Ed}{role:Int}{t:Nat}{l:List Nat}:(kX es role t l).length<=l.length:=by unfold kX;rw[Yc];exact List.length_filter_le _ _
theorem uJ{es:List Ed}{role:Int}{t:Nat}{l:List Nat}:(pH es role t l).length<=l.length:=by unfold pH;rw[Yc];exact List.length_filter_le _ _
theorem pJ{es:List Ed}{role:Int}{i:Nat}{l:List Nat}:(lM es role i l).length<=l.length:=by
 unfold lM;split
 .exact Nat.zero_le _
 .rw[Yc];exact List.length_filter_le _ _
theorem pI{es:List Ed}{role:Int}:∀ {l m:List Nat},(kG es role l m).length<=l.length*m.length
 | [],m=>by simp[kG]
 | a::l,m=>by
  have h1:=pI (es:=es) (role:=role) (l:=l) (m:=m);have h2:=pJ (es:=es) (role:=role) (i:=a) (l:=m);unfold kG at h1 ⊢;rw[List.flatMap_cons,Yh,j5,Nat.succ_mul];omega
theorem pY{role:Int}{x:Ed}:aW role x=none ↔ x.a≠role/\x.b≠role:=by
 unfold aW;by_cases h1:role=x.a
 .rw[if_pos h1];simp[h1.symm]
 .rw[if_neg h1];by_cases h2:role=x.b
  .rw[if_pos h2];simp[h2.symm]
  .rw[if_neg h2];simp;exact⟨fun e=>h1 e.symm,fun e=>h2 e.symm⟩
theorem RL.y6{α:Type}{h0 h:Heap}{L:List It}(hs:St h0 h L)(k:Nat){s:Sl}{e:TypeId}{n:Nat}{cs:α->List Value}{l:List α}(hk:L[k]?=some (.sl s e n (l.map cs)))(hn:0<n)(hm:l.length<=1048576):RL h n s cs l:=
 ⟨hs.rw k hk hn,(hs.len k hk hn).2.1,(hs.len k hk hn).2.2,hm⟩
end Go.VC
end

section
namespace Go.VC
open Go.Proofs Go.LexS
theorem lK{es:List Ed}{role:Int}{t:Nat}{l:List Nat}{j k:Nat}(hk:l[j]?=some k):kX es role t (l.take (j+1))=kX es role t (l.take j)++(if A7 es role k then [⟨(k:Int),-1,(eA es k).t,(t:Nat)⟩] else []):=by
 unfold kX;rw[ak hk,List.filter_append,Ym];congr 1;by_cases h:A7 es role k=true
 .rw[if_pos h,List.filter_cons_of_pos h];rfl
 .rw[if_neg h,List.filter_cons_of_neg h];rfl
theorem lL{es:List Ed}{role:Int}{t:Nat}{l:List Nat}{j k:Nat}(hk:l[j]?=some k):pH es role t (l.take (j+1))=pH es role t (l.take j)++(if A7 es role k then [⟨-1,(k:Int),(t:Nat),(eA es k).t⟩] else []):=by
 unfold pH;rw[ak hk,List.filter_append,Ym];congr 1;by_cases h:A7 es role k=true
 .rw[if_pos h,List.filter_cons_of_pos h];rfl
 .rw[if_neg h,List.filter_cons_of_neg h];rfl
theorem wX{es:List Ed}{role:Int}{i:Nat}{l:List Nat}{j k:Nat}{a:Ev}(ha:aW role (eA es i)=some a)(hk:l[j]?=some k):lM es role i (l.take (j+1))=lM es role i (l.take j)++(if aW role (eA es k)=some a then [⟨(i:Int),(k:Int),(eA es i).t,(eA es k).t⟩] else []):=by
 unfold lM;rw[ha];simp only;rw[ak hk,List.filter_append,Ym];congr 1;by_cases h:aW role (eA es k)=some a
 .rw[if_pos h,List.filter_cons_of_pos (by rw[decide_eq_true h])];rfl
 .rw[if_neg h,List.filter_cons_of_neg (by rw[decide_eq_false h];decide)];rfl
theorem qJ{es:List Ed}{role:Int}{l m:List Nat}{j k:Nat}(hk:l[j]?=some k):kG es role (l.take (j+1)) m=kG es role (l.take j) m++lM es role k m:=by
 unfold kG;rw[ak hk,List.flatMap_append,List.flatMap_singleton]
theorem GU{es:List Ed}{role:Int}{i:Nat}{l:List Nat}(ha:aW role (eA es i)=none):lM es role i l=[]:=by unfold lM;rw[ha]
def Ns(h:Heap)(q bo:Sl)(Q B:List aP)(s t:Nat):List It:=[.sl q 200 4 (Q.map aP.cs),.sl bo 200 4 (B.map aP.cs),.ae h.size [.int .i64 (s:Nat),.int .i64 (t:Nat)] 97]
theorem DW(b:Nat)(g:Gl)(role:Int)(ho:Sl)(os:Nat->Sl)(s t:Nat)(h:Heap)(hA:Kb h b g role ho os)(hV:af g)(dx:(s:Int)<g.n)(ht1:(t:Int)<g.n):
  Fn Pz 108 #[.pointer (some ⟨b,0,none⟩),.agg ⟨[.int .i64 (s:Nat),.int .i64 (t:Nat)]⟩] h fun v h'=>∃r:Sl,v=.slice r.a r.n r.c/\St h h' [.sl r 200 4 ((bq g.es role s t).map aP.cs)]:=by
 apply Vn ⟨b,0,none⟩ (s:Nat) (t:Nat);unfold aaF;have hN:=hV.num.n;have hM:=hV.num.m;have zP:=hA.ro.ln;rw[kV] at zP;have ke:=hA.gi.e.ln;have Pq:=cG g.es (s:Nat);have hto:=cG g.es (t:Nat);have rs:=hA.rs s (by omega);have rt:=hA.rs t (by omega);have rsn:(os s).n=(ah g.es (s:Nat)).length:=by rw[rs.ln];exact Yc _
 have rtn:(os t).n=(ah g.es (t:Nat)).length:=by rw[rt.ln];exact Yc _
 refine (St.refl h).aj fun h3 hs=>?_;refine⟨ho,(hA.ext hs.ext).at_.nth 9 rfl,(s:Nat),hs.rd 0 rfl (i:=0) rfl,?_⟩;refine (hA.ro.ext hs.ext).aA (by omega) (by omega) fun b6 o7 d gd u=>?_;obtain rfl:s=d:=(um gd).1;refine⟨os s,u.hd,?_⟩;have hs:=(hs.bH 200 4).bH 200 4;refine⟨fun q bo x h' m=>∃j:Nat,x=j/\m=(os s).n-j/\j<=(os s).n/\St h h' (Ns h q bo (kX g.es role t ((ah g.es (s:Nat)).take j)) (kG g.es role ((ah g.es (s:Nat)).take j) (ah g.es (t:Nat))) s t),⟨_,0,rfl,rfl,by omega,hs⟩,?_⟩;clear hs;rintro-q bo _ rY m ⟨j,rfl,rfl,hj,hs⟩;have uO:=(hs.len 0 (s:=q) (e:=200) (n:=4) rfl (by omega)).1;have yF:=(hs.len 1 (s:=bo) (e:=200) (n:=4) rfl (by omega)).1;rw[Yc] at uO yF;have mE:=uH (es:=g.es) (role:=role) (t:=t) (l:=(ah g.es (s:Nat)).take j);have oh:=pI (es:=g.es) (role:=role) (l:=(ah g.es (s:Nat)).take j) (m:=ah g.es (t:Nat));have jH:((ah g.es (s:Nat)).take j).length*(ah g.es (t:Nat)).length<=400*400:=Nat.mul_le_mul (by rw[Yu];omega) (by omega);rw[Yu] at mE;refine aM (fun c=>?_) (fun c=>?_)
 .refine (rs.ext hs.ext).aA (by omega) (by omega) fun b16 o17 d gd u=>?_;obtain⟨k,hk,rfl⟩:=cX gd;replace hk:(ah g.es (s:Nat))[j]?=some k:=hk;obtain⟨x0,jG,D8⟩:=az.1 (Yb hk);have qT:=(Ya.1 jG).1;have kK:=aL jG;refine⟨_,u.hd,g.he,(hA.ext hs.ext).at_.nth 6 rfl,?_⟩;refine (hA.gi.e.rw.ext hs.ext).aA (by omega) (by omega) fun b20 o21 x gx u2=>?_;replace gx:g.es[k]?=some x:=gx;rw[jG] at gx;cases gx;refine⟨x0.f,x0.a,x0.b,x0.l,x0.t,x0.ag,u2,?_⟩;refine hs.ao (vs:=x0.cs) rfl rfl fun Qi hs=>?_;refine⟨x0.f,x0.a,x0.b,x0.l,x0.t,x0.ag,hs.at 0 rfl (o:=0) (n:=6) rfl,?_⟩;refine (lu ⟨b,0,none⟩ role x0 Qi ((hA.ext hs.ext).at_.nth 8 rfl)).mono ?_;rintro _ LX ⟨E41,rfl⟩;replace hs:=hs.step E41;cases hvis:aW role x0 with
  | none=>
   refine⟨false,0,0,false,rfl,?_⟩;refine hs.ao (vs:=[.bool false,.int .i64 0,.int .i64 0]) rfl rfl fun Te hs=>?_;refine ql rfl ?_;refine⟨x0.t,hs.rd 1 rfl (i:=4) rfl,(t:Nat),hs.rd 4 rfl (i:=1) rfl,?_⟩;refine hs.app 2 rfl kS (m:=1) [aP.cs ⟨(k:Int),-1,x0.t,(t:Nat)⟩] rfl rfl (fun r hr=>by rw[Ye] at hr;rw[hr];rfl) rfl (by omega) (by simp only[maxLen];omega) fun s47 En n47 hs=>?_;refine⟨_,by omega,j+1,by rw[a7 (by omega) (by omega)];omega,rfl,by omega,?_⟩;have hs:=hs.drop 2;rw[lK hk,qJ hk,GU (by rw[kK];exact hvis),Yw,if_pos (by unfold A7;rw[kK,hvis];rfl),kK];unfold Ns;rw[Ym];exact hs
  | some e=>
   refine⟨e.send,e.peer,e.label,true,rfl,?_⟩;refine hs.ao (vs:=e.cs) rfl rfl fun Te hs=>?_;refine gZ rfl ?_;refine⟨ho,(hA.ext hs.ext).at_.nth 9 rfl,(t:Nat),hs.rd 4 rfl (i:=1) rfl,?_⟩;refine (hA.ro.ext hs.ext).aA (by omega) (by omega) fun b52 o53 d gd u3=>?_;obtain rfl:t=d:=(um gd).1;refine⟨os t,u3.hd,?_⟩;have fY:kX g.es role t ((ah g.es (s:Nat)).take (j+1))=kX g.es role t ((ah g.es (s:Nat)).take j):=by
    rw[lK hk,if_neg (by unfold A7;rw[kK,hvis];exact fun h9=>by cases h9),Yw]
   refine⟨fun bo x h' m=>∃j2:Nat,x=j2/\m=(os t).n-j2/\j2<=(os t).n/\St h h' (.ae LX.size e.cs 188 :: .ae rY.size x0.cs 67::Ns h q bo (kX g.es role t ((ah g.es (s:Nat)).take j)) (kG g.es role ((ah g.es (s:Nat)).take j) (ah g.es (t:Nat))++lM g.es role k ((ah g.es (t:Nat)).take j2)) s t),⟨_,0,rfl,rfl,by omega,?_⟩,?_⟩
   .have:lM g.es role k ((ah g.es (t:Nat)).take 0)=[]:=List.length_eq_zero_iff.1 (by have:=pJ (es:=g.es) (role:=role) (i:=k) (l:=(ah g.es (t:Nat)).take 0);rw[my,List.length_nil] at this;rw[my];omega);rw[this,Yw];exact hs
   clear hs;rintro-bo2 _ Qf m ⟨j2,rfl,rfl,SZ,hs⟩;have adq:=(hs.len 3 (s:=bo2) (e:=200) (n:=4) rfl (by omega)).1;rw[Yc,Yh] at adq;have JZ:=pJ (es:=g.es) (role:=role) (i:=k) (l:=(ah g.es (t:Nat)).take j2);rw[Yu] at JZ;refine aM (fun c2=>?_) (fun c2=>?_)
   .refine (rt.ext hs.ext).aA (by omega) (by omega) fun b61 o62 d gd u4=>?_;obtain⟨k2,iC,rfl⟩:=cX gd;replace iC:(ah g.es (t:Nat))[j2]?=some k2:=iC;obtain⟨x2,zI,acH⟩:=az.1 (Yb iC);have adb:=(Ya.1 zI).1;have xi:=aL zI;refine⟨_,u4.hd,g.he,(hA.ext hs.ext).at_.nth 6 rfl,?_⟩;refine (hA.gi.e.rw.ext hs.ext).aA (by omega) (by omega) fun b65 o66 x gx u5=>?_;replace gx:g.es[k2]?=some x:=gx;rw[zI] at gx;cases gx;refine⟨x2.f,x2.a,x2.b,x2.l,x2.t,x2.ag,u5,?_⟩;refine hs.ao (vs:=x2.cs) rfl rfl fun LV hs=>?_;refine⟨x2.f,x2.a,x2.b,x2.l,x2.t,x2.ag,hs.at 0 rfl (o:=0) (n:=6) rfl,?_⟩;refine (lu ⟨b,0,none⟩ role x2 LV ((hA.ext hs.ext).at_.nth 8 rfl)).mono ?_;rintro _ jZ ⟨E86,rfl⟩;replace hs:=hs.step E86;have hvk:aW role (eA g.es k)=some e:=by rw[kK];exact hvis
    have skip:∀ {hZ:Heap},aW role (eA g.es k2)≠some e->St h hZ (.ae LX.size e.cs 188 :: .ae rY.size x0.cs 67::Ns h q bo2 (kX g.es role t ((ah g.es (s:Nat)).take j)) (kG g.es role ((ah g.es (s:Nat)).take j) (ah g.es (t:Nat))++lM g.es role k ((ah g.es (t:Nat)).take j2)) s t) ->
      ∃m,m<(os t).n-j2/\∃j3:Nat,IntKind.wrap .i64 ((j2:Int)+1)=j3/\m=(os t).n-j3/\j3<=(os t).n/\St h hZ (.ae LX.size e.cs 188 :: .ae rY.size x0.cs 67::Ns h q bo2 (kX g.es role t ((ah g.es (s:Nat)).take j)) (kG g.es role ((ah g.es (s:Nat)).take j) (ah g.es (t:Nat))++lM g.es role k ((ah g.es (t:Nat)).take j3)) s t):=fun {hZ} bE hs=>by
     refine⟨_,by omega,j2+1,by rw[a7 (by omega) (by omega)];omega,rfl,by omega,?_⟩;rw[wX hvk iC,if_neg bE,Yw];exact hs
    cases hvis2:aW role x2 with
    | none=>
     refine⟨false,0,0,false,rfl,?_⟩;refine hs.ao (vs:=[.bool false,.int .i64 0,.int .i64 0]) rfl rfl fun h88 hs=>?_;refine gZ rfl (skip (by rw[xi,hvis2];exact fun e=>by cases e) (hs.drop 2))
    | some e2=>
     refine⟨e2.send,e2.peer,e2.label,true,rfl,?_⟩;refine hs.ao (vs:=e2.cs) rfl rfl fun h88 hs=>?_;refine ql rfl ?_;refine⟨e.send,e.peer,e.label,hs.at 2 rfl (o:=0) (n:=3) rfl,e2.send,e2.peer,e2.label,hs.at 0 rfl (o:=0) (n:=3) rfl,?_⟩;rw[QM];refine aM (fun c3=>?_) (fun c3=>skip (by rw[xi,hvis2];exact fun e9=>c3 (fL e9).symm) (hs.drop 2));subst c3;refine⟨x0.t,hs.rd 3 rfl (i:=4) rfl,x2.t,hs.rd 1 rfl (i:=4) rfl,?_⟩;refine hs.app 5 rfl kS (m:=1) [aP.cs ⟨(k:Int),(k2:Int),x0.t,x2.t⟩] rfl rfl (fun r hr=>by rw[Ye] at hr;rw[hr];rfl) rfl (by omega) (by simp only[maxLen];omega) fun s98 Xo n98 hs=>?_;refine⟨_,by omega,j2+1,by rw[a7 (by omega) (by omega)];omega,rfl,by omega,?_⟩;have hs:=hs.drop 2;rw[wX hvk iC,if_pos (by rw[xi,hvis2]),kK,xi,<-Yz];unfold Ns;rw[Ym (l₁:=kG _ _ _ _++_)];exact hs
   .refine⟨_,by omega,j+1,by rw[a7 (by omega) (by omega)];omega,rfl,by omega,?_⟩;rw[fY,qJ hk];rw[Yj (l:=ah g.es (t:Nat)) (by omega)] at hs;exact hs.drop 2
 .rw[Yj (by omega)] at hs mE oh jH;refine⟨ho,(hA.ext hs.ext).at_.nth 9 rfl,(t:Nat),hs.rd 2 rfl (i:=1) rfl,?_⟩;refine (hA.ro.ext hs.ext).aA (by omega) (by omega) fun YZ VT d gd u3=>?_;obtain rfl:t=d:=(um gd).1;refine⟨os t,u3.hd,?_⟩;replace hs:=hs.bH 200 4;refine⟨fun ot x h' m=>∃j2:Nat,x=j2/\m=(os t).n-j2/\j2<=(os t).n/\St h h' (.sl ot 200 4 ((pH g.es role s ((ah g.es (t:Nat)).take j2)).map aP.cs)::Ns h q bo (kX g.es role t (ah g.es (s:Nat))) (kG g.es role (ah g.es (s:Nat)) (ah g.es (t:Nat))) s t),⟨_,0,rfl,rfl,by omega,hs⟩,?_⟩;clear hs;rintro-ot _ qX m ⟨j2,rfl,rfl,SZ,hs⟩;have rQ:=(hs.len 0 (s:=ot) (e:=200) (n:=4) rfl (by omega)).1;rw[Yc] at rQ;have SX:=uJ (es:=g.es) (role:=role) (t:=s) (l:=(ah g.es (t:Nat)).take j2);rw[Yu] at SX;refine aM (fun c2=>?_) (fun c2=>?_)
  .refine (rt.ext hs.ext).aA (by omega) (by omega) fun b61 o62 d gd u4=>?_;obtain⟨k2,iC,rfl⟩:=cX gd;replace iC:(ah g.es (t:Nat))[j2]?=some k2:=iC;obtain⟨x2,zI,acH⟩:=az.1 (Yb iC);have adb:=(Ya.1 zI).1;have xi:=aL zI;refine⟨_,u4.hd,g.he,(hA.ext hs.ext).at_.nth 6 rfl,?_⟩;refine (hA.gi.e.rw.ext hs.ext).aA (by omega) (by omega) fun b65 o66 x gx u5=>?_;replace gx:g.es[k2]?=some x:=gx;rw[zI] at gx;cases gx;refine⟨x2.f,x2.a,x2.b,x2.l,x2.t,x2.ag,u5,?_⟩;refine hs.ao (vs:=x2.cs) rfl rfl fun Mc hs=>?_;have skip:aW role x2≠none->∃m,m<(os t).n-j2/\∃j3:Nat,IntKind.wrap .i64 ((j2:Int)+1)=j3/\m=(os t).n-j3/\j3<=(os t).n/\St h Mc (.sl ot 200 4 ((pH g.es role s ((ah g.es (t:Nat)).take j3)).map aP.cs)::Ns h q bo (kX g.es role t (ah g.es (s:Nat))) (kG g.es role (ah g.es (s:Nat)) (ah g.es (t:Nat))) s t):=fun bE=>by
    refine⟨_,by omega,j2+1,by rw[a7 (by omega) (by omega)];omega,rfl,by omega,?_⟩;rw[lL iC,if_neg (by unfold A7;rw[xi];intro h9;exact bE (Option.isNone_iff_eq_none.1 h9)),Yw];exact hs.drop 1
   refine⟨x2.a,hs.rd 0 rfl (i:=1) rfl,role,(hA.ext hs.ext).at_.nth 8 rfl,?_⟩;refine eY (fun c3=>?_) (fun c3=>skip fun h9=>(pY.1 h9).1 c3);refine⟨x2.b,hs.rd 0 rfl (i:=2) rfl,role,(hA.ext hs.ext).at_.nth 8 rfl,?_⟩;refine eY (fun c4=>?_) (fun c4=>skip fun h9=>(pY.1 h9).2 c4);have Lz:=pY.2 ⟨c3,c4⟩;refine⟨(s:Nat),hs.rd 4 rfl (i:=0) rfl,x2.t,hs.rd 0 rfl (i:=4) rfl,?_⟩;refine hs.app 1 rfl kS (m:=1) [aP.cs ⟨-1,(k2:Int),(s:Nat),x2.t⟩] rfl rfl (fun r hr=>by rw[Ye] at hr;rw[hr];rfl) rfl (by omega) (by simp only[maxLen];omega) fun s98 Xo n98 hs=>?_;refine⟨_,by omega,j2+1,by rw[a7 (by omega) (by omega)];omega,rfl,by omega,?_⟩;have hs:=hs.drop 1;rw[lL iC,if_pos (by unfold A7;rw[xi,Lz];rfl),xi,Ym];exact hs
  .rw[Yj (by omega)] at hs SX;refine hs.aj fun XC hs=>?_;have n9:=hs.dG 3 1 ([q,ot,bo].map eD) rfl (fun r hr=>by obtain⟨x,_,rfl⟩:=Yp.1 hr;rfl) rfl (by decide);refine (EB [(q,kX g.es role t (ah g.es (s:Nat))),(ot,pH g.es role s (ah g.es (t:Nat))),(bo,kG g.es role (ah g.es (s:Nat)) (ah g.es (t:Nat)))] _ XC (n9.rw 0 rfl (by omega)) ?_ (show 3<=1048576 by decide) ?_).mono ?_
   .intro z hz;simp only[Yr,List.not_mem_nil,or_false] at hz;rcases hz with rfl | rfl | rfl
    .exact RL.y6 hs 2 rfl (by omega) (by show (kX _ _ _ _).length<=_;omega)
    .exact RL.y6 hs 1 rfl (by omega) (by show (pH _ _ _ _).length<=_;omega)
    .exact RL.y6 hs 3 rfl (by omega) (by show (kG _ _ _ _).length<=_;omega)
   .simp only[gJ,List.map_nil,List.sum_cons,List.sum_nil];omega
   .rintro _ xB ⟨r,rfl,bD⟩;refine⟨r,rfl,r,rfl,?_⟩;have h5:=hs.join bD;have h6:=h5.sub (L':=[.sl r 200 4 ((([(q,kX g.es role t (ah g.es (s:Nat))),(ot,pH g.es role s (ah g.es (t:Nat))),(bo,kG g.es role (ah g.es (s:Nat)) (ah g.es (t:Nat)))]:List (Sl × List aP)).flatMap Prod.snd).map aP.cs)]) (List.singleton_sublist.2 (by simp));have e9:(([(q,kX g.es role t (ah g.es (s:Nat))),(ot,pH g.es role s (ah g.es (t:Nat))),(bo,kG g.es role (ah g.es (s:Nat)) (ah g.es (t:Nat)))]:List (Sl × List aP)).flatMap Prod.snd)=bq g.es role s t:=by
     unfold bq;simp
    rw[e9] at h6;exact h6
end Go.VC
end

section
namespace Go.VC
open Go.Proofs Go.LexS Go.Maps
theorem cY{α β:Type}[DecidableEq α](a x:α)(b:β):∀l:List (α × β),aU (cI l a b) x=if x=a then some b else aU l x
 | []=>by
  unfold cI aU;by_cases h:x=a
  .rw[if_pos h,if_pos h.symm]
  .rw[if_neg h,if_neg (fun e=>h e.symm)];rfl
 | (c,y)::r=>by
  have ih:=cY a x b r;by_cases hc:c=a
  .rw[cI,if_pos hc];by_cases h:x=a
   .rw[aU,if_pos (by rw[hc,h]),if_pos h]
   .rw[aU,if_neg (fun e=>h (e.symm.trans hc)),if_neg h,aU,if_neg (fun e=>h (e.symm.trans hc))]
  .rw[cI,if_neg hc];by_cases h:c=x
   .rw[aU,if_pos h,if_neg (fun e=>hc (h.trans e)),aU,if_pos h]
   .rw[aU,if_neg h,ih,aU,if_neg h]
theorem cZ{α β:Type}[DecidableEq α](x:α):∀l:List (α × β),(aU l x).isSome=true ↔ x∈l.map Prod.fst
 | []=>by simp[aU]
 | (c,y)::r=>by
  rw[aU];by_cases h:c=x
  .rw[if_pos h];simp[h]
  .rw[if_neg h,cZ x r,gJ,Yr];exact⟨.inr,fun h9=>h9.resolve_left fun e=>h e.symm⟩
def pC(p:Nat × Nat):List Value:=[.int .i64 (p.1:Nat),.int .i64 (p.2:Nat)]
def pV(p:Nat × Nat):Value:=.agg ⟨pC p⟩
def eI(p:Nat × Nat):Prop:=p.1<1048576/\p.2<1048576
theorem acs : ∃ fs, Pz.underlying 97 = some (.struct fs) /\ fs.all (·.name != "_") = true /\ fs.toList.map (fun f => (f.type, f.offset)) = [(3, 0), (3, 1)] := su (by kernel_rfl)
theorem YT:Pz.cellsOf 97=2:=by kernel_rfl
theorem w8(p:Nat × Nat)(h:eI p):∃l,keyOf Pz 97 (pV p)=some l:=by
 obtain⟨fs,hu,hn,hf⟩:=acs;obtain⟨h1,h2⟩:=h;have fF:∃n,Pz.types.size+1=n+2:=⟨Pz.types.size-1,by kernel_rfl⟩;obtain⟨n,fF⟩:=fF;have w1:Wa ((p.1:Nat):Int):=⟨by omega,by omega⟩;have w2:Wa ((p.2:Nat):Int):=⟨by omega,by omega⟩;have hl:Pz.keyLits (n+2) 97 (pC p)=some [[.int .i64 ((p.1:Nat):Int)],[.int .i64 ((p.2:Nat):Int)]].flatten:=by
  refine tm hu (by rw[YT];rfl) hn hf ?_;simp only[List.mapM_cons,List.mapM_nil,c3,pC,List.drop_zero,List.take_succ_cons,my,List.drop_succ_cons,qN u3 w1.wf,qN u3 w2.wf];rfl
 have hkt:Pz.keyType 97=true:=by kernel_rfl
 have S3:(pV p).formed Pz 97=true:=by
  unfold pV Value.formed;simp only[hu,YT];rfl
 have e:keyOf Pz 97 (pV p)=(Pz.keyLits (n+2) 97 (pC p)).map fun ls=>.string (keyBytes ls):=by
  unfold keyOf;simp only[hu,hkt,S3,Bool.and_self,if_true,fF];rfl
 rw[e,hl];exact⟨_,rfl⟩
theorem Gk(a b:Nat × Nat)(h:pV a=pV b):a=b:=by
 unfold pV pC at h;simp at h;exact Prod.ext (by omega) (by omega)
theorem yn:MT Pz 93 97 197 pV eI (.slice none 0 0) where
 K:=Keyed.of_law (deep_law_laid zC (m:=2) (by omega) (cm (by kernel_rfl)) (by kernel_rfl) (by kernel_rfl))
 ht:=by kernel_rfl
 key:=w8
 inj:=Gk
 z:=fun w=>by kernel_rfl
theorem JA:MT Pz 293 97 3 pV eI (.int .i64 0) where
 K:=Keyed.of_law (deep_law_laid zC (m:=2) (by omega) (cm (by kernel_rfl)) (by kernel_rfl) (by kernel_rfl))
 ht:=by kernel_rfl
 key:=w8
 inj:=Gk
 z:=fun w=>by kernel_rfl
def bj(m:aP):Nat × Nat:=(m.s.toNat,m.t.toNat)
inductive dC (g:Gl) (role:Int):Nat × Nat->Prop where
 | start:dC g role (g.s.toNat,g.s.toNat)
 | step {p:Nat × Nat} {m:aP}:dC g role p->m∈bq g.es role p.1 p.2->dC g role (bj m)
theorem vd{es:List Ed}{k:Nat}{s:Int}(h:k∈ah es s):eA es k∈es/\(eA es k).f=s:=by
 obtain⟨x,hx,hf⟩:=az.1 h;rw[aL hx];exact⟨Yb hx,hf⟩
theorem K9{g:Gl}{role:Int}{s t:Nat}(hV:af g)(hs:(s:Int)<g.n)(ht:(t:Int)<g.n){m:aP}(hm:m∈bq g.es role s t):0<=m.s/\m.s<g.n/\0<=m.t/\m.t<g.n:=by
 have hE:∀ {k:Nat} {s:Int},k∈ah g.es s->0<=(eA g.es k).t/\(eA g.es k).t<g.n:=fun {k s} hk=>by
  have:=hV.num.e _ (vd hk).1;unfold gV at this;omega
 unfold bq at hm;rcases Yk.1 hm with hm | hm
 .rcases Yk.1 hm with hm | hm
  .obtain⟨k,hk,rfl⟩:=Yp.1 hm;have:=hE (List.mem_filter.1 hk).1;exact⟨this.1,this.2,by show (0:Int)<=((t:Nat):Int);omega,ht⟩
  .obtain⟨k,hk,rfl⟩:=Yp.1 hm;have:=hE (List.mem_filter.1 hk).1;exact⟨by show (0:Int)<=((s:Nat):Int);omega,hs,this.1,this.2⟩
 .unfold kG at hm;obtain⟨i,hi,hm⟩:=List.mem_flatMap.1 hm;unfold lM at hm;split at hm
  .cases hm
  .obtain⟨k,hk,rfl⟩:=Yp.1 hm;have h1:=hE hi;have h2:=hE (List.mem_filter.1 hk).1;exact⟨h1.1,h1.2,h2.1,h2.2⟩
theorem ie{g:Gl}{role:Int}{p:Nat × Nat}(hV:af g)(hp:(p.1:Int)<g.n/\(p.2:Int)<g.n){m:aP}(hm:m∈bq g.es role p.1 p.2):((bj m).1:Int)<g.n/\((bj m).2:Int)<g.n/\((bj m).1:Int)=m.s/\((bj m).2:Int)=m.t:=by
 have:=K9 hV hp.1 hp.2 hm;unfold bj;refine⟨?_,?_,?_,?_⟩<;>simp only<;>omega
theorem dC.lt{g:Gl}{role:Int}(hV:af g){p:Nat × Nat}(h:dC g role p):(p.1:Int)<g.n/\(p.2:Int)<g.n:=by
 induction h with
 | start=>have:=hV.num.n;exact⟨by simp only;omega,by simp only;omega⟩
 | step _ hm ih=>have:=ie hV ih hm;exact⟨this.1,this.2.1⟩
theorem jK{n:Nat}{A:List (Nat × Nat)}(hn:A.Nodup)(h:∀p∈A,p.1<n/\p.2<n):A.length<=n*n:=by
 have h1:=List.Nodup.length_le_of_subset hn (l₂:=(List.range n).flatMap fun i=>(List.range n).map fun j=>(i,j)) fun p hp=>by
  have:=h p hp;exact List.mem_flatMap.2 ⟨p.1,List.mem_range.2 this.1,Yp.2 ⟨p.2,List.mem_range.2 this.2,rfl⟩⟩
 have h2:((List.range n).flatMap fun i=>(List.range n).map fun j=>(i,j)).length=n*n:=by
  rw[List.length_flatMap];simp only[Yc,kV];have:∀(l:List Nat),(l.map fun _=>n).sum=l.length*n:=fun l=>by
   induction l with
   | nil=>simp
   | cons a l ih=>rw[gJ,List.sum_cons,ih,j5,Nat.succ_mul];omega
  rw[this,kV]
 omega
theorem fC{es:List Ed}{role:Int}{s t:Nat}(h:es.length<=400):(bq es role s t).length<=160800:=by
 unfold bq;rw[Yh,Yh];have h1:=uH (es:=es) (role:=role) (t:=t) (l:=ah es (s:Nat));have h2:=uJ (es:=es) (role:=role) (t:=s) (l:=ah es (t:Nat));have h3:=pI (es:=es) (role:=role) (l:=ah es (s:Nat)) (m:=ah es (t:Nat));have h4:=cG es (s:Nat);have h5:=cG es (t:Nat);have h6:(ah es (s:Nat)).length*(ah es (t:Nat)).length<=400*400:=Nat.mul_le_mul (by omega) (by omega);omega
end Go.VC
end

section
namespace Go.VC
open Go.Proofs Go.LexS
theorem eH{α:Type}{L:List α}(hn:L.Nodup){i j:Nat}{x:α}(hi:L[i]?=some x)(hj:L[j]?=some x):i=j:=by
 obtain⟨h1,e1⟩:=Ya.1 hi;obtain⟨h2,e2⟩:=Ya.1 hj;have hp:=List.pairwise_iff_getElem.1 hn;rcases Nat.lt_trichotomy i j with h | h | h
 .exact absurd (e1.trans e2.symm) (hp i j h1 h2 h)
 .exact h
 .exact absurd (e2.trans e1.symm) (hp j i h2 h1 h)
structure RI (g:Gl) (role:Int) (i c:Nat) (A:List (Nat × Nat)) (Q:List (Sl × List aP)) (l:List ((Nat × Nat) × Sl)):Prop where
 qn:Q.length=c
 q:∀(k:Nat) (q:Sl × List aP),Q[k]?=some q->∃p,A[k]?=some p/\aU l p=some q.1/\q.2=bq g.es role p.1 p.2
 ky:∀p,p∈l.map Prod.fst ↔ p∈A
 ln:(l.map Prod.fst).Nodup
 nd:A.Nodup
 pr:∀p∈A,dC g role p
 st:(g.s.toNat,g.s.toNat)∈A
 cl:∀(k:Nat) (p:Nat × Nat),k<i->A[k]?=some p->∀m∈bq g.es role p.1 p.2,bj m∈A
theorem RI.iO{g:Gl}{role:Int}{i c:Nat}{A:List (Nat × Nat)}{Q:List (Sl × List aP)}{l:List ((Nat × Nat) × Sl)}(h:RI g role i c A Q l)(hV:af g):∀q∈l,eI q.1:=fun q hq=>by
 have h1:=(h.pr _ ((h.ky q.1).1 (Yp.2 ⟨q,hq,rfl⟩))).lt hV;have:=hV.num.n;exact⟨by omega,by omega⟩
theorem RI.len{g:Gl}{role:Int}{i c:Nat}{A:List (Nat × Nat)}{Q:List (Sl × List aP)}{l:List ((Nat × Nat) × Sl)}(h:RI g role i c A Q l)(hV:af g):A.length<=g.n.toNat*g.n.toNat:=
 jK h.nd fun p hp=>by have:=(h.pr p hp).lt hV;have:=hV.num.n;exact⟨by omega,by omega⟩
theorem RI.FH{g:Gl}{role:Int}{i:Nat}{A:List (Nat × Nat)}{Q:List (Sl × List aP)}{l:List ((Nat × Nat) × Sl)}(h:RI g role i i A Q l){p:Nat × Nat}(hp:A[i]?=some p)(r:Sl):RI g role i (i+1) A (Q++[(r,bq g.es role p.1 p.2)]) (cI l p r):=by
 refine⟨by rw[Yh,h.qn];rfl,fun k q hq=>?_,fun x=>?_,fB _ _ _ h.ln,h.nd,h.pr,h.st,h.cl⟩
 .by_cases hk:k<i
  .rw[jt (by rw[h.qn];exact hk)] at hq;obtain⟨p',h1,h2,h3⟩:=h.q k q hq;refine⟨p',h1,?_,h3⟩;rw[cY,if_neg (fun e=>by subst e;have:=eH h.nd h1 hp;omega)];exact h2
  .rw[tT (by rw[h.qn];omega),h.qn] at hq;have h9:=(Ya.1 hq).1;rw[Yv] at h9;obtain rfl:k=i:=by omega
   rw[Nat.sub_self] at hq;cases hq;exact⟨p,hp,by rw[cY,if_pos rfl],rfl⟩
 .rw[fm,h.ky];exact⟨fun h9=>h9.elim id fun e=>by rw[e];exact Yb hp,.inl⟩
theorem RI.new{g:Gl}{role:Int}{i c:Nat}{A:List (Nat × Nat)}{Q:List (Sl × List aP)}{l:List ((Nat × Nat) × Sl)}(h:RI g role i c A Q l)(hi:i<=A.length){p:Nat × Nat}(hp:p∉A)(hr:dC g role p)(r:Sl):RI g role i c (A++[p]) Q (cI l p r):=by
 refine⟨h.qn,fun k q hq=>?_,fun x=>?_,fB _ _ _ h.ln,?_,fun x hx=>?_,List.mem_append_left _ h.st,fun k x hk hx m hm=>?_⟩
 .obtain⟨p',h1,h2,h3⟩:=h.q k q hq;refine⟨p',by rw[jt (Ya.1 h1).1];exact h1,?_,h3⟩;rw[cY,if_neg (fun e=>hp (by subst e;exact Yb h1))];exact h2
 .rw[fm,h.ky,Yk,Ye]
 .rw[List.nodup_append];exact⟨h.nd,by simp,fun a ha b hb e=>by rw[Ye] at hb;subst hb;subst e;exact hp ha⟩
 .rcases Yk.1 hx with hx | hx
  .exact h.pr x hx
  .rw[Ye] at hx;rw[hx];exact hr
 .rcases Nat.lt_or_ge k A.length with h9 | h9
  .rw[jt h9] at hx;exact List.mem_append_left _ (h.cl k x hk hx m hm)
  .omega
def yW(all:Sl)(mb:Nat)(A:List (Nat × Nat))(Q:List (Sl × List aP))(l:List ((Nat × Nat) × Sl))(R:List It):List It:=
 .sl all 97 2 (A.map pC) :: .mp mb (l.map fun q=>(pV q.1,eS q.2))::(R++Q.map (nest 200 4 aP.cs))
theorem A6{all:Sl}{mb:Nat}{A:List (Nat × Nat)}{Q:List (Sl × List aP)}{l:List ((Nat × Nat) × Sl)}{R0:It}{i:Nat}{q:Sl × List aP}(hq:Q[i]?=some q):(yW all mb A Q l [R0])[3+i]?=some (nest 200 4 aP.cs q):=by
 unfold yW;rw[show 3+i=i+1+1+1 by omega,List.getElem?_cons_succ,List.getElem?_cons_succ,List.singleton_append,List.getElem?_cons_succ,Yd,hq];rfl
structure J8 (h:Heap) (g:Gl) (role:Int) (all:Sl) (mb:Nat) (A:List (Nat × Nat)) (l:List ((Nat × Nat) × Sl)):Prop where
 ra:RL h 2 all pC A
 mp:It.ok h (.mp mb (l.map fun q=>(pV q.1,eS q.2)))
 lk:∀q∈l,eI q.1
 ln:(l.map Prod.fst).Nodup
 mv:∀p∈A,∃r,aU l p=some r/\RL h 4 r aP.cs (bq g.es role p.1 p.2)
 nd:A.Nodup
 pr:∀p,p∈A ↔ dC g role p
theorem J8.ext{h h':Heap}{g:Gl}{role:Int}{all:Sl}{mb:Nat}{A:List (Nat × Nat)}{l:List ((Nat × Nat) × Sl)}(hM:J8 h g role all mb A l)(E:Ext h h'):J8 h' g role all mb A l:=
 ⟨hM.ra.ext E,hM.mp.bW fun b hb=>E.2 b (hM.mp.lt hb),hM.lk,hM.ln,fun p hp=>(hM.mv p hp).imp fun r hr=>⟨hr.1,hr.2.ext E⟩,hM.nd,hM.pr⟩
theorem Ip:cC Pz 92 97 2 16=true:=by kernel_rfl
theorem qq(b:Nat)(g:Gl)(role:Int)(ho:Sl)(os:Nat->Sl)(h:Heap)(hA:Kb h b g role ho os)(hV:af g):
  Fn Pz 50 #[.pointer (some ⟨b,0,none⟩)] h fun v h'=>Ext h h'/\∃(all:Sl) (mb:Nat) (A:List (Nat × Nat)) (l:List ((Nat × Nat) × Sl)),v=.tuple ⟨[.slice all.a all.n all.c,.map (some mb)]⟩/\J8 h' g role all mb A l:=by
 apply abH ⟨b,0,none⟩;unfold W50;have hN:=hV.num.n;have hM:=hV.num.m;have iA:((g.s.toNat:Nat):Int)=g.s:=Int.toNat_of_nonneg (by omega);have hnn:g.n.toNat*g.n.toNat<=200*200:=Nat.mul_le_mul (by omega) (by omega);refine⟨g.s,hA.at_.nth 4 rfl,g.s,hA.at_.nth 4 rfl,?_⟩;refine (St.refl h).aq fun h3 E3 hs=>⟨E3.sm,?_⟩;refine hs.put 0 rfl (o:=0) (vs:=[.int .i64 g.s,.int .i64 g.s]) rfl (bc 2) fun h4 hs=>?_;refine⟨g.s,g.s,hs.at 0 rfl (o:=0) (n:=2) rfl,?_⟩;refine hs.aj fun h7 hs=>?_;have hs:=hs.dG 1 2 ([(g.s.toNat,g.s.toNat)].map pC) (by unfold pC;simp only[gJ,List.map_nil,oC,List.flatten_nil,Yw];rw[iA]) (fun r hr=>by obtain⟨x,_,rfl⟩:=Yp.1 hr;rfl) rfl (by decide);refine hs.BD 93 fun cw E10 hs=>⟨some h7.size,rfl,?_⟩;refine⟨((g.s.toNat:Nat):Int),((g.s.toNat:Nat):Int),by rw[iA];exact hs.at 2 rfl (o:=0) (n:=2) rfl,?_⟩;refine hs.DV (cv:=eS) (l:=[]) yn 0 rfl (fun q hq=>by cases hq) .nil (a:=(g.s.toNat,g.s.toNat)) ⟨by simp only;omega,by simp only;omega⟩ ⟨none,0,0⟩ fun Fu hs=>?_;have hI:RI g role 0 0 [(g.s.toNat,g.s.toNat)] [] [((g.s.toNat,g.s.toNat),⟨none,0,0⟩)]:=
  ⟨rfl,fun k q hq=>(by simp at hq),fun p=>by simp,by simp,by simp,fun p hp=>by rw[Ye] at hp;rw[hp];exact .start,by simp,fun k p hk=>by omega⟩
 refine⟨fun all x h' m=>∃(i:Nat) (A:List (Nat × Nat)) (Q:List (Sl × List aP)) (l:List ((Nat × Nat) × Sl)),x=i/\m=g.n.toNat*g.n.toNat-i/\i<=A.length/\St h h' (yW all h7.size A Q l [.ae h.size [.int .i64 g.s,.int .i64 g.s] 97])/\RI g role i i A Q l,⟨_,0,_,[],_,rfl,rfl,Nat.zero_le _,hs.perm (List.Perm.swap _ _ _),hI⟩,?_⟩;clear hs hI;rintro-all _ h19 m ⟨i,A,Q,l,rfl,rfl,hi,hs,hI⟩;have lX:=hI.len hV;have Xe:=hs.len 0 (s:=all) (e:=97) (n:=2) (rows:=A.map pC) rfl (by omega);rw[Yc] at Xe;refine aM (fun c=>?_) (fun c=>?_)
 .refine (hs.rows 0 rfl (by omega)).aA (by omega) (by omega) fun b20 o21 p gp t=>?_;replace gp:A[i]?=some p:=gp;have Ec:=hI.pr p (Yb gp);have de:=Ec.lt hV;refine⟨((p.1:Nat):Int),((p.2:Nat):Int),t,?_⟩;refine (DW b g role ho os p.1 p.2 h19 (hA.ext hs.ext) hV de.1 de.2).mono ?_;rintro _ rX ⟨r,rfl,bD⟩;refine⟨r,rfl,?_⟩;replace hs:=hs.join bD;refine (hs.rows 0 (s:=all) (e:=97) (n:=2) (cs:=pC) (l:=A) rfl (by omega)).aA (by omega) (by omega) fun b27 o28 p' HL t'=>?_;replace HL:A[i]?=some p':=HL;rw[gp] at HL;cases HL;refine⟨((p.1:Nat):Int),((p.2:Nat):Int),t',?_⟩;refine hs.DV (cv:=eS) (l:=l) yn 1 rfl (hI.iO hV) hI.ln (a:=p) ⟨by omega,by omega⟩ r fun fP hs=>?_;have gH:=hI.FH gp r;have hs:St h fP (yW all h7.size A (Q++[(r,bq g.es role p.1 p.2)]) (cI l p r) [.ae h.size [.int .i64 g.s,.int .i64 g.s] 97]):=by
   refine hs.perm (List.Perm.of_eq ?_);unfold yW;rw[Ym];simp[nest]
  clear bD t t';have Fl:=fC (es:=g.es) (role:=role) (s:=p.1) (t:=p.2) hM;refine⟨fun all x h' m=>∃(j:Nat) (A':List (Nat × Nat)) (l':List ((Nat × Nat) × Sl)),x=j/\m=r.n-j/\j<=r.n/\A.length<=A'.length/\St h h' (yW all h7.size A' (Q++[(r,bq g.es role p.1 p.2)]) l' [.ae h.size [.int .i64 g.s,.int .i64 g.s] 97])/\Ext fP fP/\RI g role i (i+1) A' (Q++[(r,bq g.es role p.1 p.2)]) l'/\A'[i]?=some p/\∀m∈(bq g.es role p.1 p.2).take j,bj m∈A',⟨_,0,A,_,rfl,rfl,Nat.zero_le _,bc _,hs,⟨bc _,fun _ _=>rfl⟩,gH,gp,fun m hm=>by rw[my] at hm;cases hm⟩,?_⟩;clear hs gH;rintro-all2 _ oV m ⟨j,A',l',rfl,rfl,hj,hAA,hs,-,gH,gp2,eR⟩;have hgq:(Q++[(r,bq g.es role p.1 p.2)])[i]?=some (r,bq g.es role p.1 p.2):=by
   rw[tT (by rw[hI.qn];exact bc _),hI.qn,Nat.sub_self];rfl
  have Ea:Rw oV 4 r ((bq g.es role p.1 p.2).map aP.cs):=hs.rw (3+i) (A6 hgq) (by omega);have kc:=Ea.ln;have Xm:=gH.len hV;have adt:=hs.len 0 (s:=all2) (e:=97) (n:=2) (rows:=A'.map pC) rfl (by omega);rw[Yc] at adt;refine aM (fun c2=>?_) (fun c2=>?_)
  .refine Ea.aA (by omega) (by omega) fun b38 o39 mv gm t=>?_;replace gm:(bq g.es role p.1 p.2)[j]?=some mv:=gm;have mF:=Yb gm;have pL:=ie hV de mF;refine⟨mv.x,mv.y,mv.s,mv.t,t,?_⟩;refine hs.ao (vs:=mv.cs) rfl rfl fun kg hs=>?_;refine⟨((bj mv).1:Nat),((bj mv).2:Nat),by rw[pL.2.2.1,pL.2.2.2];exact hs.at 0 rfl (o:=2) (n:=2) rfl,?_⟩;refine hs.BE (cv:=eS) (l:=l') yn 2 rfl (gH.iO hV) gH.ln (a:=bj mv) ⟨by omega,by omega⟩ ?_;refine⟨(aU l' (bj mv)).getD ⟨none,0,0⟩,(aU l' (bj mv)).isSome,by cases aU l' (bj mv)<;>rfl,?_⟩;refine aa (fun c3=>?_) (fun c3=>?_)
   .have bK:bj mv∉A':=fun hm=>by
     have h9:=(cZ (bj mv) l').2 ((gH.ky _).2 hm);rw[h9] at c3;cases c3
    refine⟨((bj mv).1:Nat),((bj mv).2:Nat),by rw[pL.2.2.1,pL.2.2.2];exact hs.at 0 rfl (o:=2) (n:=2) rfl,?_⟩;refine hs.DV (cv:=eS) (l:=l') yn 2 rfl (gH.iO hV) gH.ln (a:=bj mv) ⟨by omega,by omega⟩ ⟨none,0,0⟩ fun Xr hs=>?_;refine⟨((bj mv).1:Nat),((bj mv).2:Nat),by rw[pL.2.2.1,pL.2.2.2];exact hs.at 0 rfl (o:=2) (n:=2) rfl,?_⟩;refine hs.app 1 rfl Ip (m:=1) [pC (bj mv)] rfl rfl (fun r hr=>by rw[Ye] at hr;rw[hr];rfl) rfl (by omega) (by simp only[maxLen];omega) fun JM Cb n58 hs=>?_;have hI3:=gH.new (by omega) bK (.step Ec mF) ⟨none,0,0⟩;refine⟨_,by omega,j+1,A'++[bj mv],_,by rw[a7 (by omega) (by omega)];omega,rfl,by omega,by rw[Yh];omega,?_,⟨bc _,fun _ _=>rfl⟩,hI3,by rw[jt (by omega)];exact gp2,fun m hm=>?_⟩
    .have hs:=hs.drop 1;unfold yW;rw[Ym (f:=pC)];exact hs
    .rw[ak gm,Yk,Ye] at hm;rcases hm with hm | rfl
     .exact List.mem_append_left _ (eR m hm)
     .simp
   .have cO:bj mv∈A':=(gH.ky _).1 ((cZ (bj mv) l').1 (bT c3));refine⟨_,by omega,j+1,A',l',by rw[a7 (by omega) (by omega)];omega,rfl,by omega,hAA,hs.drop 1,⟨bc _,fun _ _=>rfl⟩,gH,gp2,fun m hm=>?_⟩;rw[ak gm,Yk,Ye] at hm;rcases hm with hm | rfl
    .exact eR m hm
    .exact cO
  .rw[Yj (by omega)] at eR;refine⟨_,by omega,i+1,A',_,l',by rw[a7 (by omega) (by omega)];omega,rfl,by omega,hs,⟨gH.qn,gH.q,gH.ky,gH.ln,gH.nd,gH.pr,gH.st,fun k x hk hx m hm=>?_⟩⟩;by_cases PF:k=i
   .subst PF;rw[gp2] at hx;cases hx;exact eR m hm
   .exact gH.cl k x (by omega) hx m hm
 .refine⟨hs.ext,all,h7.size,A,l,rfl,RL.y6 hs 0 rfl (by omega) (by omega),hs.get (k:=1) rfl,hI.iO hV,hI.ln,fun p hp=>?_,hI.nd,fun p=>⟨hI.pr p,fun hp=>?_⟩⟩
  .obtain⟨k,hk⟩:=Yf.1 hp;have qT:=(Ya.1 hk).1;obtain⟨q,hq⟩:=get_some (l:=Q) (i:=k) (by rw[hI.qn];omega);obtain⟨p',h1,h2,h3⟩:=hI.q k q hq;rw[hk] at h1;cases h1;have Fl:=fC (es:=g.es) (role:=role) (s:=p.1) (t:=p.2) hM;refine⟨q.1,h2,?_⟩;rw[<-h3];exact RL.y6 hs (3+k) (A6 hq) (by omega) (by rw[h3];omega)
  .induction hp with
   | start=>exact hI.st
   | step _ hm ih=>
    obtain⟨k,hk⟩:=Yf.1 ih;exact hI.cl k _ (by have:=(Ya.1 hk).1;omega) hk _ hm
structure fT where
 e:Int
 n:Int
 m:Ms
def fT.cs(x:fT):List Value:=[.int .i64 x.e,.int .i64 x.n,.int .i64 x.m.p,.int .i64 x.m.l]
def Ms.ev(m:Ms):Ev:=⟨false,m.p,m.l⟩
def fj(K:List Ev)(b:Option fT)(x:fT):Option fT:=
 if x.m.ev∈K then (match b with | none=>some x | some y=>if x.n<y.n then some x else b) else b
def cU(K:List Ev)(L:List fT):Option fT:=L.foldl (fj K) none
def dd:fT:=⟨0,0,⟨0,0⟩⟩
def ArB(b:Option fT):Prop:=∀y,b=some y->0<y.n
structure An where
 ho:Sl
 os:Nat->Sl
 cn:Sl
 fi:List Fs
 cc:Sl
 li:List Lm
 bt:Sl
 ag:List Bool
 cj:Sl
 ow:List Bool
 cF:Sl
 ar:List (Sl × List fT)
structure vP (h:Heap) (b:Nat) (g:Gl) (role:Int) (X:An):Prop where
 gg:Kb h b g role X.ho X.os
 r:Tz h ⟨b,0,none⟩ role X.cn X.cc X.bt X.cj X.fi X.li X.ag X.ow
 a:hc h ⟨b,14,none⟩=some (.slice X.cF.a X.cF.n X.cF.c)
 ra:RL h 1 X.cF eD (X.ar.map Prod.fst)
 re:∀q∈X.ar,RL h 4 q.1 fT.cs q.2
 nf:X.fi.length=g.n.toNat
 nl:X.li.length=g.n.toNat
 na:X.ag.length=g.n.toNat
 nw:X.ow.length=g.n.toNat
 nr:X.ar.length=g.n.toNat
theorem vP.ext{h h':Heap}{b:Nat}{g:Gl}{role:Int}{X:An}(hA:vP h b g role X)(E:Ext h h'):vP h' b g role X:=
 ⟨hA.gg.ext E,hA.r.ext E,ax E hA.a,hA.ra.ext E,fun q hq=>(hA.re q hq).ext E,hA.nf,hA.nl,hA.na,hA.nw,hA.nr⟩
theorem rF(b:Nat)(g:Gl)(role:Int)(X:An)(s t:Nat)(fs:Fs)(q:Sl × List fT)(h:Heap)(hA:vP h b g role X)(gt:X.fi[t]?=some fs)(gq:X.ar[s]?=some q)(hq:∀x∈q.2,0<x.n):
  Fn Pz 152 #[.pointer (some ⟨b,0,none⟩),.agg ⟨[.int .i64 (s:Nat),.int .i64 (t:Nat)]⟩] h fun v h'=>Ext h h'/\v=.tuple ⟨[.agg ⟨((cU fs.l q.2).getD dd).cs⟩,.bool (cU fs.l q.2).isSome]⟩:=by
 apply U3 ⟨b,0,none⟩ (s:Nat) (t:Nat);unfold aal Jv;have n1:=hA.ra.ln;have n2:=hA.r.rf.ln;have ls:=(Ya.1 gq).1;have lt:=(Ya.1 gt).1;have uO:=hA.re q (Yb gq);have fO:=hA.r.re fs (Yb gt);have n3:=uO.ln;have m3:=uO.sm;rw[Yc] at n1;refine (St.refl h).aj fun h3 hs=>?_;refine hs.aj fun h4 hs=>?_;refine hs.aj fun h5 hs=>?_;refine⟨X.cF,(hA.ext hs.ext).a,(s:Nat),hs.rd 2 rfl (i:=0) rfl,?_⟩;refine (hA.ra.ext hs.ext).rw.aA (by omega) (by omega) fun b8 o9 d gd u=>?_;replace gd:(X.ar.map Prod.fst)[s]?=some d:=gd;rw[Yd,gq] at gd;cases gd;refine⟨q.1,u.hd,?_⟩;refine⟨fun x h' m=>∃(i:Nat) (o:Option fT),x=i/\m=q.1.n-i/\i<=q.1.n/\St h h' [.ae h4.size (o.getD dd).cs 276,.ae h3.size [.int .i64 0,.int .i64 0,.int .i64 0,.int .i64 0] 276,.ae h.size [.int .i64 (s:Nat),.int .i64 (t:Nat)] 97]/\o=(q.2.take i).foldl (fj fs.l) none/\ArB o,⟨_,0,none,rfl,rfl,by omega,hs,rfl,fun y hy=>by cases hy⟩,?_⟩;clear hs;rintro-_ rY m ⟨i,o,rfl,rfl,hi,hs,ho,hob⟩;have tc:∀ {hZ:Heap} {x:fT} {o':Option fT} (c:i<q.1.n) (gx:q.2[i]?=some x) (e:o'=fj fs.l o x),ArB o'->St h hZ [.ae h4.size (o'.getD dd).cs 276,.ae h3.size [.int .i64 0,.int .i64 0,.int .i64 0,.int .i64 0] 276,.ae h.size [.int .i64 (s:Nat),.int .i64 (t:Nat)] 97] ->
   ∃m,m<q.1.n-i/\∃(i':Nat) (o:Option fT),IntKind.wrap .i64 ((i:Int)+1)=i'/\m=q.1.n-i'/\i'<=q.1.n/\St h hZ [.ae h4.size (o.getD dd).cs 276,.ae h3.size [.int .i64 0,.int .i64 0,.int .i64 0,.int .i64 0] 276,.ae h.size [.int .i64 (s:Nat),.int .i64 (t:Nat)] 97]/\o=(q.2.take i').foldl (fj fs.l) none/\ArB o:=fun {hZ x o'} c gx e hb hs=>by
  refine⟨_,?_,i+1,o',by rw[a7 (by omega) (by omega)];omega,rfl,by omega,hs,?_,hb⟩
  .omega
  .rw[ak gx,List.foldl_append,<-ho,e];rfl
 refine aM (fun c=>?_) (fun c=>?_)
 .refine (uO.ext hs.ext).rw.aA (by omega) (by omega) fun b16 o17 x gx u2=>?_;replace gx:q.2[i]?=some x:=gx;have jG:=hq x (Yb gx);refine⟨x.e,x.n,x.m.p,x.m.l,u2,?_⟩;refine hs.ao (vs:=x.cs) rfl rfl fun uW hs=>?_;refine⟨X.cn,(hA.ext hs.ext).r.f,(t:Nat),hs.rd 3 rfl (i:=1) rfl,?_⟩;refine (hA.r.rf.ext hs.ext).rw.aA (by omega) (by omega) fun b26 o27 f gf u3=>?_;replace gf:X.fi[t]?=some f:=gf;rw[gt] at gf;cases gf;refine⟨fs.s,fs.b,u3,x.m.p,hs.rd 0 rfl (i:=2) rfl,x.m.l,hs.rd 0 rfl (i:=3) rfl,?_⟩;refine (B8 fs.l fs.b x.m.ev fs.s uW (fO.ext hs.ext).rw fO.sm).mono ?_;rintro _ oq ⟨⟨b2,rfl,jH⟩,E⟩;replace hs:=hs.step E;refine⟨b2,rfl,aa (fun c2=>?_) (fun c2=>?_)⟩
  .have cO:x.m.ev∈fs.l:=jH.1 c2;cases o with
   | none=>
    refine⟨0,hs.rd 1 rfl (i:=1) rfl,ql rfl ?_⟩;refine⟨x.e,x.n,x.m.p,x.m.l,hs.at 0 rfl (o:=0) (n:=4) rfl,?_⟩;refine hs.put 1 rfl (o:=0) (vs:=x.cs) rfl (bc 4) fun sC hs=>?_;exact tc (by omega) gx (o':=some x) (by unfold fj;rw[if_pos cO]) (fun y hy=>by cases hy;exact jG) (hs.drop 1)
   | some y=>
    have hy0:=hob y rfl;refine⟨y.n,hs.rd 1 rfl (i:=1) rfl,dw (fun e=>by omega) (fun _=>?_)⟩;refine⟨x.n,hs.rd 0 rfl (i:=1) rfl,y.n,hs.rd 1 rfl (i:=1) rfl,aM (fun c3=>?_) (fun c3=>?_)⟩
    .refine⟨x.e,x.n,x.m.p,x.m.l,hs.at 0 rfl (o:=0) (n:=4) rfl,?_⟩;refine hs.put 1 rfl (o:=0) (vs:=x.cs) rfl (bc 4) fun sC hs=>?_;exact tc (by omega) gx (o':=some x) (by unfold fj;rw[if_pos cO];simp only;rw[if_pos c3]) (fun y hy=>by cases hy;exact jG) (hs.drop 1)
    .exact tc (by omega) gx (o':=some y) (by unfold fj;rw[if_pos cO];simp only;rw[if_neg c3]) hob (hs.drop 1)
  .have bK:x.m.ev∉fs.l:=fun hm=>by rw[jH.2 hm] at c2;cases c2
   exact tc (by omega) gx (o':=o) (by unfold fj;rw[if_neg bK]) hob (hs.drop 1)
 .rw[Yj (by omega)] at ho;have hoF:o=cU fs.l q.2:=ho;refine⟨(o.getD dd).e,(o.getD dd).n,(o.getD dd).m.p,(o.getD dd).m.l,hs.at 0 rfl (o:=0) (n:=4) rfl,(o.getD dd).n,hs.rd 0 rfl (i:=1) rfl,?_⟩;have LQ:=hs.get (k:=0) rfl;refine hs.put 1 rfl (o:=0) (vs:=(o.getD dd).cs) rfl (bc 4) fun uT bD=>⟨?_,?_⟩
  .exact fV (hs.same bD 0 0 rfl rfl) kv
  .refine⟨(o.getD dd).e,(o.getD dd).n,(o.getD dd).m.p,(o.getD dd).m.l,bD.at 1 rfl (o:=0) (n:=4) rfl,bD.ext,?_⟩;rw[<-hoF];have:decide ((o.getD dd).n>0)=o.isSome:=by
    cases o with
    | none=>rfl
    | some y=>exact decide_eq_true (hob y rfl)
   rw[this];rfl
noncomputable def ff(X:An)(kind:Int)(p:Nat × Nat):Option Int:=by
 classical exact if kind=1 then (match X.fi[p.1]?,X.fi[p.2]? with | some fs,some ft=>if (fs.l.find? (dA ft.l)).isSome then some 0 else none | _,_=>none)
 else if kind=3 then (if MU X.li X.ag X.ow p.1 p.2 then some 0 else none)
 else (match X.fi[p.2]?,X.ar[p.1]? with | some ft,some q=>(cU ft.l q.2).map (·.n) | _,_=>none)
theorem xR(b:Nat)(g:Gl)(role:Int)(X:An)(kind:Int)(p:Nat × Nat)(h:Heap)(hA:vP h b g role X)(hp:(p.1:Int)<g.n/\(p.2:Int)<g.n)(hq:∀q∈X.ar,∀x∈q.2,0<x.n):
  Fn Pz 166 #[.pointer (some ⟨b,0,none⟩),.int .i64 kind,.agg ⟨pC p⟩] h fun v h'=>Ext h h'/\v=.tuple ⟨[.int .i64 ((ff X kind p).getD 0),.bool (ff X kind p).isSome]⟩:=by
 apply UR ⟨b,0,none⟩ kind (p.1:Nat) (p.2:Nat);unfold aac;obtain⟨fs,gs⟩:=get_some (l:=X.fi) (i:=p.1) (by rw[hA.nf];omega);obtain⟨ft,gt⟩:=get_some (l:=X.fi) (i:=p.2) (by rw[hA.nf];omega);obtain⟨q,gq⟩:=get_some (l:=X.ar) (i:=p.1) (by rw[hA.nr];omega);refine (St.refl h).aj fun h3 hs=>?_;refine dw (fun c=>?_) (fun c=>dw (fun c2=>?_) (fun c2=>?_))
 .refine⟨(p.1:Nat),(p.2:Nat),hs.at 0 rfl (o:=0) (n:=2) rfl,?_⟩;refine (ru ⟨b,0,none⟩ role X.cn X.cc X.bt X.cj X.fi X.li X.ag X.ow p.1 p.2 fs ft h3 (hA.ext hs.ext).r gs gt).mono ?_;rintro _ iT ⟨E,rfl⟩;replace hs:=hs.step E;have hc:ff X kind p=if (fs.l.find? (dA ft.l)).isSome then some 0 else none:=by unfold ff;rw[if_pos c,gs,gt]
  cases hf:fs.l.find? (dA ft.l) with
  | some x=>
   refine⟨x.send,x.peer,x.label,true,rfl,?_⟩;refine hs.ao (vs:=x.cs) rfl rfl fun Fu hs=>⟨hs.ext,?_⟩;rw[hc,hf];rfl
  | none=>
   refine⟨false,0,0,false,rfl,?_⟩;refine hs.ao (vs:=[.bool false,.int .i64 0,.int .i64 0]) rfl rfl fun Fu hs=>⟨hs.ext,?_⟩;rw[hc,hf];rfl
 .refine⟨(p.1:Nat),(p.2:Nat),hs.at 0 rfl (o:=0) (n:=2) rfl,?_⟩;refine (ED ⟨b,0,none⟩ role X.cn X.cc X.bt X.cj X.fi X.li X.ag X.ow p.1 p.2 h3 (hA.ext hs.ext).r (by rw[hA.nw];omega) (by rw[hA.nl];omega) (by rw[hA.na];omega)).mono ?_;rintro _ fR ⟨⟨b2,rfl,jH⟩,E⟩;refine⟨b2,rfl,(hs.step E).ext,?_⟩;unfold ff;rw[if_neg c,if_pos c2];by_cases hC:MU X.li X.ag X.ow p.1 p.2
  .rw[if_pos hC,jH.2 hC];rfl
  .have:b2=false:=by
    cases b2
    .rfl
    .exact absurd (jH.1 rfl) hC
   rw[if_neg hC,this];rfl
 .refine⟨(p.1:Nat),(p.2:Nat),hs.at 0 rfl (o:=0) (n:=2) rfl,?_⟩;refine (rF b g role X p.1 p.2 ft q h3 (hA.ext hs.ext) gt gq (hq q (Yb gq))).mono ?_;rintro _ zW ⟨E,rfl⟩;replace hs:=hs.step E;refine⟨_,_,_,_,_,rfl,?_⟩;refine hs.ao (vs:=((cU ft.l q.2).getD dd).cs) rfl rfl fun Qi hs=>?_;refine⟨((cU ft.l q.2).getD dd).n,hs.rd 0 rfl (i:=1) rfl,hs.ext,?_⟩;unfold ff;rw[if_neg c,if_neg c2,gt,gq];simp only;cases cU ft.l q.2<;>rfl
abbrev Pr:=Nat × Nat
def oM(B:List (List Pr))(m:Nat):List (List Pr):=B++List.replicate (m-B.length) []
def gM(B:List (List Pr))(n:Nat)(p:Pr):List (List Pr):=(oM B (n+1)).set n ((oM B (n+1)).getD n []++[p])
def ja(O:List (Pr × Nat))(p:Pr)(n:Nat):Bool:=match aU O p with | some k=>decide (k<=n) | none=>false
def ss(cb ob bb:Nat)(bk:Sl)(O:List (Pr × Nat))(BS:List (Sl × List Pr))(R:List It):List It:=
 [.ae cb [.map (some ob)] 293,.mp ob (O.map fun q=>(pV q.1,oS q.2)),.ae bb [.slice bk.a bk.n bk.c] 350,.sl bk 92 1 ((BS.map Prod.fst).map eD)]++BS.map (nest 97 2 pC)++R
theorem Rx:cC Pz 350 92 1 24=true:=by kernel_rfl
theorem wz{h0 h cw:Heap}{cb ob bb:Nat}{bk:Sl}{O:List (Pr × Nat)}{BS:List (Sl × List Pr)}{R:List It}{p:Pr}{n:Nat}{K:Value->Heap->Prop}
  (hs:St h0 cw (.ae h.size (pC p) 97::ss cb ob bb bk O BS R)) (hO:∀q∈O,eI q.1) (Xj:(O.map Prod.fst).Nodup) (hp:eI p) (hn:n<=16777216) (hB:BS.length<=16777216) (yH:∀q∈BS,q.2.length<=1048576)
  (hK:∀(pQ:Sl) (j6:List (Sl × List Pr)) (h':Heap),St h0 h' (ss cb ob bb pQ (cI O p n) j6 R)->j6.map Prod.snd=gM (BS.map Prod.snd) n p->K (.tuple ⟨[]⟩) h') :
  CY cw ⟨cb,0,none⟩ h (n:Nat) ⟨bb,0,none⟩ K:=by
 unfold CY;refine⟨some ob,hs.rd 1 rfl (i:=0) rfl,(p.1:Nat),(p.2:Nat),hs.at 0 rfl (o:=0) (n:=2) rfl,?_⟩;refine hs.DV (cv:=oS) (l:=O) JA 2 rfl hO Xj (a:=p) hp n fun Cc hs=>?_;refine⟨fun h' m=>∃(pQ:Sl) (j6:List (Sl × List Pr)) (k:Nat),m=n+1-j6.length/\St h0 h' (.ae h.size (pC p) 97::ss cb ob bb pQ (cI O p n) j6 R)/\j6.map Prod.snd=BS.map Prod.snd++List.replicate k []/\(k=0\/j6.length<=n+1),⟨_,bk,BS,0,rfl,hs,by simp,.inl rfl⟩,?_⟩;clear hs;rintro-fR m ⟨pQ,j6,k,rfl,hs,hBS,hk⟩;have yF:j6.length=BS.length+k:=by have:=congrArg List.length hBS;simpa using this
 have PY:=hs.len 4 (s:=pQ) (e:=92) (n:=1) (rows:=(j6.map Prod.fst).map eD) rfl (by omega);rw[Yc,Yc] at PY;refine⟨pQ,hs.rd 3 rfl (i:=0) rfl,aM (fun c=>?_) (fun c=>?_)⟩
 .refine⟨pQ,hs.rd 3 rfl (i:=0) rfl,?_⟩;refine hs.app 4 rfl Rx (m:=1) [eD ⟨none,0,0⟩] rfl rfl (fun r hr=>by rw[Ye] at hr;rw[hr];rfl) rfl (by omega) (by simp only[maxLen];omega) fun No uW n22 hs=>?_;refine hs.put 3 rfl (o:=0) (vs:=[.slice No.a No.n No.c]) rfl (bc 1) fun qW hs=>?_;have hs:=hs.bH 97 2;refine⟨_,?_,No,j6++[(⟨none,0,0⟩,[])],k+1,rfl,hs.perm ?_,by rw[Ym,hBS,Yz,List.replicate_succ'];rfl,?_⟩
  .rw[Yh,Yv];omega
  .unfold ss;rw[Ym (f:=nest 97 2 pC),Ym (f:=Prod.fst),Ym (f:=eD)];have:(j6.map (nest 97 2 pC)++[(⟨none,0,0⟩,[])].map (nest 97 2 pC):List It)=j6.map (nest 97 2 pC)++[.sl ⟨none,0,0⟩ 97 2 []]:=rfl;rw[this];refine List.Perm.trans (l₂:=(.ae h.size (pC p) 97::[.ae cb [.map (some ob)] 293,.mp ob ((cI O p n).map fun q=>(pV q.1,oS q.2)),.ae bb [.slice No.a No.n No.c] 350,.sl No 92 1 ((j6.map Prod.fst).map eD++[eD ⟨none,0,0⟩])]++j6.map (nest 97 2 pC)) ++ .sl ⟨none,0,0⟩ 97 2 []::R) ?_ (List.Perm.of_eq (by simp[eD]));refine List.Perm.trans ?_ List.perm_middle.symm;exact List.Perm.of_eq (by simp[aG])
  .right
   rw[Yh,Yv];omega
 .have zQ:n<j6.length:=by omega
  obtain⟨q,hq⟩:=get_some zQ;have acS:oM (BS.map Prod.snd) (n+1)=j6.map Prod.snd:=by
   unfold oM;rw[hBS,Yc];congr 2;omega
  have uO:q.2.length<=1048576:=by
   have h1:(j6.map Prod.snd)[n]?=some q.2:=by rw[Yd,hq];rfl
   rw[hBS] at h1;rcases Nat.lt_or_ge n BS.length with h9 | h9
   .rw[jt (by rw[Yc];exact h9),Yd] at h1;obtain⟨q2,h2,h3⟩:=sL.1 h1;rw[<-h3];exact yH q2 (Yb h2)
   .rw[tT (by rw[Yc];exact h9)] at h1;have:=List.eq_of_mem_replicate (Yb h1);rw[this];exact Nat.zero_le _
  refine⟨pQ,hs.rd 3 rfl (i:=0) rfl,pQ,hs.rd 3 rfl (i:=0) rfl,?_⟩;refine (hs.rows 4 rfl (by omega)).aA (by omega) (by omega) fun b28 o29 d gd u=>?_;replace gd:(j6.map Prod.fst)[n]?=some d:=gd;rw[Yd,hq] at gd;cases gd;refine⟨q.1,u.hd,(p.1:Nat),(p.2:Nat),hs.at 0 rfl (o:=0) (n:=2) rfl,?_⟩;refine hs.aq fun N3 E33 hs=>⟨E33.sm,?_⟩;have dx:St h0 N3 ((.ae fR.size (pC p) 97 :: .ae h.size (pC p) 97::[.ae cb [.map (some ob)] 293,.mp ob ((cI O p n).map fun q=>(pV q.1,oS q.2)),.ae bb [.slice pQ.a pQ.n pQ.c] 350,.sl pQ 92 1 ((j6.map Prod.fst).map eD)])++j6.map (nest 97 2 pC)++R):=hs;have nz:=(dx.kF hq (by omega)).ln;refine dx.nj hq Ip p (dx.at 0 rfl (o:=0) (n:=2) rfl) rfl rfl (by omega) (by simp only[maxLen];omega) fun r bL rn bD=>⟨?_,?_⟩
  .exact fV (dx.same bD 4 4 rfl rfl) kv
  .refine bD.set 5 rfl (by omega) (x:=(n:Nat)) (by omega) (by omega) r rfl rfl (fun b36 o37 sD fN=>?_) rfl;refine hK pQ (j6.set n (r,q.2++[p])) sD ?_ ?_
   .have:=fN.drop 2;unfold ss;rw[List.map_set (f:=Prod.fst)];exact this
   .unfold gM;rw[acS,List.map_set,Yo,Yd,hq];rfl
theorem Gd(h0 h:Heap)(cb ob bb:Nat)(bk:Sl)(O:List (Pr × Nat))(BS:List (Sl × List Pr))(R:List It)(p:Pr)(n:Nat)(hs:St h0 h (ss cb ob bb bk O BS R))(hO:∀q∈O,eI q.1)(Xj:(O.map Prod.fst).Nodup)(hp:eI p)(hn:n<=16777216)(hB:BS.length<=16777216)(yH:∀q∈BS,q.2.length<=1048576):
  Fn Pz 226 #[.agg ⟨pC p⟩,.int .i64 (n:Nat),.pointer (some ⟨cb,0,none⟩),.pointer (some ⟨bb,0,none⟩)] h fun v h'=>v=.tuple ⟨[]⟩/\∃(pQ:Sl) (j6:List (Sl × List Pr)),St h0 h' (ss cb ob bb pQ (if ja O p n then O else cI O p n) j6 R)/\j6.map Prod.snd=if ja O p n then BS.map Prod.snd else gM (BS.map Prod.snd) n p:=by
 apply Uj (p.1:Nat) (p.2:Nat) (n:Nat) ⟨cb,0,none⟩ ⟨bb,0,none⟩;unfold ZE;refine hs.aj fun h3 hs=>?_;refine⟨some ob,hs.rd 1 rfl (i:=0) rfl,(p.1:Nat),(p.2:Nat),hs.at 0 rfl (o:=0) (n:=2) rfl,?_⟩;refine hs.BE (cv:=oS) (l:=O) JA 2 rfl hO Xj (a:=p) hp ?_;cases hm:aU O p with
 | none=>
  refine⟨0,false,rfl,gZ rfl ?_⟩;have hr:ja O p n=false:=by unfold ja;rw[hm]
  refine wz hs hO Xj hp hn hB yH fun pQ j6 h' bI hb=>⟨rfl,pQ,j6,?_,?_⟩
  .rw[hr];exact bI
  .rw[hr];exact hb
 | some k=>
  refine⟨(k:Nat),true,rfl,ql rfl ?_⟩;refine aM (fun c=>?_) (fun c=>?_)
  .have hr:ja O p n=true:=by unfold ja;rw[hm];exact decide_eq_true (by omega)
   refine⟨rfl,bk,BS,?_,?_⟩
   .rw[hr];exact hs.drop 1
   .rw[hr];rfl
  .have hr:ja O p n=false:=by unfold ja;rw[hm];exact decide_eq_false (by omega)
   refine wz hs hO Xj hp hn hB yH fun pQ j6 h' bI hb=>⟨rfl,pQ,j6,?_,?_⟩
   .rw[hr];exact bI
   .rw[hr];exact hb
end Go.VC
end

section
namespace Go.VC
def bO(m:aP):Nat:=if 0<=m.x/\0<=m.y then 2 else 1
theorem bM(m:aP):1<=bO m/\bO m<=2:=by unfold bO;split<;>omega
inductive Dn (mv:Pr->List aP) (bu:Pr->Option Nat):Pr->Nat->Prop where
 | base {p:Pr} {c:Nat}:bu p=some c->Dn mv bu p c
 | step {p:Pr} {m:aP} {n:Nat}:m∈mv p->Dn mv bu (bj m) n->Dn mv bu p (n+bO m)
def iR(mv:Pr->List aP)(bu:Pr->Option Nat)(p:Pr)(n:Nat):Prop:=Dn mv bu p n/\∀k,Dn mv bu p k->n<=k
theorem qx{B:List (List Pr)}{m n:Nat}{l:List Pr}(h:(oM B n)[m]?=some l):B[m]?=some l\/l=[]:=by
 unfold oM at h;rcases Nat.lt_or_ge m B.length with h1 | h1
 .rw[jt h1] at h;exact .inl h
 .rw[tT h1] at h;exact .inr (List.eq_of_mem_replicate (Yb h))
theorem wG{B:List (List Pr)}{m n:Nat}{l:List Pr}(h:B[m]?=some l):(oM B n)[m]?=some l:=by
 unfold oM;rw[jt (Ya.1 h).1];exact h
theorem wH(B:List (List Pr))(n:Nat):(oM B n).length=max B.length n:=by
 unfold oM;rw[Yh,Yg];omega
theorem DA(B:List (List Pr))(n:Nat)(p:Pr):(gM B n p).length=max B.length (n+1):=by
 unfold gM;rw[jR,wH]
theorem lF(B:List (List Pr))(n:Nat)(p:Pr):∃l0,(B[n]?=some l0\/l0=[])/\(oM B (n+1))[n]?=some l0/\(gM B n p)[n]?=some (l0++[p]):=by
 have hl:n<(oM B (n+1)).length:=by rw[wH];omega
 obtain⟨l0,h0⟩:=get_some hl;refine⟨l0,qx h0,h0,?_⟩;unfold gM;rw[Yq hl,Yo,h0];rfl
theorem Ge{B:List (List Pr)}{n m:Nat}{p x:Pr}{l:List Pr}(h:(gM B n p)[m]?=some l)(hx:x∈l):(∃l0,B[m]?=some l0/\x∈l0)\/(m=n/\x=p):=by
 by_cases e:n=m
 .subst e;obtain⟨l0,h1,_,h2⟩:=lF B n p;rw[h2] at h;cases h;rcases Yk.1 hx with hx | hx
  .rcases h1 with h1 | h1
   .exact .inl ⟨l0,h1,hx⟩
   .subst h1;cases hx
  .exact .inr ⟨rfl,by simpa using hx⟩
 .unfold gM at h;rw[Yy e] at h;rcases qx h with h1 | h1
  .exact .inl ⟨l,h1,hx⟩
  .subst h1;cases hx
theorem sX{B:List (List Pr)}{n m:Nat}{p:Pr}{l0:List Pr}(h:B[m]?=some l0):∃l,(gM B n p)[m]?=some l/\(l=l0\/(m=n/\l=l0++[p])):=by
 by_cases e:n=m
 .subst e;obtain⟨l1,_,h1,h2⟩:=lF B n p;rw[wG h] at h1;cases h1;exact⟨_,h2,.inr ⟨rfl,rfl⟩⟩
 .refine⟨l0,?_,.inl rfl⟩;unfold gM;rw[Yy e];exact wG h
structure OB (A:List Pr) (mv:Pr->List aP) (bu:Pr->Option Nat) (O:List (Pr × Nat)) (B:List (List Pr)):Prop where
 on:(O.map Prod.fst).Nodup
 oa:∀q∈O,q.1∈A
 d:∀p n,aU O p=some n->Dn mv bu p n
 b1:∀(n:Nat) (l:List Pr),B[n]?=some l->∀p∈l,p∈A/\∃k,k<=n/\aU O p=some k
 b2:∀p n,aU O p=some n->∃l,B[n]?=some l/\p∈l
 nd:∀(n:Nat) (l:List Pr),B[n]?=some l->l.Nodup
def mZ(O:List (Pr × Nat))(p:Pr)(n:Nat):List (Pr × Nat):=if ja O p n then O else cI O p n
def sj(O:List (Pr × Nat))(B:List (List Pr))(p:Pr)(n:Nat):List (List Pr):=if ja O p n then B else gM B n p
theorem A5{O:List (Pr × Nat)}{p:Pr}{n:Nat}:ja O p n=true ↔ ∃k,k<=n/\aU O p=some k:=by
 unfold ja;cases h:aU O p with
 | none=>simp
 | some k=>simp
theorem OB.put{A:List Pr}{mv:Pr->List aP}{bu:Pr->Option Nat}{O:List (Pr × Nat)}{B:List (List Pr)}(h:OB A mv bu O B){p:Pr}{n:Nat}(hp:p∈A)(hd:Dn mv bu p n):OB A mv bu (mZ O p n) (sj O B p n):=by
 unfold mZ sj;by_cases hr:ja O p n=true
 .rw[if_pos hr,if_pos hr];exact h
 .rw[if_neg hr,if_neg hr];have bK:¬∃k,k<=n/\aU O p=some k:=fun h9=>hr (A5.2 h9);refine⟨fB _ _ _ h.on,fun q hq=>?_,fun x m hx=>?_,fun m l hl x hx=>?_,fun x m hx=>?_,fun m l hl=>?_⟩
  .have:=(fm p n O q.1).1 (Yp.2 ⟨q,hq,rfl⟩);rcases this with h1 | h1
   .obtain⟨q2,h2,h3⟩:=Yp.1 h1;rw[<-h3];exact h.oa q2 h2
   .rw[h1];exact hp
  .rw[cY] at hx;split at hx
   .rename_i e;cases hx;rw[e];exact hd
   .exact h.d x m hx
  .rw[cY];rcases Ge hl hx with ⟨l0,h1,h2⟩ | ⟨h1,h2⟩
   .obtain⟨h3,k,h4,h5⟩:=h.b1 m l0 h1 x h2;refine⟨h3,?_⟩;by_cases e:x=p
    .refine⟨n,?_,by rw[if_pos e]⟩;subst e;rcases Nat.lt_or_ge n k with h6 | h6
     .omega
     .exact absurd ⟨k,h6,h5⟩ bK
    .exact⟨k,h4,by rw[if_neg e];exact h5⟩
   .subst h2;exact⟨hp,n,by omega,by rw[if_pos rfl]⟩
  .rw[cY] at hx;split at hx
   .rename_i e;cases hx;subst e;obtain⟨l0,_,_,h2⟩:=lF B n x;exact⟨_,h2,by simp⟩
   .obtain⟨l0,h1,h2⟩:=h.b2 x m hx;obtain⟨l,h3,h4⟩:=sX (n:=n) (p:=p) h1;refine⟨l,h3,?_⟩;rcases h4 with rfl | ⟨_,rfl⟩
    .exact h2
    .exact List.mem_append_left _ h2
  .by_cases e:n=m
   .subst e;obtain⟨l0,h1,_,h2⟩:=lF B n p;rw[h2] at hl;cases hl;rw[List.nodup_append];refine⟨?_,by simp,fun a ha b hb e=>?_⟩
    .rcases h1 with h1 | h1
     .exact h.nd n l0 h1
     .subst h1;exact .nil
    .rw[Ye] at hb;subst hb;subst e;rcases h1 with h1 | h1
     .obtain⟨_,k,h4,h5⟩:=h.b1 n l0 h1 a ha;exact bK ⟨k,h4,h5⟩
     .subst h1;cases ha
   .unfold gM at hl;rw[Yy e] at hl;rcases qx hl with h1 | h1
    .exact h.nd m l h1
    .subst h1;exact .nil
theorem po{O:List (Pr × Nat)}{p x:Pr}{n k:Nat}(h:aU O x=some k):∃k',k'<=k/\aU (mZ O p n) x=some k':=by
 unfold mZ;by_cases hr:ja O p n=true
 .rw[if_pos hr];exact⟨k,bc _,h⟩
 .rw[if_neg hr,cY];by_cases e:x=p
  .refine⟨n,?_,by rw[if_pos e]⟩;subst e;rcases Nat.lt_or_ge n k with h6 | h6
   .omega
   .exact absurd (A5.2 ⟨k,h6,h⟩) hr
  .exact⟨k,bc _,by rw[if_neg e];exact h⟩
theorem A8(O:List (Pr × Nat))(p:Pr)(n:Nat):∃k',k'<=n/\aU (mZ O p n) p=some k':=by
 unfold mZ;by_cases hr:ja O p n=true
 .rw[if_pos hr];exact A5.1 hr
 .rw[if_neg hr,cY,if_pos rfl];exact⟨n,bc _,rfl⟩
theorem wA{O:List (Pr × Nat)}{p x:Pr}{n k:Nat}(h:aU O x=some k)(hk:k<=n):aU (mZ O p n) x=some k:=by
 unfold mZ;by_cases hr:ja O p n=true
 .rw[if_pos hr];exact h
 .rw[if_neg hr,cY,if_neg (fun e=>hr (A5.2 ⟨k,hk,by rw[<-e];exact h⟩))];exact h
theorem Gc{O:List (Pr × Nat)}{p x:Pr}{n k:Nat}(h:aU (mZ O p n) x=some k):aU O x=some k\/(x=p/\k=n):=by
 unfold mZ at h;by_cases hr:ja O p n=true
 .rw[if_pos hr] at h;exact .inl h
 .rw[if_neg hr,cY] at h;split at h
  .rename_i e;cases h;exact .inr ⟨e,rfl⟩
  .exact .inl h
theorem wD(O:List (Pr × Nat))(B:List (List Pr))(p:Pr)(n:Nat):(sj O B p n).length<=max B.length (n+1):=by
 unfold sj;split
 .omega
 .rw[DA];exact bc _
theorem sW{O:List (Pr × Nat)}{B:List (List Pr)}{p:Pr}{n m:Nat}{l:List Pr}(h:B[m]?=some l)(hm:m≠n):(sj O B p n)[m]?=some l:=by
 unfold sj;split
 .exact h
 .obtain⟨l',h1,h2⟩:=sX (n:=n) (p:=p) h;rcases h2 with rfl | ⟨h2,_⟩
  .exact h1
  .exact absurd h2 hm
structure yp (A:List Pr) (mv:Pr->List aP) (bu:Pr->Option Nat) (C n i:Nat) (Z:List Pr) (O:List (Pr × Nat)) (B:List (List Pr)):Prop where
 ob:OB A mv bu O B
 c:∀p∈A,∀c,bu p=some c->∃k,k<=c/\aU O p=some k
 zn:Z.Nodup
 za:∀p∈Z,p∈A
 f:∀p∈Z,∃k,aU O p=some k/\(k<n\/(k=n/\∃l,B[n]?=some l/\p∈l.take i))/\∀q∈A,∀m∈mv q,bj m=p->∃k',k'<=k+bO m/\aU O q=some k'
 g:∀p k,aU O p=some k->(k<n\/(k=n/\∃l,B[n]?=some l/\p∈l.take i))->p∈Z
 ln:B.length<=C+2*Z.length
theorem yp.start{A:List Pr}{mv:Pr->List aP}{bu:Pr->Option Nat}{C:Nat}{O:List (Pr × Nat)}{B:List (List Pr)}(h:OB A mv bu O B)(hc:∀p∈A,∀c,bu p=some c->∃k,k<=c/\aU O p=some k)(hl:B.length<=C):yp A mv bu C 0 0 [] O B:=
 ⟨h,hc,.nil,fun p hp=>(by cases hp),fun p hp=>(by cases hp),fun p k _ hk=>(by rcases hk with hk | ⟨_,l,_,hk⟩;omega;simp at hk),by simpa using hl⟩
theorem yp.next{A:List Pr}{mv:Pr->List aP}{bu:Pr->Option Nat}{C n i:Nat}{Z:List Pr}{O:List (Pr × Nat)}{B:List (List Pr)}(h:yp A mv bu C n i Z O B){l:List Pr}(hl:B[n]?=some l)(hi:l.length<=i):yp A mv bu C (n+1) 0 Z O B:=by
 refine⟨h.ob,h.c,h.zn,h.za,fun p hp=>?_,fun p k hk h1=>?_,h.ln⟩
 .obtain⟨k,h1,h2,h3⟩:=h.f p hp;exact⟨k,h1,.inl (by omega),h3⟩
 .refine h.g p k hk ?_;rcases h1 with h1 | ⟨_,l',_,h1⟩
  .by_cases e:k<n
   .exact .inl e
   .obtain rfl:k=n:=by omega
    obtain⟨l2,h4,h5⟩:=h.ob.b2 p k hk;rw[hl] at h4;cases h4;exact .inr ⟨rfl,l,hl,by rw[Yj hi];exact h5⟩
  .simp at h1
theorem yp.skip{A:List Pr}{mv:Pr->List aP}{bu:Pr->Option Nat}{C n i:Nat}{Z:List Pr}{O:List (Pr × Nat)}{B:List (List Pr)}(h:yp A mv bu C n i Z O B){l:List Pr}(hl:B[n]?=some l){p:Pr}(hp:l[i]?=some p)(bE:aU O p≠some n):yp A mv bu C n (i+1) Z O B:=by
 refine⟨h.ob,h.c,h.zn,h.za,fun q hq=>?_,fun q k hk h1=>?_,h.ln⟩
 .obtain⟨k,h1,h2,h3⟩:=h.f q hq;refine⟨k,h1,h2.imp_right fun ⟨h4,l',h5,h6⟩=>⟨h4,l',h5,?_⟩,h3⟩;rw[hl] at h5;cases h5;rw[ak hp];exact List.mem_append_left _ h6
 .refine h.g q k hk (h1.imp_right fun ⟨h4,l',h5,h6⟩=>⟨h4,l',h5,?_⟩);rw[hl] at h5;cases h5;rw[ak hp,Yk,Ye] at h6;rcases h6 with h6 | rfl
  .exact h6
  .exact absurd (h4 ▸ hk) bE
structure Sr (A:List Pr) (mv:Pr->List aP) (bu:Pr->Option Nat) (C n i:Nat) (Z:List Pr) (p:Pr) (rec:List aP) (j:Nat) (O:List (Pr × Nat)) (B:List (List Pr)):Prop where
 ob:OB A mv bu O B
 c:∀p∈A,∀c,bu p=some c->∃k,k<=c/\aU O p=some k
 f:∀q∈Z,∃k,aU O q=some k/\(k<n\/(k=n/\∃l,B[n]?=some l/\q∈l.take i))/\∀q'∈A,∀m∈mv q',bj m=q->∃k',k'<=k+bO m/\aU O q'=some k'
 g:∀q k,aU O q=some k->(k<n\/(k=n/\∃l,B[n]?=some l/\q∈l.take i))->q∈Z
 pn:aU O p=some n
 bn:∃l,B[n]?=some l/\l[i]?=some p
 r:∀m∈rec.take j,∃k',k'<=n+bO m/\aU O (bj m)=some k'
 ln:B.length<=C+2*(Z.length+1)
theorem yp.take{A:List Pr}{mv:Pr->List aP}{bu:Pr->Option Nat}{C n i:Nat}{Z:List Pr}{O:List (Pr × Nat)}{B:List (List Pr)}(h:yp A mv bu C n i Z O B){l:List Pr}(hl:B[n]?=some l){p:Pr}(hp:l[i]?=some p)(he:aU O p=some n)(rec:List aP):Sr A mv bu C n i Z p rec 0 O B:=
 ⟨h.ob,h.c,h.f,h.g,he,⟨l,hl,hp⟩,fun m hm=>(by simp at hm),by have:=h.ln;omega⟩
theorem Sr.put{A:List Pr}{mv:Pr->List aP}{bu:Pr->Option Nat}{C n i:Nat}{Z:List Pr}{p:Pr}{rec:List aP}{j:Nat}{O:List (Pr × Nat)}{B:List (List Pr)}(h:Sr A mv bu C n i Z p rec j O B)(rR:n+1<=C+2*Z.length){m:aP}(hm:rec[j]?=some m)(ha:bj m∈A)(hd:Dn mv bu (bj m) (n+bO m)):
  Sr A mv bu C n i Z p rec (j+1) (mZ O (bj m) (n+bO m)) (sj O B (bj m) (n+bO m)):=by
 have de:=bM m;have bW:∀ {m':Nat} {l:List Pr},m'<=n->B[m']?=some l->(sj O B (bj m) (n+bO m))[m']?=some l:=fun {m' l} h1 h2=>sW h2 (by omega);have bk:∀ {l:List Pr},(sj O B (bj m) (n+bO m))[n]?=some l->B[n]?=some l:=fun {l} h1=>by
  obtain⟨l0,h2,_⟩:=h.bn;rw[bW (bc _) h2] at h1;cases h1;exact h2
 refine⟨h.ob.put ha hd,fun q hq c hc=>?_,fun q hq=>?_,fun q k hk h1=>?_,wA h.pn (by omega),?_,fun m' jX=>?_,?_⟩
 .obtain⟨k,h1,h2⟩:=h.c q hq c hc;obtain⟨k',h3,h4⟩:=po (p:=bj m) (n:=n+bO m) h2;exact⟨k',by omega,h4⟩
 .obtain⟨k,h1,h2,h3⟩:=h.f q hq;refine⟨k,wA h1 (by rcases h2 with h2 | ⟨h2,_⟩<;>omega),h2.imp_right fun ⟨h4,l,h5,h6⟩=>⟨h4,l,bW (bc _) h5,h6⟩,fun q' pK m' jX he=>?_⟩;obtain⟨k',h4,h5⟩:=h3 q' pK m' jX he;obtain⟨k2,h6,h7⟩:=po (p:=bj m) (n:=n+bO m) h5;exact⟨k2,by omega,h7⟩
 .rcases Gc hk with h2 | ⟨_,h2⟩
  .exact h.g q k h2 (h1.imp_right fun ⟨h4,l,h5,h6⟩=>⟨h4,l,bk h5,h6⟩)
  .rcases h1 with h1 | ⟨h1,_⟩<;>omega
 .obtain⟨l,h1,h2⟩:=h.bn;exact⟨l,bW (bc _) h1,h2⟩
 .rw[ak hm,Yk,Ye] at jX;rcases jX with jX | rfl
  .obtain⟨k,h1,h2⟩:=h.r m' jX;obtain⟨k',h3,h4⟩:=po (p:=bj m) (n:=n+bO m) h2;exact⟨k',by omega,h4⟩
  .exact A8 O (bj m') (n+bO m')
 .have h1:=wD O B (bj m) (n+bO m);have h2:=h.ln;omega
theorem Sr.fin{A:List Pr}{mv:Pr->List aP}{bu:Pr->Option Nat}{C n i:Nat}{Z:List Pr}{p:Pr}{rec:List aP}{j:Nat}{O:List (Pr × Nat)}{B:List (List Pr)}(h:Sr A mv bu C n i Z p rec j O B)(hj:rec.length<=j)(BQ:p∈A)(hz:Z.Nodup)(hza:∀p∈Z,p∈A)
  (LB:∀q∈A,∀m∈mv q,bj m=p->∃r∈rec,bj r=q/\bO r=bO m):yp A mv bu C n (i+1) (p::Z) O B:=by
 obtain⟨l,hl,hp⟩:=h.bn;have hpZ:p∉Z:=fun hm=>by
  obtain⟨k,h1,h2,_⟩:=h.f p hm;rw[h.pn] at h1;cases h1;rcases h2 with h2 | ⟨_,l',h3,h4⟩
  .omega
  .rw[hl] at h3;cases h3;obtain⟨a,ha⟩:=Yf.1 h4;rw[tS] at ha;split at ha
   .have:=eH (h.ob.nd n l hl) ha hp;omega
   .cases ha
 refine⟨h.ob,h.c,List.nodup_cons.2 ⟨hpZ,hz⟩,fun q hq=>?_,fun q hq=>?_,fun q k hk h1=>?_,?_⟩
 .rcases Yr.1 hq with rfl | hq
  .exact BQ
  .exact hza q hq
 .rcases Yr.1 hq with rfl | hq
  .refine⟨n,h.pn,.inr ⟨rfl,l,hl,by rw[ak hp];simp⟩,fun q' pK m hm he=>?_⟩;obtain⟨r,h1,h2,h3⟩:=LB q' pK m hm he;obtain⟨k',h4,h5⟩:=h.r r (by rw[Yj hj];exact h1);rw[h2] at h5;exact⟨k',by omega,h5⟩
  .obtain⟨k,h1,h2,h3⟩:=h.f q hq;refine⟨k,h1,h2.imp_right fun ⟨h4,l',h5,h6⟩=>⟨h4,l',h5,?_⟩,h3⟩;rw[hl] at h5;cases h5;rw[ak hp];exact List.mem_append_left _ h6
 .by_cases e:q=p
  .rw[e];exact Yx
  .refine Yn _ (h.g q k hk (h1.imp_right fun ⟨h4,l',h5,h6⟩=>⟨h4,l',h5,?_⟩));rw[hl] at h5;cases h5;rw[ak hp,Yk,Ye] at h6;exact h6.resolve_right e
 .have:=h.ln;rw[j5];exact this
theorem yp.fin{A:List Pr}{mv:Pr->List aP}{bu:Pr->Option Nat}{C n i:Nat}{Z:List Pr}{O:List (Pr × Nat)}{B:List (List Pr)}(h:yp A mv bu C n i Z O B)(hn:B.length<=n)(eR:∀p∈A,∀m∈mv p,bj m∈A){p:Pr}(hp:p∈A)(k:Nat):(aU O p=some k ↔ iR mv bu p k)/\(aU O p=some k->k<B.length):=by
 have cO:∀ {q:Pr} {k:Nat},aU O q=some k->k<B.length:=fun {q k} hk=>by
  obtain⟨l,h1,_⟩:=h.ob.b2 q k hk;exact (Ya.1 h1).1
 have key:∀ {q:Pr} {k:Nat},Dn mv bu q k->q∈A->∃k',k'<=k/\aU O q=some k':=fun {q k} hd=>by
  induction hd with
  | base hc=>exact fun hq=>h.c _ hq _ hc
  | @step q m k hm _ ih=>
   intro hq;obtain⟨k1,h1,h2⟩:=ih (eR q hq m hm);have h3:=h.g _ _ h2 (.inl (by have:=cO h2;omega));obtain⟨k2,h4,_,h5⟩:=h.f _ h3;rw[h2] at h4;cases h4;obtain⟨k',h6,h7⟩:=h5 q hq m hm rfl;exact⟨k',by omega,h7⟩
 refine⟨⟨fun hk=>⟨h.ob.d p k hk,fun k2 hd=>?_⟩,fun ⟨h1,h2⟩=>?_⟩,cO⟩
 .obtain⟨k',h3,h4⟩:=key hd hp;rw[hk] at h4;cases h4;exact h3
 .obtain⟨k',h3,h4⟩:=key h1 hp;have h5:=h2 k' (h.ob.d p k' h4);rw[h4,show k'=k by omega]
end Go.VC
end

section
namespace Go.VC
open Go.Proofs Go.LexS
abbrev NE:=Pr × (Sl × List aP)
def yy(e:NE):It:=nest 200 4 aP.cs e.2
def oQ(N:List NE):List (Pr × Sl):=N.map fun e=>(e.1,e.2.1)
def vr(N:List NE)(q:Pr)(r:aP):Prop:=∃e∈N,e.1=q/\r∈e.2.2
def pZ(N:List NE):Nat:=(N.map fun e=>e.2.2.length).sum
structure Ol (N:List NE) (a:Pr) (r:aP) (N':List NE):Prop where
 nd:(N'.map Prod.fst).Nodup
 ky:∀x,x∈N'.map Prod.fst ↔ x∈N.map Prod.fst\/x=a
 rc:∀q r',vr N' q r' ↔ vr N q r'\/(q=a/\r'=r)
 Nd:pZ N'=pZ N+1
theorem fX(N:List NE):(oQ N).map Prod.fst=N.map Prod.fst:=by unfold oQ;rw[List.map_map];rfl
theorem p8{α:Type}{l:List α}{j:Nat}{e:α}(h:l[j]?=some e):∃A B,l=A++e::B/\j=A.length:=by
 obtain⟨h1,h2⟩:=Ya.1 h;refine⟨l.take j,l.drop (j+1),?_,by rw[Yu];omega⟩;rw[<-h2,<-List.drop_eq_getElem_cons h1,List.take_append_drop]
theorem yY{α:Type}(x y e:α)(A R:List α):(x::y::(A++e::R)).Perm (e::x::y::(A++R)):=
 (((List.perm_middle (l₁:=A) (a:=e) (l₂:=R)).cons y).cons x).trans (((List.Perm.swap e y _).cons x).trans (List.Perm.swap e x _))
theorem Ol.qB{A B:List NE}{a:Pr}{s s':Sl}{rows:List aP}(r:aP)(hn:((A++(a,(s,rows))::B).map Prod.fst).Nodup):Ol (A++(a,(s,rows))::B) a r (A++(a,(s',rows++[r]))::B):=by
 have e1:(A++(a,(s',rows++[r]))::B).map Prod.fst=(A++(a,(s,rows))::B).map Prod.fst:=by simp
 refine⟨by rw[e1];exact hn,fun x=>by rw[e1];exact⟨.inl,fun h=>h.elim id fun e=>by rw[e];simp⟩,fun q r'=>?_,?_⟩
 .unfold vr;constructor
  .rintro⟨e,he,h1,h2⟩;rcases Yk.1 he with he | he
   .exact .inl ⟨e,List.mem_append_left _ he,h1,h2⟩
   .rcases Yr.1 he with rfl | he
    .simp only at h1 h2;rcases Yk.1 h2 with h2 | h2
     .exact .inl ⟨(a,(s,rows)),by simp,h1,h2⟩
     .exact .inr ⟨h1.symm,by simpa using h2⟩
    .exact .inl ⟨e,by simp[he],h1,h2⟩
  .rintro (⟨e,he,h1,h2⟩ | ⟨rfl,rfl⟩)
   .rcases Yk.1 he with he | he
    .exact⟨e,List.mem_append_left _ he,h1,h2⟩
    .rcases Yr.1 he with rfl | he
     .exact⟨(a,(s',rows++[r])),by simp,h1,List.mem_append_left _ h2⟩
     .exact⟨e,by simp[he],h1,h2⟩
   .exact⟨(q,(s',rows++[r'])),by simp,rfl,by simp⟩
 .unfold pZ;simp only[Ym,gJ,List.sum_append,List.sum_cons,Yh,Yv];omega
theorem Ol.new{N:List NE}{a:Pr}{s':Sl}(r:aP)(hn:(N.map Prod.fst).Nodup)(ha:a∉N.map Prod.fst):Ol N a r (N++[(a,(s',[r]))]):=by
 refine⟨?_,fun x=>by rw[Ym,Yk];simp,fun q r'=>?_,?_⟩
 .rw[Ym,List.nodup_append];exact⟨hn,by simp,fun x hx y hy e=>by simp only[gJ,List.map_nil,Ye] at hy;subst hy;subst e;exact ha hx⟩
 .unfold vr;constructor
  .rintro⟨e,he,h1,h2⟩;rcases Yk.1 he with he | he
   .exact .inl ⟨e,he,h1,h2⟩
   .rw[Ye] at he;subst he;exact .inr ⟨h1.symm,by simpa using h2⟩
  .rintro (⟨e,he,h1,h2⟩ | ⟨rfl,rfl⟩)
   .exact⟨e,List.mem_append_left _ he,h1,h2⟩
   .exact⟨(q,(s',[r'])),by simp,rfl,by simp⟩
 .unfold pZ;rw[Ym,List.sum_append];simp
theorem FL{N:List NE}{e:NE}(h:e∈N):e.2.2.length<=pZ N:=by
 obtain⟨A,B,rfl⟩:=List.append_of_mem h;unfold pZ;simp only[Ym,gJ,List.sum_append,List.sum_cons];omega
theorem D4{h0 h:Heap}{rb ib:Nat}{N:List NE}{R:List It}{r:aP}{a:Pr}{K:Heap->Prop}(hs:St h0 h (.ae rb r.cs 200 :: .mp ib ((oQ N).map fun q=>(pV q.1,eS q.2))::(N.map yy++R)))
  (hN:(N.map Prod.fst).Nodup) (hk:∀x∈N.map Prod.fst,eI x) (ha:eI a) (ht:pZ N<=10000000000)
  (hK:∀(h':Heap) (N':List NE),St h0 h' (.ae rb r.cs 200 :: .mp ib ((oQ N').map fun q=>(pV q.1,eS q.2))::(N'.map yy++R))->Ol N a r N'->K h') :
  bz Pz (Instr.mapEntry 93 (.map (some ib)) (pV a)) h fun v46 qV=>∃Sv:Sl,∃n49:Int,v46=.tuple ⟨[.slice Sv.a Sv.n Sv.c,.int .i64 n49]⟩ /\
   (App Pz 197 197 (.slice Sv.a Sv.n Sv.c) (.slice (some ⟨rb,0,none⟩) 1 1) qV fun Dt zU=>(bz Pz (Instr.entryStore 93 (.map (some ib)) (.int .i64 n49) (.slice Dt.a Dt.n Dt.c)) zU (fun _ zT=>K zT))):=by
 have Ho:((oQ N).map Prod.fst).Nodup:=by rw[fX];exact hN
 refine hs.O8 (cv:=eS) (l:=oQ N) yn 1 rfl (fun q hq=>hk _ (by rw[<-fX];exact Yp.2 ⟨q,hq,rfl⟩)) Ho ha fun st o qV hs kY=>?_;replace hs:St h0 qV (.ae rb r.cs 200 :: .raw ib o::(N.map yy++R)):=hs;have one:([r.cs].flatten).all dU=true:=rfl;by_cases cO:a∈N.map Prod.fst
 .obtain⟨e,he,rfl⟩:=Yp.1 cO;obtain⟨A,B,rfl⟩:=List.append_of_mem he;obtain⟨a,s,rows⟩:=e;have hj:(oQ (A++(a,(s,rows))::B))[A.length]?=some (a,s):=by unfold oQ;simp
  have hg:aU (oQ (A++(a,(s,rows))::B)) a=some s:=fp Ho hj;have hm:∀y:Sl,cI (oQ (A++(a,(s,rows))::B)) a y=oQ (A++(a,(y,rows++[r]))::B):=fun y=>by
   rw[jA Ho hj];unfold oQ;simp
  simp only at kY ⊢;rw[hg];refine⟨s,st,rfl,?_⟩;rw[Ym,gJ,Yz,List.cons_append] at hs;replace hs:=hs.perm (yY _ _ _ _ _);have hlen:=hs.len 0 (s:=s) (e:=200) (n:=4) (rows:=rows.map aP.cs) rfl (by omega);rw[Yc] at hlen;have NF:=FL he;simp only at NF;refine hs.appended 0 (news:=[r.cs]) rfl kS (hs.at 1 rfl (o:=0) (n:=4) rfl) rfl (fun q hq=>by rw[Ye] at hq;rw[hq];rfl) one (by show (s.n+1)*32<=140737488355328;omega) (by show s.n+1<=9223372036854775807;omega) fun Dt zU n50 hs=>?_;refine hs.GH 2 rfl kY Dt fun zT hs=>?_;refine hK zT (A++(a,(Dt,rows++[r]))::B) ?_ (Ol.qB r hN);rw[hm] at hs;rw[Ym (f:=yy),gJ,Yz,List.cons_append];refine hs.perm (List.Perm.trans ?_ (yY _ _ _ _ _).symm);refine List.Perm.of_eq ?_;simp[yy,nest]
 .have hg:aU (oQ N) a=none:=jC fun q hq e=>cO (by rw[<-fX];exact Yp.2 ⟨q,hq,e⟩);have hm:∀y:Sl,cI (oQ N) a y=oQ (N++[(a,(y,[r]))]):=fun y=>by
   rw[jB fun q hq e=>cO (by rw[<-fX];exact Yp.2 ⟨q,hq,e⟩)];unfold oQ;simp
  rw[hg];refine⟨⟨none,0,0⟩,st,rfl,?_⟩;replace hs:=hs.bH 200 4;refine hs.appended 0 (news:=[r.cs]) rfl kS (hs.at 1 rfl (o:=0) (n:=4) rfl) rfl (fun q hq=>by rw[Ye] at hq;rw[hq];rfl) one (by show (0+1)*32<=140737488355328;decide) (by show 0+1<=9223372036854775807;decide) fun Dt zU n50 hs=>?_;refine hs.GH 2 rfl kY Dt fun zT hs=>?_;refine hK zT (N++[(a,(Dt,[r]))]) ?_ (Ol.new r hN cO);rw[hm] at hs;rw[Ym (f:=yy),Yz];exact hs.perm (yY _ _ _ _ _).symm
theorem St.O7{P:Program}{h0 h:Heap}{L:List It}(hs:St h0 h L){t kt e:TypeId}(ht:P.underlying t=some (.map kt e))(n:Int){K:Value->Heap->Prop}(hK:∀h',Ext h h'->St h0 h' (.mp h.size []::L)->K (.map (some h.size)) h'):bz P (Instr.makeMap t (some (.int .i64 n))) h K:=by
 intro w hw;subst hw;obtain⟨v,w',h1,h2⟩:=hs.BD (P:=P) t hK w rfl;refine⟨v,w',?_,h2⟩;rw[<-h1];simp[Instr.makeMap,run_underlying ht,asInt,asIntOf,Result.andThen]
theorem St.mD{h0 h:Heap}{L:List It}(hs:St h0 h L){s:Sl}{e:TypeId}{n:Nat}{rows:List (List Value)}(hi:.sl s e n rows∈L)(hn:0<n):Rw h n s rows:=(hs.ok _ hi).1.1.rw (hs.ok _ hi).1.2 hn
theorem lO{cb ob bb:Nat}{bk:Sl}{O:List (Pr × Nat)}{BS:List (Sl × List Pr)}{z:It}{NS:List It}:(ss cb ob bb bk O BS (z::NS)).Perm (z::(NS++ss cb ob bb bk O BS [])):=by
 have e:∀R,ss cb ob bb bk O BS R=ss cb ob bb bk O BS []++R:=fun R=>by unfold ss;simp
 rw[e (z::NS)];exact List.perm_middle.trans (List.perm_append_comm.cons _)
theorem sY{α:Type}(c a b z:α)(NS R:List α):(c::a::b::z::(NS++R)).Perm (c::z::(NS++a::b::R)):=by
 refine List.Perm.cons _ ?_;refine (List.Perm.cons a (List.Perm.swap z b _)).trans ((List.Perm.swap z a _).trans (List.Perm.cons z ?_));refine (List.Perm.trans ?_ List.perm_middle.symm);exact List.Perm.cons a List.perm_middle.symm
noncomputable def fg(X:An)(kind:Int)(p:Pr):Option Nat:=(ff X kind p).map Int.toNat
def bB(g:Gl)(role:Int)(p:Pr):List aP:=bq g.es role p.1 p.2
def iL(p:Pr)(m:aP):aP:=⟨m.x,m.y,(p.1:Nat),(p.2:Nat)⟩
structure JC (A:List Pr) (mv:Pr->List aP) (bu:Pr->Option Nat) (CB i:Nat) (O:List (Pr × Nat)) (B:List (List Pr)) (N:List NE):Prop where
 ob:OB A mv bu O B
 c:∀p∈A.take i,∀c,bu p=some c->∃k,k<=c/\aU O p=some k
 ln:B.length<=CB
 nn:(N.map Prod.fst).Nodup
 nk:∀x∈N.map Prod.fst,x∈A
 rc:∀q r,vr N q r ↔ ∃p∈A.take i,∃m∈mv p,bj m=q/\r=iL p m
 Nd:pZ N<=i*160800
structure pT (A:List Pr) (mv:Pr->List aP) (i j:Nat) (p:Pr) (N:List NE):Prop where
 nn:(N.map Prod.fst).Nodup
 nk:∀x∈N.map Prod.fst,x∈A
 rc:∀q r,vr N q r ↔ (∃p∈A.take i,∃m∈mv p,bj m=q/\r=iL p m)\/∃m∈(mv p).take j,bj m=q/\r=iL p m
 Nd:pZ N<=i*160800+j
theorem pT.step{A:List Pr}{mv:Pr->List aP}{i j:Nat}{p:Pr}{N N':List NE}(h:pT A mv i j p N){m:aP}(hm:(mv p)[j]?=some m)(ha:bj m∈A)(hu:Ol N (bj m) (iL p m) N'):pT A mv i (j+1) p N':=by
 refine⟨hu.nd,fun x hx=>?_,fun q r=>?_,by rw[hu.Nd];have:=h.Nd;omega⟩
 .rcases (hu.ky x).1 hx with h1 | h1
  .exact h.nk x h1
  .rw[h1];exact ha
 .rw[hu.rc,h.rc,ak hm];constructor
  .rintro ((h1 | ⟨m',h1,h2⟩) | ⟨h1,h2⟩)
   .exact .inl h1
   .exact .inr ⟨m',List.mem_append_left _ h1,h2⟩
   .exact .inr ⟨m,by simp,h1.symm,h2⟩
  .rintro (h1 | ⟨m',h1,h2⟩)
   .exact .inl (.inl h1)
   .rcases Yk.1 h1 with h1 | h1
    .exact .inl (.inr ⟨m',h1,h2⟩)
    .rw[Ye] at h1;subst h1;exact .inr ⟨h2.1.symm,h2.2⟩
theorem OB.bl{A:List Pr}{mv:Pr->List aP}{bu:Pr->Option Nat}{O:List (Pr × Nat)}{BS:List (Sl × List Pr)}(h:OB A mv bu O (BS.map Prod.snd))(hA:A.length<=40000):∀q∈BS,q.2.length<=1048576:=fun q hq=>by
 obtain⟨n,hn⟩:=Yf.1 hq;have hl:(BS.map Prod.snd)[n]?=some q.2:=by rw[Yd,hn];rfl
 have:=List.Nodup.length_le_of_subset (h.nd n q.2 hl) (l₂:=A) fun x hx=>(h.b1 n q.2 hl x hx).1;omega
theorem OB.iO{A:List Pr}{mv:Pr->List aP}{bu:Pr->Option Nat}{O:List (Pr × Nat)}{B:List (List Pr)}(h:OB A mv bu O B)(hk:∀p∈A,eI p):∀q∈O,eI q.1:=fun q hq=>hk _ (h.oa q hq)
theorem OB.empty(A:List Pr)(mv:Pr->List aP)(bu:Pr->Option Nat):OB A mv bu [] []:=
 ⟨.nil,fun q hq=>(by cases hq),fun p n h=>(by cases h),fun n l h=>(by simp at h),fun p n h=>(by cases h),fun n l h=>(by simp at h)⟩
abbrev Nt(ib:Nat)(N:List NE):It:=.mp ib ((oQ N).map fun q=>(pV q.1,eS q.2))
structure Tx (X:An) (kind:Int) (A:List Pr) (CB:Nat):Prop where
 a:∀q∈X.ar,∀x∈q.2,0<x.n
 c:∀p∈A,∀c,ff X kind p=some c->0<=c/\c<CB
 b:CB<=4194304
theorem St.GL{α β:Type}{P:Program}{t kt e:TypeId}{ck:α->Value}{cv:β->Value}{iO:α->Prop}[DecidableEq α]{z:Value}(M:MT P t kt e ck iO z){h0 h:Heap}{L:List It}(hs:St h0 h L)(k:Nat){b:Nat}{l:List (α × β)}(hk:L[k]?=some (.mp b (l.map fun q=>(ck q.1,cv q.2))))(hl:∀q∈l,iO q.1)(hn:(l.map Prod.fst).Nodup){a:α}(ha:iO a){R:Value->Heap->Prop}
  (hR:R ((aU l a).elim z cv) h):bz P (Instr.lookup t (.map (some b)) (ck a) false) h R:=by
 refine hs.GM M k hk hl hn ha false ?_;generalize aU l a=o at *;cases o<;>exact hR
theorem Lk(b:Nat)(g:Gl)(role:Int)(X:An)(kind:Int)(all:Sl)(mb:Nat)(A:List Pr)(l:List (Pr × Sl))(CB:Nat)(h:Heap)(hA:vP h b g role X)(hV:af g)(hM:J8 h g role all mb A l)(hC:Tx X kind A CB):
  Fn Pz 164 #[.pointer (some ⟨b,0,none⟩),.int .i64 kind,.slice all.a all.n all.c,.map (some mb)] h fun v h'=>Ext h h'/\∃(ob:Nat) (O:List (Pr × Nat)),v=.map (some ob)/\It.ok h' (.mp ob (O.map fun q=>(pV q.1,oS q.2)))/\(∀q∈O,eI q.1)/\(O.map Prod.fst).Nodup /\
   ∀p∈A,∀k,(aU O p=some k ↔ iR (bB g role) (fg X kind) p k)/\(aU O p=some k->k<CB+2*A.length):=by
 apply UT ⟨b,0,none⟩ kind all (some mb);unfold aae;have hN:=hV.num.n;have hE:=hV.num.m;have hAn:=hM.ra.ln;have BQ:∀p∈A,(p.1:Int)<g.n/\(p.2:Int)<g.n:=fun p hp=>((hM.pr p).1 hp).lt hV;have uP:∀p∈A,eI p:=fun p hp=>by have:=BQ p hp;exact⟨by omega,by omega⟩
 have eR:∀p∈A,∀m∈bB g role p,bj m∈A:=fun p hp m hm=>(hM.pr _).2 (.step ((hM.pr p).1 hp) hm);have hA4:A.length<=40000:=by
  have h1:=jK (n:=g.n.toNat) hM.nd fun p hp=>by have:=BQ p hp;exact⟨by omega,by omega⟩
  have h2:g.n.toNat*g.n.toNat<=200*200:=Nat.mul_le_mul (by omega) (by omega);omega
 have hCb:=hC.b;have Fl:∀p:Pr,(bq g.es role p.1 p.2).length<=160800:=fun p=>fC hE;have hme:∀p:Pr,(bB g role p).length=(bq g.es role p.1 p.2).length:=fun p=>rfl;refine (St.refl h).O7 JA.ht _ fun h3 E3 hs=>⟨some h.size,rfl,?_⟩;refine hs.ao (vs:=[.map (some h.size)]) rfl rfl fun h5 hs=>?_;refine hs.BD 93 fun h8 E8 hs=>⟨some h5.size,rfl,?_⟩;refine hs.aj fun h9 hs=>?_;have hs:St h h9 (ss h3.size h.size h8.size ⟨none,0,0⟩ [] [] (Nt h5.size []::[].map yy)):=by
  refine (hs.bH 92 1).perm ?_;show ([It.sl ⟨none,0,0⟩ 92 1 [],.ae h8.size [.slice none 0 0] 350,.mp h5.size [],.ae h3.size [.map (some h.size)] 293,.mp h.size []]:List It).Perm [.ae h3.size [.map (some h.size)] 293,.mp h.size [],.ae h8.size [.slice none 0 0] 350,.sl ⟨none,0,0⟩ 92 1 [],.mp h5.size []];refine List.Perm.trans (l₂:=[.ae h3.size [.map (some h.size)] 293,.mp h.size [],.sl ⟨none,0,0⟩ 92 1 [],.ae h8.size [.slice none 0 0] 350,.mp h5.size []]) ?_ (List.Perm.cons _ (List.Perm.cons _ (List.Perm.swap _ _ _)));exact List.perm_append_comm (l₁:=[It.sl ⟨none,0,0⟩ 92 1 [],.ae h8.size [.slice none 0 0] 350,.mp h5.size []]) (l₂:=[.ae h3.size [.map (some h.size)] 293,.mp h.size []])
 refine⟨fun x h' m=>∃(i:Nat) (bk:Sl) (O:List (Pr × Nat)) (BS:List (Sl × List Pr)) (N:List NE),x=i/\m=all.n-i/\i<=all.n/\St h h' (ss h3.size h.size h8.size bk O BS (Nt h5.size N::N.map yy))/\JC A (bB g role) (fg X kind) CB i O (BS.map Prod.snd) N,
  ⟨_,0,⟨none,0,0⟩,[],[],[],rfl,rfl,Nat.zero_le _,hs,OB.empty _ _ _,fun p hp=>(by simp at hp),Nat.zero_le _,.nil,fun x hx=>(by cases hx),fun q r=>⟨fun ⟨e,he,_⟩=>(by cases he),fun ⟨p,hp,_⟩=>(by simp at hp)⟩,Nat.zero_le _⟩,?_⟩
 clear hs;rintro-_ Cc m ⟨i,bk,O,BS,N,rfl,rfl,hi,hs,hL⟩;refine aM (fun c=>?_) (fun c=>?_)
 .refine (hM.ra.ext hs.ext).rw.aA (by omega) (by omega) fun b15 O2 p gp u=>?_;replace gp:A[i]?=some p:=gp;have oT:=Yb gp;have de:=BQ p oT;refine⟨(p.1:Nat),(p.2:Nat),u,?_⟩;refine hs.ao (vs:=pC p) rfl rfl fun aD hs=>?_;refine⟨(p.1:Nat),(p.2:Nat),hs.at 0 rfl (o:=0) (n:=2) rfl,?_⟩;obtain⟨r,hr,vH⟩:=hM.mv p oT;refine uK (cv:=eS) (l:=l) yn ((hM.ext hs.ext).mp) hM.lk hM.ln (a:=p) (uP p oT) false ?_;rw[hr];refine⟨r,rfl,?_⟩;have hs:St h aD (.ae Cc.size (pC p) 97::Nt h5.size N::(N.map yy++ss h3.size h.size h8.size bk O BS [])):=hs.perm (List.Perm.cons _ lO);have kc:=vH.ln;have hrm:=Fl p;have yG:pT A (bB g role) i 0 p N:=⟨hL.nn,hL.nk,fun q r=>by rw[hL.rc];exact⟨.inl,fun h=>h.elim id fun ⟨m,h,_⟩=>(by rw[my] at h;cases h)⟩,mw hL.Nd (Nat.le_add_right _ _)⟩;refine⟨fun x h' m=>∃(j:Nat) (N':List NE),x=j/\m=r.n-j/\j<=r.n/\St h h' (.ae Cc.size (pC p) 97::Nt h5.size N'::(N'.map yy++ss h3.size h.size h8.size bk O BS []))/\pT A (bB g role) i j p N',⟨_,0,N,rfl,rfl,Nat.zero_le _,hs,yG⟩,?_⟩;clear hs yG;rintro-_ HF m ⟨j,N',rfl,rfl,hj,hs,yG⟩;refine aM (fun c2=>?_) (fun c2=>?_)
  .refine (vH.ext hs.ext).rw.aA (by omega) (by omega) fun b31 o32 mv gm t=>?_;replace gm:(bB g role p)[j]?=some mv:=gm;have mF:=Yb gm;have pL:=ie hV de mF;have hta:=eR p oT mv mF;refine⟨mv.x,mv.y,mv.s,mv.t,t,?_⟩;refine hs.ao (vs:=mv.cs) rfl rfl fun sD hs=>?_;refine⟨((bj mv).1:Nat),((bj mv).2:Nat),by rw[pL.2.2.1,pL.2.2.2];exact hs.at 0 rfl (o:=2) (n:=2) rfl,mv.x,hs.rd 0 rfl (i:=0) rfl,mv.y,hs.rd 0 rfl (i:=1) rfl,(p.1:Nat),(p.2:Nat),hs.at 1 rfl (o:=0) (n:=2) rfl,?_⟩;refine hs.aj fun kg hs=>?_;have hs:=hs.perm (sY (It.ae sD.size (iL p mv).cs 200) _ _ _ _ _);have Pm:=yG.Nd;have Hr:i*160800<=40000*160800:=Nat.mul_le_mul_right _ (by omega);refine D4 hs yG.nn (fun x hx=>uP x (yG.nk x hx)) (uP _ hta) (by omega) fun zT N'' hs hu=>?_;refine⟨_,by omega,j+1,N'',by rw[a7 (by omega) (by omega)];omega,rfl,by omega,?_,yG.step gm hta hu⟩;have hs:=(hs.perm (sY (It.ae sD.size (iL p mv).cs 200) _ _ _ _ _).symm).drop 2;exact hs
  .have LH:j=(bB g role p).length:=by unfold bB;omega
   refine⟨(p.1:Nat),(p.2:Nat),hs.at 0 rfl (o:=0) (n:=2) rfl,?_⟩;refine (xR b g role X kind p HF (hA.ext hs.ext) de hC.a).mono ?_;rintro _ Cb ⟨E59,rfl⟩;replace hs:=hs.step E59;refine⟨_,_,rfl,?_⟩;have hrc:∀q r,vr N' q r ↔ ∃p∈A.take (i+1),∃m∈bB g role p,bj m=q/\r=iL p m:=fun q r=>by
    rw[yG.rc,ak gp,LH,vM];constructor
    .rintro (⟨p',h1,h2⟩ | h1)
     .exact⟨p',List.mem_append_left _ h1,h2⟩
     .exact⟨p,by simp,h1⟩
    .rintro⟨p',h1,h2⟩;rcases Yk.1 h1 with h1 | h1
     .exact .inl ⟨p',h1,h2⟩
     .rw[Ye] at h1;subst h1;exact .inr h2
   have Pm:pZ N'<=(i+1)*160800:=by have:=yG.Nd;rw[Nat.succ_mul];omega
   have yH:=hL.ln;rw[Yc] at yH;cases hc:ff X kind p with
   | none=>
    refine gZ rfl ?_;refine⟨_,by omega,i+1,bk,O,BS,N',by rw[a7 (by omega) (by omega)];omega,rfl,by omega,(hs.drop 1).perm lO.symm,hL.ob,fun q hq c' kf=>?_,hL.ln,yG.nn,yG.nk,hrc,Pm⟩;rw[ak gp,Yk,Ye] at hq;rcases hq with hq | rfl
    .exact hL.c q hq c' kf
    .unfold fg at kf;rw[hc] at kf;cases kf
   | some cv=>
    obtain⟨fZ,sA⟩:=hC.c p oT cv hc;have hcN:fg X kind p=some cv.toNat:=by unfold fg;rw[hc];rfl
    refine ql rfl ?_;refine⟨(p.1:Nat),(p.2:Nat),hs.at 0 rfl (o:=0) (n:=2) rfl,?_⟩;have hs:=(hs.drop 1).perm lO.symm;have S5:(((some cv:Option Int).getD 0):Int)=((cv.toNat:Nat):Int):=by show cv=_;omega
    rw[S5];refine (Gd h Cb h3.size h.size h8.size bk O BS _ p cv.toNat hs (hL.ob.iO uP) hL.ob.on (uP p oT) (by omega) (by omega) (hL.ob.bl hA4)).mono ?_;rintro _ rV ⟨rfl,pQ,j6,hs,hBS⟩;refine⟨rfl,_,by omega,i+1,pQ,mZ O p cv.toNat,j6,N',by rw[a7 (by omega) (by omega)];omega,rfl,by omega,hs,?_,fun q hq c' kf=>?_,?_,yG.nn,yG.nk,hrc,Pm⟩
    .have h9:=hL.ob.put oT (.base hcN);rw[hBS];exact h9
    .rw[ak gp,Yk,Ye] at hq;rcases hq with hq | rfl
     .obtain⟨k,h1,h2⟩:=hL.c q hq c' kf;obtain⟨k',h3,h4⟩:=po (p:=p) (n:=cv.toNat) h2;exact⟨k',by omega,h4⟩
     .rw[hcN] at kf;cases kf;exact A8 O q cv.toNat
    .rw[hBS];have:=wD O (BS.map Prod.snd) p cv.toNat;have h8:=hL.ln;show (sj O (BS.map Prod.snd) p cv.toNat).length<=CB;omega
 .have cO:i=A.length:=by omega
  have hOB:=hL.ob;have hI:yp A (bB g role) (fg X kind) CB 0 0 [] O (BS.map Prod.snd):=yp.start hL.ob (fun p hp c hc=>hL.c p (by rw[cO,vM];exact hp) c hc) hL.ln;have hNn:=hL.nn;have hNk:=hL.nk;have hNr:∀q r,vr N q r ↔ ∃p∈A,∃m∈bB g role p,bj m=q/\r=iL p m:=fun q r=>by rw[hL.rc,cO,vM]
  have hNt:pZ N<=40000*160800:=mw hL.Nd (Nat.mul_le_mul_right _ (by omega));clear hL cO hOB;refine⟨fun x h' m=>∃(n:Nat) (Z:List Pr) (bk:Sl) (O:List (Pr × Nat)) (BS:List (Sl × List Pr)),x=n/\m=CB+2*A.length-n/\St h h' (ss h3.size h.size h8.size bk O BS (Nt h5.size N::N.map yy))/\yp A (bB g role) (fg X kind) CB n 0 Z O (BS.map Prod.snd),⟨_,0,[],bk,O,BS,rfl,rfl,hs,hI⟩,?_⟩;clear hs hI hi;rintro-_ mG m ⟨n,Z,bk,O,BS,rfl,rfl,hs,hI⟩;have hZA:Z.length<=A.length:=List.Nodup.length_le_of_subset hI.zn fun x hx=>hI.za x hx;have yH:=hI.ln;rw[Yc] at yH;have PY:=hs.len 3 (s:=bk) (e:=92) (n:=1) (rows:=(BS.map Prod.fst).map eD) rfl (by omega);rw[Yc,Yc] at PY;refine⟨bk,hs.rd 2 rfl (i:=0) rfl,aM (fun c2=>?_) (fun c2=>?_)⟩
  .obtain⟨q0,Hn⟩:=get_some (l:=BS) (i:=n) (by omega);have rR:(BS.map Prod.snd)[n]?=some q0.2:=by rw[Yd,Hn];rfl
   refine⟨fun x h' m=>∃(i:Nat) (Z:List Pr) (bk:Sl) (O:List (Pr × Nat)) (BS:List (Sl × List Pr)),x=i/\m=q0.2.length-i/\St h h' (ss h3.size h.size h8.size bk O BS (Nt h5.size N::N.map yy))/\yp A (bB g role) (fg X kind) CB n i Z O (BS.map Prod.snd)/\(BS.map Prod.snd)[n]?=some q0.2,⟨_,0,Z,bk,O,BS,rfl,rfl,hs,hI,rR⟩,?_⟩;have agJ:=hI.ob.bl hA4 q0 (Yb Hn);clear hs hI hZA yH PY c2 Hn rR;rintro-_ Xp m ⟨i,Z,bk,O,BS,rfl,rfl,hs,hI,rR⟩;have hZA:Z.length<=A.length:=List.Nodup.length_le_of_subset hI.zn fun x hx=>hI.za x hx;have yH:=hI.ln;rw[Yc] at yH;have PY:=hs.len 3 (s:=bk) (e:=92) (n:=1) (rows:=(BS.map Prod.fst).map eD) rfl (by omega);rw[Yc,Yc] at PY;obtain⟨q1,mE,fY⟩:∃q1,BS[n]?=some q1/\q1.2=q0.2:=by
    rw[Yd] at rR;exact sL.1 rR
   have zQ:=(Ya.1 mE).1;have jW:=hs.kF (A:=[.ae h3.size [.map (some h.size)] 293,.mp h.size (O.map fun q=>(pV q.1,oS q.2)),.ae h8.size [.slice bk.a bk.n bk.c] 350,.sl bk 92 1 ((BS.map Prod.fst).map eD)]) (e:=97) (n:=2) (cs:=pC) mE (by omega);rw[fY] at jW;have kc:=jW.ln;refine⟨bk,hs.rd 2 rfl (i:=0) rfl,?_⟩;refine (hs.rows 3 rfl (by omega)).aA (by omega) (by omega) fun Od OV d gd u=>?_;replace gd:(BS.map Prod.fst)[n]?=some d:=gd;rw[Yd,mE] at gd;cases gd;refine⟨q1.1,u.hd,aM (fun c3=>?_) (fun c3=>?_)⟩
   .refine⟨bk,hs.rd 2 rfl (i:=0) rfl,?_⟩;refine (hs.rows 3 rfl (by omega)).aA (by omega) (by omega) fun b82 o83 d gd u2=>?_;replace gd:(BS.map Prod.fst)[n]?=some d:=gd;rw[Yd,mE] at gd;cases gd;refine⟨q1.1,u2.hd,?_⟩;refine jW.aA (by omega) (by omega) fun b85 o86 p gp u3=>?_;replace gp:q0.2[i]?=some p:=gp;obtain⟨oT,k,JW,JV⟩:=hI.ob.b1 n q0.2 rR p (Yb gp);refine⟨(p.1:Nat),(p.2:Nat),u3,?_⟩;refine hs.ao (vs:=pC p) rfl rfl fun B9 hs=>?_;refine⟨some h.size,hs.rd 1 rfl (i:=0) rfl,(p.1:Nat),(p.2:Nat),hs.at 0 rfl (o:=0) (n:=2) rfl,?_⟩;refine hs.GM (cv:=oS) (l:=O) JA 2 rfl (hI.ob.iO uP) hI.ob.on (a:=p) (uP p oT) false ?_;rw[JV];refine⟨(k:Nat),rfl,?_⟩;refine eY (fun c4=>?_) (fun c4=>?_)
    .refine⟨_,?_,i+1,Z,bk,O,BS,by rw[a7 (by omega) (by omega)];omega,rfl,hs.drop 1,hI.skip rR gp (by rw[JV];intro e;cases e;exact c4 rfl),rR⟩;omega
    .obtain rfl:k=n:=by omega
     refine⟨(p.1:Nat),(p.2:Nat),hs.at 0 rfl (o:=0) (n:=2) rfl,?_⟩;have hs:=(hs.drop 1).perm lO;have WA:((oQ N).map Prod.fst).Nodup:=by rw[fX];exact hNn
     refine hs.GL (cv:=eS) (l:=oQ N) yn 0 rfl (fun q hq=>uP _ (hNk _ (by rw[<-fX];exact Yp.2 ⟨q,hq,rfl⟩))) WA (a:=p) (uP p oT) ?_;obtain⟨sr,rec,yB,vH,hrd,LB⟩:∃(sr:Sl) (rec:List aP),(aU (oQ N) p).elim (.slice none 0 0) eS=.slice sr.a sr.n sr.c/\rec.length<=40000*160800/\(∀ {h0 hh:Heap} {L:List It},St h0 hh L->(∀e∈N,yy e∈L)->Rw hh 4 sr (rec.map aP.cs))/\(∀r,r∈rec ↔ vr N p r):=by
      cases hg:aU (oQ N) p with
      | none=>
       refine⟨⟨none,0,0⟩,[],rfl,Nat.zero_le _,fun _ _=>⟨rfl,fun h=>absurd h (by simp)⟩,fun r=>⟨fun h=>(by cases h),fun ⟨e,he,h1,h2⟩=>?_⟩⟩;have:=(cZ p (oQ N)).2 (by rw[fX,<-h1];exact Yp.2 ⟨e,he,rfl⟩);rw[hg] at this;cases this
      | some y=>
       have h9:=(cZ p (oQ N)).1 (by rw[hg];rfl);rw[fX] at h9;obtain⟨e,he,h1⟩:=Yp.1 h9;obtain⟨j,hj⟩:=Yf.1 he;have h2:aU (oQ N) p=some e.2.1:=fp WA (j:=j) (by unfold oQ;rw[Yd,hj,<-h1];rfl);rw[hg] at h2;cases h2;refine⟨e.2.1,e.2.2,rfl,mw (FL he) hNt,fun bI jX=>bI.mD (e:=200) (jX e he) (by omega),fun r=>⟨fun h=>⟨e,he,h1,h⟩,fun ⟨e',LJ,h3,h4⟩=>?_⟩⟩;obtain⟨j',hj'⟩:=Yf.1 LJ;have h5:(N.map Prod.fst)[j]?=some p:=by rw[Yd,hj,<-h1];rfl
       have h6:(N.map Prod.fst)[j']?=some p:=by rw[Yd,hj',<-h3];rfl
       have h7:=eH hNn h5 h6;subst h7;rw[hj] at hj';cases hj';exact h4
     rw[yB];refine⟨sr,rfl,?_⟩;have hs:=hs.perm lO.symm;have WH:∀ {O:List (Pr × Nat)} {BS:List (Sl × List Pr)} {bk:Sl} (e:NE),e∈N->yy e∈ss h3.size h.size h8.size bk O BS (Nt h5.size N::N.map yy):=fun e he=>by
      unfold ss;exact List.mem_append_right _ (Yn _ (Yp.2 ⟨e,he,rfl⟩))
     have hJ:=hI.take rR gp JV rec;have Xl:=hI;have hnC:k+1<=CB+2*Z.length:=by omega
     refine⟨fun x h' m=>∃(j:Nat) (bk:Sl) (O:List (Pr × Nat)) (BS:List (Sl × List Pr)),x=j/\m=sr.n-j/\j<=sr.n/\St h h' (ss h3.size h.size h8.size bk O BS (Nt h5.size N::N.map yy))/\Sr A (bB g role) (fg X kind) CB k i Z p rec j O (BS.map Prod.snd)/\(BS.map Prod.snd)[k]?=some q0.2,⟨_,0,bk,O,BS,rfl,rfl,Nat.zero_le _,hs,hJ,rR⟩,?_⟩;clear hs hJ jW PY yH mE zQ hI rR JV;rintro-_ h107 m ⟨j,bk,O,BS,rfl,rfl,hj,hs,hJ,rR⟩;have yH:=hJ.ln;rw[Yc] at yH;have jW:=hrd hs fun e he=>WH e he;have kc:=jW.ln;refine aM (fun c5=>?_) (fun c5=>?_)
     .refine jW.aA (by omega) (by omega) fun aiv agu r gr u4=>?_;replace gr:rec[j]?=some r:=gr;obtain⟨p',oe,m',jX,hto,rfl⟩:=(hNr p r).1 ((LB r).1 (Yb gr));have de:=bM m';have yE:Dn (bB g role) (fg X kind) p' (k+bO m'):=.step jX (by rw[hto];exact hJ.ob.d p k hJ.pn);have hd:Dn (bB g role) (fg X kind) (bj (iL p' m')) (k+bO (iL p' m')):=yE;refine⟨m'.x,m'.y,(p'.1:Nat),(p'.2:Nat),u4,?_⟩;refine hs.ao (vs:=(iL p' m').cs) rfl rfl fun Qs hs=>?_;refine⟨(p'.1:Nat),(p'.2:Nat),hs.at 0 rfl (o:=2) (n:=2) rfl,m'.x,m'.y,(p'.1:Nat),(p'.2:Nat),hs.at 0 rfl (o:=0) (n:=4) rfl,?_⟩;refine (qI m'.x m'.y (p'.1:Nat) (p'.2:Nat) Qs).mono ?_;rintro _ aeq ⟨rfl,E⟩;have hs:=(hs.step E).drop 1;refine⟨_,rfl,E.sm,?_⟩;have hw:IntKind.wrap .i64 ((k:Int)+(if 0<=m'.x/\0<=m'.y then 2 else 1))=((k+bO (iL p' m'):Nat):Int):=by
       have:bO (iL p' m')=if 0<=m'.x/\0<=m'.y then 2 else 1:=rfl
       rw[this];split<;>rw[a7 (by omega) (by omega)]<;>omega
      rw[hw];have agK:=bM (iL p' m');refine (Gd h aeq h3.size h.size h8.size bk O BS _ p' (k+bO (iL p' m')) hs (hJ.ob.iO uP) hJ.ob.on (uP p' oe) (by omega) (by omega) (hJ.ob.bl hA4)).mono ?_;rintro _ XF ⟨rfl,pQ,j6,hs,hBS⟩;have hJ2:=hJ.put hnC gr (show bj (iL p' m')∈A from oe) hd;refine⟨rfl,_,?_,j+1,pQ,mZ O p' (k+bO (iL p' m')),j6,by rw[a7 (by omega) (by omega)];omega,rfl,by omega,hs,?_,?_⟩
      .omega
      .rw[hBS];exact hJ2
      .rw[hBS];exact sW (p:=p') rR (by omega)
     .have gH:=hJ.fin (by omega) oT Xl.zn Xl.za fun q hq m hm he=>⟨iL q m,(LB _).2 ((hNr p _).2 ⟨q,hq,m,hm,he,rfl⟩),rfl,rfl⟩;refine⟨_,?_,i+1,p::Z,bk,O,BS,by rw[a7 (by omega) (by omega)];omega,rfl,hs,gH,rR⟩;omega
   .have acP:q0.2.length<=i:=by omega
    refine⟨_,?_,n+1,Z,bk,O,BS,by rw[a7 (by omega) (by omega)];omega,rfl,hs,hI.next rR acP⟩;omega
  .refine⟨some h.size,hs.rd 0 rfl (i:=0) rfl,hs.ext,h.size,O,rfl,hs.get (k:=1) rfl,hI.ob.iO uP,hI.ob.on,fun p hp k=>?_⟩;obtain⟨h1,h2⟩:=hI.fin (by rw[Yc];omega) eR hp k;refine⟨h1,fun hk=>?_⟩;have:=h2 hk;rw[Yc] at this;omega
end Go.VC
end

section
namespace Go.VC
theorem Ic:∀b:Fin 256,∀x:Fin 8,((sJ .u8 (sc .u8 (b.val:Int) (x.val:Int)) 1==1)=b.val.testBit x.val)/\((sJ .u8 (sc .u8 (b.val:Int) (x.val:Int)) 1==0)=!b.val.testBit x.val)/\Fe .u8 (b.val:Int) (eF .u8 1 (x.val:Int))=((b.val|||2^x.val:Nat):Int):=by
 decide +kernel
theorem aco:∀x:Fin 8,eF .u8 1 (x.val:Int)=((2^x.val:Nat):Int):=by decide +kernel
theorem or8{b x:Nat}(hb:b<256)(hx:x<8):b|||2^x<256:=Nat.or_lt_two_pow (n:=8) hb (Nat.pow_lt_pow_right (by omega) hx)
theorem or6{b x:Nat}(hb:b<64)(hx:x<6):b|||2^x<64:=Nat.or_lt_two_pow (n:=6) hb (Nat.pow_lt_pow_right (by omega) hx)
theorem VE{x:Nat}(hx:x<6):2^x<64:=Nat.pow_lt_pow_right (m:=x) (n:=6) (by omega) hx
theorem acm{x:Nat}(hx:x<8):2^x<256:=Nat.pow_lt_pow_right (m:=x) (n:=8) (by omega) hx
structure dX where
 s:Nat
 b:Nat
 d:Nat
 deriving DecidableEq
def dX.cs(p:dX):List Value:=[.int .i64 (p.s:Nat),.int .u8 (p.b:Nat),.int .u8 (p.d:Nat)]
def dX.ok(n:Nat)(p:dX):Prop:=p.s<n/\p.b<64/\p.d<64
theorem Gi{n:Nat}{L:List dX}(hn:L.Nodup)(h:∀p∈L,p.ok n):L.length<=n*4096:=by
 have h1:(L.map fun p=>p.s*4096+p.b*64+p.d).Nodup:=by
  rw[List.Nodup,List.pairwise_map];refine hn.imp_of_mem fun {a b} ha hb jI e=>jI ?_;obtain⟨h1,h2,h3⟩:=h a ha;obtain⟨h4,h5,h6⟩:=h b hb;obtain⟨a1,a2,a3⟩:=a;obtain⟨b1,b2,b3⟩:=b;simp only at *;congr 1<;>omega
 have h2:=List.Nodup.length_le_of_subset h1 (l₂:=List.range (n*4096)) fun x hx=>by
  obtain⟨p,hp,rfl⟩:=Yp.1 hx;obtain⟨h3,h4,h5⟩:=h p hp;rw[List.mem_range];omega
 rwa [Yc,kV] at h2
theorem fU{α:Type}{R:α->α->Prop}(irr:∀a,¬R a a)(tr:∀a b c,R a b->R b c->R a c):∀l m:List α,l.Pairwise R->m.Pairwise R->(∀x,x∈l ↔ x∈m)->l=m
 | [],[],_,_,_=>rfl
 | [],b::m,_,_,h=>absurd ((h b).2 (by simp)) (by simp)
 | a::l,[],_,_,h=>absurd ((h a).1 (by simp)) (by simp)
 | a::l,b::m,hl,hm,h=>by
  obtain⟨xu,il⟩:=List.pairwise_cons.1 hl;obtain⟨WJ,kd⟩:=List.pairwise_cons.1 hm;have e:a=b:=by
   rcases Yr.1 ((h a).1 (by simp)) with h1 | h1
   .exact h1
   rcases Yr.1 ((h b).2 (by simp)) with h2 | h2
   .exact h2.symm
   exact absurd (tr _ _ _ (xu b h2) (WJ a h1)) (irr a)
  subst e;congr 1;refine fU irr tr l m il kd fun x=>⟨fun hx=>?_,fun hx=>?_⟩
  .rcases Yr.1 ((h x).1 (Yn _ hx)) with h1 | h1
   .subst h1;exact absurd (xu x hx) (irr x)
   .exact h1
  .rcases Yr.1 ((h x).2 (Yn _ hx)) with h1 | h1
   .subst h1;exact absurd (WJ x hx) (irr x)
   .exact h1
def iz(x:Ed):List Ed->List Ed
 | []=>[x]
 | y::r=>if acLt y.act x.act then y::iz x r else x::y::r
theorem nv(x z:Ed):∀l:List Ed,z∈iz x l ↔ z=x\/z∈l
 | []=>by simp[iz]
 | y::r=>by
  unfold iz;split
  .rw[Yr,nv x z r,Yr];constructor
   .rintro (h | h | h)
    .exact .inr (.inl h)
    .exact .inl h
    .exact .inr (.inr h)
   .rintro (h | h | h)
    .exact .inr (.inl h)
    .exact .inl h
    .exact .inr (.inr h)
  .simp
theorem pS{x y z:Ac}(h1:acLt x y)(h2:acLt y z):acLt x z:=by unfold acLt at *;omega
theorem yh(x:Ac):¬acLt x x:=by unfold acLt;omega
theorem rM{x y:Ac}(h:x≠y)(h1:¬acLt y x):acLt x y:=by
 obtain⟨a,b,c⟩:=x;obtain⟨a',b',c'⟩:=y;unfold acLt at *;simp only[ne_eq,Ac.mk.injEq] at h;simp only at *;omega
theorem lS{x:Ed}:∀ {l:List Ed},l.Pairwise (fun a b=>acLt a.act b.act)->(∀y∈l,y.act≠x.act)->(iz x l).Pairwise fun a b=>acLt a.act b.act
 | [],_,_=>by simp[iz]
 | y::r,hl,hx=>by
  obtain⟨h1,h2⟩:=List.pairwise_cons.1 hl;unfold iz;by_cases h:acLt y.act x.act
  .rw[if_pos h,List.pairwise_cons];refine⟨fun z hz=>?_,lS h2 fun z hz=>hx z (Yn _ hz)⟩;rcases (nv x z r).1 hz with rfl | hz
   .exact h
   .exact h1 z hz
  .rw[if_neg h,List.pairwise_cons];have h3:acLt x.act y.act:=rM (fun e=>hx y (by simp) e.symm) h;refine⟨fun z hz=>?_,hl⟩;rcases Yr.1 hz with rfl | hz
   .exact h3
   .exact pS h3 (h1 z hz)
def vZ(l:List Ed):List Ed:=l.foldr iz []
def gu(es:List Ed)(s:Nat):List Ed:=vZ (es.filter fun x=>decide (x.f=(s:Int)))
theorem lj(l:List Ed)(z:Ed):z∈vZ l ↔ z∈l:=by
 induction l with
 | nil=>simp[vZ]
 | cons a l ih=>
  show z∈iz a (vZ l) ↔ _;rw[nv,ih,Yr]
theorem tt(x:Ed):∀l:List Ed,(iz x l).length=l.length+1
 | []=>rfl
 | y::r=>by
  unfold iz;split
  .rw[j5,tt x r,j5]
  .rfl
theorem vY(l:List Ed):(vZ l).length=l.length:=by
 induction l with
 | nil=>rfl
 | cons a l ih=>
  show (iz a (vZ l)).length=_;rw[tt,ih];rfl
theorem iW:∀ {l:List Ed},l.Pairwise (fun a b=>a.act≠b.act)->(vZ l).Pairwise fun a b=>acLt a.act b.act
 | [],_=>.nil
 | a::l,h=>by
  obtain⟨h1,h2⟩:=List.pairwise_cons.1 h;exact lS (iW h2) fun y hy=>(h1 y ((lj l y).1 hy)).symm
theorem OD{l l':List Ed}(hp:l'.Perm l)(hw:l'.Pairwise fun a b=>¬acLt b.act a.act)(hd:l.Pairwise fun a b=>a.act≠b.act):l'=vZ l:=by
 have Hx:l'.Pairwise fun a b=>a.act≠b.act:=(hp.pairwise_iff fun {a b} h=>h.symm).2 hd;refine fU (R:=fun a b:Ed=>acLt a.act b.act) (fun a=>yh _) (fun a b c=>pS) _ _ ?_ (iW hd) fun x=>by rw[lj];exact hp.mem_iff
 exact (hw.and Hx).imp fun ⟨h1,h2⟩=>rM h2 h1
theorem rL{g:Gl}(hV:af g)(s:Int):(g.es.filter fun x=>decide (x.f=s)).Pairwise fun a b=>a.act≠b.act:=by
 have h1:g.es.Pairwise fun a b=>a.f=b.f->a.act≠b.act:=by
  rw[List.pairwise_iff_getElem];intro i j hi hj hij hf he;refine hV.ord.p i _ (Yi hi) j _ (Yi hj) (.inl ⟨by omega,hf,.inl ?_⟩);unfold Ed.act at he;simp only[Ac.mk.injEq] at he;exact he
 refine (h1.sublist List.filter_sublist).imp_of_mem fun {a b} ha hb h=>h ?_;rw[List.mem_filter,decide_eq_true_eq] at ha hb;rw[ha.2,hb.2]
structure rO where
 m:Ms
 path:List Ac
abbrev nM:=dX × List Ac
def ec(role:Int)(p:dX)(x:Ed):dX × Bool:=
 if p.b.testBit x.a.toNat then (⟨x.t.toNat,p.b|||2^x.b.toNat,p.d⟩,false)
 else if x.b=role/\p.d.testBit x.a.toNat=false then (⟨x.t.toNat,p.b,p.d|||2^x.a.toNat⟩,true) else (⟨x.t.toNat,p.b,p.d⟩,false)
def nZ(F:List rO)(f:rO):List rO:=if ∃y∈F,y.m=f.m then F else F++[f]
def iZ(role:Int)(p:dX)(path:List Ac)(st:List nM × List rO)(x:Ed):List nM × List rO:=
 (if (ec role p x).1∈st.1.map Prod.fst then st.1 else st.1++[((ec role p x).1,path++[x.act])],
  if (ec role p x).2 then nZ st.2 ⟨⟨x.a,x.l⟩,path++[x.act]⟩ else st.2)
def oK(es:List Ed)(role:Int):Nat->Nat->List nM->List rO->List rO
 | 0,_,_,F=>F
 | f+1,hd,Q,F=>match Q[hd]? with
  | none=>F
  | some (p,path)=>oK es role f (hd+1) ((gu es p.s).foldl (iZ role p path) (Q,F)).1 ((gu es p.s).foldl (iZ role p path) (Q,F)).2
def ef(g:Gl)(i:Nat):List rO:=match g.es[i]? with
 | none=>[]
 | some x=>oK g.es x.b (g.n.toNat*65536+1) 0 [(⟨x.t.toNat,2^x.b.toNat,0⟩,[])] []
end Go.VC
end

section
namespace Go.VC
open Go.Proofs Go.LexS
def uM{α:Type}(p:α->Bool)(L:List α):Int:=match L.findIdx? p with | some i=>((i:Nat):Int) | none=>-1
theorem kH{α:Type}{p:α->Bool}:∀ {L:List α} {i:Nat} {x:α},(∀(j:Nat) y,j<i->L[j]?=some y->p y=false)->L[i]?=some x->p x=true->L.findIdx? p=some i
 | [],i,x,_,h,_=>by cases h
 | a::L,0,x,_,h,hp=>by cases h;rw[List.findIdx?_cons,hp];rfl
 | a::L,i+1,x,hq,h,hp=>by
  rw[List.findIdx?_cons,hq 0 a (by omega) rfl,kH (L:=L) (i:=i) (fun j y hj hy=>hq (j+1) y (by omega) hy) h hp];rfl
theorem w9{α:Type}{p:α->Bool}{L:List α}(h:∀(j:Nat) y,L[j]?=some y->p y=false):L.findIdx? p=none:=by
 rw[List.findIdx?_eq_none_iff];intro x hx;obtain⟨j,hj⟩:=Yf.1 hx;exact h j x hj
abbrev FS:=rO × Sl
def dz(q:FS):List Value:=[.int .i64 q.1.m.p,.int .i64 q.1.m.l,.slice q.2.a q.2.n q.2.c]
theorem zA(x y:Ms):((x.p==y.p)&&((x.l==y.l)&&true))=decide (x=y):=by
 obtain⟨a,b⟩:=x;obtain⟨c,d⟩:=y;rw[Bool.eq_iff_iff];simp
theorem KA(q:FS)(m:Ms)(b:Nat)(h:Heap)(fZ:aZ h ⟨b,0,none⟩ m.cs):Fn Pz 132 #[.agg ⟨dz q⟩,.pointer (some ⟨b,0,none⟩)] h fun v h'=>v=.bool (decide (q.1.m=m))/\Ext h h':=by
 apply U8 q.1.m.p q.1.m.l q.2 ⟨b,0,none⟩;unfold aaq;refine (St.refl h).aj fun h4 hs=>?_;exact⟨_,_,hs.at 0 rfl (o:=0) (n:=2) rfl,m.p,m.l,gh hs.ext fZ,by rw[zA],hs.ext⟩
theorem KB(q:FS)(m:Ms)(b:Nat)(h:Heap)(fZ:aZ h ⟨b,0,none⟩ m.cs):Fn Pz 72 #[.agg ⟨dz q⟩,.pointer (some ⟨b,0,none⟩)] h fun v h'=>v=.bool (decide (q.1.m=m))/\Ext h h':=by
 apply abv q.1.m.p q.1.m.l q.2 ⟨b,0,none⟩;unfold W72;refine (St.refl h).aj fun h4 hs=>?_;exact⟨_,_,hs.at 0 rfl (o:=0) (n:=2) rfl,m.p,m.l,gh hs.ext fZ,by rw[zA],hs.ext⟩
theorem Q9:aK Pz 132=true:=by kernel_rfl
theorem Rc:aK Pz 72=true:=by kernel_rfl
theorem xc(G:Nat)(hG:aK Pz G=true)(L:List FS)(m:Ms)(b:Nat)(s:Sl)(h:Heap)(hr:Rw h 3 s (L.map dz))(fZ:aZ h ⟨b,0,none⟩ m.cs)(hl:L.length<=16777216)
  (hF:∀(q:FS) (h:Heap),aZ h ⟨b,0,none⟩ m.cs->Fn Pz G #[.agg ⟨dz q⟩,.pointer (some ⟨b,0,none⟩)] h fun v h'=>v=.bool (decide (q.1.m=m))/\Ext h h') :
  Fn Pz 71 #[.slice s.a s.n s.c,.func (.func G) #[] #[.pointer (some ⟨b,0,none⟩)]] h fun v h'=>v=.int .i64 (uM (fun q=>decide (q.1.m=m)) L)/\Ext h h':=by
 apply abw;unfold W71;have hn:=hr.ln;refine⟨fun x h' μ=>∃i:Nat,x=i/\μ=s.n-i/\i<=s.n/\Ext h h'/\∀(j:Nat) (y:FS),j<i->L[j]?=some y->decide (y.1.m=m)=false,⟨_,0,rfl,rfl,Nat.zero_le _,.iK,fun j y hj=>by omega⟩,?_⟩;rintro-_ h5 μ ⟨i,rfl,rfl,hi,E,hd⟩;refine aM (fun c=>?_) (fun c=>?_)
 .refine (hr.ext E).aA (by omega) (by omega) fun b6 o7 q g t=>?_;replace g:L[i]?=some q:=g;refine⟨q.1.m.p,q.1.m.l,q.2,t,?_⟩;show cond (aK Pz G) _ _;rw[hG,cond_true];refine (hF q h5 (gh E fZ)).mono ?_;rintro _ cB ⟨rfl,E2⟩;refine⟨_,rfl,aa (fun c1=>⟨?_,E.trans E2⟩) (fun c1=>⟨_,by omega,i+1,by rw[a7 (by omega) (by omega)];omega,rfl,by omega,E.trans E2,fun j y hj hy=>?_⟩)⟩
  .unfold uM;rw[kH hd g c1]
  .by_cases e1:j=i
   .subst e1;rw[g] at hy;cases hy;exact c1
   .exact hd j y (by omega) hy
 .refine⟨?_,E⟩;unfold uM;rw[w9 fun j y hj=>hd j y (by have:=(Ya.1 hj).1;omega) hj]
theorem xS(L:List FS)(m:Ms)(b:Nat)(s:Sl)(h:Heap)(hr:Rw h 3 s (L.map dz))(fZ:aZ h ⟨b,0,none⟩ m.cs)(hl:L.length<=16777216):
  Fn Pz 131 #[.slice s.a s.n s.c,.func (.func 132) #[] #[.pointer (some ⟨b,0,none⟩)]] h fun v h'=>(∃r:Bool,v=.bool r/\(r=true ↔ ∃q∈L,q.1.m=m))/\Ext h h':=by
 apply U9;unfold aar;refine (xc 132 Q9 L m b s h hr fZ hl fun q h hc=>KA q m b h hc).mono ?_;rintro _ h3 ⟨rfl,E⟩;refine⟨_,rfl,⟨_,rfl,?_⟩,E⟩;rw[decide_eq_true_eq];unfold uM;cases hf:L.findIdx? fun q=>decide (q.1.m=m) with
 | none=>
  rw[List.findIdx?_eq_none_iff] at hf;refine iff_of_false (by simp only;omega) ?_;rintro⟨q,hq,e⟩;have:=hf q hq;rw[decide_eq_true e] at this;cases this
 | some i=>
  refine iff_of_true (by simp only;omega) ?_;obtain⟨h1,h2,_⟩:=List.findIdx?_eq_some_iff_getElem.1 hf;exact⟨L[i],List.getElem_mem h1,cm h2⟩
theorem KJ{α:Type}(L:List α)(i:Nat)(hi:i<L.length):L.reverse[i]?=L[L.length-1-i]?:=by
 rw[List.getElem?_reverse hi]
theorem yS{h0 h:Heap}{Ls:List It}(hs:St h0 h Ls)(k:Nat){s:Sl}{l:List Ac}(hk:Ls[k]?=some (.sl s 65 3 (l.map Ac.cs)))(hl:l.length<=33554432):
  Fn Pz 133 #[.slice s.a s.n s.c] h fun v h'=>v=.tuple ⟨[]⟩/\St h0 h' (Ls.set k (.sl s 65 3 (l.reverse.map Ac.cs))):=by
 apply U7 s;unfold aap;have qT:k<Ls.length:=(Ya.1 hk).1;have hn:s.n=l.length:=by have:=(hs.len k hk (by omega)).1;rwa [Yc] at this
 have et:Ls.set k (.sl s 65 3 (l.map Ac.cs))=Ls:=by
  obtain⟨a,b⟩:=Ya.1 hk;rw[<-b];exact List.set_getElem_self a
 refine⟨fun x y h' m=>∃(i:Nat) (c:List Ac),x=i/\y=(l.length:Int)-1-i/\m=l.length-i/\2*i<=l.length+1/\c.length=l.length/\(∀t,t<l.length->c[t]?=if t<i\/l.length-i<=t then l[l.length-1-t]? else l[t]?)/\St h0 h' (Ls.set k (.sl s 65 3 (c.map Ac.cs))),
  ⟨_,0,l,rfl,by rw[a7 (by omega) (by omega)];omega,rfl,by omega,rfl,fun t ht=>by rw[if_neg (by omega)],by rw[et];exact hs⟩,?_⟩
 clear hs;rintro-_ _ h6 m ⟨i,c,rfl,rfl,rfl,hi,eR,hc,hs⟩;have PH:(Ls.set k (.sl s 65 3 (c.map Ac.cs)))[k]?=some (.sl s 65 3 (c.map Ac.cs)):=by rw[Yq qT]
 refine aM (fun c1=>?_) (fun c1=>?_)
 .have hj:(l.length:Int)-1-i=((l.length-1-i:Nat):Int):=by omega
  rw[hj];refine (hs.rows k PH (by omega)).aA (by omega) (by omega) fun b7 o8 x gx t=>?_;replace gx:c[l.length-1-i]?=some x:=gx;refine⟨x.a,x.b,x.l,t,?_⟩;refine (hs.rows k PH (by omega)).aA (by omega) (by omega) fun b12 o13 y gy t2=>?_;replace gy:c[i]?=some y:=gy;refine⟨y.a,y.b,y.l,t2,?_⟩;refine hs.set k PH (by omega) (x:=(i:Int)) (by omega) (by omega) x rfl rfl (fun b17 Sy h19 hs=>?_) rfl;rw[List.set_set] at hs;have ade:(Ls.set k (.sl s 65 3 ((c.set (Int.toNat (i:Int)) x).map Ac.cs)))[k]?=some (.sl s 65 3 ((c.set (Int.toNat (i:Int)) x).map Ac.cs)):=by rw[Yq qT]
  refine hs.set k ade (by omega) (x:=((l.length-1-i:Nat):Int)) (by omega) (by omega) y rfl rfl (fun b20 o21 dV hs=>?_) rfl;rw[List.set_set] at hs;refine⟨_,?_,i+1,(c.set i x).set (l.length-1-i) y,by rw[a7 (by omega) (by omega)];omega,by rw[a7 (by omega) (by omega)];omega,rfl,by omega,by rw[jR,jR];exact eR,fun t ht=>?_,hs⟩
  .omega
  .have h1:=hc (l.length-1-i) (by omega);have h2:=hc i (by omega);rw[if_neg (by omega)] at h1 h2;rw[gx] at h1;rw[gy] at h2;by_cases e1:l.length-1-i=t
   .subst e1;rw[Yq (by rw[jR];omega),if_pos (by omega),show l.length-1-(l.length-1-i)=i by omega,h2]
   .rw[Yy e1];by_cases e2:i=t
    .subst e2;rw[Yq (by omega),if_pos (by omega),h1]
    .rw[Yy e2,hc t ht];by_cases e3:t<i\/l.length-i<=t
     .rw[if_pos e3,if_pos (by omega)]
     .rw[if_neg e3,if_neg (by omega)]
 .refine⟨rfl,?_⟩;have:c=l.reverse:=by
   apply yL;intro t;by_cases ht:t<l.length
   .rw[hc t ht,KJ l t ht];by_cases e3:t<i\/l.length-i<=t
    .rw[if_pos e3]
    .rw[if_neg e3];congr 1;omega
   .rw[Yl (by omega),Yl (by rw[List.length_reverse];omega)]
  rw[<-this];exact hs
end Go.VC
end

section
namespace Go.VC
open Go.Proofs Go.LexS Go.Maps
theorem Pb(n:Nat):ai Pz 24 n=(List.replicate n (⟨none,0,0⟩:Sl)).map eS:=by
 have e:bV Pz 24=[.slice none 0 0]:=by kernel_rfl
 unfold ai;rw[e,List.map_replicate]
 induction n with
 | zero=>rfl
 | succ n ih=>rw[List.replicate_succ,List.replicate_succ,oC,ih];rfl
theorem Y3:cC Pz 24 67 6 48=true:=by kernel_rfl
theorem Ry:cC Pz 130 134 3 40=true:=by kernel_rfl
theorem Ru:cC Pz 249 248 7 48=true:=by kernel_rfl
theorem RA:cC Pz 68 72 2 16=true:=by kernel_rfl
def dX.v(p:dX):Value:=.agg ⟨p.cs⟩
def Lp(p:dX):Prop:=p.s<1048576/\p.b<256/\p.d<256
theorem acr : ∃ fs, Pz.underlying 245 = some (.struct fs) /\ fs.all (·.name != "_") = true /\ fs.toList.map (fun f => (f.type, f.offset)) = [(3, 0), (5, 1), (5, 2)] := su (by kernel_rfl)
theorem YS:Pz.cellsOf 245=3:=by kernel_rfl
theorem c5:Pz.cellsOf 5=1:=by kernel_rfl
theorem u5:Pz.underlying 5=some (.int .u8):=by kernel_rfl
theorem wf8{n:Nat}(h:n<256):(Lit.int .u8 ((n:Nat):Int)).wf=true:=by
 unfold Lit.wf;simp only[Yt,decide_eq_true_eq];have e1:IntKind.u8.min=0:=by decide
 have e2:IntKind.u8.max=255:=by decide
 rw[e1,e2];omega
theorem Lq(p:dX)(h:Lp p):∃l,keyOf Pz 245 p.v=some l:=by
 obtain⟨fs,hu,hn,hf⟩:=acr;obtain⟨h1,h2,h3⟩:=h;have fF:∃n,Pz.types.size+1=n+2:=⟨Pz.types.size-1,by kernel_rfl⟩;obtain⟨n,fF⟩:=fF;have w1:Wa ((p.s:Nat):Int):=⟨by omega,by omega⟩;have hl:Pz.keyLits (n+2) 245 p.cs=some [[.int .i64 ((p.s:Nat):Int)],[.int .u8 ((p.b:Nat):Int)],[.int .u8 ((p.d:Nat):Int)]].flatten:=by
  refine tm hu (by rw[YS];rfl) hn hf ?_;simp only[List.mapM_cons,List.mapM_nil,c3,c5,dX.cs,List.drop_zero,List.take_succ_cons,my,List.drop_succ_cons,qN u3 w1.wf,qN u5 (wf8 h2),qN u5 (wf8 h3)];rfl
 have hkt:Pz.keyType 245=true:=by kernel_rfl
 have S3:p.v.formed Pz 245=true:=by
  unfold dX.v Value.formed;simp only[hu,YS];rfl
 have e:keyOf Pz 245 p.v=(Pz.keyLits (n+2) 245 p.cs).map fun ls=>.string (keyBytes ls):=by
  unfold keyOf;simp only[hu,hkt,S3,Bool.and_self,if_true,fF];rfl
 rw[e,hl];exact⟨_,rfl⟩
theorem KM(a b:dX)(h:a.v=b.v):a=b:=by
 unfold dX.v dX.cs at h;obtain⟨a1,a2,a3⟩:=a;obtain⟨b1,b2,b3⟩:=b;simp at h;obtain⟨h1,h2,h3⟩:=h;congr 1<;>omega
theorem Sq:MT Pz 246 245 4 dX.v Lp (.bool false) where
 K:=Keyed.of_law (deep_law_laid zC (m:=2) (by omega) (cm (by kernel_rfl)) (by kernel_rfl) (by kernel_rfl))
 ht:=by kernel_rfl
 key:=Lq
 inj:=KM
 z:=fun w=>by kernel_rfl
abbrev Cv:=dX × (Int × Ac)
def vC(v:Cv):List Value:=[.int .i64 (v.1.s:Nat),.int .u8 (v.1.b:Nat),.int .u8 (v.1.d:Nat),.int .i64 v.2.1,.int .i64 v.2.2.a,.int .i64 v.2.2.b,.int .i64 v.2.2.l]
structure AD (n:Nat) (Q:List nM) (V:List Cv) (K:List (dX × Bool)):Prop where
 vn:V.length=Q.length
 vq:∀(i:Nat) (v:Cv) (q:nM),V[i]?=some v->Q[i]?=some q->v.1=q.1/\((v.2.1=-1/\q.2=[])\/∃(a:Nat) (qa:nM),v.2.1=a/\a<i/\Q[a]?=some qa/\q.2=qa.2++[v.2.2])
 nd:(Q.map Prod.fst).Nodup
 ok:∀q∈Q,q.1.ok n
 pl:∀(i:Nat) (q:nM),Q[i]?=some q->q.2.length<=i
 ky:∀p,p∈K.map Prod.fst ↔ p∈Q.map Prod.fst
 kt:∀q∈K,q.2=true
 kn:(K.map Prod.fst).Nodup
theorem AD.le{n:Nat}{Q:List nM}{V:List Cv}{K:List (dX × Bool)}(h:AD n Q V K):Q.length<=n*4096:=by
 have:=Gi h.nd fun p hp=>by obtain⟨q,hq,rfl⟩:=Yp.1 hp;exact h.ok q hq
 rwa [Yc] at this
theorem AD.iO{n:Nat}{Q:List nM}{V:List Cv}{K:List (dX × Bool)}(h:AD n Q V K)(hn:n<=200):∀q∈K,Lp q.1:=fun q hq=>by
 have h1:=(h.ky q.1).1 (Yp.2 ⟨q,hq,rfl⟩);obtain⟨q2,h2,h3⟩:=Yp.1 h1;obtain⟨h4,h5,h6⟩:=h.ok q2 h2;rw[h3] at h4 h5 h6;exact⟨by omega,by omega,by omega⟩
theorem wU{α β:Type}[DecidableEq α](a:α)(b:β):∀(l:List (α × β)) (q:α × β),q∈cI l a b->q∈l\/q=(a,b)
 | [],q,h=>by simp[cI] at h;exact .inr h
 | (c,y)::r,q,h=>by
  rw[cI] at h;split at h
  .rename_i e;subst e;rcases Yr.1 h with h | h
   .exact .inr h
   .exact .inl (Yn _ h)
  .rcases Yr.1 h with h | h
   .exact .inl (by rw[h];simp)
   .rcases wU a b r q h with h | h
    .exact .inl (Yn _ h)
    .exact .inr h
theorem AD.push{n:Nat}{Q:List nM}{V:List Cv}{K:List (dX × Bool)}(h:AD n Q V K){hd:Nat}{q:nM}(hq:Q[hd]?=some q){nx:dX}{a:Ac}(bK:nx∉Q.map Prod.fst)(lV:nx.ok n):
  AD n (Q++[(nx,q.2++[a])]) (V++[(nx,((hd:Int),a))]) (cI K nx true):=by
 have hl:=(Ya.1 hq).1;refine⟨by rw[Yh,Yh,h.vn];rfl,fun i v p hv hp=>?_,?_,fun p hp=>?_,fun i p hp=>?_,fun p=>?_,fun p hp=>?_,fB _ _ _ h.kn⟩
 .rcases Nat.lt_or_ge i Q.length with h1 | h1
  .rw[jt (by rw[h.vn];exact h1)] at hv;rw[jt h1] at hp;obtain⟨h2,h3⟩:=h.vq i v p hv hp;refine⟨h2,h3.imp_right fun ⟨a',qa,h4,h5,h6,h7⟩=>⟨a',qa,h4,h5,?_,h7⟩⟩;rw[jt (by omega)];exact h6
  .rw[tT (by rw[h.vn];exact h1),h.vn] at hv;rw[tT h1] at hp;have h2:=(Ya.1 hp).1;rw[Yv] at h2;have h3:i-Q.length=0:=by omega
   rw[h3] at hv hp;cases hv;cases hp;exact⟨rfl,.inr ⟨hd,q,rfl,by omega,by rw[jt hl];exact hq,rfl⟩⟩
 .rw[Ym,List.nodup_append];exact⟨h.nd,by simp,fun x hx y hy e=>by simp only[gJ,List.map_nil,Ye] at hy;subst hy;subst e;exact bK hx⟩
 .rcases Yk.1 hp with hp | hp
  .exact h.ok p hp
  .rw[Ye] at hp;rw[hp];exact lV
 .rcases Nat.lt_or_ge i Q.length with h1 | h1
  .rw[jt h1] at hp;exact h.pl i p hp
  .rw[tT h1] at hp;have h2:=(Ya.1 hp).1;rw[Yv] at h2;have h3:i-Q.length=0:=by omega
   rw[h3] at hp;cases hp;have:=h.pl hd q hq;simp only[Yh,Yv];omega
 .rw[fm,h.ky,Ym,Yk];simp
 .rcases wU nx true K p hp with h1 | h1
  .exact h.kt p h1
  .rw[h1]
theorem AD.look{n:Nat}{Q:List nM}{V:List Cv}{K:List (dX × Bool)}(h:AD n Q V K)(p:dX):(aU K p).elim (Value.bool false) Value.bool=.bool (decide (p∈Q.map Prod.fst)):=by
 cases hm:aU K p with
 | none=>
  rw[decide_eq_false fun hp=>?_];rfl;have:=(cZ p K).2 ((h.ky p).2 hp);rw[hm] at this;cases this
 | some b=>
  have h1:=(cZ p K).1 (by rw[hm];rfl);obtain⟨q,hq,rfl⟩:=Yp.1 h1;obtain⟨j,hj⟩:=Yf.1 hq;have h2:=fp h.kn (a:=q.1) (y:=q.2) hj;rw[hm] at h2;cases h2;rw[decide_eq_true ((h.ky _).1 h1),h.kt q hq];rfl
theorem A3{g:Gl}(hV:af g){p:dX}(hp:p.ok g.n.toNat){x:Ed}(hx:x∈g.es)(role:Int):(ec role p x).1.ok g.n.toNat:=by
 have h1:=hV.num.e x hx;have h2:=hV.Nr.n6;unfold gV at h1;obtain⟨h3,h4,h5⟩:=hp;unfold ec;split
 .exact⟨by simp only;omega,or6 h4 (by omega),h5⟩
 .split
  .exact⟨by simp only;omega,h4,or6 h5 (by omega)⟩
  .exact⟨by simp only;omega,h4,h5⟩
def dm(q:FS):It:=nest 65 3 Ac.cs (q.2,q.1.path)
def fw(gb ob mb:Nat)(g:Gl)(qu al:Sl)(V:List Cv)(K:List (dX × Bool))(F:List FS)(MS:List (Sl × List Ed)):List It:=
 .sl qu 248 7 (V.map vC) :: .sl al 134 3 (F.map dz) :: .mp mb (K.map fun q=>(q.1.v,Value.bool q.2)) :: .ae ob ((MS.map Prod.fst).map eS) 24 :: .ae gb g.cs 27::(MS.map (nest 67 6 Ed.cs)++F.map dm)
end Go.VC
end

section
namespace Go.VC
open Go.Proofs Go.LexS
theorem F5{gb ob mb:Nat}{g:Gl}{qu al:Sl}{V:List Cv}{K:List (dX × Bool)}{F:List FS}{MS:List (Sl × List Ed)}(f:FS):(fw gb ob mb g qu al V K (F++[f]) MS).Perm (dm f :: .sl qu 248 7 (V.map vC) :: .sl al 134 3 ((F++[f]).map dz) :: .mp mb (K.map fun q=>(q.1.v,Value.bool q.2)) :: .ae ob ((MS.map Prod.fst).map eS) 24 :: .ae gb g.cs 27::(MS.map (nest 67 6 Ed.cs)++F.map dm)):=by
 unfold fw;rw[Ym (f:=dm),<-Yz];refine List.Perm.trans (List.Perm.of_eq ?_) (List.perm_append_comm (l₁:=.sl qu 248 7 (V.map vC) :: .sl al 134 3 ((F++[f]).map dz) :: .mp mb (K.map fun q=>(q.1.v,Value.bool q.2)) :: .ae ob ((MS.map Prod.fst).map eS) 24 :: .ae gb g.cs 27::(MS.map (nest 67 6 Ed.cs)++F.map dm)) (l₂:=[dm f]));simp
theorem KO{h0 Eo xB sE:Heap}{hd:Nat}{g:Gl}{gb ob mb:Nat}{qu al:Sl}{V:List Cv}{K:List (dX × Bool)}{F:List FS}{MS:List (Sl × List Ed)}{R:List It}{Q:List nM}{q:nM}{x:Ac}{m:Ms}{n:Nat}{J:Sl->Heap->Prop}
  (hs:St h0 xB (.sl ⟨some ⟨Eo.size,0,none⟩,1,1⟩ 65 3 ([x].map Ac.cs) :: .ae sE.size m.cs 72::(R++fw gb ob mb g qu al V K F MS))) (hQ:AD n Q V K) (hn:n<=200) (hq:Q[hd]?=some q) (hF:F.length<=16777216)
  (hJ:∀(Fy r:Sl) (h':Heap),St h0 h' (R++fw gb ob mb g qu Fy V K (F++[(⟨m,q.2++[x]⟩,r)]) MS)->J Fy h') :
  R8 Eo (hd:Nat) xB qu sE al J:=by
 unfold R8;have hle:=hQ.le;have BR:n*4096<=200*4096:=Nat.mul_le_mul_right _ hn;refine⟨fun path y h' μ=>∃(i:Nat) (qi:nM) (Nl:List Ac),y=i/\μ=i/\Q[i]?=some qi/\q.2=qi.2++Nl/\St h0 h' (.sl path 65 3 ((x::Nl.reverse).map Ac.cs) :: .ae sE.size m.cs 72::(R++fw gb ob mb g qu al V K F MS)),⟨_,hd,q,[],rfl,rfl,hq,by simp,hs⟩,?_⟩;clear hs;rintro-path _ h150 i ⟨_,qi,Nl,rfl,rfl,Wr,SS,hs⟩;have oU:=(Ya.1 Wr).1;have de:=hQ.pl hd q hq;have yD:=(Ya.1 hq).1;have n9:Nl.length<=q.2.length:=by rw[SS,Yh];omega
 have xw:=hs.len 0 (s:=path) (e:=65) (n:=3) (rows:=(x::Nl.reverse).map Ac.cs) rfl (by omega);rw[Yc,j5,List.length_reverse] at xw;have eK:∀ {it:It},it∈fw gb ob mb g qu al V K F MS->it∈(.sl path 65 3 ((x::Nl.reverse).map Ac.cs) :: .ae sE.size m.cs 72::(R++fw gb ob mb g qu al V K F MS)):=fun h=>Yn _ (Yn _ (List.mem_append_right _ h));have hqr:Rw h150 7 qu (V.map vC):=hs.mD (e:=248) (eK (by unfold fw;simp)) (by omega);have nz:=hqr.ln;have Lz:=hQ.vn;obtain⟨v,hv⟩:=get_some (l:=V) (i:=i) (by omega);obtain⟨h1,h2⟩:=hQ.vq i v qi hv Wr;refine hqr.aA (by omega) (by omega) fun afb acC v' gv t=>?_;replace gv:V[i]?=some v':=gv;rw[hv] at gv;cases gv;refine⟨v.2.1,t.nth 3 rfl,aM (fun c=>?_) (fun c=>?_)⟩
 .obtain⟨a,qa,h3,h4,h5,h6⟩:∃(a:Nat) (qa:nM),v.2.1=a/\a<i/\Q[a]?=some qa/\qi.2=qa.2++[v.2.2]:=by
   rcases h2 with ⟨h2,_⟩ | h2
   .omega
   .exact h2
  refine hqr.aA (by omega) (by omega) fun ain agm v' gv t2=>?_;replace gv:V[i]?=some v':=gv;rw[hv] at gv;cases gv;refine⟨v.2.2.a,v.2.2.b,v.2.2.l,t2.sub 4 3 rfl,?_⟩;refine hs.app 0 rfl eM (m:=1) [v.2.2.cs] rfl rfl (fun r hr=>by rw[Ye] at hr;rw[hr];rfl) rfl (by omega) (by simp only[maxLen];omega) fun afV Qp n160 hs=>?_;have acN:Rw Qp 7 qu (V.map vC):=hs.mD (e:=248) (Yn _ (Yn _ (List.mem_append_right _ (by unfold fw;simp)))) (by omega);refine acN.aA (by omega) (by omega) fun ail agk v' gv t3=>?_;replace gv:V[i]?=some v':=gv;rw[hv] at gv;cases gv;refine⟨v.2.1,t3.nth 3 rfl,a,h4,a,qa,v.2.2::Nl,h3,rfl,h5,by rw[SS,h6,Yz];rfl,?_⟩;rw[List.reverse_cons,<-List.cons_append,Ym];exact hs
 .have acW:qi.2=[]:=by
   rcases h2 with ⟨_,h2⟩ | ⟨a,_,h3,_⟩
   .exact h2
   .omega
  rw[acW,List.nil_append] at SS;refine (yS hs 0 rfl (by rw[j5,List.length_reverse];omega)).mono ?_;rintro _ Qo ⟨rfl,hs⟩;have er:(x::Nl.reverse).reverse=q.2++[x]:=by rw[List.reverse_cons,List.reverse_reverse,SS]
  rw[er] at hs;refine⟨rfl,m.p,m.l,hs.at 1 rfl (o:=0) (n:=2) rfl,?_⟩;refine hs.aq fun Ma aiz hs=>?_;have hs:St h0 Ma (.sl al 134 3 (F.map dz) :: .ae Qo.size (dz ((⟨m,q.2++[x]⟩:rO),path)) 134 :: .sl path 65 3 ((q.2++[x]).map Ac.cs) :: .ae sE.size m.cs 72::(R++(.sl qu 248 7 (V.map vC) :: .mp mb (K.map fun q=>(q.1.v,Value.bool q.2)) :: .ae ob ((MS.map Prod.fst).map eS) 24 :: .ae gb g.cs 27::(MS.map (nest 67 6 Ed.cs)++F.map dm)))):=by
   refine hs.perm ?_;refine List.Perm.trans (List.Perm.of_eq ?_) (List.Perm.trans (List.perm_middle (l₁:=.ae Qo.size (dz ((⟨m,q.2++[x]⟩:rO),path)) 134 :: .sl path 65 3 ((q.2++[x]).map Ac.cs) :: .ae sE.size m.cs 72::(R++[.sl qu 248 7 (V.map vC)])) (a:=.sl al 134 3 (F.map dz)) (l₂:=.mp mb (K.map fun q=>(q.1.v,Value.bool q.2)) :: .ae ob ((MS.map Prod.fst).map eS) 24 :: .ae gb g.cs 27::(MS.map (nest 67 6 Ed.cs)++F.map dm))) (List.Perm.of_eq ?_))
   .simp[fw,dz]
   .simp
  have Xe:=hs.len 0 (s:=al) (e:=134) (n:=3) (rows:=F.map dz) rfl (by omega);rw[Yc] at Xe;refine hs.appended 0 rfl Ry (news:=[dz ((⟨m,q.2++[x]⟩:rO),path)]) (hs.at 1 rfl (o:=0) (n:=3) rfl) rfl (fun r hr=>by rw[Ye] at hr;rw[hr];rfl) rfl (by show (al.n+1)*40<=140737488355328;omega) (by show al.n+1<=9223372036854775807;omega) fun OJ Qn n171 hs=>?_;refine hJ OJ path Qn ?_;have hs:St h0 Qn (.sl OJ 134 3 ((F++[((⟨m,q.2++[x]⟩:rO),path)]).map dz)::dm ((⟨m,q.2++[x]⟩:rO),path)::(R++(.sl qu 248 7 (V.map vC) :: .mp mb (K.map fun q=>(q.1.v,Value.bool q.2)) :: .ae ob ((MS.map Prod.fst).map eS) 24 :: .ae gb g.cs 27::(MS.map (nest 67 6 Ed.cs)++F.map dm)))):=by
   rw[Ym];exact hs.sub (.cons_cons _ (.cons _ (.cons_cons _ (.cons _ (List.Sublist.refl _)))))
  refine hs.perm ?_;refine List.Perm.symm ((List.Perm.append_left R (F5 _)).trans ?_);refine List.Perm.trans (List.Perm.of_eq ?_) (List.Perm.trans (List.perm_middle (l₁:=R++[dm ((⟨m,q.2++[x]⟩:rO),path),.sl qu 248 7 (V.map vC)]) (a:=.sl OJ 134 3 ((F++[((⟨m,q.2++[x]⟩:rO),path)]).map dz)) (l₂:=.mp mb (K.map fun q=>(q.1.v,Value.bool q.2)) :: .ae ob ((MS.map Prod.fst).map eS) 24 :: .ae gb g.cs 27::(MS.map (nest 67 6 Ed.cs)++F.map dm))) (List.Perm.cons _ ?_))
  .simp
  .refine List.Perm.trans (List.Perm.of_eq ?_) (List.perm_middle (l₁:=R) (a:=dm ((⟨m,q.2++[x]⟩:rO),path)));simp
end Go.VC
end
