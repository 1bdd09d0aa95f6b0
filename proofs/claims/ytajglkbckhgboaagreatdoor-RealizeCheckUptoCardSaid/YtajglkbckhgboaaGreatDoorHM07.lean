/- SxLd SxLe0 SxLs SxLe SxLf SxLg SxLh SxLj SxLk SxLl SxLm SxLn0 SxLn SxLo SxLp SxLq0 SxLq SxLr0 SxLr. -/
import Derived.Test.YtajglkbckhgboaaGreatDoorHM06
import Derived.Lib.AppendZerosOnto
set_option linter.all false
set_option maxRecDepth 100000
set_option maxHeartbeats 8000000

section
namespace Go.VC
open Go.Proofs Go.LexS
theorem u7{α:Type}{p:α->Bool}:∀(L:List α) (i:Nat) (x:α),(∀(j:Nat) y,j<i->L[j]?=some y->p y=false)->L[i]?=some x->p x=true->L.find? p=some x
 | [],i,x,_,h,_=>by cases h
 | a::L,0,x,_,h,hp=>by cases h;exact List.find?_cons_of_pos hp
 | a::L,i+1,x,hq,h,hp=>by
  rw[List.find?_cons_of_neg (by rw[hq 0 a (by omega) rfl];decide)];exact u7 L i x (fun j y hj hy=>hq (j+1) y (by omega) hy) h hp
theorem B9{α:Type}{p:α->Bool}{L:List α}(h:∀(j:Nat) y,L[j]?=some y->p y=false):L.find? p=none:=by
 rw[List.find?_eq_none];intro x hx;obtain⟨j,hj⟩:=Yf.1 hx;rw[h j x hj];decide
def dx(K:List Ev)(x:Ev):Bool:=x.send && !decide (x∈K)
theorem q9(p:Addr)(role:Int)(cn cc bu cm:Sl)(fi:List Fs)(li:List Lm)(ag ow:List Bool)(s t:Nat)(fs ft:Fs)(h:Heap)(hA:Te h p role cn cc bu cm fi li ag ow)(gs:fi[s]?=some fs)(gt:fi[t]?=some ft):
  Fn Pz 170 #[.pointer (some p),.agg ⟨[.int .i64 (s:Nat),.int .i64 (t:Nat)]⟩] h fun v h'=>Ext h h'/\v=(match fs.l.find? (dx ft.l) with | some x=>.tuple ⟨[.agg ⟨x.cs⟩,.bool true]⟩ | none=>.tuple ⟨[.agg ⟨[.bool false,.int .i64 0,.int .i64 0]⟩,.bool false]⟩):=by
 apply Us p (s:Nat) (t:Nat);unfold ZL;have n1:=hA.rf.ln;have ls:=(Ya.1 gs).1;have lt:=(Ya.1 gt).1;have Ww:=hA.re fs (Yb gs);have hft:=hA.re ft (Yb gt);have n2:=Ww.ln;have m2:=Ww.sm;refine (St.refl h).ak fun h3 hs=>?_;refine hs.ak fun h4 hs=>?_;refine⟨cn,(hA.ext hs.ext).f,s,hs.rd 1 rfl (i:=0) rfl,?_⟩;refine (hA.rf.ext hs.ext).rw.aD (by omega) (by omega) fun b7 o8 f gf u=>?_;replace gf:fi[s]?=some f:=gf;rw[gs] at gf;cases gf;refine⟨fs.s,u.nth 0 rfl,?_⟩;refine aL (n:=fs.s.n) hs (fun i=>∀(j:Nat) x,j<i->fs.l[j]?=some x->dx ft.l x=false) (fun j x hj=>by omega) ?_;clear hs;rintro-i B7 hi ⟨hs,hq⟩;refine aa (fun c=>?_) (fun c=>?_)
 .replace c:=bU c;refine (Ww.ext hs.ext).rw.aD (by omega) (by omega) fun b15 OK x gx ux=>?_;replace gx:fs.l[i]?=some x:=gx;refine⟨x.send,x.peer,x.label,ux,?_⟩;refine hs.ao (vs:=x.cs) rfl rfl fun iP hs=>?_;have s7:∀ {hZ:Heap},Ext iP hZ->dx ft.l x=false->∃m42,m42<fs.s.n-i/\Up fs.s.n (fun i h'=>St h h' [.ae h3.size [.bool false,.int .i64 0,.int .i64 0] 188,.ae h.size [.int .i64 (s:Nat),.int .i64 (t:Nat)] 97]/\∀(j:Nat) x,j<i->fs.l[j]?=some x->dx ft.l x=false) (IntKind.wrap .i64 ((i:Int)+1)) hZ m42:=fun {hZ} E hd=>by
   refine Up.next c (by omega) ⟨(hs.step E).drop 1,fun j y hj gy=>?_⟩;by_cases e:j=i
   .subst e;rw[gx] at gy;cases gy;exact hd
   .exact hq j y (by omega) gy
  refine⟨x.send,hs.rd 0 rfl (i:=0) rfl,aa (fun c2=>?_) (fun c2=>s7 .iC (by unfold dx;rw[c2];rfl))⟩;refine⟨cn,(hA.ext hs.ext).f,t,hs.rd 2 rfl (i:=1) rfl,?_⟩;refine (hA.rf.ext hs.ext).rw.aD (by omega) (by omega) fun b25 o26 f2 gf2 u2=>?_;replace gf2:fi[t]?=some f2:=gf2;rw[gt] at gf2;cases gf2;refine⟨ft.s,ft.b,u2,x.send,x.peer,x.label,hs.at 0 rfl (o:=0) (n:=3) rfl,?_⟩;refine (BZ ft.l ft.b x ft.s iP (hft.ext hs.ext).rw hft.sm).mono ?_;rintro _ oe ⟨⟨b,rfl,hb⟩,E⟩;refine⟨b,rfl,E.sm,aa (fun c3=>?_) (fun c3=>s7 E ?_)⟩
  .have hs:=hs.step E;have ca:x∉ft.l:=cw hb (bF c3);refine⟨x.send,x.peer,x.label,hs.at 0 rfl (o:=0) (n:=3) rfl,?_⟩;refine hs.put 1 rfl (o:=0) (vs:=x.cs) rfl (bc 3) fun tB hs=>?_;refine⟨x.send,x.peer,x.label,hs.at 1 rfl (o:=0) (n:=3) rfl,hs.ext,?_⟩;rw[u7 fs.l i x hq gx (by unfold dx;rw[c2,decide_eq_false ca];rfl)];rfl
  .unfold dx;rw[decide_eq_true (hb.1 (bT c3))];simp
 .replace c:=cj c;refine hs.put 0 rfl (o:=0) (vs:=[.bool false,.int .i64 0,.int .i64 0]) rfl (bc 3) fun uQ hs=>?_;refine⟨false,0,0,hs.at 0 rfl (o:=0) (n:=3) rfl,hs.ext,?_⟩;rw[B9 fun j y hj=>hq j y (by have:=(Ya.1 hj).1;omega) hj]
theorem Oj:Pz.underlying 193=some (.slice 188):=by kernel_rfl
theorem J6(w:World):(zeroValue 188).run Pz w=.ok (.agg #[.bool false,.int .i64 0,.int .i64 0]) w:=by
 have hi:(Pz.info? 188).bind (·.zero)=some (.agg #[.bool false,.int .i64 0,.int .i64 0]):=by kernel_rfl
 cases h:Pz.info? 188 with
 | none=>rw[h] at hi;cases hi
 | some i=>rw[h] at hi;simp only[Option.bind_some] at hi;simp[zeroValue,typeInfo,h,hi]
theorem z6{h0 h:Heap}{L:List It}(hs:St h0 h L)(k:Nat){s:Sl}{l:List Ev}(hk:L[k]?=some (.sl s 188 3 (l.map Ev.cs)))(hm:l.length<=1048576):
  Fn Pz 186 #[.slice s.a s.n s.c] h fun v h'=>∃r:Sl,v=.slice r.a r.n r.c/\St h0 h' (L.set k (.sl r 188 3 ((aV l).map Ev.cs))):=by
 apply Ud s;unfold Zx;have hlen:=hs.len k hk (by omega);have hn:s.n=l.length:=by rw[hlen.1,Yc]
 have qP:k<L.length:=(Ya.1 hk).1;have ep:L.set k (.sl s 188 3 (l.map Ev.cs))=L:=by
  obtain⟨a,b⟩:=Ya.1 hk;rw[<-b];exact List.set_getElem_self a
 have BH:aV l=l->(∃r:Sl,Value.slice s.a s.n s.c=.slice r.a r.n r.c/\St h0 h (L.set k (.sl r 188 3 ((aV l).map Ev.cs)))):=fun e=>⟨s,rfl,by rw[e,ep];exact hs⟩;refine aa (fun c=>?_) (fun c=>?_)
 .have:l.length<2:=by have:=cd c;omega
  refine BH ?_
  match l,this with
  | [],_=>rfl
  | [a],_=>rfl
 .have h2:2<=l.length:=by have:=eU c;omega
  refine⟨fun x h' m=>∃i:Nat,x=i/\1<=i/\i<=l.length/\m=l.length-i/\h'=h/\aV (l.take i)=l.take i,⟨_,1,rfl,by omega,by omega,rfl,rfl,?_⟩,?_⟩
  .match l,h2 with
   | a::r,_=>rfl
  rintro-x h5 m ⟨i,rfl,hi1,cN,rfl,rfl,SL⟩;refine aa (fun l2=>?_) (fun l2=>?_)
  .replace l2:=bU l2;have jX:=hs.rows k hk (by omega);refine jX.aD (by omega) (by omega) fun b o x1 g t=>?_;replace g:l[i]?=some x1:=g;refine⟨_,_,_,t,?_⟩;have hw1:IntKind.wrap .i64 ((i:Int)-1)=((i-1:Nat):Int):=by rw[a7 (by omega) (by omega)];omega
   rw[hw1];refine jX.aD (x:=((i-1:Nat):Int)) (by omega) (by omega) fun b' o' y1 g' t'=>?_;replace g':l[i-1]?=some y1:=g';refine⟨_,_,_,t',?_⟩;rw[Qw];have BG:=km g hi1 g';refine aa (fun e=>?_) (fun e=>?_)
   .replace e:=cd e;rw[if_pos e,SL] at BG;have xq:=hlen.2.1;refine⟨⟨by omega,by omega,by omega⟩,?_⟩;refine⟨fun kk x h' m=>∃(q j:Nat) (cl:List Ev),kk=q/\x=j/\1<=j/\i+j<=l.length/\q<=i+j-1/\m=l.length-j/\cl.length=l.length/\cl.take q=aV (l.take (i+j))/\(∀a,i+j-1<=a->cl[a]?=l[a]?)/\St h0 h' (L.set k (.sl s 188 3 (cl.map Ev.cs))),
     ⟨_,i,1,l,rfl,rfl,by omega,by omega,by omega,rfl,rfl,BG.symm,fun _ _=>rfl,by rw[ep];exact hs⟩,?_⟩
    rintro-kk x iP m' ⟨q,j,cl,rfl,rfl,hj1,Lr,hq,rfl,eN,hct,zG,hs⟩;have Pu:(L.set k (.sl s 188 3 (cl.map Ev.cs)))[k]?=some (.sl s 188 3 (cl.map Ev.cs)):=by rw[Yq qP]
    have BO:=(hs.rows k Pu (by omega)).from (i:=i) (by omega) (by omega)
    rw[<-List.map_drop] at BO;have hti:Int.toNat ((s.n:Nat):Int)-Int.toNat ((i:Nat):Int)=s.n-i:=by simp
    have htI:Int.toNat ((i:Nat):Int)=i:=by simp
    refine aa (fun c2=>?_) (fun c2=>?_)
    .have BN:i+j<l.length:=by have:=cd c2;rw[hti] at this;omega
     rw[hti,htI];refine BO.aD (x:=(j:Int)) (by omega) (by show (j:Int)<((s.n-i:Nat):Int);omega) fun b2 o2 x2 g2 t2=>?_;replace g2:(cl.drop i)[j]?=some x2:=g2;rw[List.getElem?_drop,zG _ (by omega)] at g2;refine⟨_,_,_,t2,?_⟩;have D3:IntKind.wrap .i64 ((j:Int)-1)=((j-1:Nat):Int):=by rw[a7 (by omega) (by omega)];omega
     rw[D3];refine BO.aD (x:=((j-1:Nat):Int)) (by omega) (by show ((j-1:Nat):Int)<((s.n-i:Nat):Int);omega) fun b3 o3 y2 g3 t3=>?_;replace g3:(cl.drop i)[j-1]?=some y2:=g3;rw[List.getElem?_drop,show i+(j-1)=i+j-1 by omega,zG _ (by omega)] at g3;refine⟨_,_,_,t3,?_⟩;rw[Qw];have uJ:=km g2 (by omega) g3;have hwj:IntKind.wrap .i64 ((j:Int)+1)=((j+1:Nat):Int):=by rw[a7 (by omega) (by omega)];omega
     have hwq:IntKind.wrap .i64 ((q:Int)+1)=((q+1:Nat):Int):=by rw[a7 (by omega) (by omega)];omega
     refine aa (fun e2=>?_) (fun e2=>?_)
     .have bH:x2≠y2:=by simpa using e2
      rw[if_neg bH] at uJ;refine BO.aD (x:=(j:Int)) (by omega) (by show (j:Int)<((s.n-i:Nat):Int);omega) fun b4 o4 x3 g4 t4=>?_;replace g4:(cl.drop i)[j]?=some x3:=g4;rw[List.getElem?_drop,zG _ (by omega)] at g4;rw[g2] at g4;cases g4;refine⟨_,_,_,t4,?_⟩;refine hs.set k Pu (by omega) (x:=(q:Int)) (by omega) (by omega) x2 rfl rfl (fun b5 o5 B6 hs=>?_) rfl;rw[List.set_set] at hs;refine⟨l.length-(j+1),by omega,q+1,j+1,cl.set q x2,hwq,hwj,by omega,by omega,by omega,rfl,by rw[jT];exact eN,?_,?_,hs⟩
      .rw[show i+(j+1)=i+j+1 by omega,uJ,<-hct,aj (x:=x2) (by rw[Yq (by omega)]),List.take_set_of_le (bc _)]
      .intro a ha;rw[Yy (by omega)];exact zG a (by omega)
     .have heq:x2=y2:=by simpa using e2
      rw[if_pos heq] at uJ;refine⟨l.length-(j+1),by omega,q,j+1,cl,rfl,hwj,by omega,by omega,by omega,rfl,eN,?_,fun a ha=>zG a (by omega),hs⟩;rw[show i+(j+1)=i+j+1 by omega,uJ];exact hct
    .have BN:i+j=l.length:=by have:=eU c2;rw[hti] at this;omega
     refine⟨⟨by omega,by omega,by omega⟩,?_⟩;have htq:Int.toNat ((q:Nat):Int)=q:=by simp
     have Sw:Int.toNat ((s.n:Nat):Int)=s.n:=by simp
     rw[htq,Sw];refine hs.clear k Pu (by omega) q (by omega) Oj J6 rfl rfl fun v B5 hs=>?_;refine⟨⟨by omega,by omega,by omega⟩,⟨s.a,q,s.c⟩,?_,?_⟩
     .rw[show Int.toNat 0=0 from rfl,cJ];rfl
     .rw[List.set_set,<-List.map_take,hct,BN,yd] at hs;exact hs
   .replace e:=eU e;rw[if_neg e,SL] at BG;refine⟨l.length-(i+1),by omega,i+1,by rw[a7 (by omega) (by omega)];omega,by omega,by omega,rfl,rfl,?_⟩;rw[BG,aj g]
  .replace l2:=cj l2;rw[Yj (by omega)] at SL;exact BH SL
end Go.VC
end

section
namespace Go.VC
open Go.Proofs Go.LexS Go.Shelf
theorem Vg:Go.Sort.SWO (ltOf xP) where
 irrefl x:=by unfold ltOf;rw[decide_eq_false_iff_not,jN];unfold cW;omega
 trans x y z h1 h2:=by unfold ltOf at *;rw[decide_eq_true_eq,jN] at *;unfold cW at *;omega
 ntrans x y z h1 h2:=by unfold ltOf at *;rw[decide_eq_false_iff_not,jN] at *;unfold cW at *;omega
theorem Vh:Go.Sort.SWO (ltOf ri) where
 irrefl x:=by unfold ltOf ri;rw[decide_eq_false_iff_not,mg];unfold acLt;omega
 trans x y z h1 h2:=by unfold ltOf ri at *;rw[decide_eq_true_eq,mg] at *;unfold acLt at *;omega
 ntrans x y z h1 h2:=by unfold ltOf ri at *;rw[decide_eq_false_iff_not,mg] at *;unfold acLt at *;omega
instance:Inhabited Ms:=⟨⟨0,0⟩⟩
instance:Inhabited Ed:=⟨⟨0,0,0,0,0,false⟩⟩
theorem Ko{h0 h:Heap}{L:List It}(hs:St h0 h L)(k:Nat){s:Sl}{l:List Ev}(hk:L[k]?=some (.sl s 188 3 (l.map Ev.cs)))(hm:l.length<=1048576):
  Fn Pz 184 #[.slice s.a s.n s.c,.func (.func 185) #[] #[]] h fun v h'=>v=.tuple ⟨[]⟩/\∃l':List Ev,l'.Perm l/\l'.Pairwise (fun a b=>¬de b a)/\St h0 h' (L.set k (.sl s 188 3 (l'.map Ev.cs))):=by
 refine Fn.mono (p6 Tryz.FQ 3 188 Tryz.isAgg188 Tryz.sizeOf188 Ev.cs (fun _=>rfl) (fun x v hv=>by simp[Ev.cs] at hv;rcases hv with rfl | rfl | rfl<;>rfl) sE abP 185 (enters_of Tryz.func185 (by kernel_rfl) rfl) (fun x y h=>@M.oq gL x y h) hs k hk (by omega) (by omega)) ?_;rintro v h' ⟨rfl,l',hp,hw,bL⟩;exact⟨rfl,l',hp,hw.imp fun {a b} mA=>by unfold ltOf at mA;rw[decide_eq_false_iff_not,me] at mA;exact mA,bL⟩
theorem Kn{h0 h:Heap}{L:List It}(hs:St h0 h L)(k:Nat){s:Sl}{l:List Ms}(hk:L[k]?=some (.sl s 72 2 (l.map Ms.cs)))(hm:l.length<=1048576):
  Fn Pz 69 #[.slice s.a s.n s.c,.func (.func 70) #[] #[]] h fun v h'=>v=.tuple ⟨[]⟩/\∃l':List Ms,l'.Perm l/\l'.Pairwise (fun a b=>¬cW b a)/\St h0 h' (L.set k (.sl s 72 2 (l'.map Ms.cs))):=by
 refine Fn.mono (p6 Tryz.FP 2 72 Tryz.isAgg72 Tryz.sizeOf72 Ms.cs (fun _=>rfl) (fun x v hv=>by simp[Ms.cs] at hv;rcases hv with rfl | rfl<;>rfl) xP Vg 70 (enters_of Tryz.func70 (by kernel_rfl) rfl) (fun x y h=>@M.Mg gL x y h) hs k hk (by omega) (by omega)) ?_;rintro v h' ⟨rfl,l',hp,hw,bL⟩;exact⟨rfl,l',hp,hw.imp fun {a b} mA=>by unfold ltOf at mA;rw[decide_eq_false_iff_not,jN] at mA;exact mA,bL⟩
theorem Km{h0 h:Heap}{L:List It}(hs:St h0 h L)(k:Nat){s:Sl}{l:List Ed}(hk:L[k]?=some (.sl s 67 6 (l.map Ed.cs)))(hm:l.length<=1048576):
  Fn Pz 128 #[.slice s.a s.n s.c,.func (.func 129) #[] #[]] h fun v h'=>v=.tuple ⟨[]⟩/\∃l':List Ed,l'.Perm l/\l'.Pairwise (fun a b=>¬acLt b.act a.act)/\St h0 h' (L.set k (.sl s 67 6 (l'.map Ed.cs))):=by
 refine Fn.mono (p6 Tryz.FO 6 67 Tryz.isAgg67 Tryz.sizeOf67 Ed.cs (fun _=>rfl) (fun x v hv=>by simp[Ed.cs] at hv;rcases hv with rfl | rfl | rfl | rfl | rfl | rfl<;>rfl) ri Vh 129 (enters_of Tryz.func129 (by kernel_rfl) rfl) (fun x y h=>@M.Mh gL x y h) hs k hk (by omega) (by omega)) ?_;rintro v h' ⟨rfl,l',hp,hw,bL⟩;exact⟨rfl,l',hp,hw.imp fun {a b} mA=>by unfold ltOf ri at mA;rw[decide_eq_false_iff_not,mg] at mA;exact mA,bL⟩
end Go.VC
end

section
namespace Go.VC
open Go.Proofs Go.LexS
structure J5 (h:Heap) (b:Nat) (g:Gl) (role:Int) (ho:Sl) (os:Nat->Sl):Prop where
 at_:a6 h ⟨b,0,none⟩ (g.cs++[.int .i64 role,.slice ho.a ho.n ho.c])
 gi:GI h g
 ro:Rw h 1 ho ((List.range g.n.toNat).map fun i=>eC (os i))
 rs:∀i,i<g.n.toNat->Rw h 1 (os i) ((aw (ah g.es (i:Nat))).map aO)
theorem J5.ext{h h':Heap}{b:Nat}{g:Gl}{role:Int}{ho:Sl}{os:Nat->Sl}(hA:J5 h b g role ho os)(E:Ext h h'):J5 h' b g role ho os:=
 ⟨fW E hA.at_,hA.gi.ext E,hA.ro.ext E,fun i hi=>(hA.rs i hi).ext E⟩
theorem CL.perm{es:List Ed}{role:Int}{n:Nat}{l:List Int}{D:List Bool}{T T':List Int}(h:CL es role n l D T)(hp:T.Perm T'):CL es role n l D T':=
 ⟨h.len,by rw[<-hp.length_eq];exact h.Fp,fun v=>hp.mem_iff.symm.trans (h.mem v),fun v hv=>h.r v (hp.mem_iff.2 hv)⟩
def zW(es:List Ed)(role:Int)(k:Nat):Option Ev:=(es[k]?).bind (aW role)
theorem HJ{α β:Type}(f:α->Option β)(es:List α):es.filterMap f=(List.range es.length).filterMap fun i=>(es[i]?).bind f:=by
 have key:∀n,n<=es.length->(es.take n).filterMap f=(List.range n).filterMap fun i=>(es[i]?).bind f:=by
  intro n
  induction n with
  | zero=>intro _;simp
  | succ n ih=>
   intro hn;have hx:=Yi (l:=es) (i:=n) (by omega);rw[List.range_succ,List.filterMap_append,<-ih (by omega),aj hx,List.filterMap_append];congr 1;simp only[List.filterMap_cons,List.filterMap_nil,hx,Option.bind_some]
 have:=key es.length (bc _)
 rwa [yd] at this
theorem xA{α β:Type}{f g:α->Option β}:∀ {l:List α},(∀x∈l,f x=g x)->l.filterMap f=l.filterMap g
 | [],_=>rfl
 | a::l,h=>by rw[List.filterMap_cons,List.filterMap_cons,h a (by simp),xA fun x hx=>h x (Yn _ hx)]
theorem aaJ(es:List Ed)(role:Int)(n:Nat):(ah es (n:Nat)).filterMap (zW es role)=(iz es role n).map (·.x):=by
 unfold ah iz;rw[List.filterMap_filter,List.map_filterMap,HJ _ es];refine xA fun i hi=>?_;unfold cB zW;have hx:=Yi (l:=es) (i:=i) (by simpa using hi);rw[hx];simp only[Option.bind_some];by_cases h:(es[i]'(by simpa using hi)).f=(n:Int)
 .simp only[h,decide_true,if_true,Option.map_map];cases aW role _<;>rfl
 .simp only[h,decide_false,if_false,Bool.false_eq_true,Option.map_none]
def Qu(es:List Ed)(role v:Int):List Ev:=(iz es role v.toNat).map (·.x)
structure FI (g:Gl) (role s:Int) (D:List Bool) (P T:List Int) (E:List Ev):Prop where
 cl:CL g.es role g.n.toNat [s] D (P++T)
 nd:(P++T).Nodup
 q:∀v∈P,∀b∈qm g.es role v.toNat,b∈P++T
 e:E=P.flatMap (Qu g.es role)
 s:s∈P++T
structure FJ (g:Gl) (role s:Int) (v:Int) (j:Nat) (D:List Bool) (P T:List Int) (E:List Ev):Prop where
 cl:CL g.es role g.n.toNat [s] D (P++v::T)
 nd:(P++v::T).Nodup
 q:∀w∈P,∀b∈qm g.es role w.toNat,b∈P++v::T
 qj:∀k∈(ah g.es v).take j,∀x,g.es[k]?=some x->aW role x=none->x.t∈P++v::T
 e:E=P.flatMap (Qu g.es role)++((ah g.es v).take j).filterMap (zW g.es role)
 s:s∈P++v::T
theorem FI.pop{g:Gl}{role s v:Int}{D:List Bool}{P T:List Int}{E:List Ev}(h:FI g role s D P (T++[v]) E):FJ g role s v 0 D P T E:=by
 have hp:(P++(T++[v])).Perm (P++v::T):=List.Perm.append_left P List.perm_append_comm;exact⟨h.cl.perm hp,hp.nodup_iff.1 h.nd,fun w hw b hb=>hp.mem_iff.1 (h.q w hw b hb),fun k hk=>by simp at hk,by rw[h.e];simp,hp.mem_iff.1 h.s⟩
theorem FJ.fin{g:Gl}{role s v:Int}{D:List Bool}{P T:List Int}{E:List Ev}{j:Nat}(h:FJ g role s v j D P T E)(h0:0<=v)(hj:(ah g.es v).length<=j):FI g role s D (P++[v]) T E:=by
 have hp:P++v::T=P++[v]++T:=by simp
 obtain⟨n,rfl⟩:∃n:Nat,v=n:=⟨v.toNat,by omega⟩;refine⟨hp ▸ h.cl,hp ▸ h.nd,fun w hw b hb=>?_,?_,hp ▸ h.s⟩
 .rw[<-hp];rcases Yk.1 hw with hw | hw
  .exact h.q w hw b hb
  .rw[Ye] at hw;subst hw;obtain⟨x,hx,hv,hf,rfl⟩:=ql.1 hb;obtain⟨k,hk⟩:=Yf.1 hx;exact h.qj k (by rw[Yj hj];exact aA.2 ⟨x,hk,by omega⟩) x hk hv
 .rw[h.e,Yj hj,aaJ,List.flatMap_append];unfold Qu;simp
theorem FJ.vis{g:Gl}{role s v:Int}{D:List Bool}{P T:List Int}{E:List Ev}{j k:Nat}{x:Ed}{e:Ev}(h:FJ g role s v j D P T E)(hk:(ah g.es v)[j]?=some k)(hx:g.es[k]?=some x)(hv:aW role x=some e):FJ g role s v (j+1) D P T (E++[e]):=by
 refine⟨h.cl,h.nd,h.q,fun i hi y hy hn=>?_,?_,h.s⟩
 .rw[aj hk,Yk,Ye] at hi;rcases hi with hi | rfl
  .exact h.qj i hi y hy hn
  .rw[hx] at hy;cases hy;rw[hv] at hn;cases hn
 .rw[aj hk,List.filterMap_append,<-Yz,<-h.e];simp[zW,hx,hv]
theorem FJ.qx{g:Gl}{role s v:Int}{D:List Bool}{P T:List Int}{E:List Ev}{j k:Nat}{x:Ed}(h:FJ g role s v j D P T E)(hk:(ah g.es v)[j]?=some k)(hx:g.es[k]?=some x)(hv:aW role x=none)(h0:0<=x.t)(hd:D[x.t.toNat]?=some true):FJ g role s v (j+1) D P T E:=by
 refine⟨h.cl,h.nd,h.q,fun i hi y hy hn=>?_,?_,h.s⟩
 .rw[aj hk,Yk,Ye] at hi;rcases hi with hi | rfl
  .exact h.qj i hi y hy hn
  .rw[hx] at hy;cases hy;exact (h.cl.mem _).2 ⟨h0,hd⟩
 .rw[aj hk,List.filterMap_append,<-Yz,<-h.e];simp[zW,hx,hv]
theorem FJ.new{g:Gl}{role s v:Int}{D:List Bool}{P T:List Int}{E:List Ev}{j k:Nat}{x:Ed}(h:FJ g role s v j D P T E)(hk:(ah g.es v)[j]?=some k)(hx:g.es[k]?=some x)(hv:aW role x=none)(h0:0<=x.t)(hd:D[x.t.toNat]?=some false):FJ g role s v (j+1) (D.set x.t.toNat true) P (T++[x.t]) E:=by
 have VS:Qr g.es role [s] v:=h.cl.r v (by simp);have hkm:=aA.1 (Yb hk);obtain⟨x',DZ,hf⟩:=hkm;rw[hx] at DZ;cases DZ;have eN:=h.cl.push h0 hd (.step VS ⟨x,Yb hx,hv,hf,rfl⟩);have hp:P++v::T++[x.t]=P++v::(T++[x.t]):=by simp
 rw[hp] at eN;have ca:x.t∉P++v::T:=fun hm=>by have:=((h.cl.mem _).1 hm).2;rw[hd] at this;cases this
 refine⟨eN,?_,fun w hw b hb=>?_,fun i hi y hy hn=>?_,?_,?_⟩
 .rw[<-hp,List.nodup_append];exact⟨h.nd,by simp,fun a ha c hc e=>by rw[Ye] at hc;subst hc;subst e;exact ca ha⟩
 .rw[<-hp];exact List.mem_append_left _ (h.q w hw b hb)
 .rw[<-hp];rw[aj hk,Yk,Ye] at hi;rcases hi with hi | rfl
  .exact List.mem_append_left _ (h.qj i hi y hy hn)
  .rw[hx] at hy;cases hy;simp
 .rw[aj hk,List.filterMap_append,<-Yz,<-h.e];simp[zW,hx,hv]
 .rw[<-hp];exact List.mem_append_left _ h.s
theorem xG{es:List Ed}{role:Int}{P:List Int}(hP:P.Nodup)(h0:∀v∈P,0<=v):(P.flatMap (Qu es role)).length<=es.length:=by
 have h1:=sM es role (P.map Int.toNat) (by
  rw[List.Nodup,List.pairwise_map];refine hP.imp_of_mem fun {a b} ha hb mA e=>mA ?_;have:=h0 a ha;have:=h0 b hb;omega)
 rw[List.flatMap_map] at h1;have h2:∀P:List Int,(P.flatMap (Qu es role)).length=(P.flatMap fun v=>iz es role v.toNat).length:=by
  intro P
  induction P with
  | nil=>rfl
  | cons a P ih=>rw[List.flatMap_cons,List.flatMap_cons,Yh,Yh,ih];unfold Qu;rw[Yc]
 rw[h2];exact h1
theorem FJ.len{g:Gl}{role s v:Int}{D:List Bool}{P T:List Int}{E:List Ev}{j:Nat}(h:FJ g role s v j D P T E):E.length<=2*g.es.length:=by
 rw[h.e,Yh];have h1:=xG (es:=g.es) (role:=role) (P:=P) (h.nd.sublist (List.sublist_append_left _ _)) fun v hv=>((h.cl.mem v).1 (by simp[hv])).1;have h2:(((ah g.es v).take j).filterMap (zW g.es role)).length<=(ah g.es v).length:=mn (List.length_filterMap_le _ _) (by rw[Yu];omega);have h3:=cA g.es v;omega
theorem FI.fin{g:Gl}{role s:Int}{D:List Bool}{P:List Int}{E:List Ev}(h:FI g role s D P [] E)(hV:af g)(h0:0<=s)(h1:s<g.n):(∀v,v∈P ↔ Qr g.es role [s] v)/\iY E=az g role s:=by
 have hc:=h.cl;rw[Yw] at hc;have hq:∀v,v∈P ↔ Qr g.es role [s] v:=hc.end_ (fun x hx=>by rw[Ye] at hx;subst hx;have:=h.s;rwa [Yw] at this) fun v hv b hb=>by have:=h.q v hv b hb;rwa [Yw] at this
 refine⟨hq,gX _ _ (eV _) (eV _) fun x=>?_⟩;unfold az Fm;rw[jB,jB,h.e];unfold Qv Qu;rw[List.mem_flatMap,List.mem_flatMap];have hN:=hV.num.n;have hl:∀x∈[s],0<=x/\x<g.n:=fun x hx=>by rw[Ye] at hx;omega
 constructor
 .rintro⟨v,hv,hx⟩;have hb:=((hq v).1 hv).lt hV hl;refine⟨v.toNat,fk.2 ⟨by omega,iq.2 ?_⟩,hx⟩;rw[Int.toNat_of_nonneg hb.1];exact (hq v).1 hv
 .rintro⟨n,hn,hx⟩;exact⟨(n:Int),(hq _).2 (iq.1 (fk.1 hn).2),hx⟩
theorem Rk:cI Pz 193 188 3 24=true:=by kernel_rfl
def JX(fb ib:Nat)(td fs:Sl)(D:List Bool)(T:List Int)(E:List Ev)(bl:Bool)(R:List It):List It:=
 .sl td 3 1 (T.map aO) :: .ae fb [.slice fs.a fs.n fs.c,.bool bl] 195 :: .sl fs 188 3 (E.map Ev.cs) :: .ae ib (D.map Value.bool) 4::R
theorem tE{b:Nat}{g:Gl}{role:Int}{ho:Sl}{os:Nat->Sl}{s v:Int}{h0 cy h4 h1:Heap}{R:List It}{td fs:Sl}{bl:Bool}{D:List Bool}{P T:List Int}{E:List Ev}{m9:Nat}{I7:Sl->Heap->Nat->Prop}
  (hA:J5 h0 b g role ho os) (hV:af g) (hv0:0<=v) (hv1:v<g.n) (htd:0<td.n) (Pa:td.n<=4096)
  (hs:St h0 cy (JX h4.size h1.size ⟨aQ td.a (Int.toNat 0) td.c 1,Int.toNat ((td.n-1:Nat):Int)-Int.toNat 0,td.c-Int.toNat 0⟩ fs D T E bl R)) (hJ:FJ g role s v 0 D P T E)
  (acL:∀(FH En:Sl) (D':List Bool) (T':List Int) (E':List Ev) (h':Heap),St h0 h' (JX h4.size h1.size FH En D' T' E' bl R)->FJ g role s v (ah g.es v).length D' P T' E'->∃m,m<m9/\I7 FH h' m) :
  CY cy ⟨b,0,none⟩ v td h4 g.n h1 m9 I7:=by
 unfold CY;have hE:=hV.num.e;have hN:=hV.num.n;have hM:=hV.num.m;rw[show IntKind.wrap .i64 ((td.n:Int)-1)=((td.n-1:Nat):Int) by rw[a7 (by omega) (by omega)];omega];have Lk:((v.toNat:Nat):Int)=v:=Int.toNat_of_nonneg hv0;refine⟨ho,(hA.ext hs.ext).at_.nth 9 rfl,?_⟩;refine (hA.ro.ext hs.ext).aD (by omega) (by have:=hA.ro.ln;rw[mr] at this;omega) fun b18 o19 d gd t=>?_;obtain⟨rfl,_⟩:=ui gd;refine⟨os v.toNat,t.hd,?_⟩;have eR:=hA.rs v.toNat (by omega);rw[Lk] at eR;have jY:=eR.ln;rw[show (aw (ah g.es v)).length=(ah g.es v).length from Yc _] at jY;have tt:=cA g.es v;refine⟨fun FH x h' m=>∃(j:Nat) (En:Sl) (D':List Bool) (T':List Int) (E':List Ev),x=j/\m=(os v.toNat).n-j/\j<=(os v.toNat).n/\St h0 h' (JX h4.size h1.size FH En D' T' E' bl R)/\FJ g role s v j D' P T' E',⟨_,0,fs,D,T,E,rfl,rfl,by omega,hs,hJ⟩,?_⟩;clear hs hJ;rintro-FH _ rN m ⟨j,En,D',T',E',rfl,rfl,hj,hs,hJ⟩;have hle:=hJ.cl.le;have SO:=hJ.cl.len;have hEl:=hJ.len;have No:=hs.len 0 (s:=FH) (e:=3) (n:=1) (rows:=T'.map aO) rfl (by omega);have fJ:=hs.len 2 (s:=En) (e:=188) (n:=3) (rows:=E'.map Ev.cs) rfl (by omega);rw[Yc] at No fJ;rw[Yh,j8] at hle;refine aM (fun c=>?_) (fun c=>?_)
 .refine (eR.ext hs.ext).aD (by omega) (by omega) fun b27 o28 d gd t=>?_;replace gd:(aw (ah g.es v))[j]?=some d:=gd;obtain⟨k,hk,rfl⟩:∃k:Nat,(ah g.es v)[j]?=some k/\d=(k:Int):=by
   unfold aw at gd;rw[Yd] at gd;obtain⟨k,hk,e⟩:=sH.1 gd;exact⟨k,hk,e.symm⟩
  obtain⟨x0,jJ,DY⟩:=aA.1 (Yb hk);have qP:=(Ya.1 jJ).1;refine⟨_,t.hd,g.he,(hA.ext hs.ext).at_.nth 6 rfl,?_⟩;have ki:=hA.gi.e.ln;refine (hA.gi.e.rw.ext hs.ext).aD (by omega) (by omega) fun b31 o32 x gx t2=>?_;replace gx:g.es[k]?=some x:=gx;rw[jJ] at gx;cases gx;refine⟨x0.f,x0.a,x0.b,x0.l,x0.t,x0.ag,t2,?_⟩;have vD:=hE x0 (Yb jJ);unfold gU at vD;refine hs.ao (vs:=x0.cs) rfl rfl fun sz hs=>?_;refine⟨x0.f,x0.a,x0.b,x0.l,x0.t,x0.ag,hs.at 0 rfl (o:=0) (n:=6) rfl,?_⟩;refine (lr ⟨b,0,none⟩ role x0 sz ((hA.ext hs.ext).at_.nth 8 rfl)).mono ?_;rintro _ zM ⟨E52,rfl⟩;replace hs:=hs.step E52;cases hvis:aW role x0 with
  | some e=>
   refine⟨e.send,e.peer,e.label,true,rfl,?_⟩;refine hs.ao (vs:=e.cs) rfl rfl fun h54 hs=>?_;refine qf rfl ?_;refine⟨En,hs.rd 3 rfl (i:=0) rfl,e.send,e.peer,e.label,hs.at 0 rfl (o:=0) (n:=3) rfl,?_⟩;refine hs.app 4 rfl Rk (m:=1) [e.cs] rfl rfl (fun r hr=>by rw[Ye] at hr;rw[hr];rfl) rfl (by omega) (by simp only[maxLen];omega) fun M7 NO n60 hs=>?_;refine hs.put 3 rfl (o:=0) (vs:=[.slice M7.a M7.n M7.c]) rfl (show 1<=2 by decide) fun SQ hs=>?_;refine⟨_,by omega,j+1,M7,D',T',E'++[e],by rw[a7 (by omega) (by omega)];omega,rfl,by omega,?_,hJ.vis hk jJ hvis⟩;have hs:=hs.drop 2;unfold JX;rw[Ym];exact hs
  | none=>
   refine⟨false,0,0,false,rfl,?_⟩;refine hs.ao (vs:=[.bool false,.int .i64 0,.int .i64 0]) rfl rfl fun h54 hs=>?_;refine ja rfl ?_;obtain⟨y,hy⟩:=get_some (l:=D') (i:=x0.t.toNat) (by omega);have e0:0+Int.toNat x0.t*1=x0.t.toNat:=by omega
   refine⟨x0.t,hs.rd 1 rfl (i:=4) rfl,⟨by omega,by omega⟩,?_⟩;rw[e0];refine⟨y,hs.rd 5 rfl (by rw[KZ,hy];rfl),?_⟩;refine aa (fun c2=>?_) (fun c2=>?_)
   .have hyf:y=false:=bF c2;subst hyf;refine⟨x0.t,hs.rd 1 rfl (i:=4) rfl,⟨by omega,by omega⟩,?_⟩;rw[e0];refine hs.put 5 rfl (o:=x0.t.toNat) (vs:=[.bool true]) rfl (by rw[Yc,Yv];omega) fun h67 hs=>?_;refine⟨x0.t,hs.rd 1 rfl (i:=4) rfl,?_⟩;refine hs.app 2 rfl dv (m:=1) [[.int .i64 x0.t]] rfl rfl (by simp) rfl (by omega) (by simp only[maxLen];omega) fun s70 LH n70 hs=>?_;refine⟨_,by omega,j+1,En,D'.set x0.t.toNat true,T'++[x0.t],E',by rw[a7 (by omega) (by omega)];omega,rfl,by omega,?_,hJ.new hk jJ hvis (by omega) hy⟩;have hs:=hs.drop 2;unfold JX;rw[Ym,<-bz _ (by omega)];exact hs
   .have hyt:y=true:=bT c2;subst hyt;refine⟨_,by omega,j+1,En,D',T',E',by rw[a7 (by omega) (by omega)];omega,rfl,by omega,hs.drop 2,hJ.qx hk jJ hvis (by omega) hy⟩
 .refine acL FH En D' T' E' rN hs ?_;rw[show (ah g.es v).length=j by omega];exact hJ
theorem zU(b:Nat)(g:Gl)(role:Int)(ho:Sl)(os:Nat->Sl)(s:Nat)(h:Heap)(hA:J5 h b g role ho os)(hV:af g)(dC:(s:Int)<g.n):
  Fn Pz 107 #[.pointer (some ⟨b,0,none⟩),.int .i64 (s:Nat)] h fun v h'=>∃r:Sl,v=.agg ⟨[.slice r.a r.n r.c,.bool (bP g role s)]⟩/\St h h' [.sl r 188 3 ((az g role s).map Ev.cs)]:=by
 apply U3 ⟨b,0,none⟩ (s:Nat);unfold aal;have hN:=hV.num.n;have hM:=hV.num.m;refine (St.refl h).ak fun h1 hs=>?_;refine⟨g.n,(hA.ext hs.ext).at_.nth 3 rfl,by omega,?_⟩;rw[Nf];refine hs.ak fun h3 hs=>?_;have e0:0+Int.toNat ((s:Nat):Int)*1=s:=by omega
 refine⟨⟨by omega,by omega⟩,?_⟩;rw[e0];refine hs.put 0 rfl (o:=s) (vs:=[.bool true]) rfl (by rw[Yc,Yg,Yv];omega) fun h4 hs=>?_;refine hs.ak fun h5 hs=>?_;refine hs.ak fun h6 hs=>?_;have nX:=hs.dP 1 1 ([((s:Nat):Int)].map aO) rfl (cL _) rfl (by decide);have nX:=nX.bJ 188 3;have eN:CL g.es role g.n.toNat [(s:Int)] ((List.replicate g.n.toNat false).set s true) ([]++[(s:Int)]):=
  (CL.start g.es role g.n.toNat [(s:Int)]).push (b:=(s:Int)) (by omega) (by rw[Ys,List.getElem?_replicate,if_pos (by omega)]) (.base (by simp))
 have hl:∀x∈[(s:Int)],0<=x/\x<g.n:=fun x hx=>by rw[Ye] at hx;omega
 refine⟨fun td h' m=>∃(fs:Sl) (D:List Bool) (P T:List Int) (E:List Ev),m=g.n.toNat-P.length/\St h h' (JX h4.size h1.size td fs D T E (decide (g.e∈P)) [.ae h.size [.slice none 0 0,.bool false] 195])/\FI g role s D P T E,⟨_,⟨none,0,0⟩,(List.replicate g.n.toNat false).set s true,[],[(s:Int)],[],rfl,?_,⟨eN,by simp,fun v hv=>(by cases hv),rfl,by simp⟩⟩,?_⟩
 .refine nX.perm ?_;unfold JX;rw[<-bz _ (by rw[Yg];omega)];exact (List.Perm.swap _ _ _).trans (List.Perm.cons _ (List.Perm.swap _ _ _))
 clear hs nX eN;rintro-td iQ m ⟨fs,D,P,T,E,rfl,hs,hI⟩;have hle:=hI.cl.le;rw[Yh] at hle;have No:=hs.len 0 (s:=td) (e:=3) (n:=1) (rows:=T.map aO) rfl (by omega);rw[Yc] at No;refine aM (fun c=>?_) (fun c=>?_)
 .rw[show IntKind.wrap .i64 ((td.n:Int)-1)=((td.n-1:Nat):Int) by rw[a7 (by omega) (by omega)];omega];refine (hs.rows 0 rfl (by omega)).aD (by omega) (by omega) fun b12 o13 v gv t=>?_;replace gv:T[td.n-1]?=some v:=gv;have hT:T=T.take (td.n-1)++[v]:=by rw[<-aj gv,Yj (by omega)]
  refine⟨v,t.hd,⟨by omega,by omega,by omega⟩,?_⟩;have hJ:FJ g role s v 0 D P (T.take (td.n-1)) E:=by rw[hT] at hI;exact hI.pop
  have VS:=(hJ.cl.mem v).1 (by simp);have hvl:v<g.n:=((hJ.cl.r v (by simp)).lt hV hl).2;refine⟨_,hs.rd 1 rfl (i:=1) rfl,?_⟩;have fin:∀(bl:Bool),bl=decide (g.e∈P++[v])->∀(FH En:Sl) (D':List Bool) (T':List Int) (E':List Ev) (h':Heap),St h h' (JX h4.size h1.size FH En D' T' E' bl [.ae h.size [.slice none 0 0,.bool false] 195])->FJ g role s v (ah g.es v).length D' P T' E' ->
    ∃m,m<g.n.toNat-P.length/\∃(fs:Sl) (D:List Bool) (P T:List Int) (E:List Ev),m=g.n.toNat-P.length/\St h h' (JX h4.size h1.size FH fs D T E (decide (g.e∈P)) [.ae h.size [.slice none 0 0,.bool false] 195])/\FI g role s D P T E:=fun bl yA FH En D' T' E' h' bL hJ'=>by
   subst yA;refine⟨_,?_,En,D',P++[v],T',E',rfl,bL,hJ'.fin VS.1 (bc _)⟩;rw[Yh,Yv];omega
  refine aa (fun c2=>?_) (fun c2=>?_)
  .refine hs.put 1 rfl (o:=1) (vs:=[.bool true]) rfl (show 2<=2 by decide) fun cy hs=>?_;refine tE hA hV VS.1 hvl (by omega) (by omega) (bl:=true) (fs:=fs) (D:=D) (P:=P) (T:=T.take (td.n-1)) (E:=E) ?_ hJ (fin true ?_)
   .have h9:=hs.cut 0 rfl (by omega) (td.n-1) (by omega);rw[<-List.map_take] at h9;rw[show aQ td.a (Int.toNat 0) td.c 1=td.a from cJ _ _ _];exact h9
   .rw[decide_eq_true];exact List.mem_append_left _ (cd c2)
  .refine⟨g.e,(hA.ext hs.ext).at_.nth 5 rfl,?_⟩;refine hs.put 1 rfl (o:=1) (vs:=[.bool (v==g.e)]) rfl (show 2<=2 by decide) fun cy hs=>?_;refine tE hA hV VS.1 hvl (by omega) (by omega) (bl:=v==g.e) (fs:=fs) (D:=D) (P:=P) (T:=T.take (td.n-1)) (E:=E) ?_ hJ (fin _ ?_)
   .have h9:=hs.cut 0 rfl (by omega) (td.n-1) (by omega);rw[<-List.map_take] at h9;rw[show aQ td.a (Int.toNat 0) td.c 1=td.a from cJ _ _ _];exact h9
   .have h8:¬g.e∈P:=eU c2;rw[Bool.eq_iff_iff,decide_eq_true_eq,Yk,Ye,beq_iff_eq];exact⟨fun e=>.inr e.symm,fun h=>h.elim (fun h=>absurd h h8) Eq.symm⟩
 .have hT:T=[]:=List.length_eq_zero_iff.1 (by omega);subst hT;have fJ:=hs.len 2 (s:=fs) (e:=188) (n:=3) (rows:=E.map Ev.cs) rfl (by omega);have hEl:E.length<=g.es.length:=by
   rw[hI.e];exact xG (hI.nd.sublist (List.sublist_append_left _ _)) fun v hv=>((hI.cl.mem v).1 (by simp[hv])).1
  refine⟨fs,hs.rd 1 rfl (i:=0) rfl,?_⟩;refine (Ko hs 2 rfl (by omega)).mono ?_;rintro _ Qb ⟨rfl,E',hp,hw,hs⟩;refine⟨rfl,fs,hs.rd 1 rfl (i:=0) rfl,?_⟩;refine (z6 hs 2 rfl (by rw[hp.length_eq];omega)).mono ?_;rintro _ Xh ⟨r,rfl,hs⟩;refine⟨r,rfl,?_⟩;refine hs.put 1 rfl (o:=0) (vs:=[.slice r.a r.n r.c]) rfl (show 1<=2 by decide) fun adN hs=>?_;refine⟨r,_,hs.at 1 rfl (o:=0) (n:=2) rfl,?_⟩;refine hs.put 4 rfl (o:=0) (vs:=[.slice r.a r.n r.c,.bool (decide (g.e∈P))]) rfl (show 2<=2 by decide) fun Xg hs=>?_;refine⟨r,_,hs.at 4 rfl (o:=0) (n:=2) rfl,r,?_,?_⟩
  .obtain⟨hq,_⟩:=hI.fin hV (by omega) dC;have hb:decide (g.e∈P)=bP g role s:=by
    unfold bP;rw[Bool.eq_iff_iff,decide_eq_true_eq,iq,hq,Int.toNat_of_nonneg (by omega)]
   rw[hb]
  .obtain⟨_,he⟩:=hI.fin hV (by omega) dC;rw[sD hp hw,he] at hs;exact hs.sub (L':=[_]) (by
    refine List.Sublist.trans ?_ (List.drop_sublist 2 _);exact List.singleton_sublist.2 (by simp[JX]))
end Go.VC
end

section
namespace Go.VC
open Go.Proofs Go.LexS Go.RowKit Go.Lib
theorem EV{P:Program}{t u e:TypeId}{size bytes:Nat}{kn:IntKind}(hT:cI P t e size bytes=true)(zG:P.underlying u=some (.int kn)){h:Heap}{n:Nat}{m:Int}(hm:m=n)(h0:0<n)(cZ:n*bytes<=140737488355328)(rM:n<=maxLen)
  {K:Sl->Heap->Prop} (hK:∀(r:Sl) (h':Heap) (xs:List Value),r.n=n->Ext h h'->cM h' h.size e size r xs->K r h'):App P t u (.slice none 0 0) (.int .i64 m) h K:=by
 intro ty w hw;subst hw;subst hm;unfold cI at hT;simp only[Yt] at hT;obtain⟨⟨⟨⟨⟨⟨⟨hs,he⟩,ht⟩,hz⟩,JL⟩,fA⟩,BW⟩,fB⟩:=hT;have hu:=cT hs;rw[eI he] at hu;obtain⟨i,hi⟩:=gP ht;obtain⟨z,nq⟩:=Option.isSome_iff_exists.1 hz;rw[hi] at nq;simp only[Option.bind_some] at nq;have e1:i.size=size:=by have:=eI fA;simpa [a8,hi] using this
 have e2:i.bytes=bytes:=by have:=eI BW;simpa [xQ,hi] using this
 have e3:z.cells.size=size:=by have:=eI JL;simpa [bV,hi,nq] using this
 have hp:0<size:=by simpa using fB
 have acC:((0+n:Nat):Int)<=9223372036854775807:=by simp only[maxLen] at rM;omega
 have hr:=Lib.run_append_grow_zeros w t u ty e i z .i64 kn hu zG hi nq none 0 0 [] (run_firstCells_none w.drew i.size 0 0 0) n h0 (by omega) (by omega) acC
  (by rw[e2];omega) (growslice_fits (by omega) (by rw[Nat.zero_add,e2];exact cZ))
 rw[Nat.zero_add] at hr;have Fh:=grownCap_ge w n 0 e;have hle:=grownCap_le_maxLen w n 0 e rM;refine⟨_,_,hr,⟨⟨some ⟨w.heap.size,0,none⟩,n,grownCap w n 0 e⟩,rfl,hK _ _ _ rfl (Ext.push _ _) ⟨?_,.inr ⟨w.heap.size,_,rfl,bc _,Array.getElem?_push_size,Fh,hle,?_,rfl⟩⟩⟩,rfl,rfl,rfl⟩
 .rw[Yu];have:(List.toArray ([]:List Value)++Builtin.zeroCells z.cells n++Builtin.zeroCells z.cells (grownCap w n 0 e-n)).toList.length=grownCap w n 0 e*size:=by
   simp only[Array.toList_append,Yh,fX,e3];rw[List.length_nil,Nat.zero_add,<-Nat.add_mul];congr 1;omega
  rw[this];exact Nat.min_eq_left (Nat.mul_le_mul_right _ Fh)
 .show (List.toArray ([]:List Value)++Builtin.zeroCells z.cells n++Builtin.zeroCells z.cells (grownCap w n 0 e-n)).toList.length=grownCap w n 0 e*size;simp only[Array.toList_append,Yh,fX,e3];rw[List.length_nil,Nat.zero_add,<-Nat.add_mul];congr 1;omega
structure aP where
 x:Int
 y:Int
 s:Int
 t:Int
 deriving DecidableEq
def aP.cs(m:aP):List Value:=[.int .i64 m.x,.int .i64 m.y,.int .i64 m.s,.int .i64 m.t]
theorem OA(L:List aP):∀r∈L.map aP.cs,r.length=4:=fun r hr=>by obtain⟨x,_,rfl⟩:=Yp.1 hr;rfl
theorem kV:cI Pz 197 200 4 32=true:=by kernel_rfl
theorem abN:Pz.underlying 3=some (.int .i64):=by kernel_rfl
theorem LO(n:Nat)(h:Heap)(hn:n<=1048576):Fn Pz 232 #[.slice none 0 0,.int .i64 (n:Nat)] h fun v h'=>∃r:Sl,v=.slice r.a r.n r.c/\St h h' [.sl r 200 4 []]:=by
 apply TS ⟨none,0,0⟩ (n:Nat);unfold Ze;refine⟨fun h'=>h'=h,aM (fun c=>by omega) (fun _=>rfl),?_⟩;rintro-_ rfl;have e0:IntKind.wrap .i64 (((0:Nat):Int)-((0:Nat):Int))=0:=by rw[a7 (by omega) (by omega)];omega
 have e1:IntKind.wrap .i64 ((n:Int)-IntKind.wrap .i64 (((0:Nat):Int)-((0:Nat):Int)))=n:=by rw[e0,a7 (by omega) (by omega)];omega
 show sB (decide ((IntKind.wrap .i64 ((n:Int)-IntKind.wrap .i64 (((0:Nat):Int)-((0:Nat):Int))))>0)) _ _;refine aM (fun c=>?_) (fun c=>⟨⟨none,0,0⟩,rfl,(St.refl _).bJ 200 4⟩);rw[e1] at c;refine⟨⟨by omega,by show (0:Int)<=((0:Nat):Int);omega,by show ((0:Nat):Int)<=((0:Nat):Int);omega⟩,?_⟩;refine EV kV abN (n:=n) e1 (by omega) (by omega) (by simp only[maxLen];omega) fun r h' xs jY E ho=>?_;refine⟨⟨by omega,by show (0:Int)<=((0:Nat):Int);omega,by show ((0:Nat):Int)<=_;omega⟩,⟨aQ r.a (Int.toNat 0) r.c 4,Int.toNat ((0:Nat):Int)-Int.toNat 0,r.c-Int.toNat 0⟩,rfl,?_⟩;have h0:(It.sl ⟨aQ r.a (Int.toNat 0) r.c 4,Int.toNat ((0:Nat):Int)-Int.toNat 0,r.c-Int.toNat 0⟩ 200 4 []).ok h':=by
  rw[show aQ r.a (Int.toNat 0) r.c 4=r.a from cJ _ _ _];refine⟨⟨rfl,?_⟩,fun r hr=>by cases hr⟩;rcases ho.2 with ⟨ha,vG,fV⟩ | ⟨g,cur,ha,_,hh,D7,BV,BU,_⟩
  .exact .inl ⟨ha,rfl,fV⟩
  .exact .inr ⟨g,cur,ha,Nat.zero_le _,hh,Nat.zero_le _,BV,BU,rfl⟩
 refine (St.refl _).more E h0 fun b hb=>?_;rw[show aQ r.a (Int.toNat 0) r.c 4=r.a from cJ _ _ _] at hb;exact (fS ho hb).2.2
theorem vT{α:Type}{L:List (Sl × List α)}{i:Nat}{q:Sl × List α}(h:L[i]?=some q):((L.take (i+1)).map fun q=>q.2.length).sum=((L.take i).map fun q=>q.2.length).sum+q.2.length:=by
 rw[aj h,Ym,List.sum_append];simp
theorem nM{α:Type}(L:List (Sl × List α))(i:Nat):((L.take i).map fun q=>q.2.length).sum<=(L.map fun q=>q.2.length).sum:=by
 conv=>rhs;rw[<-List.take_append_drop i L,Ym,List.sum_append]
 omega
theorem Eu(Ls:List (Sl × List aP))(s:Sl)(h:Heap)(hr:Rw h 1 s (Ls.map fun q=>eC q.1))(hL:∀q∈Ls,RL h 4 q.1 aP.cs q.2)(hn:Ls.length<=1048576)(hsm:(Ls.map fun q=>q.2.length).sum<=1048576):
  Fn Pz 187 #[.slice s.a s.n s.c] h fun v h'=>∃r:Sl,v=.slice r.a r.n r.c/\St h h' [.sl r 200 4 ((Ls.flatMap Prod.snd).map aP.cs)]:=by
 apply Uc s;unfold Zw;have jm:=hr.ln;refine⟨fun z x h' m=>∃i:Nat,x=i/\m=s.n-i/\i<=s.n/\h'=h/\z=(((Ls.take i).map fun q=>q.2.length).sum:Nat),⟨_,0,rfl,rfl,by omega,rfl,rfl⟩,?_⟩;rintro-_ _ h6 m ⟨i,rfl,rfl,hi,rfl,rfl⟩;refine aM (fun c=>?_) (fun c=>?_)
 .refine hr.aD (by omega) (by omega) fun b o q gq t=>?_;replace gq:Ls[i]?=some q:=gq;have hq:=hL q (Yb gq);have nt:=hq.ln;have h1:=vT gq;have h2:=nM Ls (i+1);refine⟨q.1,t.hd,?_⟩;have e:IntKind.wrap .i64 (((((Ls.take i).map fun q=>q.2.length).sum:Nat):Int)+(q.1.n:Int))=(((Ls.take (i+1)).map fun q=>q.2.length).sum:Nat):=by rw[a7 (by omega) (by omega)];omega
  rw[e];refine aM (fun c2=>by omega) (fun _=>⟨_,by omega,i+1,by rw[a7 (by omega) (by omega)];omega,rfl,by omega,rfl,rfl⟩)
 .have Wv:Ls.take i=Ls:=Yj (by omega);rw[Wv];refine (LO _ h6 hsm).mono ?_;rintro _ Fl ⟨r,rfl,hs⟩;refine⟨r,rfl,?_⟩;refine gH (n:=s.n) hs (fun i rows=>rows=((Ls.take i).flatMap Prod.snd).map aP.cs) rfl ?_;clear hs;rintro-i2 ns h19 rows SH hs rfl;have xq:=hs.len 0 (s:=ns) (e:=200) (n:=4) rfl (by omega);rw[Yc,List.length_flatMap] at xq;refine aM (fun c2=>?_) (fun c2=>?_)
  .refine (hr.ext hs.ext).aD (by omega) (by omega) fun b o q gq t=>?_;replace gq:Ls[i2]?=some q:=gq;have hq:=hL q (Yb gq);have nt:=hq.ln;have h1:=vT gq;have h2:=nM Ls (i2+1);refine⟨q.1,t.hd,?_⟩;refine hs.dY 0 rfl kV (hq.rw.ext hs.ext) (OA _) hq.nil (by
    rw[List.all_eq_true];intro v hv;obtain⟨r,hr,hv⟩:=List.mem_flatten.1 hv;obtain⟨x,_,rfl⟩:=Yp.1 hr;simp[aP.cs] at hv;rcases hv with rfl | rfl | rfl | rfl<;>rfl) (by omega) (by simp only[maxLen];omega) fun s23 rO n23 hs=>?_
   refine Fu.next (by omega) (by omega) ⟨_,hs,?_⟩;rw[aj gq,List.flatMap_append,Ym];simp
  .rw[Yj (by omega)] at hs;exact⟨ns,rfl,hs⟩
def eA(es:List Ed)(k:Nat):Ed:=es.getD k ⟨0,0,0,0,0,false⟩
theorem aK{es:List Ed}{k:Nat}{x:Ed}(h:es[k]?=some x):eA es k=x:=by unfold eA;rw[Yo,h];rfl
def AW(es:List Ed)(role:Int)(k:Nat):Bool:=(aW role (eA es k)).isNone
def kZ(es:List Ed)(role:Int)(t:Nat)(l:List Nat):List aP:=(l.filter (AW es role)).map fun i:Nat=>⟨(i:Int),-1,(eA es i).t,(t:Nat)⟩
def oZ(es:List Ed)(role:Int)(s:Nat)(l:List Nat):List aP:=(l.filter (AW es role)).map fun k:Nat=>⟨-1,(k:Int),(s:Nat),(eA es k).t⟩
def lJ(es:List Ed)(role:Int)(i:Nat)(l:List Nat):List aP:=match aW role (eA es i) with
 | none=>[]
 | some a=>(l.filter fun k=>decide (aW role (eA es k)=some a)).map fun k:Nat=>⟨(i:Int),(k:Int),(eA es i).t,(eA es k).t⟩
def kI(es:List Ed)(role:Int)(l m:List Nat):List aP:=l.flatMap fun i=>lJ es role i m
def bq(es:List Ed)(role:Int)(s t:Nat):List aP:=kZ es role t (ah es (s:Nat))++oZ es role s (ah es (t:Nat))++kI es role (ah es (s:Nat)) (ah es (t:Nat))
theorem uD{es:List Ed}{role:Int}{t:Nat}{l:List Nat}:(kZ es role t l).length<=l.length:=by unfold kZ;rw[Yc];exact List.length_filter_le _ _
theorem uF{es:List Ed}{role:Int}{t:Nat}{l:List Nat}:(oZ es role t l).length<=l.length:=by unfold oZ;rw[Yc];exact List.length_filter_le _ _
theorem pE{es:List Ed}{role:Int}{i:Nat}{l:List Nat}:(lJ es role i l).length<=l.length:=by
 unfold lJ;split
 .exact Nat.zero_le _
 .rw[Yc];exact List.length_filter_le _ _
theorem po{es:List Ed}{role:Int}:∀ {l m:List Nat},(kI es role l m).length<=l.length*m.length
 | [],m=>by simp[kI]
 | a::l,m=>by
  have h1:=po (es:=es) (role:=role) (l:=l) (m:=m);have h2:=pE (es:=es) (role:=role) (i:=a) (l:=m);unfold kI at h1 ⊢;rw[List.flatMap_cons,Yh,j8,Nat.succ_mul];omega
theorem pT{role:Int}{x:Ed}:aW role x=none ↔ x.a≠role/\x.b≠role:=by
 unfold aW;by_cases h1:role=x.a
 .rw[if_pos h1];simp[h1.symm]
 .rw[if_neg h1];by_cases h2:role=x.b
  .rw[if_pos h2];simp[h2.symm]
  .rw[if_neg h2];simp;exact⟨fun e=>h1 e.symm,fun e=>h2 e.symm⟩
theorem RL.yY{α:Type}{h0 h:Heap}{L:List It}(hs:St h0 h L)(k:Nat){s:Sl}{e:TypeId}{n:Nat}{cs:α->List Value}{l:List α}(hk:L[k]?=some (.sl s e n (l.map cs)))(hn:0<n)(hm:l.length<=1048576):RL h n s cs l:=
 ⟨hs.rw k hk hn,(hs.len k hk hn).2.1,(hs.len k hk hn).2.2,hm⟩
end Go.VC
end

section
namespace Go.VC
open Go.Proofs Go.LexS
theorem lH{es:List Ed}{role:Int}{t:Nat}{l:List Nat}{j k:Nat}(hk:l[j]?=some k):kZ es role t (l.take (j+1))=kZ es role t (l.take j)++(if AW es role k then [⟨(k:Int),-1,(eA es k).t,(t:Nat)⟩] else []):=by
 unfold kZ;rw[aj hk,List.filter_append,Ym];congr 1;by_cases h:AW es role k=true
 .rw[if_pos h,List.filter_cons_of_pos h];rfl
 .rw[if_neg h,List.filter_cons_of_neg h];rfl
theorem lI{es:List Ed}{role:Int}{t:Nat}{l:List Nat}{j k:Nat}(hk:l[j]?=some k):oZ es role t (l.take (j+1))=oZ es role t (l.take j)++(if AW es role k then [⟨-1,(k:Int),(t:Nat),(eA es k).t⟩] else []):=by
 unfold oZ;rw[aj hk,List.filter_append,Ym];congr 1;by_cases h:AW es role k=true
 .rw[if_pos h,List.filter_cons_of_pos h];rfl
 .rw[if_neg h,List.filter_cons_of_neg h];rfl
theorem wW{es:List Ed}{role:Int}{i:Nat}{l:List Nat}{j k:Nat}{a:Ev}(ha:aW role (eA es i)=some a)(hk:l[j]?=some k):lJ es role i (l.take (j+1))=lJ es role i (l.take j)++(if aW role (eA es k)=some a then [⟨(i:Int),(k:Int),(eA es i).t,(eA es k).t⟩] else []):=by
 unfold lJ;rw[ha];simp only;rw[aj hk,List.filter_append,Ym];congr 1;by_cases h:aW role (eA es k)=some a
 .rw[if_pos h,List.filter_cons_of_pos (by rw[decide_eq_true h])];rfl
 .rw[if_neg h,List.filter_cons_of_neg (by rw[decide_eq_false h];decide)];rfl
theorem qF{es:List Ed}{role:Int}{l m:List Nat}{j k:Nat}(hk:l[j]?=some k):kI es role (l.take (j+1)) m=kI es role (l.take j) m++lJ es role k m:=by
 unfold kI;rw[aj hk,List.flatMap_append,List.flatMap_singleton]
theorem GM{es:List Ed}{role:Int}{i:Nat}{l:List Nat}(ha:aW role (eA es i)=none):lJ es role i l=[]:=by unfold lJ;rw[ha]
def Nc(h:Heap)(q bo:Sl)(Q B:List aP)(s t:Nat):List It:=[.sl q 200 4 (Q.map aP.cs),.sl bo 200 4 (B.map aP.cs),.ae h.size [.int .i64 (s:Nat),.int .i64 (t:Nat)] 97]
theorem DP(b:Nat)(g:Gl)(role:Int)(ho:Sl)(os:Nat->Sl)(s t:Nat)(h:Heap)(hA:J5 h b g role ho os)(hV:af g)(dC:(s:Int)<g.n)(ht1:(t:Int)<g.n):
  Fn Pz 108 #[.pointer (some ⟨b,0,none⟩),.agg ⟨[.int .i64 (s:Nat),.int .i64 (t:Nat)]⟩] h fun v h'=>∃r:Sl,v=.slice r.a r.n r.c/\St h h' [.sl r 200 4 ((bq g.es role s t).map aP.cs)]:=by
 apply U2 ⟨b,0,none⟩ (s:Nat) (t:Nat);unfold aak;have hN:=hV.num.n;have hM:=hV.num.m;have zJ:=hA.ro.ln;rw[mr] at zJ;have ki:=hA.gi.e.ln;have Pd:=cA g.es (s:Nat);have hto:=cA g.es (t:Nat);have rs:=hA.rs s (by omega);have rt:=hA.rs t (by omega);have rsn:(os s).n=(ah g.es (s:Nat)).length:=by rw[rs.ln];exact Yc _
 have rtn:(os t).n=(ah g.es (t:Nat)).length:=by rw[rt.ln];exact Yc _
 refine (St.refl h).ak fun h3 hs=>?_;refine⟨ho,(hA.ext hs.ext).at_.nth 9 rfl,(s:Nat),hs.rd 0 rfl (i:=0) rfl,?_⟩;refine (hA.ro.ext hs.ext).aD (by omega) (by omega) fun b6 o7 d gd u=>?_;obtain rfl:s=d:=(ui gd).1;refine⟨os s,u.hd,?_⟩;have hs:=(hs.bJ 200 4).bJ 200 4;refine⟨fun q bo x h' m=>∃j:Nat,x=j/\m=(os s).n-j/\j<=(os s).n/\St h h' (Nc h q bo (kZ g.es role t ((ah g.es (s:Nat)).take j)) (kI g.es role ((ah g.es (s:Nat)).take j) (ah g.es (t:Nat))) s t),⟨_,0,rfl,rfl,by omega,hs⟩,?_⟩;clear hs;rintro-q bo _ rP m ⟨j,rfl,rfl,hj,hs⟩;have sn:=(hs.len 0 (s:=q) (e:=200) (n:=4) rfl (by omega)).1;have yA:=(hs.len 1 (s:=bo) (e:=200) (n:=4) rfl (by omega)).1;rw[Yc] at sn yA;have my:=uD (es:=g.es) (role:=role) (t:=t) (l:=(ah g.es (s:Nat)).take j);have n5:=po (es:=g.es) (role:=role) (l:=(ah g.es (s:Nat)).take j) (m:=ah g.es (t:Nat));have jK:((ah g.es (s:Nat)).take j).length*(ah g.es (t:Nat)).length<=400*400:=Nat.mul_le_mul (by rw[Yu];omega) (by omega);rw[Yu] at my;refine aM (fun c=>?_) (fun c=>?_)
 .refine (rs.ext hs.ext).aD (by omega) (by omega) fun b16 o17 d gd u=>?_;obtain⟨k,hk,rfl⟩:=cV gd;replace hk:(ah g.es (s:Nat))[j]?=some k:=hk;obtain⟨x0,jJ,DY⟩:=aA.1 (Yb hk);have qP:=(Ya.1 jJ).1;have kM:=aK jJ;refine⟨_,u.hd,g.he,(hA.ext hs.ext).at_.nth 6 rfl,?_⟩;refine (hA.gi.e.rw.ext hs.ext).aD (by omega) (by omega) fun b20 o21 x gx u2=>?_;replace gx:g.es[k]?=some x:=gx;rw[jJ] at gx;cases gx;refine⟨x0.f,x0.a,x0.b,x0.l,x0.t,x0.ag,u2,?_⟩;refine hs.ao (vs:=x0.cs) rfl rfl fun P4 hs=>?_;refine⟨x0.f,x0.a,x0.b,x0.l,x0.t,x0.ag,hs.at 0 rfl (o:=0) (n:=6) rfl,?_⟩;refine (lr ⟨b,0,none⟩ role x0 P4 ((hA.ext hs.ext).at_.nth 8 rfl)).mono ?_;rintro _ LJ ⟨E41,rfl⟩;replace hs:=hs.step E41;cases hvis:aW role x0 with
  | none=>
   refine⟨false,0,0,false,rfl,?_⟩;refine hs.ao (vs:=[.bool false,.int .i64 0,.int .i64 0]) rfl rfl fun SU hs=>?_;refine qf rfl ?_;refine⟨x0.t,hs.rd 1 rfl (i:=4) rfl,(t:Nat),hs.rd 4 rfl (i:=1) rfl,?_⟩;refine hs.app 2 rfl kV (m:=1) [aP.cs ⟨(k:Int),-1,x0.t,(t:Nat)⟩] rfl rfl (fun r hr=>by rw[Ye] at hr;rw[hr];rfl) rfl (by omega) (by simp only[maxLen];omega) fun s47 Ej n47 hs=>?_;refine⟨_,by omega,j+1,by rw[a7 (by omega) (by omega)];omega,rfl,by omega,?_⟩;have hs:=hs.drop 2;rw[lH hk,qF hk,GM (by rw[kM];exact hvis),Yw,if_pos (by unfold AW;rw[kM,hvis];rfl),kM];unfold Nc;rw[Ym];exact hs
  | some e=>
   refine⟨e.send,e.peer,e.label,true,rfl,?_⟩;refine hs.ao (vs:=e.cs) rfl rfl fun SU hs=>?_;refine ja rfl ?_;refine⟨ho,(hA.ext hs.ext).at_.nth 9 rfl,(t:Nat),hs.rd 4 rfl (i:=1) rfl,?_⟩;refine (hA.ro.ext hs.ext).aD (by omega) (by omega) fun b52 o53 d gd u3=>?_;obtain rfl:t=d:=(ui gd).1;refine⟨os t,u3.hd,?_⟩;have fL:kZ g.es role t ((ah g.es (s:Nat)).take (j+1))=kZ g.es role t ((ah g.es (s:Nat)).take j):=by
    rw[lH hk,if_neg (by unfold AW;rw[kM,hvis];exact fun h9=>by cases h9),Yw]
   refine⟨fun bo x h' m=>∃j2:Nat,x=j2/\m=(os t).n-j2/\j2<=(os t).n/\St h h' (.ae LJ.size e.cs 188 :: .ae rP.size x0.cs 67::Nc h q bo (kZ g.es role t ((ah g.es (s:Nat)).take j)) (kI g.es role ((ah g.es (s:Nat)).take j) (ah g.es (t:Nat))++lJ g.es role k ((ah g.es (t:Nat)).take j2)) s t),⟨_,0,rfl,rfl,by omega,?_⟩,?_⟩
   .have:lJ g.es role k ((ah g.es (t:Nat)).take 0)=[]:=List.length_eq_zero_iff.1 (by have:=pE (es:=g.es) (role:=role) (i:=k) (l:=(ah g.es (t:Nat)).take 0);rw[mq,List.length_nil] at this;rw[mq];omega);rw[this,Yw];exact hs
   clear hs;rintro-bo2 _ PY m ⟨j2,rfl,rfl,SG,hs⟩;have acS:=(hs.len 3 (s:=bo2) (e:=200) (n:=4) rfl (by omega)).1;rw[Yc,Yh] at acS;have JS:=pE (es:=g.es) (role:=role) (i:=k) (l:=(ah g.es (t:Nat)).take j2);rw[Yu] at JS;refine aM (fun c2=>?_) (fun c2=>?_)
   .refine (rt.ext hs.ext).aD (by omega) (by omega) fun b61 o62 d gd u4=>?_;obtain⟨k2,jn,rfl⟩:=cV gd;replace jn:(ah g.es (t:Nat))[j2]?=some k2:=jn;obtain⟨x2,zC,acj⟩:=aA.1 (Yb jn);have acG:=(Ya.1 zC).1;have xg:=aK zC;refine⟨_,u4.hd,g.he,(hA.ext hs.ext).at_.nth 6 rfl,?_⟩;refine (hA.gi.e.rw.ext hs.ext).aD (by omega) (by omega) fun b65 o66 x gx u5=>?_;replace gx:g.es[k2]?=some x:=gx;rw[zC] at gx;cases gx;refine⟨x2.f,x2.a,x2.b,x2.l,x2.t,x2.ag,u5,?_⟩;refine hs.ao (vs:=x2.cs) rfl rfl fun LG hs=>?_;refine⟨x2.f,x2.a,x2.b,x2.l,x2.t,x2.ag,hs.at 0 rfl (o:=0) (n:=6) rfl,?_⟩;refine (lr ⟨b,0,none⟩ role x2 LG ((hA.ext hs.ext).at_.nth 8 rfl)).mono ?_;rintro _ j5 ⟨E86,rfl⟩;replace hs:=hs.step E86;have hvk:aW role (eA g.es k)=some e:=by rw[kM];exact hvis
    have skip:∀ {hZ:Heap},aW role (eA g.es k2)≠some e->St h hZ (.ae LJ.size e.cs 188 :: .ae rP.size x0.cs 67::Nc h q bo2 (kZ g.es role t ((ah g.es (s:Nat)).take j)) (kI g.es role ((ah g.es (s:Nat)).take j) (ah g.es (t:Nat))++lJ g.es role k ((ah g.es (t:Nat)).take j2)) s t) ->
      ∃m,m<(os t).n-j2/\∃j3:Nat,IntKind.wrap .i64 ((j2:Int)+1)=j3/\m=(os t).n-j3/\j3<=(os t).n/\St h hZ (.ae LJ.size e.cs 188 :: .ae rP.size x0.cs 67::Nc h q bo2 (kZ g.es role t ((ah g.es (s:Nat)).take j)) (kI g.es role ((ah g.es (s:Nat)).take j) (ah g.es (t:Nat))++lJ g.es role k ((ah g.es (t:Nat)).take j3)) s t):=fun {hZ} bH hs=>by
     refine⟨_,by omega,j2+1,by rw[a7 (by omega) (by omega)];omega,rfl,by omega,?_⟩;rw[wW hvk jn,if_neg bH,Yw];exact hs
    cases hvis2:aW role x2 with
    | none=>
     refine⟨false,0,0,false,rfl,?_⟩;refine hs.ao (vs:=[.bool false,.int .i64 0,.int .i64 0]) rfl rfl fun h88 hs=>?_;refine ja rfl (skip (by rw[xg,hvis2];exact fun e=>by cases e) (hs.drop 2))
    | some e2=>
     refine⟨e2.send,e2.peer,e2.label,true,rfl,?_⟩;refine hs.ao (vs:=e2.cs) rfl rfl fun h88 hs=>?_;refine qf rfl ?_;refine⟨e.send,e.peer,e.label,hs.at 2 rfl (o:=0) (n:=3) rfl,e2.send,e2.peer,e2.label,hs.at 0 rfl (o:=0) (n:=3) rfl,?_⟩;rw[Qw];refine aM (fun c3=>?_) (fun c3=>skip (by rw[xg,hvis2];exact fun e9=>c3 (fH e9).symm) (hs.drop 2));subst c3;refine⟨x0.t,hs.rd 3 rfl (i:=4) rfl,x2.t,hs.rd 1 rfl (i:=4) rfl,?_⟩;refine hs.app 5 rfl kV (m:=1) [aP.cs ⟨(k:Int),(k2:Int),x0.t,x2.t⟩] rfl rfl (fun r hr=>by rw[Ye] at hr;rw[hr];rfl) rfl (by omega) (by simp only[maxLen];omega) fun s98 WY n98 hs=>?_;refine⟨_,by omega,j2+1,by rw[a7 (by omega) (by omega)];omega,rfl,by omega,?_⟩;have hs:=hs.drop 2;rw[wW hvk jn,if_pos (by rw[xg,hvis2]),kM,xg,<-Yz];unfold Nc;rw[Ym (l₁:=kI _ _ _ _++_)];exact hs
   .refine⟨_,by omega,j+1,by rw[a7 (by omega) (by omega)];omega,rfl,by omega,?_⟩;rw[fL,qF hk];rw[Yj (l:=ah g.es (t:Nat)) (by omega)] at hs;exact hs.drop 2
 .rw[Yj (by omega)] at hs my n5 jK;refine⟨ho,(hA.ext hs.ext).at_.nth 9 rfl,(t:Nat),hs.rd 2 rfl (i:=1) rfl,?_⟩;refine (hA.ro.ext hs.ext).aD (by omega) (by omega) fun YE Vx d gd u3=>?_;obtain rfl:t=d:=(ui gd).1;refine⟨os t,u3.hd,?_⟩;replace hs:=hs.bJ 200 4;refine⟨fun ot x h' m=>∃j2:Nat,x=j2/\m=(os t).n-j2/\j2<=(os t).n/\St h h' (.sl ot 200 4 ((oZ g.es role s ((ah g.es (t:Nat)).take j2)).map aP.cs)::Nc h q bo (kZ g.es role t (ah g.es (s:Nat))) (kI g.es role (ah g.es (s:Nat)) (ah g.es (t:Nat))) s t),⟨_,0,rfl,rfl,by omega,hs⟩,?_⟩;clear hs;rintro-ot _ qS m ⟨j2,rfl,rfl,SG,hs⟩;have tt:=(hs.len 0 (s:=ot) (e:=200) (n:=4) rfl (by omega)).1;rw[Yc] at tt;have SC:=uF (es:=g.es) (role:=role) (t:=s) (l:=(ah g.es (t:Nat)).take j2);rw[Yu] at SC;refine aM (fun c2=>?_) (fun c2=>?_)
  .refine (rt.ext hs.ext).aD (by omega) (by omega) fun b61 o62 d gd u4=>?_;obtain⟨k2,jn,rfl⟩:=cV gd;replace jn:(ah g.es (t:Nat))[j2]?=some k2:=jn;obtain⟨x2,zC,acj⟩:=aA.1 (Yb jn);have acG:=(Ya.1 zC).1;have xg:=aK zC;refine⟨_,u4.hd,g.he,(hA.ext hs.ext).at_.nth 6 rfl,?_⟩;refine (hA.gi.e.rw.ext hs.ext).aD (by omega) (by omega) fun b65 o66 x gx u5=>?_;replace gx:g.es[k2]?=some x:=gx;rw[zC] at gx;cases gx;refine⟨x2.f,x2.a,x2.b,x2.l,x2.t,x2.ag,u5,?_⟩;refine hs.ao (vs:=x2.cs) rfl rfl fun LN hs=>?_;have skip:aW role x2≠none->∃m,m<(os t).n-j2/\∃j3:Nat,IntKind.wrap .i64 ((j2:Int)+1)=j3/\m=(os t).n-j3/\j3<=(os t).n/\St h LN (.sl ot 200 4 ((oZ g.es role s ((ah g.es (t:Nat)).take j3)).map aP.cs)::Nc h q bo (kZ g.es role t (ah g.es (s:Nat))) (kI g.es role (ah g.es (s:Nat)) (ah g.es (t:Nat))) s t):=fun bH=>by
    refine⟨_,by omega,j2+1,by rw[a7 (by omega) (by omega)];omega,rfl,by omega,?_⟩;rw[lI jn,if_neg (by unfold AW;rw[xg];intro h9;exact bH (Option.isNone_iff_eq_none.1 h9)),Yw];exact hs.drop 1
   refine⟨x2.a,hs.rd 0 rfl (i:=1) rfl,role,(hA.ext hs.ext).at_.nth 8 rfl,?_⟩;refine fZ (fun c3=>?_) (fun c3=>skip fun h9=>(pT.1 h9).1 c3);refine⟨x2.b,hs.rd 0 rfl (i:=2) rfl,role,(hA.ext hs.ext).at_.nth 8 rfl,?_⟩;refine fZ (fun c4=>?_) (fun c4=>skip fun h9=>(pT.1 h9).2 c4);have Lk:=pT.2 ⟨c3,c4⟩;refine⟨(s:Nat),hs.rd 4 rfl (i:=0) rfl,x2.t,hs.rd 0 rfl (i:=4) rfl,?_⟩;refine hs.app 1 rfl kV (m:=1) [aP.cs ⟨-1,(k2:Int),(s:Nat),x2.t⟩] rfl rfl (fun r hr=>by rw[Ye] at hr;rw[hr];rfl) rfl (by omega) (by simp only[maxLen];omega) fun s98 WY n98 hs=>?_;refine⟨_,by omega,j2+1,by rw[a7 (by omega) (by omega)];omega,rfl,by omega,?_⟩;have hs:=hs.drop 1;rw[lI jn,if_pos (by unfold AW;rw[xg,Lk];rfl),xg,Ym];exact hs
  .rw[Yj (by omega)] at hs SC;refine hs.ak fun Xh hs=>?_;have nX:=hs.dP 3 1 ([q,ot,bo].map eC) rfl (fun r hr=>by obtain⟨x,_,rfl⟩:=Yp.1 hr;rfl) rfl (by decide);refine (Eu [(q,kZ g.es role t (ah g.es (s:Nat))),(ot,oZ g.es role s (ah g.es (t:Nat))),(bo,kI g.es role (ah g.es (s:Nat)) (ah g.es (t:Nat)))] _ Xh (nX.rw 0 rfl (by omega)) ?_ (show 3<=1048576 by decide) ?_).mono ?_
   .intro z hz;simp only[Yr,List.not_mem_nil,or_false] at hz;rcases hz with rfl | rfl | rfl
    .exact RL.yY hs 2 rfl (by omega) (by show (kZ _ _ _ _).length<=_;omega)
    .exact RL.yY hs 1 rfl (by omega) (by show (oZ _ _ _ _).length<=_;omega)
    .exact RL.yY hs 3 rfl (by omega) (by show (kI _ _ _ _).length<=_;omega)
   .simp only[gG,List.map_nil,List.sum_cons,List.sum_nil];omega
   .rintro _ xu ⟨r,rfl,bG⟩;refine⟨r,rfl,r,rfl,?_⟩;have h5:=hs.join bG;have h6:=h5.sub (L':=[.sl r 200 4 ((([(q,kZ g.es role t (ah g.es (s:Nat))),(ot,oZ g.es role s (ah g.es (t:Nat))),(bo,kI g.es role (ah g.es (s:Nat)) (ah g.es (t:Nat)))]:List (Sl × List aP)).flatMap Prod.snd).map aP.cs)]) (List.singleton_sublist.2 (by simp));have e9:(([(q,kZ g.es role t (ah g.es (s:Nat))),(ot,oZ g.es role s (ah g.es (t:Nat))),(bo,kI g.es role (ah g.es (s:Nat)) (ah g.es (t:Nat)))]:List (Sl × List aP)).flatMap Prod.snd)=bq g.es role s t:=by
     unfold bq;simp
    rw[e9] at h6;exact h6
end Go.VC
end

section
namespace Go.VC
open Go.Proofs Go.LexS Go.Maps
theorem cX{α β:Type}[DecidableEq α](a x:α)(b:β):∀l:List (α × β),aU (cC l a b) x=if x=a then some b else aU l x
 | []=>by
  unfold cC aU;by_cases h:x=a
  .rw[if_pos h,if_pos h.symm]
  .rw[if_neg h,if_neg (fun e=>h e.symm)];rfl
 | (c,y)::r=>by
  have ih:=cX a x b r;by_cases hc:c=a
  .rw[cC,if_pos hc];by_cases h:x=a
   .rw[aU,if_pos (by rw[hc,h]),if_pos h]
   .rw[aU,if_neg (fun e=>h (e.symm.trans hc)),if_neg h,aU,if_neg (fun e=>h (e.symm.trans hc))]
  .rw[cC,if_neg hc];by_cases h:c=x
   .rw[aU,if_pos h,if_neg (fun e=>hc (h.trans e)),aU,if_pos h]
   .rw[aU,if_neg h,ih,aU,if_neg h]
theorem cY{α β:Type}[DecidableEq α](x:α):∀l:List (α × β),(aU l x).isSome=true ↔ x∈l.map Prod.fst
 | []=>by simp[aU]
 | (c,y)::r=>by
  rw[aU];by_cases h:c=x
  .rw[if_pos h];simp[h]
  .rw[if_neg h,cY x r,gG,Yr];exact⟨.inr,fun h9=>h9.resolve_left fun e=>h e.symm⟩
def pC(p:Nat × Nat):List Value:=[.int .i64 (p.1:Nat),.int .i64 (p.2:Nat)]
def pV(p:Nat × Nat):Value:=.agg ⟨pC p⟩
def eG(p:Nat × Nat):Prop:=p.1<1048576/\p.2<1048576
theorem abU : ∃ fs, Pz.underlying 97 = some (.struct fs) /\ fs.all (·.name != "_") = true /\ fs.toList.map (fun f => (f.type, f.offset)) = [(3, 0), (3, 1)] := su (by kernel_rfl)
theorem X8:Pz.cellsOf 97=2:=by kernel_rfl
theorem w6(p:Nat × Nat)(h:eG p):∃l,keyOf Pz 97 (pV p)=some l:=by
 obtain⟨fs,hu,hn,hf⟩:=abU;obtain⟨h1,h2⟩:=h;have fA:∃n,Pz.types.size+1=n+2:=⟨Pz.types.size-1,by kernel_rfl⟩;obtain⟨n,fA⟩:=fA;have w1:VN ((p.1:Nat):Int):=⟨by omega,by omega⟩;have w2:VN ((p.2:Nat):Int):=⟨by omega,by omega⟩;have hl:Pz.keyLits (n+2) 97 (pC p)=some [[.int .i64 ((p.1:Nat):Int)],[.int .i64 ((p.2:Nat):Int)]].flatten:=by
  refine tf hu (by rw[X8];rfl) hn hf ?_;simp only[List.mapM_cons,List.mapM_nil,c3,pC,List.drop_zero,List.take_succ_cons,mq,List.drop_succ_cons,qJ u3 w1.wf,qJ u3 w2.wf];rfl
 have hkt:Pz.keyType 97=true:=by kernel_rfl
 have SI:(pV p).formed Pz 97=true:=by
  unfold pV Value.formed;simp only[hu,X8];rfl
 have e:keyOf Pz 97 (pV p)=(Pz.keyLits (n+2) 97 (pC p)).map fun ls=>.string (keyBytes ls):=by
  unfold keyOf;simp only[hu,hkt,SI,Bool.and_self,if_true,fA];rfl
 rw[e,hl];exact⟨_,rfl⟩
theorem Gg(a b:Nat × Nat)(h:pV a=pV b):a=b:=by
 unfold pV pC at h;simp at h;exact Prod.ext (by omega) (by omega)
theorem yj:MT Pz 93 97 197 pV eG (.slice none 0 0) where
 K:=Keyed.of_law (deep_law_laid zw (m:=2) (by omega) (cd (by kernel_rfl)) (by kernel_rfl) (by kernel_rfl))
 ht:=by kernel_rfl
 key:=w6
 inj:=Gg
 z:=fun w=>by kernel_rfl
theorem Jw:MT Pz 293 97 3 pV eG (.int .i64 0) where
 K:=Keyed.of_law (deep_law_laid zw (m:=2) (by omega) (cd (by kernel_rfl)) (by kernel_rfl) (by kernel_rfl))
 ht:=by kernel_rfl
 key:=w6
 inj:=Gg
 z:=fun w=>by kernel_rfl
def bj(m:aP):Nat × Nat:=(m.s.toNat,m.t.toNat)
inductive dB (g:Gl) (role:Int):Nat × Nat->Prop where
 | start:dB g role (g.s.toNat,g.s.toNat)
 | step {p:Nat × Nat} {m:aP}:dB g role p->m∈bq g.es role p.1 p.2->dB g role (bj m)
theorem va{es:List Ed}{k:Nat}{s:Int}(h:k∈ah es s):eA es k∈es/\(eA es k).f=s:=by
 obtain⟨x,hx,hf⟩:=aA.1 h;rw[aK hx];exact⟨Yb hx,hf⟩
theorem KV{g:Gl}{role:Int}{s t:Nat}(hV:af g)(hs:(s:Int)<g.n)(ht:(t:Int)<g.n){m:aP}(hm:m∈bq g.es role s t):0<=m.s/\m.s<g.n/\0<=m.t/\m.t<g.n:=by
 have hE:∀ {k:Nat} {s:Int},k∈ah g.es s->0<=(eA g.es k).t/\(eA g.es k).t<g.n:=fun {k s} hk=>by
  have:=hV.num.e _ (va hk).1;unfold gU at this;omega
 unfold bq at hm;rcases Yk.1 hm with hm | hm
 .rcases Yk.1 hm with hm | hm
  .obtain⟨k,hk,rfl⟩:=Yp.1 hm;have:=hE (List.mem_filter.1 hk).1;exact⟨this.1,this.2,by show (0:Int)<=((t:Nat):Int);omega,ht⟩
  .obtain⟨k,hk,rfl⟩:=Yp.1 hm;have:=hE (List.mem_filter.1 hk).1;exact⟨by show (0:Int)<=((s:Nat):Int);omega,hs,this.1,this.2⟩
 .unfold kI at hm;obtain⟨i,hi,hm⟩:=List.mem_flatMap.1 hm;unfold lJ at hm;split at hm
  .cases hm
  .obtain⟨k,hk,rfl⟩:=Yp.1 hm;have h1:=hE hi;have h2:=hE (List.mem_filter.1 hk).1;exact⟨h1.1,h1.2,h2.1,h2.2⟩
theorem ia{g:Gl}{role:Int}{p:Nat × Nat}(hV:af g)(hp:(p.1:Int)<g.n/\(p.2:Int)<g.n){m:aP}(hm:m∈bq g.es role p.1 p.2):((bj m).1:Int)<g.n/\((bj m).2:Int)<g.n/\((bj m).1:Int)=m.s/\((bj m).2:Int)=m.t:=by
 have:=KV hV hp.1 hp.2 hm;unfold bj;refine⟨?_,?_,?_,?_⟩<;>simp only<;>omega
theorem dB.lt{g:Gl}{role:Int}(hV:af g){p:Nat × Nat}(h:dB g role p):(p.1:Int)<g.n/\(p.2:Int)<g.n:=by
 induction h with
 | start=>have:=hV.num.n;exact⟨by simp only;omega,by simp only;omega⟩
 | step _ hm ih=>have:=ia hV ih hm;exact⟨this.1,this.2.1⟩
theorem l4{n:Nat}{A:List (Nat × Nat)}(hn:A.Nodup)(h:∀p∈A,p.1<n/\p.2<n):A.length<=n*n:=by
 have h1:=List.Nodup.length_le_of_subset hn (l₂:=(List.range n).flatMap fun i=>(List.range n).map fun j=>(i,j)) fun p hp=>by
  have:=h p hp;exact List.mem_flatMap.2 ⟨p.1,List.mem_range.2 this.1,Yp.2 ⟨p.2,List.mem_range.2 this.2,rfl⟩⟩
 have h2:((List.range n).flatMap fun i=>(List.range n).map fun j=>(i,j)).length=n*n:=by
  rw[List.length_flatMap];simp only[Yc,mr];have:∀(l:List Nat),(l.map fun _=>n).sum=l.length*n:=fun l=>by
   induction l with
   | nil=>simp
   | cons a l ih=>rw[gG,List.sum_cons,ih,j8,Nat.succ_mul];omega
  rw[this,mr]
 omega
theorem fw{es:List Ed}{role:Int}{s t:Nat}(h:es.length<=400):(bq es role s t).length<=160800:=by
 unfold bq;rw[Yh,Yh];have h1:=uD (es:=es) (role:=role) (t:=t) (l:=ah es (s:Nat));have h2:=uF (es:=es) (role:=role) (t:=s) (l:=ah es (t:Nat));have h3:=po (es:=es) (role:=role) (l:=ah es (s:Nat)) (m:=ah es (t:Nat));have h4:=cA es (s:Nat);have h5:=cA es (t:Nat);have h6:(ah es (s:Nat)).length*(ah es (t:Nat)).length<=400*400:=Nat.mul_le_mul (by omega) (by omega);omega
end Go.VC
end

section
namespace Go.VC
open Go.Proofs Go.LexS
theorem eF{α:Type}{L:List α}(hn:L.Nodup){i j:Nat}{x:α}(hi:L[i]?=some x)(hj:L[j]?=some x):i=j:=by
 obtain⟨h1,e1⟩:=Ya.1 hi;obtain⟨h2,e2⟩:=Ya.1 hj;have hp:=List.pairwise_iff_getElem.1 hn;rcases Nat.lt_trichotomy i j with h | h | h
 .exact absurd (e1.trans e2.symm) (hp i j h1 h2 h)
 .exact h
 .exact absurd (e2.trans e1.symm) (hp j i h2 h1 h)
structure RI (g:Gl) (role:Int) (i c:Nat) (A:List (Nat × Nat)) (Q:List (Sl × List aP)) (l:List ((Nat × Nat) × Sl)):Prop where
 qn:Q.length=c
 q:∀(k:Nat) (q:Sl × List aP),Q[k]?=some q->∃p,A[k]?=some p/\aU l p=some q.1/\q.2=bq g.es role p.1 p.2
 ky:∀p,p∈l.map Prod.fst ↔ p∈A
 ln:(l.map Prod.fst).Nodup
 nd:A.Nodup
 pr:∀p∈A,dB g role p
 st:(g.s.toNat,g.s.toNat)∈A
 cl:∀(k:Nat) (p:Nat × Nat),k<i->A[k]?=some p->∀m∈bq g.es role p.1 p.2,bj m∈A
theorem RI.iH{g:Gl}{role:Int}{i c:Nat}{A:List (Nat × Nat)}{Q:List (Sl × List aP)}{l:List ((Nat × Nat) × Sl)}(h:RI g role i c A Q l)(hV:af g):∀q∈l,eG q.1:=fun q hq=>by
 have h1:=(h.pr _ ((h.ky q.1).1 (Yp.2 ⟨q,hq,rfl⟩))).lt hV;have:=hV.num.n;exact⟨by omega,by omega⟩
theorem RI.len{g:Gl}{role:Int}{i c:Nat}{A:List (Nat × Nat)}{Q:List (Sl × List aP)}{l:List ((Nat × Nat) × Sl)}(h:RI g role i c A Q l)(hV:af g):A.length<=g.n.toNat*g.n.toNat:=
 l4 h.nd fun p hp=>by have:=(h.pr p hp).lt hV;have:=hV.num.n;exact⟨by omega,by omega⟩
theorem RI.FC{g:Gl}{role:Int}{i:Nat}{A:List (Nat × Nat)}{Q:List (Sl × List aP)}{l:List ((Nat × Nat) × Sl)}(h:RI g role i i A Q l){p:Nat × Nat}(hp:A[i]?=some p)(r:Sl):RI g role i (i+1) A (Q++[(r,bq g.es role p.1 p.2)]) (cC l p r):=by
 refine⟨by rw[Yh,h.qn];rfl,fun k q hq=>?_,fun x=>?_,fv _ _ _ h.ln,h.nd,h.pr,h.st,h.cl⟩
 .by_cases hk:k<i
  .rw[jw (by rw[h.qn];exact hk)] at hq;obtain⟨p',h1,h2,h3⟩:=h.q k q hq;refine⟨p',h1,?_,h3⟩;rw[cX,if_neg (fun e=>by subst e;have:=eF h.nd h1 hp;omega)];exact h2
  .rw[tR (by rw[h.qn];omega),h.qn] at hq;have h9:=(Ya.1 hq).1;rw[Yv] at h9;obtain rfl:k=i:=by omega
   rw[Nat.sub_self] at hq;cases hq;exact⟨p,hp,by rw[cX,if_pos rfl],rfl⟩
 .rw[fg,h.ky];exact⟨fun h9=>h9.elim id fun e=>by rw[e];exact Yb hp,.inl⟩
theorem RI.new{g:Gl}{role:Int}{i c:Nat}{A:List (Nat × Nat)}{Q:List (Sl × List aP)}{l:List ((Nat × Nat) × Sl)}(h:RI g role i c A Q l)(hi:i<=A.length){p:Nat × Nat}(hp:p∉A)(hr:dB g role p)(r:Sl):RI g role i c (A++[p]) Q (cC l p r):=by
 refine⟨h.qn,fun k q hq=>?_,fun x=>?_,fv _ _ _ h.ln,?_,fun x hx=>?_,List.mem_append_left _ h.st,fun k x hk hx m hm=>?_⟩
 .obtain⟨p',h1,h2,h3⟩:=h.q k q hq;refine⟨p',by rw[jw (Ya.1 h1).1];exact h1,?_,h3⟩;rw[cX,if_neg (fun e=>hp (by subst e;exact Yb h1))];exact h2
 .rw[fg,h.ky,Yk,Ye]
 .rw[List.nodup_append];exact⟨h.nd,by simp,fun a ha b hb e=>by rw[Ye] at hb;subst hb;subst e;exact hp ha⟩
 .rcases Yk.1 hx with hx | hx
  .exact h.pr x hx
  .rw[Ye] at hx;rw[hx];exact hr
 .rcases Nat.lt_or_ge k A.length with h9 | h9
  .rw[jw h9] at hx;exact List.mem_append_left _ (h.cl k x hk hx m hm)
  .omega
def yR(all:Sl)(mb:Nat)(A:List (Nat × Nat))(Q:List (Sl × List aP))(l:List ((Nat × Nat) × Sl))(R:List It):List It:=
 .sl all 97 2 (A.map pC) :: .mp mb (l.map fun q=>(pV q.1,eO q.2))::(R++Q.map (nest 200 4 aP.cs))
theorem AV{all:Sl}{mb:Nat}{A:List (Nat × Nat)}{Q:List (Sl × List aP)}{l:List ((Nat × Nat) × Sl)}{R0:It}{i:Nat}{q:Sl × List aP}(hq:Q[i]?=some q):(yR all mb A Q l [R0])[3+i]?=some (nest 200 4 aP.cs q):=by
 unfold yR;rw[show 3+i=i+1+1+1 by omega,List.getElem?_cons_succ,List.getElem?_cons_succ,List.singleton_append,List.getElem?_cons_succ,Yd,hq];rfl
structure JZ (h:Heap) (g:Gl) (role:Int) (all:Sl) (mb:Nat) (A:List (Nat × Nat)) (l:List ((Nat × Nat) × Sl)):Prop where
 ra:RL h 2 all pC A
 mp:It.ok h (.mp mb (l.map fun q=>(pV q.1,eO q.2)))
 lk:∀q∈l,eG q.1
 ln:(l.map Prod.fst).Nodup
 mv:∀p∈A,∃r,aU l p=some r/\RL h 4 r aP.cs (bq g.es role p.1 p.2)
 nd:A.Nodup
 pr:∀p,p∈A ↔ dB g role p
theorem JZ.ext{h h':Heap}{g:Gl}{role:Int}{all:Sl}{mb:Nat}{A:List (Nat × Nat)}{l:List ((Nat × Nat) × Sl)}(hM:JZ h g role all mb A l)(E:Ext h h'):JZ h' g role all mb A l:=
 ⟨hM.ra.ext E,hM.mp.br fun b hb=>E.2 b (hM.mp.lt hb),hM.lk,hM.ln,fun p hp=>(hM.mv p hp).imp fun r hr=>⟨hr.1,hr.2.ext E⟩,hM.nd,hM.pr⟩
theorem Ik:cI Pz 92 97 2 16=true:=by kernel_rfl
theorem yQ(b:Nat)(g:Gl)(role:Int)(ho:Sl)(os:Nat->Sl)(h:Heap)(hA:J5 h b g role ho os)(hV:af g):
  Fn Pz 50 #[.pointer (some ⟨b,0,none⟩)] h fun v h'=>Ext h h'/\∃(all:Sl) (mb:Nat) (A:List (Nat × Nat)) (l:List ((Nat × Nat) × Sl)),v=.tuple ⟨[.slice all.a all.n all.c,.map (some mb)]⟩/\JZ h' g role all mb A l:=by
 apply abk ⟨b,0,none⟩;unfold W50;have hN:=hV.num.n;have hM:=hV.num.m;have jm:((g.s.toNat:Nat):Int)=g.s:=Int.toNat_of_nonneg (by omega);have hnn:g.n.toNat*g.n.toNat<=200*200:=Nat.mul_le_mul (by omega) (by omega);refine⟨g.s,hA.at_.nth 4 rfl,g.s,hA.at_.nth 4 rfl,?_⟩;refine (St.refl h).au fun h3 E3 hs=>⟨E3.sm,?_⟩;refine hs.put 0 rfl (o:=0) (vs:=[.int .i64 g.s,.int .i64 g.s]) rfl (bc 2) fun h4 hs=>?_;refine⟨g.s,g.s,hs.at 0 rfl (o:=0) (n:=2) rfl,?_⟩;refine hs.ak fun h7 hs=>?_;have hs:=hs.dP 1 2 ([(g.s.toNat,g.s.toNat)].map pC) (by unfold pC;simp only[gG,List.map_nil,ox,List.flatten_nil,Yw];rw[jm]) (fun r hr=>by obtain⟨x,_,rfl⟩:=Yp.1 hr;rfl) rfl (by decide);refine hs.Bu 93 fun cF E10 hs=>⟨some h7.size,rfl,?_⟩;refine⟨((g.s.toNat:Nat):Int),((g.s.toNat:Nat):Int),by rw[jm];exact hs.at 2 rfl (o:=0) (n:=2) rfl,?_⟩;refine hs.DN (cv:=eO) (l:=[]) yj 0 rfl (fun q hq=>by cases hq) .nil (a:=(g.s.toNat,g.s.toNat)) ⟨by simp only;omega,by simp only;omega⟩ ⟨none,0,0⟩ fun Fl hs=>?_;have hI:RI g role 0 0 [(g.s.toNat,g.s.toNat)] [] [((g.s.toNat,g.s.toNat),⟨none,0,0⟩)]:=
  ⟨rfl,fun k q hq=>(by simp at hq),fun p=>by simp,by simp,by simp,fun p hp=>by rw[Ye] at hp;rw[hp];exact .start,by simp,fun k p hk=>by omega⟩
 refine⟨fun all x h' m=>∃(i:Nat) (A:List (Nat × Nat)) (Q:List (Sl × List aP)) (l:List ((Nat × Nat) × Sl)),x=i/\m=g.n.toNat*g.n.toNat-i/\i<=A.length/\St h h' (yR all h7.size A Q l [.ae h.size [.int .i64 g.s,.int .i64 g.s] 97])/\RI g role i i A Q l,⟨_,0,_,[],_,rfl,rfl,Nat.zero_le _,hs.perm (List.Perm.swap _ _ _),hI⟩,?_⟩;clear hs hI;rintro-all _ h19 m ⟨i,A,Q,l,rfl,rfl,hi,hs,hI⟩;have mB:=hI.len hV;have WM:=hs.len 0 (s:=all) (e:=97) (n:=2) (rows:=A.map pC) rfl (by omega);rw[Yc] at WM;refine aM (fun c=>?_) (fun c=>?_)
 .refine (hs.rows 0 rfl (by omega)).aD (by omega) (by omega) fun b20 o21 p gp t=>?_;replace gp:A[i]?=some p:=gp;have D5:=hI.pr p (Yb gp);have dz:=D5.lt hV;refine⟨((p.1:Nat):Int),((p.2:Nat):Int),t,?_⟩;refine (DP b g role ho os p.1 p.2 h19 (hA.ext hs.ext) hV dz.1 dz.2).mono ?_;rintro _ rN ⟨r,rfl,bG⟩;refine⟨r,rfl,?_⟩;replace hs:=hs.join bG;refine (hs.rows 0 (s:=all) (e:=97) (n:=2) (cs:=pC) (l:=A) rfl (by omega)).aD (by omega) (by omega) fun b27 o28 p' HG t'=>?_;replace HG:A[i]?=some p':=HG;rw[gp] at HG;cases HG;refine⟨((p.1:Nat):Int),((p.2:Nat):Int),t',?_⟩;refine hs.DN (cv:=eO) (l:=l) yj 1 rfl (hI.iH hV) hI.ln (a:=p) ⟨by omega,by omega⟩ r fun fM hs=>?_;have gF:=hI.FC gp r;have hs:St h fM (yR all h7.size A (Q++[(r,bq g.es role p.1 p.2)]) (cC l p r) [.ae h.size [.int .i64 g.s,.int .i64 g.s] 97]):=by
   refine hs.perm (List.Perm.of_eq ?_);unfold yR;rw[Ym];simp[nest]
  clear bG t t';have Ff:=fw (es:=g.es) (role:=role) (s:=p.1) (t:=p.2) hM;refine⟨fun all x h' m=>∃(j:Nat) (A':List (Nat × Nat)) (l':List ((Nat × Nat) × Sl)),x=j/\m=r.n-j/\j<=r.n/\A.length<=A'.length/\St h h' (yR all h7.size A' (Q++[(r,bq g.es role p.1 p.2)]) l' [.ae h.size [.int .i64 g.s,.int .i64 g.s] 97])/\Ext fM fM/\RI g role i (i+1) A' (Q++[(r,bq g.es role p.1 p.2)]) l'/\A'[i]?=some p/\∀m∈(bq g.es role p.1 p.2).take j,bj m∈A',⟨_,0,A,_,rfl,rfl,Nat.zero_le _,bc _,hs,⟨bc _,fun _ _=>rfl⟩,gF,gp,fun m hm=>by rw[mq] at hm;cases hm⟩,?_⟩;clear hs gF;rintro-all2 _ pI m ⟨j,A',l',rfl,rfl,hj,hAA,hs,-,gF,gp2,eN⟩;have hgq:(Q++[(r,bq g.es role p.1 p.2)])[i]?=some (r,bq g.es role p.1 p.2):=by
   rw[tR (by rw[hI.qn];exact bc _),hI.qn,Nat.sub_self];rfl
  have D3:Rw pI 4 r ((bq g.es role p.1 p.2).map aP.cs):=hs.rw (3+i) (AV hgq) (by omega);have jY:=D3.ln;have WW:=gF.len hV;have acV:=hs.len 0 (s:=all2) (e:=97) (n:=2) (rows:=A'.map pC) rfl (by omega);rw[Yc] at acV;refine aM (fun c2=>?_) (fun c2=>?_)
  .refine D3.aD (by omega) (by omega) fun b38 o39 mv gm t=>?_;replace gm:(bq g.es role p.1 p.2)[j]?=some mv:=gm;have mz:=Yb gm;have pG:=ia hV dz mz;refine⟨mv.x,mv.y,mv.s,mv.t,t,?_⟩;refine hs.ao (vs:=mv.cs) rfl rfl fun kP hs=>?_;refine⟨((bj mv).1:Nat),((bj mv).2:Nat),by rw[pG.2.2.1,pG.2.2.2];exact hs.at 0 rfl (o:=2) (n:=2) rfl,?_⟩;refine hs.Bv (cv:=eO) (l:=l') yj 2 rfl (gF.iH hV) gF.ln (a:=bj mv) ⟨by omega,by omega⟩ ?_;refine⟨(aU l' (bj mv)).getD ⟨none,0,0⟩,(aU l' (bj mv)).isSome,by cases aU l' (bj mv)<;>rfl,?_⟩;refine aa (fun c3=>?_) (fun c3=>?_)
   .have ca:bj mv∉A':=fun hm=>by
     have h9:=(cY (bj mv) l').2 ((gF.ky _).2 hm);rw[h9] at c3;cases c3
    refine⟨((bj mv).1:Nat),((bj mv).2:Nat),by rw[pG.2.2.1,pG.2.2.2];exact hs.at 0 rfl (o:=2) (n:=2) rfl,?_⟩;refine hs.DN (cv:=eO) (l:=l') yj 2 rfl (gF.iH hV) gF.ln (a:=bj mv) ⟨by omega,by omega⟩ ⟨none,0,0⟩ fun h54 hs=>?_;refine⟨((bj mv).1:Nat),((bj mv).2:Nat),by rw[pG.2.2.1,pG.2.2.2];exact hs.at 0 rfl (o:=2) (n:=2) rfl,?_⟩;refine hs.app 1 rfl Ik (m:=1) [pC (bj mv)] rfl rfl (fun r hr=>by rw[Ye] at hr;rw[hr];rfl) rfl (by omega) (by simp only[maxLen];omega) fun JI B4 n58 hs=>?_;have hI3:=gF.new (by omega) ca (.step D5 mz) ⟨none,0,0⟩;refine⟨_,by omega,j+1,A'++[bj mv],_,by rw[a7 (by omega) (by omega)];omega,rfl,by omega,by rw[Yh];omega,?_,⟨bc _,fun _ _=>rfl⟩,hI3,by rw[jw (by omega)];exact gp2,fun m hm=>?_⟩
    .have hs:=hs.drop 1;unfold yR;rw[Ym (f:=pC)];exact hs
    .rw[aj gm,Yk,Ye] at hm;rcases hm with hm | rfl
     .exact List.mem_append_left _ (eN m hm)
     .simp
   .have cN:bj mv∈A':=(gF.ky _).1 ((cY (bj mv) l').1 (bT c3));refine⟨_,by omega,j+1,A',l',by rw[a7 (by omega) (by omega)];omega,rfl,by omega,hAA,hs.drop 1,⟨bc _,fun _ _=>rfl⟩,gF,gp2,fun m hm=>?_⟩;rw[aj gm,Yk,Ye] at hm;rcases hm with hm | rfl
    .exact eN m hm
    .exact cN
  .rw[Yj (by omega)] at eN;refine⟨_,by omega,i+1,A',_,l',by rw[a7 (by omega) (by omega)];omega,rfl,by omega,hs,⟨gF.qn,gF.q,gF.ky,gF.ln,gF.nd,gF.pr,gF.st,fun k x hk hx m hm=>?_⟩⟩;by_cases Ps:k=i
   .subst Ps;rw[gp2] at hx;cases hx;exact eN m hm
   .exact gF.cl k x (by omega) hx m hm
 .refine⟨hs.ext,all,h7.size,A,l,rfl,RL.yY hs 0 rfl (by omega) (by omega),hs.get (k:=1) rfl,hI.iH hV,hI.ln,fun p hp=>?_,hI.nd,fun p=>⟨hI.pr p,fun hp=>?_⟩⟩
  .obtain⟨k,hk⟩:=Yf.1 hp;have qP:=(Ya.1 hk).1;obtain⟨q,hq⟩:=get_some (l:=Q) (i:=k) (by rw[hI.qn];omega);obtain⟨p',h1,h2,h3⟩:=hI.q k q hq;rw[hk] at h1;cases h1;have Ff:=fw (es:=g.es) (role:=role) (s:=p.1) (t:=p.2) hM;refine⟨q.1,h2,?_⟩;rw[<-h3];exact RL.yY hs (3+k) (AV hq) (by omega) (by rw[h3];omega)
  .induction hp with
   | start=>exact hI.st
   | step _ hm ih=>
    obtain⟨k,hk⟩:=Yf.1 ih;exact hI.cl k _ (by have:=(Ya.1 hk).1;omega) hk _ hm
structure fP where
 e:Int
 n:Int
 m:Ms
def fP.cs(x:fP):List Value:=[.int .i64 x.e,.int .i64 x.n,.int .i64 x.m.p,.int .i64 x.m.l]
def Ms.ev(m:Ms):Ev:=⟨false,m.p,m.l⟩
def fc(K:List Ev)(b:Option fP)(x:fP):Option fP:=
 if x.m.ev∈K then (match b with | none=>some x | some y=>if x.n<y.n then some x else b) else b
def cR(K:List Ev)(L:List fP):Option fP:=L.foldl (fc K) none
def dc:fP:=⟨0,0,⟨0,0⟩⟩
def ArB(b:Option fP):Prop:=∀y,b=some y->0<y.n
structure An where
 ho:Sl
 os:Nat->Sl
 cn:Sl
 fi:List Fs
 cc:Sl
 li:List Lm
 bu:Sl
 ag:List Bool
 cm:Sl
 ow:List Bool
 cD:Sl
 ar:List (Sl × List fP)
structure vM (h:Heap) (b:Nat) (g:Gl) (role:Int) (X:An):Prop where
 gg:J5 h b g role X.ho X.os
 r:Te h ⟨b,0,none⟩ role X.cn X.cc X.bu X.cm X.fi X.li X.ag X.ow
 a:hc h ⟨b,14,none⟩=some (.slice X.cD.a X.cD.n X.cD.c)
 ra:RL h 1 X.cD eC (X.ar.map Prod.fst)
 re:∀q∈X.ar,RL h 4 q.1 fP.cs q.2
 nf:X.fi.length=g.n.toNat
 nl:X.li.length=g.n.toNat
 na:X.ag.length=g.n.toNat
 nw:X.ow.length=g.n.toNat
 nr:X.ar.length=g.n.toNat
theorem vM.ext{h h':Heap}{b:Nat}{g:Gl}{role:Int}{X:An}(hA:vM h b g role X)(E:Ext h h'):vM h' b g role X:=
 ⟨hA.gg.ext E,hA.r.ext E,ay E hA.a,hA.ra.ext E,fun q hq=>(hA.re q hq).ext E,hA.nf,hA.nl,hA.na,hA.nw,hA.nr⟩
theorem ru(b:Nat)(g:Gl)(role:Int)(X:An)(s t:Nat)(fs:Fs)(q:Sl × List fP)(h:Heap)(hA:vM h b g role X)(gt:X.fi[t]?=some fs)(gq:X.ar[s]?=some q)(hq:∀x∈q.2,0<x.n):
  Fn Pz 152 #[.pointer (some ⟨b,0,none⟩),.agg ⟨[.int .i64 (s:Nat),.int .i64 (t:Nat)]⟩] h fun v h'=>Ext h h'/\v=.tuple ⟨[.agg ⟨((cR fs.l q.2).getD dc).cs⟩,.bool (cR fs.l q.2).isSome]⟩:=by
 apply UF ⟨b,0,none⟩ (s:Nat) (t:Nat);unfold ZY Jr;have n1:=hA.ra.ln;have n2:=hA.r.rf.ln;have ls:=(Ya.1 gq).1;have lt:=(Ya.1 gt).1;have sn:=hA.re q (Yb gq);have fJ:=hA.r.re fs (Yb gt);have n3:=sn.ln;have m3:=sn.sm;rw[Yc] at n1;refine (St.refl h).ak fun h3 hs=>?_;refine hs.ak fun h4 hs=>?_;refine hs.ak fun h5 hs=>?_;refine⟨X.cD,(hA.ext hs.ext).a,(s:Nat),hs.rd 2 rfl (i:=0) rfl,?_⟩;refine (hA.ra.ext hs.ext).rw.aD (by omega) (by omega) fun b8 o9 d gd u=>?_;replace gd:(X.ar.map Prod.fst)[s]?=some d:=gd;rw[Yd,gq] at gd;cases gd;refine⟨q.1,u.hd,?_⟩;refine⟨fun x h' m=>∃(i:Nat) (o:Option fP),x=i/\m=q.1.n-i/\i<=q.1.n/\St h h' [.ae h4.size (o.getD dc).cs 276,.ae h3.size [.int .i64 0,.int .i64 0,.int .i64 0,.int .i64 0] 276,.ae h.size [.int .i64 (s:Nat),.int .i64 (t:Nat)] 97]/\o=(q.2.take i).foldl (fc fs.l) none/\ArB o,⟨_,0,none,rfl,rfl,by omega,hs,rfl,fun y hy=>by cases hy⟩,?_⟩;clear hs;rintro-_ rP m ⟨i,o,rfl,rfl,hi,hs,ho,hob⟩;have s7:∀ {hZ:Heap} {x:fP} {o':Option fP} (c:i<q.1.n) (gx:q.2[i]?=some x) (e:o'=fc fs.l o x),ArB o'->St h hZ [.ae h4.size (o'.getD dc).cs 276,.ae h3.size [.int .i64 0,.int .i64 0,.int .i64 0,.int .i64 0] 276,.ae h.size [.int .i64 (s:Nat),.int .i64 (t:Nat)] 97] ->
   ∃m,m<q.1.n-i/\∃(i':Nat) (o:Option fP),IntKind.wrap .i64 ((i:Int)+1)=i'/\m=q.1.n-i'/\i'<=q.1.n/\St h hZ [.ae h4.size (o.getD dc).cs 276,.ae h3.size [.int .i64 0,.int .i64 0,.int .i64 0,.int .i64 0] 276,.ae h.size [.int .i64 (s:Nat),.int .i64 (t:Nat)] 97]/\o=(q.2.take i').foldl (fc fs.l) none/\ArB o:=fun {hZ x o'} c gx e hb hs=>by
  refine⟨_,?_,i+1,o',by rw[a7 (by omega) (by omega)];omega,rfl,by omega,hs,?_,hb⟩
  .omega
  .rw[aj gx,List.foldl_append,<-ho,e];rfl
 refine aM (fun c=>?_) (fun c=>?_)
 .refine (sn.ext hs.ext).rw.aD (by omega) (by omega) fun b16 o17 x gx u2=>?_;replace gx:q.2[i]?=some x:=gx;have jJ:=hq x (Yb gx);refine⟨x.e,x.n,x.m.p,x.m.l,u2,?_⟩;refine hs.ao (vs:=x.cs) rfl rfl fun uT hs=>?_;refine⟨X.cn,(hA.ext hs.ext).r.f,(t:Nat),hs.rd 3 rfl (i:=1) rfl,?_⟩;refine (hA.r.rf.ext hs.ext).rw.aD (by omega) (by omega) fun b26 o27 f gf u3=>?_;replace gf:X.fi[t]?=some f:=gf;rw[gt] at gf;cases gf;refine⟨fs.s,fs.b,u3,x.m.p,hs.rd 0 rfl (i:=2) rfl,x.m.l,hs.rd 0 rfl (i:=3) rfl,?_⟩;refine (BZ fs.l fs.b x.m.ev fs.s uT (fJ.ext hs.ext).rw fJ.sm).mono ?_;rintro _ oe ⟨⟨b2,rfl,jK⟩,E⟩;replace hs:=hs.step E;refine⟨b2,rfl,aa (fun c2=>?_) (fun c2=>?_)⟩
  .have cN:x.m.ev∈fs.l:=jK.1 c2;cases o with
   | none=>
    refine⟨0,hs.rd 1 rfl (i:=1) rfl,qf rfl ?_⟩;refine⟨x.e,x.n,x.m.p,x.m.l,hs.at 0 rfl (o:=0) (n:=4) rfl,?_⟩;refine hs.put 1 rfl (o:=0) (vs:=x.cs) rfl (bc 4) fun sz hs=>?_;exact s7 (by omega) gx (o':=some x) (by unfold fc;rw[if_pos cN]) (fun y hy=>by cases hy;exact jJ) (hs.drop 1)
   | some y=>
    have hy0:=hob y rfl;refine⟨y.n,hs.rd 1 rfl (i:=1) rfl,dp (fun e=>by omega) (fun _=>?_)⟩;refine⟨x.n,hs.rd 0 rfl (i:=1) rfl,y.n,hs.rd 1 rfl (i:=1) rfl,aM (fun c3=>?_) (fun c3=>?_)⟩
    .refine⟨x.e,x.n,x.m.p,x.m.l,hs.at 0 rfl (o:=0) (n:=4) rfl,?_⟩;refine hs.put 1 rfl (o:=0) (vs:=x.cs) rfl (bc 4) fun sz hs=>?_;exact s7 (by omega) gx (o':=some x) (by unfold fc;rw[if_pos cN];simp only;rw[if_pos c3]) (fun y hy=>by cases hy;exact jJ) (hs.drop 1)
    .exact s7 (by omega) gx (o':=some y) (by unfold fc;rw[if_pos cN];simp only;rw[if_neg c3]) hob (hs.drop 1)
  .have ca:x.m.ev∉fs.l:=fun hm=>by rw[jK.2 hm] at c2;cases c2
   exact s7 (by omega) gx (o':=o) (by unfold fc;rw[if_neg ca]) hob (hs.drop 1)
 .rw[Yj (by omega)] at ho;have hoF:o=cR fs.l q.2:=ho;refine⟨(o.getD dc).e,(o.getD dc).n,(o.getD dc).m.p,(o.getD dc).m.l,hs.at 0 rfl (o:=0) (n:=4) rfl,(o.getD dc).n,hs.rd 0 rfl (i:=1) rfl,?_⟩;have LB:=hs.get (k:=0) rfl;refine hs.put 1 rfl (o:=0) (vs:=(o.getD dc).cs) rfl (bc 4) fun uP bG=>⟨?_,?_⟩
  .exact fR (hs.same bG 0 0 rfl rfl) kz
  .refine⟨(o.getD dc).e,(o.getD dc).n,(o.getD dc).m.p,(o.getD dc).m.l,bG.at 1 rfl (o:=0) (n:=4) rfl,bG.ext,?_⟩;rw[<-hoF];have:decide ((o.getD dc).n>0)=o.isSome:=by
    cases o with
    | none=>rfl
    | some y=>exact decide_eq_true (hob y rfl)
   rw[this];rfl
noncomputable def eY(X:An)(kind:Int)(p:Nat × Nat):Option Int:=by
 classical exact if kind=1 then (match X.fi[p.1]?,X.fi[p.2]? with | some fs,some ft=>if (fs.l.find? (dx ft.l)).isSome then some 0 else none | _,_=>none)
 else if kind=3 then (if MF X.li X.ag X.ow p.1 p.2 then some 0 else none)
 else (match X.fi[p.2]?,X.ar[p.1]? with | some ft,some q=>(cR ft.l q.2).map (·.n) | _,_=>none)
theorem xL(b:Nat)(g:Gl)(role:Int)(X:An)(kind:Int)(p:Nat × Nat)(h:Heap)(hA:vM h b g role X)(hp:(p.1:Int)<g.n/\(p.2:Int)<g.n)(hq:∀q∈X.ar,∀x∈q.2,0<x.n):
  Fn Pz 166 #[.pointer (some ⟨b,0,none⟩),.int .i64 kind,.agg ⟨pC p⟩] h fun v h'=>Ext h h'/\v=.tuple ⟨[.int .i64 ((eY X kind p).getD 0),.bool (eY X kind p).isSome]⟩:=by
 apply Uw ⟨b,0,none⟩ kind (p.1:Nat) (p.2:Nat);unfold ZP;obtain⟨fs,gs⟩:=get_some (l:=X.fi) (i:=p.1) (by rw[hA.nf];omega);obtain⟨ft,gt⟩:=get_some (l:=X.fi) (i:=p.2) (by rw[hA.nf];omega);obtain⟨q,gq⟩:=get_some (l:=X.ar) (i:=p.1) (by rw[hA.nr];omega);refine (St.refl h).ak fun h3 hs=>?_;refine dp (fun c=>?_) (fun c=>dp (fun c2=>?_) (fun c2=>?_))
 .refine⟨(p.1:Nat),(p.2:Nat),hs.at 0 rfl (o:=0) (n:=2) rfl,?_⟩;refine (q9 ⟨b,0,none⟩ role X.cn X.cc X.bu X.cm X.fi X.li X.ag X.ow p.1 p.2 fs ft h3 (hA.ext hs.ext).r gs gt).mono ?_;rintro _ iQ ⟨E,rfl⟩;replace hs:=hs.step E;have hc:eY X kind p=if (fs.l.find? (dx ft.l)).isSome then some 0 else none:=by unfold eY;rw[if_pos c,gs,gt]
  cases hf:fs.l.find? (dx ft.l) with
  | some x=>
   refine⟨x.send,x.peer,x.label,true,rfl,?_⟩;refine hs.ao (vs:=x.cs) rfl rfl fun Fl hs=>⟨hs.ext,?_⟩;rw[hc,hf];rfl
  | none=>
   refine⟨false,0,0,false,rfl,?_⟩;refine hs.ao (vs:=[.bool false,.int .i64 0,.int .i64 0]) rfl rfl fun Fl hs=>⟨hs.ext,?_⟩;rw[hc,hf];rfl
 .refine⟨(p.1:Nat),(p.2:Nat),hs.at 0 rfl (o:=0) (n:=2) rfl,?_⟩;refine (Ey ⟨b,0,none⟩ role X.cn X.cc X.bu X.cm X.fi X.li X.ag X.ow p.1 p.2 h3 (hA.ext hs.ext).r (by rw[hA.nw];omega) (by rw[hA.nl];omega) (by rw[hA.na];omega)).mono ?_;rintro _ fN ⟨⟨b2,rfl,jK⟩,E⟩;refine⟨b2,rfl,(hs.step E).ext,?_⟩;unfold eY;rw[if_neg c,if_pos c2];by_cases hC:MF X.li X.ag X.ow p.1 p.2
  .rw[if_pos hC,jK.2 hC];rfl
  .have:b2=false:=by
    cases b2
    .rfl
    .exact absurd (jK.1 rfl) hC
   rw[if_neg hC,this];rfl
 .refine⟨(p.1:Nat),(p.2:Nat),hs.at 0 rfl (o:=0) (n:=2) rfl,?_⟩;refine (ru b g role X p.1 p.2 ft q h3 (hA.ext hs.ext) gt gq (hq q (Yb gq))).mono ?_;rintro _ zO ⟨E,rfl⟩;replace hs:=hs.step E;refine⟨_,_,_,_,_,rfl,?_⟩;refine hs.ao (vs:=((cR ft.l q.2).getD dc).cs) rfl rfl fun P4 hs=>?_;refine⟨((cR ft.l q.2).getD dc).n,hs.rd 0 rfl (i:=1) rfl,hs.ext,?_⟩;unfold eY;rw[if_neg c,if_neg c2,gt,gq];simp only;cases cR ft.l q.2<;>rfl
abbrev Pr:=Nat × Nat
def oG(B:List (List Pr))(m:Nat):List (List Pr):=B++List.replicate (m-B.length) []
def gK(B:List (List Pr))(n:Nat)(p:Pr):List (List Pr):=(oG B (n+1)).set n ((oG B (n+1)).getD n []++[p])
def jb(O:List (Pr × Nat))(p:Pr)(n:Nat):Bool:=match aU O p with | some k=>decide (k<=n) | none=>false
def sh(cb ob bb:Nat)(bk:Sl)(O:List (Pr × Nat))(BS:List (Sl × List Pr))(R:List It):List It:=
 [.ae cb [.map (some ob)] 293,.mp ob (O.map fun q=>(pV q.1,oK q.2)),.ae bb [.slice bk.a bk.n bk.c] 350,.sl bk 92 1 ((BS.map Prod.fst).map eC)]++BS.map (nest 97 2 pC)++R
theorem Rg:cI Pz 350 92 1 24=true:=by kernel_rfl
theorem wx{h0 h cF:Heap}{cb ob bb:Nat}{bk:Sl}{O:List (Pr × Nat)}{BS:List (Sl × List Pr)}{R:List It}{p:Pr}{n:Nat}{K:Value->Heap->Prop}
  (hs:St h0 cF (.ae h.size (pC p) 97::sh cb ob bb bk O BS R)) (hO:∀q∈O,eG q.1) (WT:(O.map Prod.fst).Nodup) (hp:eG p) (hn:n<=16777216) (hB:BS.length<=16777216) (yC:∀q∈BS,q.2.length<=1048576)
  (hK:∀(pN:Sl) (kd:List (Sl × List Pr)) (h':Heap),St h0 h' (sh cb ob bb pN (cC O p n) kd R)->kd.map Prod.snd=gK (BS.map Prod.snd) n p->K (.tuple ⟨[]⟩) h') :
  CS cF ⟨cb,0,none⟩ h (n:Nat) ⟨bb,0,none⟩ K:=by
 unfold CS;refine⟨some ob,hs.rd 1 rfl (i:=0) rfl,(p.1:Nat),(p.2:Nat),hs.at 0 rfl (o:=0) (n:=2) rfl,?_⟩;refine hs.DN (cv:=oK) (l:=O) Jw 2 rfl hO WT (a:=p) hp n fun B7 hs=>?_;refine⟨fun h' m=>∃(pN:Sl) (kd:List (Sl × List Pr)) (k:Nat),m=n+1-kd.length/\St h0 h' (.ae h.size (pC p) 97::sh cb ob bb pN (cC O p n) kd R)/\kd.map Prod.snd=BS.map Prod.snd++List.replicate k []/\(k=0\/kd.length<=n+1),⟨_,bk,BS,0,rfl,hs,by simp,.inl rfl⟩,?_⟩;clear hs;rintro-fN m ⟨pN,kd,k,rfl,hs,hBS,hk⟩;have yA:kd.length=BS.length+k:=by have:=congrArg List.length hBS;simpa using this
 have PI:=hs.len 4 (s:=pN) (e:=92) (n:=1) (rows:=(kd.map Prod.fst).map eC) rfl (by omega);rw[Yc,Yc] at PI;refine⟨pN,hs.rd 3 rfl (i:=0) rfl,aM (fun c=>?_) (fun c=>?_)⟩
 .refine⟨pN,hs.rd 3 rfl (i:=0) rfl,?_⟩;refine hs.app 4 rfl Rg (m:=1) [eC ⟨none,0,0⟩] rfl rfl (fun r hr=>by rw[Ye] at hr;rw[hr];rfl) rfl (by omega) (by simp only[maxLen];omega) fun M8 uT n22 hs=>?_;refine hs.put 3 rfl (o:=0) (vs:=[.slice M8.a M8.n M8.c]) rfl (bc 1) fun rO hs=>?_;have hs:=hs.bJ 97 2;refine⟨_,?_,M8,kd++[(⟨none,0,0⟩,[])],k+1,rfl,hs.perm ?_,by rw[Ym,hBS,Yz,List.replicate_succ'];rfl,?_⟩
  .rw[Yh,Yv];omega
  .unfold sh;rw[Ym (f:=nest 97 2 pC),Ym (f:=Prod.fst),Ym (f:=eC)];have:(kd.map (nest 97 2 pC)++[(⟨none,0,0⟩,[])].map (nest 97 2 pC):List It)=kd.map (nest 97 2 pC)++[.sl ⟨none,0,0⟩ 97 2 []]:=rfl;rw[this];refine List.Perm.trans (l₂:=(.ae h.size (pC p) 97::[.ae cb [.map (some ob)] 293,.mp ob ((cC O p n).map fun q=>(pV q.1,oK q.2)),.ae bb [.slice M8.a M8.n M8.c] 350,.sl M8 92 1 ((kd.map Prod.fst).map eC++[eC ⟨none,0,0⟩])]++kd.map (nest 97 2 pC)) ++ .sl ⟨none,0,0⟩ 97 2 []::R) ?_ (List.Perm.of_eq (by simp[eC]));refine List.Perm.trans ?_ List.perm_middle.symm;exact List.Perm.of_eq (by simp[aH])
  .right
   rw[Yh,Yv];omega
 .have vF:n<kd.length:=by omega
  obtain⟨q,hq⟩:=get_some vF;have acx:oG (BS.map Prod.snd) (n+1)=kd.map Prod.snd:=by
   unfold oG;rw[hBS,Yc];congr 2;omega
  have sn:q.2.length<=1048576:=by
   have h1:(kd.map Prod.snd)[n]?=some q.2:=by rw[Yd,hq];rfl
   rw[hBS] at h1;rcases Nat.lt_or_ge n BS.length with h9 | h9
   .rw[jw (by rw[Yc];exact h9),Yd] at h1;obtain⟨q2,h2,h3⟩:=sH.1 h1;rw[<-h3];exact yC q2 (Yb h2)
   .rw[tR (by rw[Yc];exact h9)] at h1;have:=List.eq_of_mem_replicate (Yb h1);rw[this];exact Nat.zero_le _
  refine⟨pN,hs.rd 3 rfl (i:=0) rfl,pN,hs.rd 3 rfl (i:=0) rfl,?_⟩;refine (hs.rows 4 rfl (by omega)).aD (by omega) (by omega) fun b28 o29 d gd u=>?_;replace gd:(kd.map Prod.fst)[n]?=some d:=gd;rw[Yd,hq] at gd;cases gd;refine⟨q.1,u.hd,(p.1:Nat),(p.2:Nat),hs.at 0 rfl (o:=0) (n:=2) rfl,?_⟩;refine hs.au fun NQ E33 hs=>⟨E33.sm,?_⟩;have dC:St h0 NQ ((.ae fN.size (pC p) 97 :: .ae h.size (pC p) 97::[.ae cb [.map (some ob)] 293,.mp ob ((cC O p n).map fun q=>(pV q.1,oK q.2)),.ae bb [.slice pN.a pN.n pN.c] 350,.sl pN 92 1 ((kd.map Prod.fst).map eC)])++kd.map (nest 97 2 pC)++R):=hs;have nt:=(dC.kH hq (by omega)).ln;refine dC.ng hq Ik p (dC.at 0 rfl (o:=0) (n:=2) rfl) rfl rfl (by omega) (by simp only[maxLen];omega) fun r bK rn bG=>⟨?_,?_⟩
  .exact fR (dC.same bG 4 4 rfl rfl) kz
  .refine bG.set 5 rfl (by omega) (x:=(n:Nat)) (by omega) (by omega) r rfl rfl (fun b36 o37 tB fU=>?_) rfl;refine hK pN (kd.set n (r,q.2++[p])) tB ?_ ?_
   .have:=fU.drop 2;unfold sh;rw[List.map_set (f:=Prod.fst)];exact this
   .unfold gK;rw[acx,List.map_set,Yo,Yd,hq];rfl
theorem F9(h0 h:Heap)(cb ob bb:Nat)(bk:Sl)(O:List (Pr × Nat))(BS:List (Sl × List Pr))(R:List It)(p:Pr)(n:Nat)(hs:St h0 h (sh cb ob bb bk O BS R))(hO:∀q∈O,eG q.1)(WT:(O.map Prod.fst).Nodup)(hp:eG p)(hn:n<=16777216)(hB:BS.length<=16777216)(yC:∀q∈BS,q.2.length<=1048576):
  Fn Pz 226 #[.agg ⟨pC p⟩,.int .i64 (n:Nat),.pointer (some ⟨cb,0,none⟩),.pointer (some ⟨bb,0,none⟩)] h fun v h'=>v=.tuple ⟨[]⟩/\∃(pN:Sl) (kd:List (Sl × List Pr)),St h0 h' (sh cb ob bb pN (if jb O p n then O else cC O p n) kd R)/\kd.map Prod.snd=if jb O p n then BS.map Prod.snd else gK (BS.map Prod.snd) n p:=by
 apply TX (p.1:Nat) (p.2:Nat) (n:Nat) ⟨cb,0,none⟩ ⟨bb,0,none⟩;unfold Zj;refine hs.ak fun h3 hs=>?_;refine⟨some ob,hs.rd 1 rfl (i:=0) rfl,(p.1:Nat),(p.2:Nat),hs.at 0 rfl (o:=0) (n:=2) rfl,?_⟩;refine hs.Bv (cv:=oK) (l:=O) Jw 2 rfl hO WT (a:=p) hp ?_;cases hm:aU O p with
 | none=>
  refine⟨0,false,rfl,ja rfl ?_⟩;have hr:jb O p n=false:=by unfold jb;rw[hm]
  refine wx hs hO WT hp hn hB yC fun pN kd h' bL hb=>⟨rfl,pN,kd,?_,?_⟩
  .rw[hr];exact bL
  .rw[hr];exact hb
 | some k=>
  refine⟨(k:Nat),true,rfl,qf rfl ?_⟩;refine aM (fun c=>?_) (fun c=>?_)
  .have hr:jb O p n=true:=by unfold jb;rw[hm];exact decide_eq_true (by omega)
   refine⟨rfl,bk,BS,?_,?_⟩
   .rw[hr];exact hs.drop 1
   .rw[hr];rfl
  .have hr:jb O p n=false:=by unfold jb;rw[hm];exact decide_eq_false (by omega)
   refine wx hs hO WT hp hn hB yC fun pN kd h' bL hb=>⟨rfl,pN,kd,?_,?_⟩
   .rw[hr];exact bL
   .rw[hr];exact hb
end Go.VC
end

section
namespace Go.VC
def bO(m:aP):Nat:=if 0<=m.x/\0<=m.y then 2 else 1
theorem bM(m:aP):1<=bO m/\bO m<=2:=by unfold bO;split<;>omega
inductive Dn (mv:Pr->List aP) (bw:Pr->Option Nat):Pr->Nat->Prop where
 | base {p:Pr} {c:Nat}:bw p=some c->Dn mv bw p c
 | step {p:Pr} {m:aP} {n:Nat}:m∈mv p->Dn mv bw (bj m) n->Dn mv bw p (n+bO m)
def iM(mv:Pr->List aP)(bw:Pr->Option Nat)(p:Pr)(n:Nat):Prop:=Dn mv bw p n/\∀k,Dn mv bw p k->n<=k
theorem qq{B:List (List Pr)}{m n:Nat}{l:List Pr}(h:(oG B n)[m]?=some l):B[m]?=some l\/l=[]:=by
 unfold oG at h;rcases Nat.lt_or_ge m B.length with h1 | h1
 .rw[jw h1] at h;exact .inl h
 .rw[tR h1] at h;exact .inr (List.eq_of_mem_replicate (Yb h))
theorem wE{B:List (List Pr)}{m n:Nat}{l:List Pr}(h:B[m]?=some l):(oG B n)[m]?=some l:=by
 unfold oG;rw[jw (Ya.1 h).1];exact h
theorem wF(B:List (List Pr))(n:Nat):(oG B n).length=max B.length n:=by
 unfold oG;rw[Yh,Yg];omega
theorem Dt(B:List (List Pr))(n:Nat)(p:Pr):(gK B n p).length=max B.length (n+1):=by
 unfold gK;rw[jT,wF]
theorem lD(B:List (List Pr))(n:Nat)(p:Pr):∃l0,(B[n]?=some l0\/l0=[])/\(oG B (n+1))[n]?=some l0/\(gK B n p)[n]?=some (l0++[p]):=by
 have hl:n<(oG B (n+1)).length:=by rw[wF];omega
 obtain⟨l0,h0⟩:=get_some hl;refine⟨l0,qq h0,h0,?_⟩;unfold gK;rw[Yq hl,Yo,h0];rfl
theorem Ga{B:List (List Pr)}{n m:Nat}{p x:Pr}{l:List Pr}(h:(gK B n p)[m]?=some l)(hx:x∈l):(∃l0,B[m]?=some l0/\x∈l0)\/(m=n/\x=p):=by
 by_cases e:n=m
 .subst e;obtain⟨l0,h1,_,h2⟩:=lD B n p;rw[h2] at h;cases h;rcases Yk.1 hx with hx | hx
  .rcases h1 with h1 | h1
   .exact .inl ⟨l0,h1,hx⟩
   .subst h1;cases hx
  .exact .inr ⟨rfl,by simpa using hx⟩
 .unfold gK at h;rw[Yy e] at h;rcases qq h with h1 | h1
  .exact .inl ⟨l,h1,hx⟩
  .subst h1;cases hx
theorem sU{B:List (List Pr)}{n m:Nat}{p:Pr}{l0:List Pr}(h:B[m]?=some l0):∃l,(gK B n p)[m]?=some l/\(l=l0\/(m=n/\l=l0++[p])):=by
 by_cases e:n=m
 .subst e;obtain⟨l1,_,h1,h2⟩:=lD B n p;rw[wE h] at h1;cases h1;exact⟨_,h2,.inr ⟨rfl,rfl⟩⟩
 .refine⟨l0,?_,.inl rfl⟩;unfold gK;rw[Yy e];exact wE h
structure OB (A:List Pr) (mv:Pr->List aP) (bw:Pr->Option Nat) (O:List (Pr × Nat)) (B:List (List Pr)):Prop where
 on:(O.map Prod.fst).Nodup
 oa:∀q∈O,q.1∈A
 d:∀p n,aU O p=some n->Dn mv bw p n
 b1:∀(n:Nat) (l:List Pr),B[n]?=some l->∀p∈l,p∈A/\∃k,k<=n/\aU O p=some k
 b2:∀p n,aU O p=some n->∃l,B[n]?=some l/\p∈l
 nd:∀(n:Nat) (l:List Pr),B[n]?=some l->l.Nodup
def mW(O:List (Pr × Nat))(p:Pr)(n:Nat):List (Pr × Nat):=if jb O p n then O else cC O p n
def r8(O:List (Pr × Nat))(B:List (List Pr))(p:Pr)(n:Nat):List (List Pr):=if jb O p n then B else gK B n p
theorem AU{O:List (Pr × Nat)}{p:Pr}{n:Nat}:jb O p n=true ↔ ∃k,k<=n/\aU O p=some k:=by
 unfold jb;cases h:aU O p with
 | none=>simp
 | some k=>simp
theorem OB.put{A:List Pr}{mv:Pr->List aP}{bw:Pr->Option Nat}{O:List (Pr × Nat)}{B:List (List Pr)}(h:OB A mv bw O B){p:Pr}{n:Nat}(hp:p∈A)(hd:Dn mv bw p n):OB A mv bw (mW O p n) (r8 O B p n):=by
 unfold mW r8;by_cases hr:jb O p n=true
 .rw[if_pos hr,if_pos hr];exact h
 .rw[if_neg hr,if_neg hr];have ca:¬∃k,k<=n/\aU O p=some k:=fun h9=>hr (AU.2 h9);refine⟨fv _ _ _ h.on,fun q hq=>?_,fun x m hx=>?_,fun m l hl x hx=>?_,fun x m hx=>?_,fun m l hl=>?_⟩
  .have:=(fg p n O q.1).1 (Yp.2 ⟨q,hq,rfl⟩);rcases this with h1 | h1
   .obtain⟨q2,h2,h3⟩:=Yp.1 h1;rw[<-h3];exact h.oa q2 h2
   .rw[h1];exact hp
  .rw[cX] at hx;split at hx
   .rename_i e;cases hx;rw[e];exact hd
   .exact h.d x m hx
  .rw[cX];rcases Ga hl hx with ⟨l0,h1,h2⟩ | ⟨h1,h2⟩
   .obtain⟨h3,k,h4,h5⟩:=h.b1 m l0 h1 x h2;refine⟨h3,?_⟩;by_cases e:x=p
    .refine⟨n,?_,by rw[if_pos e]⟩;subst e;rcases Nat.lt_or_ge n k with h6 | h6
     .omega
     .exact absurd ⟨k,h6,h5⟩ ca
    .exact⟨k,h4,by rw[if_neg e];exact h5⟩
   .subst h2;exact⟨hp,n,by omega,by rw[if_pos rfl]⟩
  .rw[cX] at hx;split at hx
   .rename_i e;cases hx;subst e;obtain⟨l0,_,_,h2⟩:=lD B n x;exact⟨_,h2,by simp⟩
   .obtain⟨l0,h1,h2⟩:=h.b2 x m hx;obtain⟨l,h3,h4⟩:=sU (n:=n) (p:=p) h1;refine⟨l,h3,?_⟩;rcases h4 with rfl | ⟨_,rfl⟩
    .exact h2
    .exact List.mem_append_left _ h2
  .by_cases e:n=m
   .subst e;obtain⟨l0,h1,_,h2⟩:=lD B n p;rw[h2] at hl;cases hl;rw[List.nodup_append];refine⟨?_,by simp,fun a ha b hb e=>?_⟩
    .rcases h1 with h1 | h1
     .exact h.nd n l0 h1
     .subst h1;exact .nil
    .rw[Ye] at hb;subst hb;subst e;rcases h1 with h1 | h1
     .obtain⟨_,k,h4,h5⟩:=h.b1 n l0 h1 a ha;exact ca ⟨k,h4,h5⟩
     .subst h1;cases ha
   .unfold gK at hl;rw[Yy e] at hl;rcases qq hl with h1 | h1
    .exact h.nd m l h1
    .subst h1;exact .nil
theorem oT{O:List (Pr × Nat)}{p x:Pr}{n k:Nat}(h:aU O x=some k):∃k',k'<=k/\aU (mW O p n) x=some k':=by
 unfold mW;by_cases hr:jb O p n=true
 .rw[if_pos hr];exact⟨k,bc _,h⟩
 .rw[if_neg hr,cX];by_cases e:x=p
  .refine⟨n,?_,by rw[if_pos e]⟩;subst e;rcases Nat.lt_or_ge n k with h6 | h6
   .omega
   .exact absurd (AU.2 ⟨k,h6,h⟩) hr
  .exact⟨k,bc _,by rw[if_neg e];exact h⟩
theorem AX(O:List (Pr × Nat))(p:Pr)(n:Nat):∃k',k'<=n/\aU (mW O p n) p=some k':=by
 unfold mW;by_cases hr:jb O p n=true
 .rw[if_pos hr];exact AU.1 hr
 .rw[if_neg hr,cX,if_pos rfl];exact⟨n,bc _,rfl⟩
theorem wy{O:List (Pr × Nat)}{p x:Pr}{n k:Nat}(h:aU O x=some k)(hk:k<=n):aU (mW O p n) x=some k:=by
 unfold mW;by_cases hr:jb O p n=true
 .rw[if_pos hr];exact h
 .rw[if_neg hr,cX,if_neg (fun e=>hr (AU.2 ⟨k,hk,by rw[<-e];exact h⟩))];exact h
theorem F8{O:List (Pr × Nat)}{p x:Pr}{n k:Nat}(h:aU (mW O p n) x=some k):aU O x=some k\/(x=p/\k=n):=by
 unfold mW at h;by_cases hr:jb O p n=true
 .rw[if_pos hr] at h;exact .inl h
 .rw[if_neg hr,cX] at h;split at h
  .rename_i e;cases h;exact .inr ⟨e,rfl⟩
  .exact .inl h
theorem wA(O:List (Pr × Nat))(B:List (List Pr))(p:Pr)(n:Nat):(r8 O B p n).length<=max B.length (n+1):=by
 unfold r8;split
 .omega
 .rw[Dt];exact bc _
theorem sT{O:List (Pr × Nat)}{B:List (List Pr)}{p:Pr}{n m:Nat}{l:List Pr}(h:B[m]?=some l)(hm:m≠n):(r8 O B p n)[m]?=some l:=by
 unfold r8;split
 .exact h
 .obtain⟨l',h1,h2⟩:=sU (n:=n) (p:=p) h;rcases h2 with rfl | ⟨h2,_⟩
  .exact h1
  .exact absurd h2 hm
structure yk (A:List Pr) (mv:Pr->List aP) (bw:Pr->Option Nat) (C n i:Nat) (Z:List Pr) (O:List (Pr × Nat)) (B:List (List Pr)):Prop where
 ob:OB A mv bw O B
 c:∀p∈A,∀c,bw p=some c->∃k,k<=c/\aU O p=some k
 zn:Z.Nodup
 za:∀p∈Z,p∈A
 f:∀p∈Z,∃k,aU O p=some k/\(k<n\/(k=n/\∃l,B[n]?=some l/\p∈l.take i))/\∀q∈A,∀m∈mv q,bj m=p->∃k',k'<=k+bO m/\aU O q=some k'
 g:∀p k,aU O p=some k->(k<n\/(k=n/\∃l,B[n]?=some l/\p∈l.take i))->p∈Z
 ln:B.length<=C+2*Z.length
theorem yk.start{A:List Pr}{mv:Pr->List aP}{bw:Pr->Option Nat}{C:Nat}{O:List (Pr × Nat)}{B:List (List Pr)}(h:OB A mv bw O B)(hc:∀p∈A,∀c,bw p=some c->∃k,k<=c/\aU O p=some k)(hl:B.length<=C):yk A mv bw C 0 0 [] O B:=
 ⟨h,hc,.nil,fun p hp=>(by cases hp),fun p hp=>(by cases hp),fun p k _ hk=>(by rcases hk with hk | ⟨_,l,_,hk⟩;omega;simp at hk),by simpa using hl⟩
theorem yk.next{A:List Pr}{mv:Pr->List aP}{bw:Pr->Option Nat}{C n i:Nat}{Z:List Pr}{O:List (Pr × Nat)}{B:List (List Pr)}(h:yk A mv bw C n i Z O B){l:List Pr}(hl:B[n]?=some l)(hi:l.length<=i):yk A mv bw C (n+1) 0 Z O B:=by
 refine⟨h.ob,h.c,h.zn,h.za,fun p hp=>?_,fun p k hk h1=>?_,h.ln⟩
 .obtain⟨k,h1,h2,h3⟩:=h.f p hp;exact⟨k,h1,.inl (by omega),h3⟩
 .refine h.g p k hk ?_;rcases h1 with h1 | ⟨_,l',_,h1⟩
  .by_cases e:k<n
   .exact .inl e
   .obtain rfl:k=n:=by omega
    obtain⟨l2,h4,h5⟩:=h.ob.b2 p k hk;rw[hl] at h4;cases h4;exact .inr ⟨rfl,l,hl,by rw[Yj hi];exact h5⟩
  .simp at h1
theorem yk.skip{A:List Pr}{mv:Pr->List aP}{bw:Pr->Option Nat}{C n i:Nat}{Z:List Pr}{O:List (Pr × Nat)}{B:List (List Pr)}(h:yk A mv bw C n i Z O B){l:List Pr}(hl:B[n]?=some l){p:Pr}(hp:l[i]?=some p)(bH:aU O p≠some n):yk A mv bw C n (i+1) Z O B:=by
 refine⟨h.ob,h.c,h.zn,h.za,fun q hq=>?_,fun q k hk h1=>?_,h.ln⟩
 .obtain⟨k,h1,h2,h3⟩:=h.f q hq;refine⟨k,h1,h2.imp_right fun ⟨h4,l',h5,h6⟩=>⟨h4,l',h5,?_⟩,h3⟩;rw[hl] at h5;cases h5;rw[aj hp];exact List.mem_append_left _ h6
 .refine h.g q k hk (h1.imp_right fun ⟨h4,l',h5,h6⟩=>⟨h4,l',h5,?_⟩);rw[hl] at h5;cases h5;rw[aj hp,Yk,Ye] at h6;rcases h6 with h6 | rfl
  .exact h6
  .exact absurd (h4 ▸ hk) bH
structure R7 (A:List Pr) (mv:Pr->List aP) (bw:Pr->Option Nat) (C n i:Nat) (Z:List Pr) (p:Pr) (rec:List aP) (j:Nat) (O:List (Pr × Nat)) (B:List (List Pr)):Prop where
 ob:OB A mv bw O B
 c:∀p∈A,∀c,bw p=some c->∃k,k<=c/\aU O p=some k
 f:∀q∈Z,∃k,aU O q=some k/\(k<n\/(k=n/\∃l,B[n]?=some l/\q∈l.take i))/\∀q'∈A,∀m∈mv q',bj m=q->∃k',k'<=k+bO m/\aU O q'=some k'
 g:∀q k,aU O q=some k->(k<n\/(k=n/\∃l,B[n]?=some l/\q∈l.take i))->q∈Z
 pn:aU O p=some n
 bn:∃l,B[n]?=some l/\l[i]?=some p
 r:∀m∈rec.take j,∃k',k'<=n+bO m/\aU O (bj m)=some k'
 ln:B.length<=C+2*(Z.length+1)
theorem yk.take{A:List Pr}{mv:Pr->List aP}{bw:Pr->Option Nat}{C n i:Nat}{Z:List Pr}{O:List (Pr × Nat)}{B:List (List Pr)}(h:yk A mv bw C n i Z O B){l:List Pr}(hl:B[n]?=some l){p:Pr}(hp:l[i]?=some p)(he:aU O p=some n)(rec:List aP):R7 A mv bw C n i Z p rec 0 O B:=
 ⟨h.ob,h.c,h.f,h.g,he,⟨l,hl,hp⟩,fun m hm=>(by simp at hm),by have:=h.ln;omega⟩
theorem R7.put{A:List Pr}{mv:Pr->List aP}{bw:Pr->Option Nat}{C n i:Nat}{Z:List Pr}{p:Pr}{rec:List aP}{j:Nat}{O:List (Pr × Nat)}{B:List (List Pr)}(h:R7 A mv bw C n i Z p rec j O B)(rK:n+1<=C+2*Z.length){m:aP}(hm:rec[j]?=some m)(ha:bj m∈A)(hd:Dn mv bw (bj m) (n+bO m)):
  R7 A mv bw C n i Z p rec (j+1) (mW O (bj m) (n+bO m)) (r8 O B (bj m) (n+bO m)):=by
 have dz:=bM m;have br:∀ {m':Nat} {l:List Pr},m'<=n->B[m']?=some l->(r8 O B (bj m) (n+bO m))[m']?=some l:=fun {m' l} h1 h2=>sT h2 (by omega);have bk:∀ {l:List Pr},(r8 O B (bj m) (n+bO m))[n]?=some l->B[n]?=some l:=fun {l} h1=>by
  obtain⟨l0,h2,_⟩:=h.bn;rw[br (bc _) h2] at h1;cases h1;exact h2
 refine⟨h.ob.put ha hd,fun q hq c hc=>?_,fun q hq=>?_,fun q k hk h1=>?_,wy h.pn (by omega),?_,fun m' jZ=>?_,?_⟩
 .obtain⟨k,h1,h2⟩:=h.c q hq c hc;obtain⟨k',h3,h4⟩:=oT (p:=bj m) (n:=n+bO m) h2;exact⟨k',by omega,h4⟩
 .obtain⟨k,h1,h2,h3⟩:=h.f q hq;refine⟨k,wy h1 (by rcases h2 with h2 | ⟨h2,_⟩<;>omega),h2.imp_right fun ⟨h4,l,h5,h6⟩=>⟨h4,l,br (bc _) h5,h6⟩,fun q' pF m' jZ he=>?_⟩;obtain⟨k',h4,h5⟩:=h3 q' pF m' jZ he;obtain⟨k2,h6,h7⟩:=oT (p:=bj m) (n:=n+bO m) h5;exact⟨k2,by omega,h7⟩
 .rcases F8 hk with h2 | ⟨_,h2⟩
  .exact h.g q k h2 (h1.imp_right fun ⟨h4,l,h5,h6⟩=>⟨h4,l,bk h5,h6⟩)
  .rcases h1 with h1 | ⟨h1,_⟩<;>omega
 .obtain⟨l,h1,h2⟩:=h.bn;exact⟨l,br (bc _) h1,h2⟩
 .rw[aj hm,Yk,Ye] at jZ;rcases jZ with jZ | rfl
  .obtain⟨k,h1,h2⟩:=h.r m' jZ;obtain⟨k',h3,h4⟩:=oT (p:=bj m) (n:=n+bO m) h2;exact⟨k',by omega,h4⟩
  .exact AX O (bj m') (n+bO m')
 .have h1:=wA O B (bj m) (n+bO m);have h2:=h.ln;omega
theorem R7.fin{A:List Pr}{mv:Pr->List aP}{bw:Pr->Option Nat}{C n i:Nat}{Z:List Pr}{p:Pr}{rec:List aP}{j:Nat}{O:List (Pr × Nat)}{B:List (List Pr)}(h:R7 A mv bw C n i Z p rec j O B)(hj:rec.length<=j)(BJ:p∈A)(hz:Z.Nodup)(hza:∀p∈Z,p∈A)
  (Ln:∀q∈A,∀m∈mv q,bj m=p->∃r∈rec,bj r=q/\bO r=bO m):yk A mv bw C n (i+1) (p::Z) O B:=by
 obtain⟨l,hl,hp⟩:=h.bn;have hpZ:p∉Z:=fun hm=>by
  obtain⟨k,h1,h2,_⟩:=h.f p hm;rw[h.pn] at h1;cases h1;rcases h2 with h2 | ⟨_,l',h3,h4⟩
  .omega
  .rw[hl] at h3;cases h3;obtain⟨a,ha⟩:=Yf.1 h4;rw[tQ] at ha;split at ha
   .have:=eF (h.ob.nd n l hl) ha hp;omega
   .cases ha
 refine⟨h.ob,h.c,List.nodup_cons.2 ⟨hpZ,hz⟩,fun q hq=>?_,fun q hq=>?_,fun q k hk h1=>?_,?_⟩
 .rcases Yr.1 hq with rfl | hq
  .exact BJ
  .exact hza q hq
 .rcases Yr.1 hq with rfl | hq
  .refine⟨n,h.pn,.inr ⟨rfl,l,hl,by rw[aj hp];simp⟩,fun q' pF m hm he=>?_⟩;obtain⟨r,h1,h2,h3⟩:=Ln q' pF m hm he;obtain⟨k',h4,h5⟩:=h.r r (by rw[Yj hj];exact h1);rw[h2] at h5;exact⟨k',by omega,h5⟩
  .obtain⟨k,h1,h2,h3⟩:=h.f q hq;refine⟨k,h1,h2.imp_right fun ⟨h4,l',h5,h6⟩=>⟨h4,l',h5,?_⟩,h3⟩;rw[hl] at h5;cases h5;rw[aj hp];exact List.mem_append_left _ h6
 .by_cases e:q=p
  .rw[e];exact Yx
  .refine Yn _ (h.g q k hk (h1.imp_right fun ⟨h4,l',h5,h6⟩=>⟨h4,l',h5,?_⟩));rw[hl] at h5;cases h5;rw[aj hp,Yk,Ye] at h6;exact h6.resolve_right e
 .have:=h.ln;rw[j8];exact this
theorem yk.fin{A:List Pr}{mv:Pr->List aP}{bw:Pr->Option Nat}{C n i:Nat}{Z:List Pr}{O:List (Pr × Nat)}{B:List (List Pr)}(h:yk A mv bw C n i Z O B)(hn:B.length<=n)(eN:∀p∈A,∀m∈mv p,bj m∈A){p:Pr}(hp:p∈A)(k:Nat):(aU O p=some k ↔ iM mv bw p k)/\(aU O p=some k->k<B.length):=by
 have cN:∀ {q:Pr} {k:Nat},aU O q=some k->k<B.length:=fun {q k} hk=>by
  obtain⟨l,h1,_⟩:=h.ob.b2 q k hk;exact (Ya.1 h1).1
 have key:∀ {q:Pr} {k:Nat},Dn mv bw q k->q∈A->∃k',k'<=k/\aU O q=some k':=fun {q k} hd=>by
  induction hd with
  | base hc=>exact fun hq=>h.c _ hq _ hc
  | @step q m k hm _ ih=>
   intro hq;obtain⟨k1,h1,h2⟩:=ih (eN q hq m hm);have h3:=h.g _ _ h2 (.inl (by have:=cN h2;omega));obtain⟨k2,h4,_,h5⟩:=h.f _ h3;rw[h2] at h4;cases h4;obtain⟨k',h6,h7⟩:=h5 q hq m hm rfl;exact⟨k',by omega,h7⟩
 refine⟨⟨fun hk=>⟨h.ob.d p k hk,fun k2 hd=>?_⟩,fun ⟨h1,h2⟩=>?_⟩,cN⟩
 .obtain⟨k',h3,h4⟩:=key hd hp;rw[hk] at h4;cases h4;exact h3
 .obtain⟨k',h3,h4⟩:=key h1 hp;have h5:=h2 k' (h.ob.d p k' h4);rw[h4,show k'=k by omega]
end Go.VC
end

section
namespace Go.VC
open Go.Proofs Go.LexS
abbrev NE:=Pr × (Sl × List aP)
def yu(e:NE):It:=nest 200 4 aP.cs e.2
def oJ(N:List NE):List (Pr × Sl):=N.map fun e=>(e.1,e.2.1)
def vo(N:List NE)(q:Pr)(r:aP):Prop:=∃e∈N,e.1=q/\r∈e.2.2
def pU(N:List NE):Nat:=(N.map fun e=>e.2.2.length).sum
structure N9 (N:List NE) (a:Pr) (r:aP) (N':List NE):Prop where
 nd:(N'.map Prod.fst).Nodup
 ky:∀x,x∈N'.map Prod.fst ↔ x∈N.map Prod.fst\/x=a
 rc:∀q r',vo N' q r' ↔ vo N q r'\/(q=a/\r'=r)
 MW:pU N'=pU N+1
theorem fT(N:List NE):(oJ N).map Prod.fst=N.map Prod.fst:=by unfold oJ;rw[List.map_map];rfl
theorem pX{α:Type}{l:List α}{j:Nat}{e:α}(h:l[j]?=some e):∃A B,l=A++e::B/\j=A.length:=by
 obtain⟨h1,h2⟩:=Ya.1 h;refine⟨l.take j,l.drop (j+1),?_,by rw[Yu];omega⟩;rw[<-h2,<-List.drop_eq_getElem_cons h1,List.take_append_drop]
theorem yT{α:Type}(x y e:α)(A R:List α):(x::y::(A++e::R)).Perm (e::x::y::(A++R)):=
 (((List.perm_middle (l₁:=A) (a:=e) (l₂:=R)).cons y).cons x).trans (((List.Perm.swap e y _).cons x).trans (List.Perm.swap e x _))
theorem N9.qx{A B:List NE}{a:Pr}{s s':Sl}{rows:List aP}(r:aP)(hn:((A++(a,(s,rows))::B).map Prod.fst).Nodup):N9 (A++(a,(s,rows))::B) a r (A++(a,(s',rows++[r]))::B):=by
 have e1:(A++(a,(s',rows++[r]))::B).map Prod.fst=(A++(a,(s,rows))::B).map Prod.fst:=by simp
 refine⟨by rw[e1];exact hn,fun x=>by rw[e1];exact⟨.inl,fun h=>h.elim id fun e=>by rw[e];simp⟩,fun q r'=>?_,?_⟩
 .unfold vo;constructor
  .rintro⟨e,he,h1,h2⟩;rcases Yk.1 he with he | he
   .exact .inl ⟨e,List.mem_append_left _ he,h1,h2⟩
   .rcases Yr.1 he with rfl | he
    .simp only at h1 h2;rcases Yk.1 h2 with h2 | h2
     .exact .inl ⟨(a,(s,rows)),by simp,h1,h2⟩
     .exact .inr ⟨h1.symm,by simpa using h2⟩
    .exact .inl ⟨e,by simp[he],h1,h2⟩
  .rintro (⟨e,he,h1,h2⟩ | ⟨rfl,rfl⟩)
   .rcases Yk.1 he with he | he
    .exact⟨e,List.mem_append_left _ he,h1,h2⟩
    .rcases Yr.1 he with rfl | he
     .exact⟨(a,(s',rows++[r])),by simp,h1,List.mem_append_left _ h2⟩
     .exact⟨e,by simp[he],h1,h2⟩
   .exact⟨(q,(s',rows++[r'])),by simp,rfl,by simp⟩
 .unfold pU;simp only[Ym,gG,List.sum_append,List.sum_cons,Yh,Yv];omega
theorem N9.new{N:List NE}{a:Pr}{s':Sl}(r:aP)(hn:(N.map Prod.fst).Nodup)(ha:a∉N.map Prod.fst):N9 N a r (N++[(a,(s',[r]))]):=by
 refine⟨?_,fun x=>by rw[Ym,Yk];simp,fun q r'=>?_,?_⟩
 .rw[Ym,List.nodup_append];exact⟨hn,by simp,fun x hx y hy e=>by simp only[gG,List.map_nil,Ye] at hy;subst hy;subst e;exact ha hx⟩
 .unfold vo;constructor
  .rintro⟨e,he,h1,h2⟩;rcases Yk.1 he with he | he
   .exact .inl ⟨e,he,h1,h2⟩
   .rw[Ye] at he;subst he;exact .inr ⟨h1.symm,by simpa using h2⟩
  .rintro (⟨e,he,h1,h2⟩ | ⟨rfl,rfl⟩)
   .exact⟨e,List.mem_append_left _ he,h1,h2⟩
   .exact⟨(q,(s',[r'])),by simp,rfl,by simp⟩
 .unfold pU;rw[Ym,List.sum_append];simp
theorem FE{N:List NE}{e:NE}(h:e∈N):e.2.2.length<=pU N:=by
 obtain⟨A,B,rfl⟩:=List.append_of_mem h;unfold pU;simp only[Ym,gG,List.sum_append,List.sum_cons];omega
theorem DU{h0 h:Heap}{rb ib:Nat}{N:List NE}{R:List It}{r:aP}{a:Pr}{K:Heap->Prop}(hs:St h0 h (.ae rb r.cs 200 :: .mp ib ((oJ N).map fun q=>(pV q.1,eO q.2))::(N.map yu++R)))
  (hN:(N.map Prod.fst).Nodup) (hk:∀x∈N.map Prod.fst,eG x) (ha:eG a) (ht:pU N<=10000000000)
  (hK:∀(h':Heap) (N':List NE),St h0 h' (.ae rb r.cs 200 :: .mp ib ((oJ N').map fun q=>(pV q.1,eO q.2))::(N'.map yu++R))->N9 N a r N'->K h') :
  bD Pz (Instr.mapEntry 93 (.map (some ib)) (pV a)) h fun v46 qR=>∃R9:Sl,∃n49:Int,v46=.tuple ⟨[.slice R9.a R9.n R9.c,.int .i64 n49]⟩ /\
   (App Pz 197 197 (.slice R9.a R9.n R9.c) (.slice (some ⟨rb,0,none⟩) 1 1) qR fun Dl zN=>(bD Pz (Instr.entryStore 93 (.map (some ib)) (.int .i64 n49) (.slice Dl.a Dl.n Dl.c)) zN (fun _ zM=>K zM))):=by
 have Hj:((oJ N).map Prod.fst).Nodup:=by rw[fT];exact hN
 refine hs.OS (cv:=eO) (l:=oJ N) yj 1 rfl (fun q hq=>hk _ (by rw[<-fT];exact Yp.2 ⟨q,hq,rfl⟩)) Hj ha fun st o qR hs oL=>?_;replace hs:St h0 qR (.ae rb r.cs 200 :: .raw ib o::(N.map yu++R)):=hs;have one:([r.cs].flatten).all dR=true:=rfl;by_cases cN:a∈N.map Prod.fst
 .obtain⟨e,he,rfl⟩:=Yp.1 cN;obtain⟨A,B,rfl⟩:=List.append_of_mem he;obtain⟨a,s,rows⟩:=e;have hj:(oJ (A++(a,(s,rows))::B))[A.length]?=some (a,s):=by unfold oJ;simp
  have hg:aU (oJ (A++(a,(s,rows))::B)) a=some s:=fh Hj hj;have hm:∀y:Sl,cC (oJ (A++(a,(s,rows))::B)) a y=oJ (A++(a,(y,rows++[r]))::B):=fun y=>by
   rw[jD Hj hj];unfold oJ;simp
  simp only at oL ⊢;rw[hg];refine⟨s,st,rfl,?_⟩;rw[Ym,gG,Yz,List.cons_append] at hs;replace hs:=hs.perm (yT _ _ _ _ _);have hlen:=hs.len 0 (s:=s) (e:=200) (n:=4) (rows:=rows.map aP.cs) rfl (by omega);rw[Yc] at hlen;have No:=FE he;simp only at No;refine hs.appended 0 (news:=[r.cs]) rfl kV (hs.at 1 rfl (o:=0) (n:=4) rfl) rfl (fun q hq=>by rw[Ye] at hq;rw[hq];rfl) one (by show (s.n+1)*32<=140737488355328;omega) (by show s.n+1<=9223372036854775807;omega) fun Dl zN n50 hs=>?_;refine hs.GC 2 rfl oL Dl fun zM hs=>?_;refine hK zM (A++(a,(Dl,rows++[r]))::B) ?_ (N9.qx r hN);rw[hm] at hs;rw[Ym (f:=yu),gG,Yz,List.cons_append];refine hs.perm (List.Perm.trans ?_ (yT _ _ _ _ _).symm);refine List.Perm.of_eq ?_;simp[yu,nest]
 .have hg:aU (oJ N) a=none:=jF fun q hq e=>cN (by rw[<-fT];exact Yp.2 ⟨q,hq,e⟩);have hm:∀y:Sl,cC (oJ N) a y=oJ (N++[(a,(y,[r]))]):=fun y=>by
   rw[jE fun q hq e=>cN (by rw[<-fT];exact Yp.2 ⟨q,hq,e⟩)];unfold oJ;simp
  rw[hg];refine⟨⟨none,0,0⟩,st,rfl,?_⟩;replace hs:=hs.bJ 200 4;refine hs.appended 0 (news:=[r.cs]) rfl kV (hs.at 1 rfl (o:=0) (n:=4) rfl) rfl (fun q hq=>by rw[Ye] at hq;rw[hq];rfl) one (by show (0+1)*32<=140737488355328;decide) (by show 0+1<=9223372036854775807;decide) fun Dl zN n50 hs=>?_;refine hs.GC 2 rfl oL Dl fun zM hs=>?_;refine hK zM (N++[(a,(Dl,[r]))]) ?_ (N9.new r hN cN);rw[hm] at hs;rw[Ym (f:=yu),Yz];exact hs.perm (yT _ _ _ _ _).symm
theorem St.OQ{P:Program}{h0 h:Heap}{L:List It}(hs:St h0 h L){t kt e:TypeId}(ht:P.underlying t=some (.map kt e))(n:Int){K:Value->Heap->Prop}(hK:∀h',Ext h h'->St h0 h' (.mp h.size []::L)->K (.map (some h.size)) h'):bD P (Instr.makeMap t (some (.int .i64 n))) h K:=by
 intro w hw;subst hw;obtain⟨v,w',h1,h2⟩:=hs.Bu (P:=P) t hK w rfl;refine⟨v,w',?_,h2⟩;rw[<-h1];simp[Instr.makeMap,run_underlying ht,asInt,asIntOf,Result.andThen]
theorem St.nO{h0 h:Heap}{L:List It}(hs:St h0 h L){s:Sl}{e:TypeId}{n:Nat}{rows:List (List Value)}(hi:.sl s e n rows∈L)(hn:0<n):Rw h n s rows:=(hs.ok _ hi).1.1.rw (hs.ok _ hi).1.2 hn
theorem lL{cb ob bb:Nat}{bk:Sl}{O:List (Pr × Nat)}{BS:List (Sl × List Pr)}{z:It}{NS:List It}:(sh cb ob bb bk O BS (z::NS)).Perm (z::(NS++sh cb ob bb bk O BS [])):=by
 have e:∀R,sh cb ob bb bk O BS R=sh cb ob bb bk O BS []++R:=fun R=>by unfold sh;simp
 rw[e (z::NS)];exact List.perm_middle.trans (List.perm_append_comm.cons _)
theorem sV{α:Type}(c a b z:α)(NS R:List α):(c::a::b::z::(NS++R)).Perm (c::z::(NS++a::b::R)):=by
 refine List.Perm.cons _ ?_;refine (List.Perm.cons a (List.Perm.swap z b _)).trans ((List.Perm.swap z a _).trans (List.Perm.cons z ?_));refine (List.Perm.trans ?_ List.perm_middle.symm);exact List.Perm.cons a List.perm_middle.symm
noncomputable def eZ(X:An)(kind:Int)(p:Pr):Option Nat:=(eY X kind p).map Int.toNat
def bE(g:Gl)(role:Int)(p:Pr):List aP:=bq g.es role p.1 p.2
def iE(p:Pr)(m:aP):aP:=⟨m.x,m.y,(p.1:Nat),(p.2:Nat)⟩
structure Jy (A:List Pr) (mv:Pr->List aP) (bw:Pr->Option Nat) (CB i:Nat) (O:List (Pr × Nat)) (B:List (List Pr)) (N:List NE):Prop where
 ob:OB A mv bw O B
 c:∀p∈A.take i,∀c,bw p=some c->∃k,k<=c/\aU O p=some k
 ln:B.length<=CB
 nn:(N.map Prod.fst).Nodup
 nk:∀x∈N.map Prod.fst,x∈A
 rc:∀q r,vo N q r ↔ ∃p∈A.take i,∃m∈mv p,bj m=q/\r=iE p m
 MW:pU N<=i*160800
structure pQ (A:List Pr) (mv:Pr->List aP) (i j:Nat) (p:Pr) (N:List NE):Prop where
 nn:(N.map Prod.fst).Nodup
 nk:∀x∈N.map Prod.fst,x∈A
 rc:∀q r,vo N q r ↔ (∃p∈A.take i,∃m∈mv p,bj m=q/\r=iE p m)\/∃m∈(mv p).take j,bj m=q/\r=iE p m
 MW:pU N<=i*160800+j
theorem pQ.step{A:List Pr}{mv:Pr->List aP}{i j:Nat}{p:Pr}{N N':List NE}(h:pQ A mv i j p N){m:aP}(hm:(mv p)[j]?=some m)(ha:bj m∈A)(hu:N9 N (bj m) (iE p m) N'):pQ A mv i (j+1) p N':=by
 refine⟨hu.nd,fun x hx=>?_,fun q r=>?_,by rw[hu.MW];have:=h.MW;omega⟩
 .rcases (hu.ky x).1 hx with h1 | h1
  .exact h.nk x h1
  .rw[h1];exact ha
 .rw[hu.rc,h.rc,aj hm];constructor
  .rintro ((h1 | ⟨m',h1,h2⟩) | ⟨h1,h2⟩)
   .exact .inl h1
   .exact .inr ⟨m',List.mem_append_left _ h1,h2⟩
   .exact .inr ⟨m,by simp,h1.symm,h2⟩
  .rintro (h1 | ⟨m',h1,h2⟩)
   .exact .inl (.inl h1)
   .rcases Yk.1 h1 with h1 | h1
    .exact .inl (.inr ⟨m',h1,h2⟩)
    .rw[Ye] at h1;subst h1;exact .inr ⟨h2.1.symm,h2.2⟩
theorem OB.bl{A:List Pr}{mv:Pr->List aP}{bw:Pr->Option Nat}{O:List (Pr × Nat)}{BS:List (Sl × List Pr)}(h:OB A mv bw O (BS.map Prod.snd))(hA:A.length<=40000):∀q∈BS,q.2.length<=1048576:=fun q hq=>by
 obtain⟨n,hn⟩:=Yf.1 hq;have hl:(BS.map Prod.snd)[n]?=some q.2:=by rw[Yd,hn];rfl
 have:=List.Nodup.length_le_of_subset (h.nd n q.2 hl) (l₂:=A) fun x hx=>(h.b1 n q.2 hl x hx).1;omega
theorem OB.iH{A:List Pr}{mv:Pr->List aP}{bw:Pr->Option Nat}{O:List (Pr × Nat)}{B:List (List Pr)}(h:OB A mv bw O B)(hk:∀p∈A,eG p):∀q∈O,eG q.1:=fun q hq=>hk _ (h.oa q hq)
theorem OB.empty(A:List Pr)(mv:Pr->List aP)(bw:Pr->Option Nat):OB A mv bw [] []:=
 ⟨.nil,fun q hq=>(by cases hq),fun p n h=>(by cases h),fun n l h=>(by simp at h),fun p n h=>(by cases h),fun n l h=>(by simp at h)⟩
abbrev Nd(ib:Nat)(N:List NE):It:=.mp ib ((oJ N).map fun q=>(pV q.1,eO q.2))
structure Tc (X:An) (kind:Int) (A:List Pr) (CB:Nat):Prop where
 a:∀q∈X.ar,∀x∈q.2,0<x.n
 c:∀p∈A,∀c,eY X kind p=some c->0<=c/\c<CB
 b:CB<=4194304
theorem St.GG{α β:Type}{P:Program}{t kt e:TypeId}{ck:α->Value}{cv:β->Value}{iH:α->Prop}[DecidableEq α]{z:Value}(M:MT P t kt e ck iH z){h0 h:Heap}{L:List It}(hs:St h0 h L)(k:Nat){b:Nat}{l:List (α × β)}(hk:L[k]?=some (.mp b (l.map fun q=>(ck q.1,cv q.2))))(hl:∀q∈l,iH q.1)(hn:(l.map Prod.fst).Nodup){a:α}(ha:iH a){R:Value->Heap->Prop}
  (hR:R ((aU l a).elim z cv) h):bD P (Instr.lookup t (.map (some b)) (ck a) false) h R:=by
 refine hs.GH M k hk hl hn ha false ?_;generalize aU l a=o at *;cases o<;>exact hR
theorem K8(b:Nat)(g:Gl)(role:Int)(X:An)(kind:Int)(all:Sl)(mb:Nat)(A:List Pr)(l:List (Pr × Sl))(CB:Nat)(h:Heap)(hA:vM h b g role X)(hV:af g)(hM:JZ h g role all mb A l)(hC:Tc X kind A CB):
  Fn Pz 164 #[.pointer (some ⟨b,0,none⟩),.int .i64 kind,.slice all.a all.n all.c,.map (some mb)] h fun v h'=>Ext h h'/\∃(ob:Nat) (O:List (Pr × Nat)),v=.map (some ob)/\It.ok h' (.mp ob (O.map fun q=>(pV q.1,oK q.2)))/\(∀q∈O,eG q.1)/\(O.map Prod.fst).Nodup /\
   ∀p∈A,∀k,(aU O p=some k ↔ iM (bE g role) (eZ X kind) p k)/\(aU O p=some k->k<CB+2*A.length):=by
 apply Uy ⟨b,0,none⟩ kind all (some mb);unfold ZR;have hN:=hV.num.n;have hE:=hV.num.m;have hAn:=hM.ra.ln;have BJ:∀p∈A,(p.1:Int)<g.n/\(p.2:Int)<g.n:=fun p hp=>((hM.pr p).1 hp).lt hV;have uK:∀p∈A,eG p:=fun p hp=>by have:=BJ p hp;exact⟨by omega,by omega⟩
 have eN:∀p∈A,∀m∈bE g role p,bj m∈A:=fun p hp m hm=>(hM.pr _).2 (.step ((hM.pr p).1 hp) hm);have hA4:A.length<=40000:=by
  have h1:=l4 (n:=g.n.toNat) hM.nd fun p hp=>by have:=BJ p hp;exact⟨by omega,by omega⟩
  have h2:g.n.toNat*g.n.toNat<=200*200:=Nat.mul_le_mul (by omega) (by omega);omega
 have hCb:=hC.b;have Ff:∀p:Pr,(bq g.es role p.1 p.2).length<=160800:=fun p=>fw hE;have hme:∀p:Pr,(bE g role p).length=(bq g.es role p.1 p.2).length:=fun p=>rfl;refine (St.refl h).OQ Jw.ht _ fun h3 E3 hs=>⟨some h.size,rfl,?_⟩;refine hs.ao (vs:=[.map (some h.size)]) rfl rfl fun h5 hs=>?_;refine hs.Bu 93 fun h8 E8 hs=>⟨some h5.size,rfl,?_⟩;refine hs.ak fun h9 hs=>?_;have hs:St h h9 (sh h3.size h.size h8.size ⟨none,0,0⟩ [] [] (Nd h5.size []::[].map yu)):=by
  refine (hs.bJ 92 1).perm ?_;show ([It.sl ⟨none,0,0⟩ 92 1 [],.ae h8.size [.slice none 0 0] 350,.mp h5.size [],.ae h3.size [.map (some h.size)] 293,.mp h.size []]:List It).Perm [.ae h3.size [.map (some h.size)] 293,.mp h.size [],.ae h8.size [.slice none 0 0] 350,.sl ⟨none,0,0⟩ 92 1 [],.mp h5.size []];refine List.Perm.trans (l₂:=[.ae h3.size [.map (some h.size)] 293,.mp h.size [],.sl ⟨none,0,0⟩ 92 1 [],.ae h8.size [.slice none 0 0] 350,.mp h5.size []]) ?_ (List.Perm.cons _ (List.Perm.cons _ (List.Perm.swap _ _ _)));exact List.perm_append_comm (l₁:=[It.sl ⟨none,0,0⟩ 92 1 [],.ae h8.size [.slice none 0 0] 350,.mp h5.size []]) (l₂:=[.ae h3.size [.map (some h.size)] 293,.mp h.size []])
 refine⟨fun x h' m=>∃(i:Nat) (bk:Sl) (O:List (Pr × Nat)) (BS:List (Sl × List Pr)) (N:List NE),x=i/\m=all.n-i/\i<=all.n/\St h h' (sh h3.size h.size h8.size bk O BS (Nd h5.size N::N.map yu))/\Jy A (bE g role) (eZ X kind) CB i O (BS.map Prod.snd) N,
  ⟨_,0,⟨none,0,0⟩,[],[],[],rfl,rfl,Nat.zero_le _,hs,OB.empty _ _ _,fun p hp=>(by simp at hp),Nat.zero_le _,.nil,fun x hx=>(by cases hx),fun q r=>⟨fun ⟨e,he,_⟩=>(by cases he),fun ⟨p,hp,_⟩=>(by simp at hp)⟩,Nat.zero_le _⟩,?_⟩
 clear hs;rintro-_ B7 m ⟨i,bk,O,BS,N,rfl,rfl,hi,hs,hL⟩;refine aM (fun c=>?_) (fun c=>?_)
 .refine (hM.ra.ext hs.ext).rw.aD (by omega) (by omega) fun b15 OK p gp u=>?_;replace gp:A[i]?=some p:=gp;have oM:=Yb gp;have dz:=BJ p oM;refine⟨(p.1:Nat),(p.2:Nat),u,?_⟩;refine hs.ao (vs:=pC p) rfl rfl fun aG hs=>?_;refine⟨(p.1:Nat),(p.2:Nat),hs.at 0 rfl (o:=0) (n:=2) rfl,?_⟩;obtain⟨r,hr,xi⟩:=hM.mv p oM;refine uG (cv:=eO) (l:=l) yj ((hM.ext hs.ext).mp) hM.lk hM.ln (a:=p) (uK p oM) false ?_;rw[hr];refine⟨r,rfl,?_⟩;have hs:St h aG (.ae B7.size (pC p) 97::Nd h5.size N::(N.map yu++sh h3.size h.size h8.size bk O BS [])):=hs.perm (List.Perm.cons _ lL);have jY:=xi.ln;have hrm:=Ff p;have yB:pQ A (bE g role) i 0 p N:=⟨hL.nn,hL.nk,fun q r=>by rw[hL.rc];exact⟨.inl,fun h=>h.elim id fun ⟨m,h,_⟩=>(by rw[mq] at h;cases h)⟩,mn hL.MW (Nat.le_add_right _ _)⟩;refine⟨fun x h' m=>∃(j:Nat) (N':List NE),x=j/\m=r.n-j/\j<=r.n/\St h h' (.ae B7.size (pC p) 97::Nd h5.size N'::(N'.map yu++sh h3.size h.size h8.size bk O BS []))/\pQ A (bE g role) i j p N',⟨_,0,N,rfl,rfl,Nat.zero_le _,hs,yB⟩,?_⟩;clear hs yB;rintro-_ HA m ⟨j,N',rfl,rfl,hj,hs,yB⟩;refine aM (fun c2=>?_) (fun c2=>?_)
  .refine (xi.ext hs.ext).rw.aD (by omega) (by omega) fun b31 o32 mv gm t=>?_;replace gm:(bE g role p)[j]?=some mv:=gm;have mz:=Yb gm;have pG:=ia hV dz mz;have hta:=eN p oM mv mz;refine⟨mv.x,mv.y,mv.s,mv.t,t,?_⟩;refine hs.ao (vs:=mv.cs) rfl rfl fun tB hs=>?_;refine⟨((bj mv).1:Nat),((bj mv).2:Nat),by rw[pG.2.2.1,pG.2.2.2];exact hs.at 0 rfl (o:=2) (n:=2) rfl,mv.x,hs.rd 0 rfl (i:=0) rfl,mv.y,hs.rd 0 rfl (i:=1) rfl,(p.1:Nat),(p.2:Nat),hs.at 1 rfl (o:=0) (n:=2) rfl,?_⟩;refine hs.ak fun kP hs=>?_;have hs:=hs.perm (sV (It.ae tB.size (iE p mv).cs 200) _ _ _ _ _);have O9:=yB.MW;have Hm:i*160800<=40000*160800:=Nat.mul_le_mul_right _ (by omega);refine DU hs yB.nn (fun x hx=>uK x (yB.nk x hx)) (uK _ hta) (by omega) fun zM N'' hs hu=>?_;refine⟨_,by omega,j+1,N'',by rw[a7 (by omega) (by omega)];omega,rfl,by omega,?_,yB.step gm hta hu⟩;have hs:=(hs.perm (sV (It.ae tB.size (iE p mv).cs 200) _ _ _ _ _).symm).drop 2;exact hs
  .have Lr:j=(bE g role p).length:=by unfold bE;omega
   refine⟨(p.1:Nat),(p.2:Nat),hs.at 0 rfl (o:=0) (n:=2) rfl,?_⟩;refine (xL b g role X kind p HA (hA.ext hs.ext) dz hC.a).mono ?_;rintro _ B4 ⟨E59,rfl⟩;replace hs:=hs.step E59;refine⟨_,_,rfl,?_⟩;have hrc:∀q r,vo N' q r ↔ ∃p∈A.take (i+1),∃m∈bE g role p,bj m=q/\r=iE p m:=fun q r=>by
    rw[yB.rc,aj gp,Lr,yd];constructor
    .rintro (⟨p',h1,h2⟩ | h1)
     .exact⟨p',List.mem_append_left _ h1,h2⟩
     .exact⟨p,by simp,h1⟩
    .rintro⟨p',h1,h2⟩;rcases Yk.1 h1 with h1 | h1
     .exact .inl ⟨p',h1,h2⟩
     .rw[Ye] at h1;subst h1;exact .inr h2
   have O9:pU N'<=(i+1)*160800:=by have:=yB.MW;rw[Nat.succ_mul];omega
   have yC:=hL.ln;rw[Yc] at yC;cases hc:eY X kind p with
   | none=>
    refine ja rfl ?_;refine⟨_,by omega,i+1,bk,O,BS,N',by rw[a7 (by omega) (by omega)];omega,rfl,by omega,(hs.drop 1).perm lL.symm,hL.ob,fun q hq c' iO=>?_,hL.ln,yB.nn,yB.nk,hrc,O9⟩;rw[aj gp,Yk,Ye] at hq;rcases hq with hq | rfl
    .exact hL.c q hq c' iO
    .unfold eZ at iO;rw[hc] at iO;cases iO
   | some cv=>
    obtain⟨fV,sy⟩:=hC.c p oM cv hc;have hcN:eZ X kind p=some cv.toNat:=by unfold eZ;rw[hc];rfl
    refine qf rfl ?_;refine⟨(p.1:Nat),(p.2:Nat),hs.at 0 rfl (o:=0) (n:=2) rfl,?_⟩;have hs:=(hs.drop 1).perm lL.symm;have SL:(((some cv:Option Int).getD 0):Int)=((cv.toNat:Nat):Int):=by show cv=_;omega
    rw[SL];refine (F9 h B4 h3.size h.size h8.size bk O BS _ p cv.toNat hs (hL.ob.iH uK) hL.ob.on (uK p oM) (by omega) (by omega) (hL.ob.bl hA4)).mono ?_;rintro _ rM ⟨rfl,pN,kd,hs,hBS⟩;refine⟨rfl,_,by omega,i+1,pN,mW O p cv.toNat,kd,N',by rw[a7 (by omega) (by omega)];omega,rfl,by omega,hs,?_,fun q hq c' iO=>?_,?_,yB.nn,yB.nk,hrc,O9⟩
    .have h9:=hL.ob.put oM (.base hcN);rw[hBS];exact h9
    .rw[aj gp,Yk,Ye] at hq;rcases hq with hq | rfl
     .obtain⟨k,h1,h2⟩:=hL.c q hq c' iO;obtain⟨k',h3,h4⟩:=oT (p:=p) (n:=cv.toNat) h2;exact⟨k',by omega,h4⟩
     .rw[hcN] at iO;cases iO;exact AX O q cv.toNat
    .rw[hBS];have:=wA O (BS.map Prod.snd) p cv.toNat;have h8:=hL.ln;show (r8 O (BS.map Prod.snd) p cv.toNat).length<=CB;omega
 .have cN:i=A.length:=by omega
  have hOB:=hL.ob;have hI:yk A (bE g role) (eZ X kind) CB 0 0 [] O (BS.map Prod.snd):=yk.start hL.ob (fun p hp c hc=>hL.c p (by rw[cN,yd];exact hp) c hc) hL.ln;have hNn:=hL.nn;have hNk:=hL.nk;have hNr:∀q r,vo N q r ↔ ∃p∈A,∃m∈bE g role p,bj m=q/\r=iE p m:=fun q r=>by rw[hL.rc,cN,yd]
  have hNt:pU N<=40000*160800:=mn hL.MW (Nat.mul_le_mul_right _ (by omega));clear hL cN hOB;refine⟨fun x h' m=>∃(n:Nat) (Z:List Pr) (bk:Sl) (O:List (Pr × Nat)) (BS:List (Sl × List Pr)),x=n/\m=CB+2*A.length-n/\St h h' (sh h3.size h.size h8.size bk O BS (Nd h5.size N::N.map yu))/\yk A (bE g role) (eZ X kind) CB n 0 Z O (BS.map Prod.snd),⟨_,0,[],bk,O,BS,rfl,rfl,hs,hI⟩,?_⟩;clear hs hI hi;rintro-_ j6 m ⟨n,Z,bk,O,BS,rfl,rfl,hs,hI⟩;have hZA:Z.length<=A.length:=List.Nodup.length_le_of_subset hI.zn fun x hx=>hI.za x hx;have yC:=hI.ln;rw[Yc] at yC;have PI:=hs.len 3 (s:=bk) (e:=92) (n:=1) (rows:=(BS.map Prod.fst).map eC) rfl (by omega);rw[Yc,Yc] at PI;refine⟨bk,hs.rd 2 rfl (i:=0) rfl,aM (fun c2=>?_) (fun c2=>?_)⟩
  .obtain⟨q0,Hh⟩:=get_some (l:=BS) (i:=n) (by omega);have rK:(BS.map Prod.snd)[n]?=some q0.2:=by rw[Yd,Hh];rfl
   refine⟨fun x h' m=>∃(i:Nat) (Z:List Pr) (bk:Sl) (O:List (Pr × Nat)) (BS:List (Sl × List Pr)),x=i/\m=q0.2.length-i/\St h h' (sh h3.size h.size h8.size bk O BS (Nd h5.size N::N.map yu))/\yk A (bE g role) (eZ X kind) CB n i Z O (BS.map Prod.snd)/\(BS.map Prod.snd)[n]?=some q0.2,⟨_,0,Z,bk,O,BS,rfl,rfl,hs,hI,rK⟩,?_⟩;have ago:=hI.ob.bl hA4 q0 (Yb Hh);clear hs hI hZA yC PI c2 Hh rK;rintro-_ W4 m ⟨i,Z,bk,O,BS,rfl,rfl,hs,hI,rK⟩;have hZA:Z.length<=A.length:=List.Nodup.length_le_of_subset hI.zn fun x hx=>hI.za x hx;have yC:=hI.ln;rw[Yc] at yC;have PI:=hs.len 3 (s:=bk) (e:=92) (n:=1) (rows:=(BS.map Prod.fst).map eC) rfl (by omega);rw[Yc,Yc] at PI;obtain⟨q1,my,fL⟩:∃q1,BS[n]?=some q1/\q1.2=q0.2:=by
    rw[Yd] at rK;exact sH.1 rK
   have vF:=(Ya.1 my).1;have jX:=hs.kH (A:=[.ae h3.size [.map (some h.size)] 293,.mp h.size (O.map fun q=>(pV q.1,oK q.2)),.ae h8.size [.slice bk.a bk.n bk.c] 350,.sl bk 92 1 ((BS.map Prod.fst).map eC)]) (e:=97) (n:=2) (cs:=pC) my (by omega);rw[fL] at jX;have jY:=jX.ln;refine⟨bk,hs.rd 2 rfl (i:=0) rfl,?_⟩;refine (hs.rows 3 rfl (by omega)).aD (by omega) (by omega) fun N3 OG d gd u=>?_;replace gd:(BS.map Prod.fst)[n]?=some d:=gd;rw[Yd,my] at gd;cases gd;refine⟨q1.1,u.hd,aM (fun c3=>?_) (fun c3=>?_)⟩
   .refine⟨bk,hs.rd 2 rfl (i:=0) rfl,?_⟩;refine (hs.rows 3 rfl (by omega)).aD (by omega) (by omega) fun b82 o83 d gd u2=>?_;replace gd:(BS.map Prod.fst)[n]?=some d:=gd;rw[Yd,my] at gd;cases gd;refine⟨q1.1,u2.hd,?_⟩;refine jX.aD (by omega) (by omega) fun b85 o86 p gp u3=>?_;replace gp:q0.2[i]?=some p:=gp;obtain⟨oM,k,ND,JQ⟩:=hI.ob.b1 n q0.2 rK p (Yb gp);refine⟨(p.1:Nat),(p.2:Nat),u3,?_⟩;refine hs.ao (vs:=pC p) rfl rfl fun B3 hs=>?_;refine⟨some h.size,hs.rd 1 rfl (i:=0) rfl,(p.1:Nat),(p.2:Nat),hs.at 0 rfl (o:=0) (n:=2) rfl,?_⟩;refine hs.GH (cv:=oK) (l:=O) Jw 2 rfl (hI.ob.iH uK) hI.ob.on (a:=p) (uK p oM) false ?_;rw[JQ];refine⟨(k:Nat),rfl,?_⟩;refine fZ (fun c4=>?_) (fun c4=>?_)
    .refine⟨_,?_,i+1,Z,bk,O,BS,by rw[a7 (by omega) (by omega)];omega,rfl,hs.drop 1,hI.skip rK gp (by rw[JQ];intro e;cases e;exact c4 rfl),rK⟩;omega
    .obtain rfl:k=n:=by omega
     refine⟨(p.1:Nat),(p.2:Nat),hs.at 0 rfl (o:=0) (n:=2) rfl,?_⟩;have hs:=(hs.drop 1).perm lL;have Wc:((oJ N).map Prod.fst).Nodup:=by rw[fT];exact hNn
     refine hs.GG (cv:=eO) (l:=oJ N) yj 0 rfl (fun q hq=>uK _ (hNk _ (by rw[<-fT];exact Yp.2 ⟨q,hq,rfl⟩))) Wc (a:=p) (uK p oM) ?_;obtain⟨sr,rec,yx,xi,hrd,Ln⟩:∃(sr:Sl) (rec:List aP),(aU (oJ N) p).elim (.slice none 0 0) eO=.slice sr.a sr.n sr.c/\rec.length<=40000*160800/\(∀ {h0 hh:Heap} {L:List It},St h0 hh L->(∀e∈N,yu e∈L)->Rw hh 4 sr (rec.map aP.cs))/\(∀r,r∈rec ↔ vo N p r):=by
      cases hg:aU (oJ N) p with
      | none=>
       refine⟨⟨none,0,0⟩,[],rfl,Nat.zero_le _,fun _ _=>⟨rfl,fun h=>absurd h (by simp)⟩,fun r=>⟨fun h=>(by cases h),fun ⟨e,he,h1,h2⟩=>?_⟩⟩;have:=(cY p (oJ N)).2 (by rw[fT,<-h1];exact Yp.2 ⟨e,he,rfl⟩);rw[hg] at this;cases this
      | some y=>
       have h9:=(cY p (oJ N)).1 (by rw[hg];rfl);rw[fT] at h9;obtain⟨e,he,h1⟩:=Yp.1 h9;obtain⟨j,hj⟩:=Yf.1 he;have h2:aU (oJ N) p=some e.2.1:=fh Wc (j:=j) (by unfold oJ;rw[Yd,hj,<-h1];rfl);rw[hg] at h2;cases h2;refine⟨e.2.1,e.2.2,rfl,mn (FE he) hNt,fun bL jZ=>bL.nO (e:=200) (jZ e he) (by omega),fun r=>⟨fun h=>⟨e,he,h1,h⟩,fun ⟨e',Lu,h3,h4⟩=>?_⟩⟩;obtain⟨j',hj'⟩:=Yf.1 Lu;have h5:(N.map Prod.fst)[j]?=some p:=by rw[Yd,hj,<-h1];rfl
       have h6:(N.map Prod.fst)[j']?=some p:=by rw[Yd,hj',<-h3];rfl
       have h7:=eF hNn h5 h6;subst h7;rw[hj] at hj';cases hj';exact h4
     rw[yx];refine⟨sr,rfl,?_⟩;have hs:=hs.perm lL.symm;have Wi:∀ {O:List (Pr × Nat)} {BS:List (Sl × List Pr)} {bk:Sl} (e:NE),e∈N->yu e∈sh h3.size h.size h8.size bk O BS (Nd h5.size N::N.map yu):=fun e he=>by
      unfold sh;exact List.mem_append_right _ (Yn _ (Yp.2 ⟨e,he,rfl⟩))
     have hJ:=hI.take rK gp JQ rec;have WV:=hI;have hnC:k+1<=CB+2*Z.length:=by omega
     refine⟨fun x h' m=>∃(j:Nat) (bk:Sl) (O:List (Pr × Nat)) (BS:List (Sl × List Pr)),x=j/\m=sr.n-j/\j<=sr.n/\St h h' (sh h3.size h.size h8.size bk O BS (Nd h5.size N::N.map yu))/\R7 A (bE g role) (eZ X kind) CB k i Z p rec j O (BS.map Prod.snd)/\(BS.map Prod.snd)[k]?=some q0.2,⟨_,0,bk,O,BS,rfl,rfl,Nat.zero_le _,hs,hJ,rK⟩,?_⟩;clear hs hJ jX PI yC my vF hI rK JQ;rintro-_ h107 m ⟨j,bk,O,BS,rfl,rfl,hj,hs,hJ,rK⟩;have yC:=hJ.ln;rw[Yc] at yC;have jX:=hrd hs fun e he=>Wi e he;have jY:=jX.ln;refine aM (fun c5=>?_) (fun c5=>?_)
     .refine jX.aD (by omega) (by omega) fun ahW aga r gr u4=>?_;replace gr:rec[j]?=some r:=gr;obtain⟨p',pH,m',jZ,hto,rfl⟩:=(hNr p r).1 ((Ln r).1 (Yb gr));have dz:=bM m';have yz:Dn (bE g role) (eZ X kind) p' (k+bO m'):=.step jZ (by rw[hto];exact hJ.ob.d p k hJ.pn);have hd:Dn (bE g role) (eZ X kind) (bj (iE p' m')) (k+bO (iE p' m')):=yz;refine⟨m'.x,m'.y,(p'.1:Nat),(p'.2:Nat),u4,?_⟩;refine hs.ao (vs:=(iE p' m').cs) rfl rfl fun Qc hs=>?_;refine⟨(p'.1:Nat),(p'.2:Nat),hs.at 0 rfl (o:=2) (n:=2) rfl,m'.x,m'.y,(p'.1:Nat),(p'.2:Nat),hs.at 0 rfl (o:=0) (n:=4) rfl,?_⟩;refine (qE m'.x m'.y (p'.1:Nat) (p'.2:Nat) Qc).mono ?_;rintro _ adX ⟨rfl,E⟩;have hs:=(hs.step E).drop 1;refine⟨_,rfl,E.sm,?_⟩;have hw:IntKind.wrap .i64 ((k:Int)+(if 0<=m'.x/\0<=m'.y then 2 else 1))=((k+bO (iE p' m'):Nat):Int):=by
       have:bO (iE p' m')=if 0<=m'.x/\0<=m'.y then 2 else 1:=rfl
       rw[this];split<;>rw[a7 (by omega) (by omega)]<;>omega
      rw[hw];have agp:=bM (iE p' m');refine (F9 h adX h3.size h.size h8.size bk O BS _ p' (k+bO (iE p' m')) hs (hJ.ob.iH uK) hJ.ob.on (uK p' pH) (by omega) (by omega) (hJ.ob.bl hA4)).mono ?_;rintro _ Xk ⟨rfl,pN,kd,hs,hBS⟩;have hJ2:=hJ.put hnC gr (show bj (iE p' m')∈A from pH) hd;refine⟨rfl,_,?_,j+1,pN,mW O p' (k+bO (iE p' m')),kd,by rw[a7 (by omega) (by omega)];omega,rfl,by omega,hs,?_,?_⟩
      .omega
      .rw[hBS];exact hJ2
      .rw[hBS];exact sT (p:=p') rK (by omega)
     .have gF:=hJ.fin (by omega) oM WV.zn WV.za fun q hq m hm he=>⟨iE q m,(Ln _).2 ((hNr p _).2 ⟨q,hq,m,hm,he,rfl⟩),rfl,rfl⟩;refine⟨_,?_,i+1,p::Z,bk,O,BS,by rw[a7 (by omega) (by omega)];omega,rfl,hs,gF,rK⟩;omega
   .have acu:q0.2.length<=i:=by omega
    refine⟨_,?_,n+1,Z,bk,O,BS,by rw[a7 (by omega) (by omega)];omega,rfl,hs,hI.next rK acu⟩;omega
  .refine⟨some h.size,hs.rd 0 rfl (i:=0) rfl,hs.ext,h.size,O,rfl,hs.get (k:=1) rfl,hI.ob.iH uK,hI.ob.on,fun p hp k=>?_⟩;obtain⟨h1,h2⟩:=hI.fin (by rw[Yc];omega) eN hp k;refine⟨h1,fun hk=>?_⟩;have:=h2 hk;rw[Yc] at this;omega
end Go.VC
end

section
namespace Go.VC
theorem H7:∀b:Fin 256,∀x:Fin 8,((sF .u8 (r4 .u8 (b.val:Int) (x.val:Int)) 1==1)=b.val.testBit x.val)/\((sF .u8 (r4 .u8 (b.val:Int) (x.val:Int)) 1==0)=!b.val.testBit x.val)/\EY .u8 (b.val:Int) (eD .u8 1 (x.val:Int))=((b.val|||2^x.val:Nat):Int):=by
 decide +kernel
theorem abQ:∀x:Fin 8,eD .u8 1 (x.val:Int)=((2^x.val:Nat):Int):=by decide +kernel
theorem or8{b x:Nat}(hb:b<256)(hx:x<8):b|||2^x<256:=Nat.or_lt_two_pow (n:=8) hb (Nat.pow_lt_pow_right (by omega) hx)
theorem or6{b x:Nat}(hb:b<64)(hx:x<6):b|||2^x<64:=Nat.or_lt_two_pow (n:=6) hb (Nat.pow_lt_pow_right (by omega) hx)
theorem Ve{x:Nat}(hx:x<6):2^x<64:=Nat.pow_lt_pow_right (m:=x) (n:=6) (by omega) hx
theorem abO{x:Nat}(hx:x<8):2^x<256:=Nat.pow_lt_pow_right (m:=x) (n:=8) (by omega) hx
structure dV where
 s:Nat
 b:Nat
 d:Nat
 deriving DecidableEq
def dV.cs(p:dV):List Value:=[.int .i64 (p.s:Nat),.int .u8 (p.b:Nat),.int .u8 (p.d:Nat)]
def dV.ok(n:Nat)(p:dV):Prop:=p.s<n/\p.b<64/\p.d<64
theorem Ge{n:Nat}{L:List dV}(hn:L.Nodup)(h:∀p∈L,p.ok n):L.length<=n*4096:=by
 have h1:(L.map fun p=>p.s*4096+p.b*64+p.d).Nodup:=by
  rw[List.Nodup,List.pairwise_map];refine hn.imp_of_mem fun {a b} ha hb mA e=>mA ?_;obtain⟨h1,h2,h3⟩:=h a ha;obtain⟨h4,h5,h6⟩:=h b hb;obtain⟨a1,a2,a3⟩:=a;obtain⟨b1,b2,b3⟩:=b;simp only at *;congr 1<;>omega
 have h2:=List.Nodup.length_le_of_subset h1 (l₂:=List.range (n*4096)) fun x hx=>by
  obtain⟨p,hp,rfl⟩:=Yp.1 hx;obtain⟨h3,h4,h5⟩:=h p hp;rw[List.mem_range];omega
 rwa [Yc,mr] at h2
theorem fQ{α:Type}{R:α->α->Prop}(irr:∀a,¬R a a)(tr:∀a b c,R a b->R b c->R a c):∀l m:List α,l.Pairwise R->m.Pairwise R->(∀x,x∈l ↔ x∈m)->l=m
 | [],[],_,_,_=>rfl
 | [],b::m,_,_,h=>absurd ((h b).2 (by simp)) (by simp)
 | a::l,[],_,_,h=>absurd ((h a).1 (by simp)) (by simp)
 | a::l,b::m,hl,hm,h=>by
  obtain⟨xn,ig⟩:=List.pairwise_cons.1 hl;obtain⟨Wk,kh⟩:=List.pairwise_cons.1 hm;have e:a=b:=by
   rcases Yr.1 ((h a).1 (by simp)) with h1 | h1
   .exact h1
   rcases Yr.1 ((h b).2 (by simp)) with h2 | h2
   .exact h2.symm
   exact absurd (tr _ _ _ (xn b h2) (Wk a h1)) (irr a)
  subst e;congr 1;refine fQ irr tr l m ig kh fun x=>⟨fun hx=>?_,fun hx=>?_⟩
  .rcases Yr.1 ((h x).1 (Yn _ hx)) with h1 | h1
   .subst h1;exact absurd (xn x hx) (irr x)
   .exact h1
  .rcases Yr.1 ((h x).2 (Yn _ hx)) with h1 | h1
   .subst h1;exact absurd (Wk x hx) (irr x)
   .exact h1
def iw(x:Ed):List Ed->List Ed
 | []=>[x]
 | y::r=>if acLt y.act x.act then y::iw x r else x::y::r
theorem nj(x z:Ed):∀l:List Ed,z∈iw x l ↔ z=x\/z∈l
 | []=>by simp[iw]
 | y::r=>by
  unfold iw;split
  .rw[Yr,nj x z r,Yr];constructor
   .rintro (h | h | h)
    .exact .inr (.inl h)
    .exact .inl h
    .exact .inr (.inr h)
   .rintro (h | h | h)
    .exact .inr (.inl h)
    .exact .inl h
    .exact .inr (.inr h)
  .simp
theorem pP{x y z:Ac}(h1:acLt x y)(h2:acLt y z):acLt x z:=by unfold acLt at *;omega
theorem yc(x:Ac):¬acLt x x:=by unfold acLt;omega
theorem rF{x y:Ac}(h:x≠y)(h1:¬acLt y x):acLt x y:=by
 obtain⟨a,b,c⟩:=x;obtain⟨a',b',c'⟩:=y;unfold acLt at *;simp only[ne_eq,Ac.mk.injEq] at h;simp only at *;omega
theorem lP{x:Ed}:∀ {l:List Ed},l.Pairwise (fun a b=>acLt a.act b.act)->(∀y∈l,y.act≠x.act)->(iw x l).Pairwise fun a b=>acLt a.act b.act
 | [],_,_=>by simp[iw]
 | y::r,hl,hx=>by
  obtain⟨h1,h2⟩:=List.pairwise_cons.1 hl;unfold iw;by_cases h:acLt y.act x.act
  .rw[if_pos h,List.pairwise_cons];refine⟨fun z hz=>?_,lP h2 fun z hz=>hx z (Yn _ hz)⟩;rcases (nj x z r).1 hz with rfl | hz
   .exact h
   .exact h1 z hz
  .rw[if_neg h,List.pairwise_cons];have h3:acLt x.act y.act:=rF (fun e=>hx y (by simp) e.symm) h;refine⟨fun z hz=>?_,hl⟩;rcases Yr.1 hz with rfl | hz
   .exact h3
   .exact pP h3 (h1 z hz)
def vX(l:List Ed):List Ed:=l.foldr iw []
def fY(es:List Ed)(s:Nat):List Ed:=vX (es.filter fun x=>decide (x.f=(s:Int)))
theorem lj(l:List Ed)(z:Ed):z∈vX l ↔ z∈l:=by
 induction l with
 | nil=>simp[vX]
 | cons a l ih=>
  show z∈iw a (vX l) ↔ _;rw[nj,ih,Yr]
theorem tl(x:Ed):∀l:List Ed,(iw x l).length=l.length+1
 | []=>rfl
 | y::r=>by
  unfold iw;split
  .rw[j8,tl x r,j8]
  .rfl
theorem vW(l:List Ed):(vX l).length=l.length:=by
 induction l with
 | nil=>rfl
 | cons a l ih=>
  show (iw a (vX l)).length=_;rw[tl,ih];rfl
theorem iW:∀ {l:List Ed},l.Pairwise (fun a b=>a.act≠b.act)->(vX l).Pairwise fun a b=>acLt a.act b.act
 | [],_=>.nil
 | a::l,h=>by
  obtain⟨h1,h2⟩:=List.pairwise_cons.1 h;exact lP (iW h2) fun y hy=>(h1 y ((lj l y).1 hy)).symm
theorem Oq{l l':List Ed}(hp:l'.Perm l)(hw:l'.Pairwise fun a b=>¬acLt b.act a.act)(hd:l.Pairwise fun a b=>a.act≠b.act):l'=vX l:=by
 have Hr:l'.Pairwise fun a b=>a.act≠b.act:=(hp.pairwise_iff fun {a b} h=>h.symm).2 hd;refine fQ (R:=fun a b:Ed=>acLt a.act b.act) (fun a=>yc _) (fun a b c=>pP) _ _ ?_ (iW hd) fun x=>by rw[lj];exact hp.mem_iff
 exact (hw.and Hr).imp fun ⟨h1,h2⟩=>rF h2 h1
theorem rE{g:Gl}(hV:af g)(s:Int):(g.es.filter fun x=>decide (x.f=s)).Pairwise fun a b=>a.act≠b.act:=by
 have h1:g.es.Pairwise fun a b=>a.f=b.f->a.act≠b.act:=by
  rw[List.pairwise_iff_getElem];intro i j hi hj hij hf he;refine hV.ord.p i _ (Yi hi) j _ (Yi hj) (.inl ⟨by omega,hf,.inl ?_⟩);unfold Ed.act at he;simp only[Ac.mk.injEq] at he;exact he
 refine (h1.sublist List.filter_sublist).imp_of_mem fun {a b} ha hb h=>h ?_;rw[List.mem_filter,decide_eq_true_eq] at ha hb;rw[ha.2,hb.2]
structure rH where
 m:Ms
 path:List Ac
abbrev nG:=dV × List Ac
def ec(role:Int)(p:dV)(x:Ed):dV × Bool:=
 if p.b.testBit x.a.toNat then (⟨x.t.toNat,p.b|||2^x.b.toNat,p.d⟩,false)
 else if x.b=role/\p.d.testBit x.a.toNat=false then (⟨x.t.toNat,p.b,p.d|||2^x.a.toNat⟩,true) else (⟨x.t.toNat,p.b,p.d⟩,false)
def nT(F:List rH)(f:rH):List rH:=if ∃y∈F,y.m=f.m then F else F++[f]
def iZ(role:Int)(p:dV)(path:List Ac)(st:List nG × List rH)(x:Ed):List nG × List rH:=
 (if (ec role p x).1∈st.1.map Prod.fst then st.1 else st.1++[((ec role p x).1,path++[x.act])],
  if (ec role p x).2 then nT st.2 ⟨⟨x.a,x.l⟩,path++[x.act]⟩ else st.2)
def oE(es:List Ed)(role:Int):Nat->Nat->List nG->List rH->List rH
 | 0,_,_,F=>F
 | f+1,hd,Q,F=>match Q[hd]? with
  | none=>F
  | some (p,path)=>oE es role f (hd+1) ((fY es p.s).foldl (iZ role p path) (Q,F)).1 ((fY es p.s).foldl (iZ role p path) (Q,F)).2
def ef(g:Gl)(i:Nat):List rH:=match g.es[i]? with
 | none=>[]
 | some x=>oE g.es x.b (g.n.toNat*65536+1) 0 [(⟨x.t.toNat,2^x.b.toNat,0⟩,[])] []
end Go.VC
end

section
namespace Go.VC
open Go.Proofs Go.LexS
def uI{α:Type}(p:α->Bool)(L:List α):Int:=match L.findIdx? p with | some i=>((i:Nat):Int) | none=>-1
theorem kJ{α:Type}{p:α->Bool}:∀ {L:List α} {i:Nat} {x:α},(∀(j:Nat) y,j<i->L[j]?=some y->p y=false)->L[i]?=some x->p x=true->L.findIdx? p=some i
 | [],i,x,_,h,_=>by cases h
 | a::L,0,x,_,h,hp=>by cases h;rw[List.findIdx?_cons,hp];rfl
 | a::L,i+1,x,hq,h,hp=>by
  rw[List.findIdx?_cons,hq 0 a (by omega) rfl,kJ (L:=L) (i:=i) (fun j y hj hy=>hq (j+1) y (by omega) hy) h hp];rfl
theorem w7{α:Type}{p:α->Bool}{L:List α}(h:∀(j:Nat) y,L[j]?=some y->p y=false):L.findIdx? p=none:=by
 rw[List.findIdx?_eq_none_iff];intro x hx;obtain⟨j,hj⟩:=Yf.1 hx;exact h j x hj
abbrev FS:=rH × Sl
def dw(q:FS):List Value:=[.int .i64 q.1.m.p,.int .i64 q.1.m.l,.slice q.2.a q.2.n q.2.c]
theorem zu(x y:Ms):((x.p==y.p)&&((x.l==y.l)&&true))=decide (x=y):=by
 obtain⟨a,b⟩:=x;obtain⟨c,d⟩:=y;rw[Bool.eq_iff_iff];simp
theorem Kt(q:FS)(m:Ms)(b:Nat)(h:Heap)(fV:a6 h ⟨b,0,none⟩ m.cs):Fn Pz 132 #[.agg ⟨dw q⟩,.pointer (some ⟨b,0,none⟩)] h fun v h'=>v=.bool (decide (q.1.m=m))/\Ext h h':=by
 apply UK q.1.m.p q.1.m.l q.2 ⟨b,0,none⟩;unfold Z5;refine (St.refl h).ak fun h4 hs=>?_;exact⟨_,_,hs.at 0 rfl (o:=0) (n:=2) rfl,m.p,m.l,fW hs.ext fV,by rw[zu],hs.ext⟩
theorem Ku(q:FS)(m:Ms)(b:Nat)(h:Heap)(fV:a6 h ⟨b,0,none⟩ m.cs):Fn Pz 72 #[.agg ⟨dw q⟩,.pointer (some ⟨b,0,none⟩)] h fun v h'=>v=.bool (decide (q.1.m=m))/\Ext h h':=by
 apply aaZ q.1.m.p q.1.m.l q.2 ⟨b,0,none⟩;unfold W72;refine (St.refl h).ak fun h4 hs=>?_;exact⟨_,_,hs.at 0 rfl (o:=0) (n:=2) rfl,m.p,m.l,fW hs.ext fV,by rw[zu],hs.ext⟩
theorem QP:aJ Pz 132=true:=by kernel_rfl
theorem QT:aJ Pz 72=true:=by kernel_rfl
theorem w9(G:Nat)(hG:aJ Pz G=true)(L:List FS)(m:Ms)(b:Nat)(s:Sl)(h:Heap)(hr:Rw h 3 s (L.map dw))(fV:a6 h ⟨b,0,none⟩ m.cs)(hl:L.length<=16777216)
  (hF:∀(q:FS) (h:Heap),a6 h ⟨b,0,none⟩ m.cs->Fn Pz G #[.agg ⟨dw q⟩,.pointer (some ⟨b,0,none⟩)] h fun v h'=>v=.bool (decide (q.1.m=m))/\Ext h h') :
  Fn Pz 71 #[.slice s.a s.n s.c,.func (.func G) #[] #[.pointer (some ⟨b,0,none⟩)]] h fun v h'=>v=.int .i64 (uI (fun q=>decide (q.1.m=m)) L)/\Ext h h':=by
 apply aba;unfold W71;have hn:=hr.ln;refine⟨fun x h' μ=>∃i:Nat,x=i/\μ=s.n-i/\i<=s.n/\Ext h h'/\∀(j:Nat) (y:FS),j<i->L[j]?=some y->decide (y.1.m=m)=false,⟨_,0,rfl,rfl,Nat.zero_le _,.iC,fun j y hj=>by omega⟩,?_⟩;rintro-_ h5 μ ⟨i,rfl,rfl,hi,E,hd⟩;refine aM (fun c=>?_) (fun c=>?_)
 .refine (hr.ext E).aD (by omega) (by omega) fun b6 o7 q g t=>?_;replace g:L[i]?=some q:=g;refine⟨q.1.m.p,q.1.m.l,q.2,t,?_⟩;show cond (aJ Pz G) _ _;rw[hG,cond_true];refine (hF q h5 (fW E fV)).mono ?_;rintro _ cy ⟨rfl,E2⟩;refine⟨_,rfl,aa (fun c1=>⟨?_,E.trans E2⟩) (fun c1=>⟨_,by omega,i+1,by rw[a7 (by omega) (by omega)];omega,rfl,by omega,E.trans E2,fun j y hj hy=>?_⟩)⟩
  .unfold uI;rw[kJ hd g c1]
  .by_cases e1:j=i
   .subst e1;rw[g] at hy;cases hy;exact c1
   .exact hd j y (by omega) hy
 .refine⟨?_,E⟩;unfold uI;rw[w7 fun j y hj=>hd j y (by have:=(Ya.1 hj).1;omega) hj]
theorem xM(L:List FS)(m:Ms)(b:Nat)(s:Sl)(h:Heap)(hr:Rw h 3 s (L.map dw))(fV:a6 h ⟨b,0,none⟩ m.cs)(hl:L.length<=16777216):
  Fn Pz 131 #[.slice s.a s.n s.c,.func (.func 132) #[] #[.pointer (some ⟨b,0,none⟩)]] h fun v h'=>(∃r:Bool,v=.bool r/\(r=true ↔ ∃q∈L,q.1.m=m))/\Ext h h':=by
 apply UL;unfold Z6;refine (w9 132 QP L m b s h hr fV hl fun q h hc=>Kt q m b h hc).mono ?_;rintro _ h3 ⟨rfl,E⟩;refine⟨_,rfl,⟨_,rfl,?_⟩,E⟩;rw[decide_eq_true_eq];unfold uI;cases hf:L.findIdx? fun q=>decide (q.1.m=m) with
 | none=>
  rw[List.findIdx?_eq_none_iff] at hf;refine iff_of_false (by simp only;omega) ?_;rintro⟨q,hq,e⟩;have:=hf q hq;rw[decide_eq_true e] at this;cases this
 | some i=>
  refine iff_of_true (by simp only;omega) ?_;obtain⟨h1,h2,_⟩:=List.findIdx?_eq_some_iff_getElem.1 hf;exact⟨L[i],List.getElem_mem h1,cd h2⟩
theorem KA{α:Type}(L:List α)(i:Nat)(hi:i<L.length):L.reverse[i]?=L[L.length-1-i]?:=by
 rw[List.getElem?_reverse hi]
theorem yN{h0 h:Heap}{Ls:List It}(hs:St h0 h Ls)(k:Nat){s:Sl}{l:List Ac}(hk:Ls[k]?=some (.sl s 65 3 (l.map Ac.cs)))(hl:l.length<=33554432):
  Fn Pz 133 #[.slice s.a s.n s.c] h fun v h'=>v=.tuple ⟨[]⟩/\St h0 h' (Ls.set k (.sl s 65 3 (l.reverse.map Ac.cs))):=by
 apply UJ s;unfold Z4;have qP:k<Ls.length:=(Ya.1 hk).1;have hn:s.n=l.length:=by have:=(hs.len k hk (by omega)).1;rwa [Yc] at this
 have ep:Ls.set k (.sl s 65 3 (l.map Ac.cs))=Ls:=by
  obtain⟨a,b⟩:=Ya.1 hk;rw[<-b];exact List.set_getElem_self a
 refine⟨fun x y h' m=>∃(i:Nat) (c:List Ac),x=i/\y=(l.length:Int)-1-i/\m=l.length-i/\2*i<=l.length+1/\c.length=l.length/\(∀t,t<l.length->c[t]?=if t<i\/l.length-i<=t then l[l.length-1-t]? else l[t]?)/\St h0 h' (Ls.set k (.sl s 65 3 (c.map Ac.cs))),
  ⟨_,0,l,rfl,by rw[a7 (by omega) (by omega)];omega,rfl,by omega,rfl,fun t ht=>by rw[if_neg (by omega)],by rw[ep];exact hs⟩,?_⟩
 clear hs;rintro-_ _ h6 m ⟨i,c,rfl,rfl,rfl,hi,eN,hc,hs⟩;have Pu:(Ls.set k (.sl s 65 3 (c.map Ac.cs)))[k]?=some (.sl s 65 3 (c.map Ac.cs)):=by rw[Yq qP]
 refine aM (fun c1=>?_) (fun c1=>?_)
 .have hj:(l.length:Int)-1-i=((l.length-1-i:Nat):Int):=by omega
  rw[hj];refine (hs.rows k Pu (by omega)).aD (by omega) (by omega) fun b7 o8 x gx t=>?_;replace gx:c[l.length-1-i]?=some x:=gx;refine⟨x.a,x.b,x.l,t,?_⟩;refine (hs.rows k Pu (by omega)).aD (by omega) (by omega) fun b12 o13 y gy t2=>?_;replace gy:c[i]?=some y:=gy;refine⟨y.a,y.b,y.l,t2,?_⟩;refine hs.set k Pu (by omega) (x:=(i:Int)) (by omega) (by omega) x rfl rfl (fun b17 Sc h19 hs=>?_) rfl;rw[List.set_set] at hs;have acH:(Ls.set k (.sl s 65 3 ((c.set (Int.toNat (i:Int)) x).map Ac.cs)))[k]?=some (.sl s 65 3 ((c.set (Int.toNat (i:Int)) x).map Ac.cs)):=by rw[Yq qP]
  refine hs.set k acH (by omega) (x:=((l.length-1-i:Nat):Int)) (by omega) (by omega) y rfl rfl (fun b20 o21 dX hs=>?_) rfl;rw[List.set_set] at hs;refine⟨_,?_,i+1,(c.set i x).set (l.length-1-i) y,by rw[a7 (by omega) (by omega)];omega,by rw[a7 (by omega) (by omega)];omega,rfl,by omega,by rw[jT,jT];exact eN,fun t ht=>?_,hs⟩
  .omega
  .have h1:=hc (l.length-1-i) (by omega);have h2:=hc i (by omega);rw[if_neg (by omega)] at h1 h2;rw[gx] at h1;rw[gy] at h2;by_cases e1:l.length-1-i=t
   .subst e1;rw[Yq (by rw[jT];omega),if_pos (by omega),show l.length-1-(l.length-1-i)=i by omega,h2]
   .rw[Yy e1];by_cases e2:i=t
    .subst e2;rw[Yq (by omega),if_pos (by omega),h1]
    .rw[Yy e2,hc t ht];by_cases e3:t<i\/l.length-i<=t
     .rw[if_pos e3,if_pos (by omega)]
     .rw[if_neg e3,if_neg (by omega)]
 .refine⟨rfl,?_⟩;have:c=l.reverse:=by
   apply yG;intro t;by_cases ht:t<l.length
   .rw[hc t ht,KA l t ht];by_cases e3:t<i\/l.length-i<=t
    .rw[if_pos e3]
    .rw[if_neg e3];congr 1;omega
   .rw[Yl (by omega),Yl (by rw[List.length_reverse];omega)]
  rw[<-this];exact hs
end Go.VC
end

section
namespace Go.VC
open Go.Proofs Go.LexS Go.Maps
theorem OX(n:Nat):ai Pz 24 n=(List.replicate n (⟨none,0,0⟩:Sl)).map eO:=by
 have e:bV Pz 24=[.slice none 0 0]:=by kernel_rfl
 unfold ai;rw[e,List.map_replicate]
 induction n with
 | zero=>rfl
 | succ n ih=>rw[List.replicate_succ,List.replicate_succ,ox,ih];rfl
theorem YG:cI Pz 24 67 6 48=true:=by kernel_rfl
theorem Rh:cI Pz 130 134 3 40=true:=by kernel_rfl
theorem Re:cI Pz 249 248 7 48=true:=by kernel_rfl
theorem Rj:cI Pz 68 72 2 16=true:=by kernel_rfl
def dV.v(p:dV):Value:=.agg ⟨p.cs⟩
def Lc(p:dV):Prop:=p.s<1048576/\p.b<256/\p.d<256
theorem abT : ∃ fs, Pz.underlying 245 = some (.struct fs) /\ fs.all (·.name != "_") = true /\ fs.toList.map (fun f => (f.type, f.offset)) = [(3, 0), (5, 1), (5, 2)] := su (by kernel_rfl)
theorem X7:Pz.cellsOf 245=3:=by kernel_rfl
theorem c5:Pz.cellsOf 5=1:=by kernel_rfl
theorem u5:Pz.underlying 5=some (.int .u8):=by kernel_rfl
theorem wf8{n:Nat}(h:n<256):(Lit.int .u8 ((n:Nat):Int)).wf=true:=by
 unfold Lit.wf;simp only[Yt,decide_eq_true_eq];have e1:IntKind.u8.min=0:=by decide
 have e2:IntKind.u8.max=255:=by decide
 rw[e1,e2];omega
theorem Ld(p:dV)(h:Lc p):∃l,keyOf Pz 245 p.v=some l:=by
 obtain⟨fs,hu,hn,hf⟩:=abT;obtain⟨h1,h2,h3⟩:=h;have fA:∃n,Pz.types.size+1=n+2:=⟨Pz.types.size-1,by kernel_rfl⟩;obtain⟨n,fA⟩:=fA;have w1:VN ((p.s:Nat):Int):=⟨by omega,by omega⟩;have hl:Pz.keyLits (n+2) 245 p.cs=some [[.int .i64 ((p.s:Nat):Int)],[.int .u8 ((p.b:Nat):Int)],[.int .u8 ((p.d:Nat):Int)]].flatten:=by
  refine tf hu (by rw[X7];rfl) hn hf ?_;simp only[List.mapM_cons,List.mapM_nil,c3,c5,dV.cs,List.drop_zero,List.take_succ_cons,mq,List.drop_succ_cons,qJ u3 w1.wf,qJ u5 (wf8 h2),qJ u5 (wf8 h3)];rfl
 have hkt:Pz.keyType 245=true:=by kernel_rfl
 have SI:p.v.formed Pz 245=true:=by
  unfold dV.v Value.formed;simp only[hu,X7];rfl
 have e:keyOf Pz 245 p.v=(Pz.keyLits (n+2) 245 p.cs).map fun ls=>.string (keyBytes ls):=by
  unfold keyOf;simp only[hu,hkt,SI,Bool.and_self,if_true,fA];rfl
 rw[e,hl];exact⟨_,rfl⟩
theorem KD(a b:dV)(h:a.v=b.v):a=b:=by
 unfold dV.v dV.cs at h;obtain⟨a1,a2,a3⟩:=a;obtain⟨b1,b2,b3⟩:=b;simp at h;obtain⟨h1,h2,h3⟩:=h;congr 1<;>omega
theorem R6:MT Pz 246 245 4 dV.v Lc (.bool false) where
 K:=Keyed.of_law (deep_law_laid zw (m:=2) (by omega) (cd (by kernel_rfl)) (by kernel_rfl) (by kernel_rfl))
 ht:=by kernel_rfl
 key:=Ld
 inj:=KD
 z:=fun w=>by kernel_rfl
abbrev Cp:=dV × (Int × Ac)
def vC(v:Cp):List Value:=[.int .i64 (v.1.s:Nat),.int .u8 (v.1.b:Nat),.int .u8 (v.1.d:Nat),.int .i64 v.2.1,.int .i64 v.2.2.a,.int .i64 v.2.2.b,.int .i64 v.2.2.l]
structure Aq (n:Nat) (Q:List nG) (V:List Cp) (K:List (dV × Bool)):Prop where
 vn:V.length=Q.length
 vq:∀(i:Nat) (v:Cp) (q:nG),V[i]?=some v->Q[i]?=some q->v.1=q.1/\((v.2.1=-1/\q.2=[])\/∃(a:Nat) (qa:nG),v.2.1=a/\a<i/\Q[a]?=some qa/\q.2=qa.2++[v.2.2])
 nd:(Q.map Prod.fst).Nodup
 ok:∀q∈Q,q.1.ok n
 pl:∀(i:Nat) (q:nG),Q[i]?=some q->q.2.length<=i
 ky:∀p,p∈K.map Prod.fst ↔ p∈Q.map Prod.fst
 kt:∀q∈K,q.2=true
 kn:(K.map Prod.fst).Nodup
theorem Aq.le{n:Nat}{Q:List nG}{V:List Cp}{K:List (dV × Bool)}(h:Aq n Q V K):Q.length<=n*4096:=by
 have:=Ge h.nd fun p hp=>by obtain⟨q,hq,rfl⟩:=Yp.1 hp;exact h.ok q hq
 rwa [Yc] at this
theorem Aq.iH{n:Nat}{Q:List nG}{V:List Cp}{K:List (dV × Bool)}(h:Aq n Q V K)(hn:n<=200):∀q∈K,Lc q.1:=fun q hq=>by
 have h1:=(h.ky q.1).1 (Yp.2 ⟨q,hq,rfl⟩);obtain⟨q2,h2,h3⟩:=Yp.1 h1;obtain⟨h4,h5,h6⟩:=h.ok q2 h2;rw[h3] at h4 h5 h6;exact⟨by omega,by omega,by omega⟩
theorem wT{α β:Type}[DecidableEq α](a:α)(b:β):∀(l:List (α × β)) (q:α × β),q∈cC l a b->q∈l\/q=(a,b)
 | [],q,h=>by simp[cC] at h;exact .inr h
 | (c,y)::r,q,h=>by
  rw[cC] at h;split at h
  .rename_i e;subst e;rcases Yr.1 h with h | h
   .exact .inr h
   .exact .inl (Yn _ h)
  .rcases Yr.1 h with h | h
   .exact .inl (by rw[h];simp)
   .rcases wT a b r q h with h | h
    .exact .inl (Yn _ h)
    .exact .inr h
theorem Aq.push{n:Nat}{Q:List nG}{V:List Cp}{K:List (dV × Bool)}(h:Aq n Q V K){hd:Nat}{q:nG}(hq:Q[hd]?=some q){nx:dV}{a:Ac}(ca:nx∉Q.map Prod.fst)(lR:nx.ok n):
  Aq n (Q++[(nx,q.2++[a])]) (V++[(nx,((hd:Int),a))]) (cC K nx true):=by
 have hl:=(Ya.1 hq).1;refine⟨by rw[Yh,Yh,h.vn];rfl,fun i v p hv hp=>?_,?_,fun p hp=>?_,fun i p hp=>?_,fun p=>?_,fun p hp=>?_,fv _ _ _ h.kn⟩
 .rcases Nat.lt_or_ge i Q.length with h1 | h1
  .rw[jw (by rw[h.vn];exact h1)] at hv;rw[jw h1] at hp;obtain⟨h2,h3⟩:=h.vq i v p hv hp;refine⟨h2,h3.imp_right fun ⟨a',qa,h4,h5,h6,h7⟩=>⟨a',qa,h4,h5,?_,h7⟩⟩;rw[jw (by omega)];exact h6
  .rw[tR (by rw[h.vn];exact h1),h.vn] at hv;rw[tR h1] at hp;have h2:=(Ya.1 hp).1;rw[Yv] at h2;have h3:i-Q.length=0:=by omega
   rw[h3] at hv hp;cases hv;cases hp;exact⟨rfl,.inr ⟨hd,q,rfl,by omega,by rw[jw hl];exact hq,rfl⟩⟩
 .rw[Ym,List.nodup_append];exact⟨h.nd,by simp,fun x hx y hy e=>by simp only[gG,List.map_nil,Ye] at hy;subst hy;subst e;exact ca hx⟩
 .rcases Yk.1 hp with hp | hp
  .exact h.ok p hp
  .rw[Ye] at hp;rw[hp];exact lR
 .rcases Nat.lt_or_ge i Q.length with h1 | h1
  .rw[jw h1] at hp;exact h.pl i p hp
  .rw[tR h1] at hp;have h2:=(Ya.1 hp).1;rw[Yv] at h2;have h3:i-Q.length=0:=by omega
   rw[h3] at hp;cases hp;have:=h.pl hd q hq;simp only[Yh,Yv];omega
 .rw[fg,h.ky,Ym,Yk];simp
 .rcases wT nx true K p hp with h1 | h1
  .exact h.kt p h1
  .rw[h1]
theorem Aq.look{n:Nat}{Q:List nG}{V:List Cp}{K:List (dV × Bool)}(h:Aq n Q V K)(p:dV):(aU K p).elim (Value.bool false) Value.bool=.bool (decide (p∈Q.map Prod.fst)):=by
 cases hm:aU K p with
 | none=>
  rw[decide_eq_false fun hp=>?_];rfl;have:=(cY p K).2 ((h.ky p).2 hp);rw[hm] at this;cases this
 | some b=>
  have h1:=(cY p K).1 (by rw[hm];rfl);obtain⟨q,hq,rfl⟩:=Yp.1 h1;obtain⟨j,hj⟩:=Yf.1 hq;have h2:=fh h.kn (a:=q.1) (y:=q.2) hj;rw[hm] at h2;cases h2;rw[decide_eq_true ((h.ky _).1 h1),h.kt q hq];rfl
theorem AP{g:Gl}(hV:af g){p:dV}(hp:p.ok g.n.toNat){x:Ed}(hx:x∈g.es)(role:Int):(ec role p x).1.ok g.n.toNat:=by
 have h1:=hV.num.e x hx;have h2:=hV.Nb.n6;unfold gU at h1;obtain⟨h3,h4,h5⟩:=hp;unfold ec;split
 .exact⟨by simp only;omega,or6 h4 (by omega),h5⟩
 .split
  .exact⟨by simp only;omega,h4,or6 h5 (by omega)⟩
  .exact⟨by simp only;omega,h4,h5⟩
def di(q:FS):It:=nest 65 3 Ac.cs (q.2,q.1.path)
def fo(gb ob mb:Nat)(g:Gl)(qu al:Sl)(V:List Cp)(K:List (dV × Bool))(F:List FS)(MS:List (Sl × List Ed)):List It:=
 .sl qu 248 7 (V.map vC) :: .sl al 134 3 (F.map dw) :: .mp mb (K.map fun q=>(q.1.v,Value.bool q.2)) :: .ae ob ((MS.map Prod.fst).map eO) 24 :: .ae gb g.cs 27::(MS.map (nest 67 6 Ed.cs)++F.map di)
end Go.VC
end

section
namespace Go.VC
open Go.Proofs Go.LexS
theorem FY{gb ob mb:Nat}{g:Gl}{qu al:Sl}{V:List Cp}{K:List (dV × Bool)}{F:List FS}{MS:List (Sl × List Ed)}(f:FS):(fo gb ob mb g qu al V K (F++[f]) MS).Perm (di f :: .sl qu 248 7 (V.map vC) :: .sl al 134 3 ((F++[f]).map dw) :: .mp mb (K.map fun q=>(q.1.v,Value.bool q.2)) :: .ae ob ((MS.map Prod.fst).map eO) 24 :: .ae gb g.cs 27::(MS.map (nest 67 6 Ed.cs)++F.map di)):=by
 unfold fo;rw[Ym (f:=di),<-Yz];refine List.Perm.trans (List.Perm.of_eq ?_) (List.perm_append_comm (l₁:=.sl qu 248 7 (V.map vC) :: .sl al 134 3 ((F++[f]).map dw) :: .mp mb (K.map fun q=>(q.1.v,Value.bool q.2)) :: .ae ob ((MS.map Prod.fst).map eO) 24 :: .ae gb g.cs 27::(MS.map (nest 67 6 Ed.cs)++F.map di)) (l₂:=[di f]));simp
theorem KF{h0 Ek xu sA:Heap}{hd:Nat}{g:Gl}{gb ob mb:Nat}{qu al:Sl}{V:List Cp}{K:List (dV × Bool)}{F:List FS}{MS:List (Sl × List Ed)}{R:List It}{Q:List nG}{q:nG}{x:Ac}{m:Ms}{n:Nat}{J:Sl->Heap->Prop}
  (hs:St h0 xu (.sl ⟨some ⟨Ek.size,0,none⟩,1,1⟩ 65 3 ([x].map Ac.cs) :: .ae sA.size m.cs 72::(R++fo gb ob mb g qu al V K F MS))) (hQ:Aq n Q V K) (hn:n<=200) (hq:Q[hd]?=some q) (hF:F.length<=16777216)
  (hJ:∀(Fq r:Sl) (h':Heap),St h0 h' (R++fo gb ob mb g qu Fq V K (F++[(⟨m,q.2++[x]⟩,r)]) MS)->J Fq h') :
  RO Ek (hd:Nat) xu qu sA al J:=by
 unfold RO;have hle:=hQ.le;have BK:n*4096<=200*4096:=Nat.mul_le_mul_right _ hn;refine⟨fun path y h' μ=>∃(i:Nat) (qi:nG) (M6:List Ac),y=i/\μ=i/\Q[i]?=some qi/\q.2=qi.2++M6/\St h0 h' (.sl path 65 3 ((x::M6.reverse).map Ac.cs) :: .ae sA.size m.cs 72::(R++fo gb ob mb g qu al V K F MS)),⟨_,hd,q,[],rfl,rfl,hq,by simp,hs⟩,?_⟩;clear hs;rintro-path _ h150 i ⟨_,qi,M6,rfl,rfl,V4,Sz,hs⟩;have n4:=(Ya.1 V4).1;have dz:=hQ.pl hd q hq;have BR:=(Ya.1 hq).1;have nX:M6.length<=q.2.length:=by rw[Sz,Yh];omega
 have xq:=hs.len 0 (s:=path) (e:=65) (n:=3) (rows:=(x::M6.reverse).map Ac.cs) rfl (by omega);rw[Yc,j8,List.length_reverse] at xq;have eH:∀ {it:It},it∈fo gb ob mb g qu al V K F MS->it∈(.sl path 65 3 ((x::M6.reverse).map Ac.cs) :: .ae sA.size m.cs 72::(R++fo gb ob mb g qu al V K F MS)):=fun h=>Yn _ (Yn _ (List.mem_append_right _ h));have hqr:Rw h150 7 qu (V.map vC):=hs.nO (e:=248) (eH (by unfold fo;simp)) (by omega);have nt:=hqr.ln;have Lk:=hQ.vn;obtain⟨v,hv⟩:=get_some (l:=V) (i:=i) (by omega);obtain⟨h1,h2⟩:=hQ.vq i v qi hv V4;refine hqr.aD (by omega) (by omega) fun aeL ace v' gv t=>?_;replace gv:V[i]?=some v':=gv;rw[hv] at gv;cases gv;refine⟨v.2.1,t.nth 3 rfl,aM (fun c=>?_) (fun c=>?_)⟩
 .obtain⟨a,qa,h3,h4,h5,h6⟩:∃(a:Nat) (qa:nG),v.2.1=a/\a<i/\Q[a]?=some qa/\qi.2=qa.2++[v.2.2]:=by
   rcases h2 with ⟨h2,_⟩ | h2
   .omega
   .exact h2
  refine hqr.aD (by omega) (by omega) fun ahQ afU v' gv t2=>?_;replace gv:V[i]?=some v':=gv;rw[hv] at gv;cases gv;refine⟨v.2.2.a,v.2.2.b,v.2.2.l,t2.sub 4 3 rfl,?_⟩;refine hs.app 0 rfl eJ (m:=1) [v.2.2.cs] rfl rfl (fun r hr=>by rw[Ye] at hr;rw[hr];rfl) rfl (by omega) (by simp only[maxLen];omega) fun afE Qa n160 hs=>?_;have acr:Rw Qa 7 qu (V.map vC):=hs.nO (e:=248) (Yn _ (Yn _ (List.mem_append_right _ (by unfold fo;simp)))) (by omega);refine acr.aD (by omega) (by omega) fun ahO afS v' gv t3=>?_;replace gv:V[i]?=some v':=gv;rw[hv] at gv;cases gv;refine⟨v.2.1,t3.nth 3 rfl,a,h4,a,qa,v.2.2::M6,h3,rfl,h5,by rw[Sz,h6,Yz];rfl,?_⟩;rw[List.reverse_cons,<-List.cons_append,Ym];exact hs
 .have acB:qi.2=[]:=by
   rcases h2 with ⟨_,h2⟩ | ⟨a,_,h3,_⟩
   .exact h2
   .omega
  rw[acB,List.nil_append] at Sz;refine (yN hs 0 rfl (by rw[j8,List.length_reverse];omega)).mono ?_;rintro _ P9 ⟨rfl,hs⟩;have er:(x::M6.reverse).reverse=q.2++[x]:=by rw[List.reverse_cons,List.reverse_reverse,Sz]
  rw[er] at hs;refine⟨rfl,m.p,m.l,hs.at 1 rfl (o:=0) (n:=2) rfl,?_⟩;refine hs.au fun LM aia hs=>?_;have hs:St h0 LM (.sl al 134 3 (F.map dw) :: .ae P9.size (dw ((⟨m,q.2++[x]⟩:rH),path)) 134 :: .sl path 65 3 ((q.2++[x]).map Ac.cs) :: .ae sA.size m.cs 72::(R++(.sl qu 248 7 (V.map vC) :: .mp mb (K.map fun q=>(q.1.v,Value.bool q.2)) :: .ae ob ((MS.map Prod.fst).map eO) 24 :: .ae gb g.cs 27::(MS.map (nest 67 6 Ed.cs)++F.map di)))):=by
   refine hs.perm ?_;refine List.Perm.trans (List.Perm.of_eq ?_) (List.Perm.trans (List.perm_middle (l₁:=.ae P9.size (dw ((⟨m,q.2++[x]⟩:rH),path)) 134 :: .sl path 65 3 ((q.2++[x]).map Ac.cs) :: .ae sA.size m.cs 72::(R++[.sl qu 248 7 (V.map vC)])) (a:=.sl al 134 3 (F.map dw)) (l₂:=.mp mb (K.map fun q=>(q.1.v,Value.bool q.2)) :: .ae ob ((MS.map Prod.fst).map eO) 24 :: .ae gb g.cs 27::(MS.map (nest 67 6 Ed.cs)++F.map di))) (List.Perm.of_eq ?_))
   .simp[fo,dw]
   .simp
  have WM:=hs.len 0 (s:=al) (e:=134) (n:=3) (rows:=F.map dw) rfl (by omega);rw[Yc] at WM;refine hs.appended 0 rfl Rh (news:=[dw ((⟨m,q.2++[x]⟩:rH),path)]) (hs.at 1 rfl (o:=0) (n:=3) rfl) rfl (fun r hr=>by rw[Ye] at hr;rw[hr];rfl) rfl (by show (al.n+1)*40<=140737488355328;omega) (by show al.n+1<=9223372036854775807;omega) fun Ow LL n171 hs=>?_;refine hJ Ow path LL ?_;have hs:St h0 LL (.sl Ow 134 3 ((F++[((⟨m,q.2++[x]⟩:rH),path)]).map dw)::di ((⟨m,q.2++[x]⟩:rH),path)::(R++(.sl qu 248 7 (V.map vC) :: .mp mb (K.map fun q=>(q.1.v,Value.bool q.2)) :: .ae ob ((MS.map Prod.fst).map eO) 24 :: .ae gb g.cs 27::(MS.map (nest 67 6 Ed.cs)++F.map di)))):=by
   rw[Ym];exact hs.sub (.cons_cons _ (.cons _ (.cons_cons _ (.cons _ (List.Sublist.refl _)))))
  refine hs.perm ?_;refine List.Perm.symm ((List.Perm.append_left R (FY _)).trans ?_);refine List.Perm.trans (List.Perm.of_eq ?_) (List.Perm.trans (List.perm_middle (l₁:=R++[di ((⟨m,q.2++[x]⟩:rH),path),.sl qu 248 7 (V.map vC)]) (a:=.sl Ow 134 3 ((F++[((⟨m,q.2++[x]⟩:rH),path)]).map dw)) (l₂:=.mp mb (K.map fun q=>(q.1.v,Value.bool q.2)) :: .ae ob ((MS.map Prod.fst).map eO) 24 :: .ae gb g.cs 27::(MS.map (nest 67 6 Ed.cs)++F.map di))) (List.Perm.cons _ ?_))
  .simp
  .refine List.Perm.trans (List.Perm.of_eq ?_) (List.perm_middle (l₁:=R) (a:=di ((⟨m,q.2++[x]⟩:rH),path)));simp
end Go.VC
end
