/- SxLe SxLf SxLg SxLh SxLj SxVcS5 SxLk SxLl SxVcS6 SxLm SxLn0 SxVcS7 SxLn SxLo SxLp SxLq0 SxVcS8. -/
import Derived.Test.YtajglkbckhgboaaGreatDoorCM05
import Derived.Lib.AppendZerosOnto
set_option linter.all false
set_option maxRecDepth 100000
set_option maxHeartbeats 8000000

section
namespace Go.VC
open Go.Proofs Go.LexS
structure AnG (h:Heap) (b:Nat) (g:Gl) (role:Int) (ho:Sl) (os:Nat->Sl):Prop where
 at_:atC h ⟨b,0,none⟩ (g.cs++[.int .i64 role,.slice ho.a ho.n ho.c])
 gi:GI h g
 ro:Rw h 1 ho ((List.range g.n.toNat).map fun i=>slC (os i))
 rs:∀i,i<g.n.toNat->Rw h 1 (os i) ((natI (outG g.es (i:Nat))).map inC)
theorem AnG.ext {h h':Heap} {b:Nat} {g:Gl} {role:Int} {ho:Sl} {os:Nat->Sl} (hA:AnG h b g role ho os) (E:Ext h h'):AnG h' b g role ho os:=
 ⟨atC_ext E hA.at_,hA.gi.ext E,hA.ro.ext E,fun i hi=>(hA.rs i hi).ext E⟩
theorem CL.perm {es:List Ed} {role:Int} {n:Nat} {l:List Int} {D:List Bool} {T T':List Int} (h:CL es role n l D T) (hp:T.Perm T'):CL es role n l D T':=
 ⟨h.len,by rw[<-hp.length_eq];exact h.cnt,fun v=>hp.mem_iff.symm.trans (h.mem v),fun v hv=>h.r v (hp.mem_iff.2 hv)⟩
def evIx (es:List Ed) (role:Int) (k:Nat):Option Ev:=(es[k]?).bind (vis1 role)
theorem fm_range {α β:Type} (f:α->Option β) (es:List α):es.filterMap f=(List.range es.length).filterMap fun i=>(es[i]?).bind f:=by
 have key:∀n,n<=es.length->(es.take n).filterMap f=(List.range n).filterMap fun i=>(es[i]?).bind f:=by
  intro n
  induction n with
  | zero=>intro _;simp
  | succ n ih=>
   intro hn;have hx:=Yi (l:=es) (i:=n) (by omega);rw[List.range_succ,List.filterMap_append,<-ih (by omega),take_snoc hx,List.filterMap_append];congr 1;simp only[List.filterMap_cons,List.filterMap_nil,hx,Option.bind_some]
 have:=key es.length (Yyt _)
 rwa [Yye] at this
theorem fm_congr {α β:Type} {f g:α->Option β}:∀ {l:List α},(∀x∈l,f x=g x)->l.filterMap f=l.filterMap g
 | [],_=>rfl
 | a::l,h=>by rw[List.filterMap_cons,List.filterMap_cons,h a (by simp),fm_congr fun x hx=>h x (Yn _ hx)]
theorem visI (es:List Ed) (role:Int) (n:Nat):(outG es (n:Nat)).filterMap (evIx es role)=(visL es role n).map (·.x):=by
 unfold outG visL;rw[List.filterMap_filter,List.map_filterMap,fm_range _ es];refine fm_congr fun i hi=>?_;unfold outGP evIx;have hx:=Yi (l:=es) (i:=i) (by simpa using hi);rw[hx];simp only[Option.bind_some];by_cases h:(es[i]'(by simpa using hi)).f=(n:Int)
 .simp only[h,decide_true,if_true,Option.map_map];cases vis1 role _<;>rfl
 .simp only[h,decide_false,if_false,Bool.false_eq_true,Option.map_none]
def evP (es:List Ed) (role:Int) (v:Int):List Ev:=(visL es role v.toNat).map (·.x)
structure FI (g:Gl) (role s:Int) (D:List Bool) (P T:List Int) (E:List Ev):Prop where
 cl:CL g.es role g.n.toNat [s] D (P++T)
 nd:(P++T).Nodup
 q:∀v∈P,∀b∈quietL g.es role v.toNat,b∈P++T
 e:E=P.flatMap (evP g.es role)
 s:s∈P++T
structure FJ (g:Gl) (role s:Int) (v:Int) (j:Nat) (D:List Bool) (P T:List Int) (E:List Ev):Prop where
 cl:CL g.es role g.n.toNat [s] D (P++v::T)
 nd:(P++v::T).Nodup
 q:∀w∈P,∀b∈quietL g.es role w.toNat,b∈P++v::T
 qj:∀k∈(outG g.es v).take j,∀x,g.es[k]?=some x->vis1 role x=none->x.t∈P++v::T
 e:E=P.flatMap (evP g.es role)++((outG g.es v).take j).filterMap (evIx g.es role)
 s:s∈P++v::T
theorem FI.pop {g:Gl} {role s v:Int} {D:List Bool} {P T:List Int} {E:List Ev} (h:FI g role s D P (T++[v]) E):FJ g role s v 0 D P T E:=by
 have hp:(P++(T++[v])).Perm (P++v::T):=List.Perm.append_left P List.perm_append_comm;exact⟨h.cl.perm hp,hp.nodup_iff.1 h.nd,fun w hw b hb=>hp.mem_iff.1 (h.q w hw b hb),fun k hk=>by simp at hk,by rw[h.e];simp,hp.mem_iff.1 h.s⟩
theorem FJ.fin {g:Gl} {role s v:Int} {D:List Bool} {P T:List Int} {E:List Ev} {j:Nat} (h:FJ g role s v j D P T E) (h0:0<=v) (hj:(outG g.es v).length<=j):FI g role s D (P++[v]) T E:=by
 have hp:P++v::T=P++[v]++T:=by simp
 obtain⟨n,rfl⟩:∃n:Nat,v=n:=⟨v.toNat,by omega⟩;refine⟨hp ▸ h.cl,hp ▸ h.nd,fun w hw b hb=>?_,?_,hp ▸ h.s⟩
 .rw[<-hp];rcases Yk.1 hw with hw | hw
  .exact h.q w hw b hb
  .rw[Ye] at hw;subst hw;obtain⟨x,hx,hv,hf,rfl⟩:=quietL_mem.1 hb;obtain⟨k,hk⟩:=Yf.1 hx;exact h.qj k (by rw[Yj hj];exact outG_mem.2 ⟨x,hk,by omega⟩) x hk hv
 .rw[h.e,Yj hj,visI,List.flatMap_append];unfold evP;simp
theorem FJ.vis {g:Gl} {role s v:Int} {D:List Bool} {P T:List Int} {E:List Ev} {j k:Nat} {x:Ed} {e:Ev} (h:FJ g role s v j D P T E) (hk:(outG g.es v)[j]?=some k) (hx:g.es[k]?=some x) (hv:vis1 role x=some e):FJ g role s v (j+1) D P T (E++[e]):=by
 refine⟨h.cl,h.nd,h.q,fun i hi y hy hn=>?_,?_,h.s⟩
 .rw[take_snoc hk,Yk,Ye] at hi;rcases hi with hi | rfl
  .exact h.qj i hi y hy hn
  .rw[hx] at hy;cases hy;rw[hv] at hn;cases hn
 .rw[take_snoc hk,List.filterMap_append,<-Yz,<-h.e];simp[evIx,hx,hv]
theorem FJ.old {g:Gl} {role s v:Int} {D:List Bool} {P T:List Int} {E:List Ev} {j k:Nat} {x:Ed} (h:FJ g role s v j D P T E) (hk:(outG g.es v)[j]?=some k) (hx:g.es[k]?=some x) (hv:vis1 role x=none) (h0:0<=x.t) (hd:D[x.t.toNat]?=some true):FJ g role s v (j+1) D P T E:=by
 refine⟨h.cl,h.nd,h.q,fun i hi y hy hn=>?_,?_,h.s⟩
 .rw[take_snoc hk,Yk,Ye] at hi;rcases hi with hi | rfl
  .exact h.qj i hi y hy hn
  .rw[hx] at hy;cases hy;exact (h.cl.mem _).2 ⟨h0,hd⟩
 .rw[take_snoc hk,List.filterMap_append,<-Yz,<-h.e];simp[evIx,hx,hv]
theorem FJ.new {g:Gl} {role s v:Int} {D:List Bool} {P T:List Int} {E:List Ev} {j k:Nat} {x:Ed} (h:FJ g role s v j D P T E) (hk:(outG g.es v)[j]?=some k) (hx:g.es[k]?=some x) (hv:vis1 role x=none) (h0:0<=x.t) (hd:D[x.t.toNat]?=some false):FJ g role s v (j+1) (D.set x.t.toNat true) P (T++[x.t]) E:=by
 have hvm:Qr g.es role [s] v:=h.cl.r v (by simp);have hkm:=outG_mem.1 (Yb hk);obtain⟨x',hx',hf⟩:=hkm;rw[hx] at hx';cases hx';have hcl:=h.cl.push h0 hd (.step hvm ⟨x,Yb hx,hv,hf,rfl⟩);have hp:P++v::T++[x.t]=P++v::(T++[x.t]):=by simp
 rw[hp] at hcl;have hno:x.t∉P++v::T:=fun hm=>by have:=((h.cl.mem _).1 hm).2;rw[hd] at this;cases this
 refine⟨hcl,?_,fun w hw b hb=>?_,fun i hi y hy hn=>?_,?_,?_⟩
 .rw[<-hp,List.nodup_append];exact⟨h.nd,by simp,fun a ha c hc e=>by rw[Ye] at hc;subst hc;subst e;exact hno ha⟩
 .rw[<-hp];exact List.mem_append_left _ (h.q w hw b hb)
 .rw[<-hp];rw[take_snoc hk,Yk,Ye] at hi;rcases hi with hi | rfl
  .exact List.mem_append_left _ (h.qj i hi y hy hn)
  .rw[hx] at hy;cases hy;simp
 .rw[take_snoc hk,List.filterMap_append,<-Yz,<-h.e];simp[evIx,hx,hv]
 .rw[<-hp];exact List.mem_append_left _ h.s
theorem ev_total {es:List Ed} {role:Int} {P:List Int} (hP:P.Nodup) (h0:∀v∈P,0<=v):(P.flatMap (evP es role)).length<=es.length:=by
 have h1:=vis_total es role (P.map Int.toNat) (by
  rw[List.Nodup,List.pairwise_map];refine hP.imp_of_mem fun {a b} ha hb hab e=>hab ?_;have:=h0 a ha;have:=h0 b hb;omega)
 rw[List.flatMap_map] at h1;have h2:∀P:List Int,(P.flatMap (evP es role)).length=(P.flatMap fun v=>visL es role v.toNat).length:=by
  intro P
  induction P with
  | nil=>rfl
  | cons a P ih=>rw[List.flatMap_cons,List.flatMap_cons,Yh,Yh,ih];unfold evP;rw[Yc]
 rw[h2];exact h1
theorem FJ.len {g:Gl} {role s v:Int} {D:List Bool} {P T:List Int} {E:List Ev} {j:Nat} (h:FJ g role s v j D P T E):E.length<=2*g.es.length:=by
 rw[h.e,Yh];have h1:=ev_total (es:=g.es) (role:=role) (P:=P) (h.nd.sublist (List.sublist_append_left _ _)) fun v hv=>((h.cl.mem v).1 (by simp[hv])).1;have h2:(((outG g.es v).take j).filterMap (evIx g.es role)).length<=(outG g.es v).length:=Yys (List.length_filterMap_le _ _) (by rw[Yu];omega);have h3:=outG_len g.es v;omega
theorem FI.fin {g:Gl} {role s:Int} {D:List Bool} {P:List Int} {E:List Ev} (h:FI g role s D P [] E) (hV:ValidS g) (h0:0<=s) (h1:s<g.n):(∀v,v∈P ↔ Qr g.es role [s] v)/\sortE E=firstE g role s:=by
 have hc:=h.cl;rw[Yw] at hc;have hq:∀v,v∈P ↔ Qr g.es role [s] v:=hc.end_ (fun x hx=>by rw[Ye] at hx;subst hx;have:=h.s;rwa [Yw] at this) fun v hv b hb=>by have:=h.q v hv b hb;rwa [Yw] at this
 refine⟨hq,sorted_ext _ _ (sortE_sorted _) (sortE_sorted _) fun x=>?_⟩;unfold firstE evs;rw[sortE_mem,sortE_mem,h.e];unfold evL evP;rw[List.mem_flatMap,List.mem_flatMap];have hN:=hV.num.n;have hl:∀x∈[s],0<=x/\x<g.n:=fun x hx=>by rw[Ye] at hx;omega
 constructor
 .rintro⟨v,hv,hx⟩;have hb:=((hq v).1 hv).lt hV hl;refine⟨v.toNat,elems_mem.2 ⟨by omega,clo_iff.2 ?_⟩,hx⟩;rw[Int.toNat_of_nonneg hb.1];exact (hq v).1 hv
 .rintro⟨n,hn,hx⟩;exact⟨(n:Int),(hq _).2 (clo_iff.1 (elems_mem.1 hn).2),hx⟩
theorem app257:appB Pz 193 188 3 24=true:=by kernel_rfl
def fsL (fb ib:Nat) (td fs:Sl) (D:List Bool) (T:List Int) (E:List Ev) (bl:Bool) (R:List It):List It:=
 .sl td 3 1 (T.map inC) :: .blk fb [.slice fs.a fs.n fs.c,.bool bl] 195 :: .sl fs 188 3 (E.map Ev.cs) :: .blk ib (D.map Value.bool) 4::R
theorem firsts_in {b:Nat} {g:Gl} {role:Int} {ho:Sl} {os:Nat->Sl} {s v:Int} {h0 h16 h4 h1:Heap} {R:List It} {td fs:Sl} {bl:Bool} {D:List Bool} {P T:List Int} {E:List Ev} {m9:Nat} {I7:Sl->Heap->Nat->Prop}
  (hA:AnG h0 b g role ho os) (hV:ValidS g) (hv0:0<=v) (hv1:v<g.n) (htd:0<td.n) (htm:td.n<=4096)
  (hs:St h0 h16 (fsL h4.size h1.size ⟨subA td.a (Int.toNat 0) td.c 1,Int.toNat ((td.n-1:Nat):Int)-Int.toNat 0,td.c-Int.toNat 0⟩ fs D T E bl R)) (hJ:FJ g role s v 0 D P T E)
  (hfin:∀(td' fs':Sl) (D':List Bool) (T':List Int) (E':List Ev) (h':Heap),St h0 h' (fsL h4.size h1.size td' fs' D' T' E' bl R)->FJ g role s v (outG g.es v).length D' P T' E'->∃m,m<m9/\I7 td' h' m) :
  V107a h16 ⟨b,0,none⟩ v td h4 g.n h1 m9 I7:=by
 unfold V107a;have hE:=hV.num.e;have hN:=hV.num.n;have hM:=hV.num.m;rw[show IntKind.wrap .i64 ((td.n:Int)-1)=((td.n-1:Nat):Int) by rw[w64 (by omega) (by omega)];omega];have hvn:((v.toNat:Nat):Int)=v:=Int.toNat_of_nonneg hv0;refine⟨ho,(hA.ext hs.ext).at_.nth 9 rfl,?_⟩;refine (hA.ro.ext hs.ext).nbI (by omega) (by have:=hA.ro.ln;rw[Yyd] at this;omega) fun b18 o19 d gd t=>?_;obtain⟨rfl,_⟩:=rangeG gd;refine⟨os v.toNat,t.hd,?_⟩;have hrow:=hA.rs v.toNat (by omega);rw[hvn] at hrow;have hrn:=hrow.ln;rw[show (natI (outG g.es v)).length=(outG g.es v).length from Yc _] at hrn;have hol:=outG_len g.es v;refine⟨fun td' x h' m=>∃(j:Nat) (fs':Sl) (D':List Bool) (T':List Int) (E':List Ev),x=j/\m=(os v.toNat).n-j/\j<=(os v.toNat).n/\St h0 h' (fsL h4.size h1.size td' fs' D' T' E' bl R)/\FJ g role s v j D' P T' E',⟨_,0,fs,D,T,E,rfl,rfl,by omega,hs,hJ⟩,?_⟩;clear hs hJ;rintro-td' _ h26 m ⟨j,fs',D',T',E',rfl,rfl,hj,hs,hJ⟩;have hle:=hJ.cl.le;have hDl:=hJ.cl.len;have hEl:=hJ.len;have htl:=hs.len 0 (s:=td') (e:=3) (n:=1) (rows:=T'.map inC) rfl (by omega);have hfl:=hs.len 2 (s:=fs') (e:=188) (n:=3) (rows:=E'.map Ev.cs) rfl (by omega);rw[Yc] at htl hfl;rw[Yh,Yyj] at hle;refine sBi (fun c=>?_) (fun c=>?_)
 .refine (hrow.ext hs.ext).nbI (by omega) (by omega) fun b27 o28 d gd t=>?_;replace gd:(natI (outG g.es v))[j]?=some d:=gd;obtain⟨k,hk,rfl⟩:∃k:Nat,(outG g.es v)[j]?=some k/\d=(k:Int):=by
   unfold natI at gd;rw[Yd] at gd;obtain⟨k,hk,e⟩:=Yya.1 gd;exact⟨k,hk,e.symm⟩
  obtain⟨x0,hx0,hxf⟩:=outG_mem.1 (Yb hk);have hkl:=(Ya.1 hx0).1;refine⟨_,t.hd,g.he,(hA.ext hs.ext).at_.nth 6 rfl,?_⟩;have hen:=hA.gi.e.ln;refine (hA.gi.e.rw.ext hs.ext).nbI (by omega) (by omega) fun b31 o32 x gx t2=>?_;replace gx:g.es[k]?=some x:=gx;rw[hx0] at gx;cases gx;refine⟨x0.f,x0.a,x0.b,x0.l,x0.t,x0.ag,t2,?_⟩;have hxE:=hE x0 (Yb hx0);unfold EdS at hxE;refine hs.newput (vs:=x0.cs) rfl rfl fun h40 hs=>?_;refine⟨x0.f,x0.a,x0.b,x0.l,x0.t,x0.ag,hs.at 0 rfl (o:=0) (n:=6) rfl,?_⟩;refine (seenR160 ⟨b,0,none⟩ role x0 h40 ((hA.ext hs.ext).at_.nth 8 rfl)).mono ?_;rintro _ h52 ⟨E52,rfl⟩;replace hs:=hs.step E52;cases hvis:vis1 role x0 with
  | some e=>
   refine⟨e.send,e.peer,e.label,true,rfl,?_⟩;refine hs.newput (vs:=e.cs) rfl rfl fun h54 hs=>?_;refine sB_t rfl ?_;refine⟨fs',hs.rd 3 rfl (i:=0) rfl,e.send,e.peer,e.label,hs.at 0 rfl (o:=0) (n:=3) rfl,?_⟩;refine hs.app 4 rfl app257 (m:=1) [e.cs] rfl rfl (fun r hr=>by rw[Ye] at hr;rw[hr];rfl) rfl (by omega) (by simp only[maxLen];omega) fun s60 h61 n60 hs=>?_;refine hs.put 3 rfl (o:=0) (vs:=[.slice s60.a s60.n s60.c]) rfl (show 1<=2 by decide) fun h62 hs=>?_;refine⟨_,by omega,j+1,s60,D',T',E'++[e],by rw[w64 (by omega) (by omega)];omega,rfl,by omega,?_,hJ.vis hk hx0 hvis⟩;have hs:=hs.drop 2;unfold fsL;rw[Ym];exact hs
  | none=>
   refine⟨false,0,0,false,rfl,?_⟩;refine hs.newput (vs:=[.bool false,.int .i64 0,.int .i64 0]) rfl rfl fun h54 hs=>?_;refine sB_f rfl ?_;obtain⟨y,hy⟩:=get_some (l:=D') (i:=x0.t.toNat) (by omega);have e0:0+Int.toNat x0.t*1=x0.t.toNat:=by omega
   refine⟨x0.t,hs.rd 1 rfl (i:=4) rfl,⟨by omega,by omega⟩,?_⟩;rw[e0];refine⟨y,hs.rd 5 rfl (by rw[map_get,hy];rfl),?_⟩;refine sB_intro (fun c2=>?_) (fun c2=>?_)
   .have hyf:y=false:=bF c2;subst hyf;refine⟨x0.t,hs.rd 1 rfl (i:=4) rfl,⟨by omega,by omega⟩,?_⟩;rw[e0];refine hs.put 5 rfl (o:=x0.t.toNat) (vs:=[.bool true]) rfl (by rw[Yc,Yv];omega) fun h67 hs=>?_;refine⟨x0.t,hs.rd 1 rfl (i:=4) rfl,?_⟩;refine hs.app 2 rfl app42 (m:=1) [[.int .i64 x0.t]] rfl rfl (by simp) rfl (by omega) (by simp only[maxLen];omega) fun s70 h71 n70 hs=>?_;refine⟨_,by omega,j+1,fs',D'.set x0.t.toNat true,T'++[x0.t],E',by rw[w64 (by omega) (by omega)];omega,rfl,by omega,?_,hJ.new hk hx0 hvis (by omega) hy⟩;have hs:=hs.drop 2;unfold fsL;rw[Ym,<-map_splice _ (by omega)];exact hs
   .have hyt:y=true:=bT c2;subst hyt;refine⟨_,by omega,j+1,fs',D',T',E',by rw[w64 (by omega) (by omega)];omega,rfl,by omega,hs.drop 2,hJ.old hk hx0 hvis (by omega) hy⟩
 .refine hfin td' fs' D' T' E' h26 hs ?_;rw[show (outG g.es v).length=j by omega];exact hJ
theorem firstsR161 (b:Nat) (g:Gl) (role:Int) (ho:Sl) (os:Nat->Sl) (s:Nat) (h:Heap) (hA:AnG h b g role ho os) (hV:ValidS g) (hs1:(s:Int)<g.n) :
  Fn Pz 107 #[.pointer (some ⟨b,0,none⟩),.int .i64 (s:Nat)] h fun v h'=>∃r:Sl,v=.agg ⟨[.slice r.a r.n r.c,.bool (firstB g role s)]⟩/\St h h' [.sl r 188 3 ((firstE g role s).map Ev.cs)]:=by
 apply vc107 ⟨b,0,none⟩ (s:Nat);unfold W107;have hN:=hV.num.n;have hM:=hV.num.m;refine (St.refl h).newb fun h1 hs=>?_;refine⟨g.n,(hA.ext hs.ext).at_.nth 3 rfl,by omega,?_⟩;rw[made4];refine hs.newb fun h3 hs=>?_;have e0:0+Int.toNat ((s:Nat):Int)*1=s:=by omega
 refine⟨⟨by omega,by omega⟩,?_⟩;rw[e0];refine hs.put 0 rfl (o:=s) (vs:=[.bool true]) rfl (by rw[Yc,Yg,Yv];omega) fun h4 hs=>?_;refine hs.newb fun h5 hs=>?_;refine hs.newb fun h6 hs=>?_;have hsl:=hs.blkS 1 1 ([((s:Nat):Int)].map inC) rfl (inrows _) rfl (by decide);have hsl:=hsl.nil_ 188 3;have hcl:CL g.es role g.n.toNat [(s:Int)] ((List.replicate g.n.toNat false).set s true) ([]++[(s:Int)]):=
  (CL.start g.es role g.n.toNat [(s:Int)]).push (b:=(s:Int)) (by omega) (by rw[Ys,List.getElem?_replicate,if_pos (by omega)]) (.base (by simp))
 have hl:∀x∈[(s:Int)],0<=x/\x<g.n:=fun x hx=>by rw[Ye] at hx;omega
 refine⟨fun td h' m=>∃(fs:Sl) (D:List Bool) (P T:List Int) (E:List Ev),m=g.n.toNat-P.length/\St h h' (fsL h4.size h1.size td fs D T E (decide (g.e∈P)) [.blk h.size [.slice none 0 0,.bool false] 195])/\FI g role s D P T E,⟨_,⟨none,0,0⟩,(List.replicate g.n.toNat false).set s true,[],[(s:Int)],[],rfl,?_,⟨hcl,by simp,fun v hv=>(by cases hv),rfl,by simp⟩⟩,?_⟩
 .refine hsl.perm ?_;unfold fsL;rw[<-map_splice _ (by rw[Yg];omega)];exact (List.Perm.swap _ _ _).trans (List.Perm.cons _ (List.Perm.swap _ _ _))
 clear hs hsl hcl;rintro-td h11 m ⟨fs,D,P,T,E,rfl,hs,hI⟩;have hle:=hI.cl.le;rw[Yh] at hle;have htl:=hs.len 0 (s:=td) (e:=3) (n:=1) (rows:=T.map inC) rfl (by omega);rw[Yc] at htl;refine sBi (fun c=>?_) (fun c=>?_)
 .rw[show IntKind.wrap .i64 ((td.n:Int)-1)=((td.n-1:Nat):Int) by rw[w64 (by omega) (by omega)];omega];refine (hs.rows 0 rfl (by omega)).nbI (by omega) (by omega) fun b12 o13 v gv t=>?_;replace gv:T[td.n-1]?=some v:=gv;have hT:T=T.take (td.n-1)++[v]:=by rw[<-take_snoc gv,Yj (by omega)]
  refine⟨v,t.hd,⟨by omega,by omega,by omega⟩,?_⟩;have hJ:FJ g role s v 0 D P (T.take (td.n-1)) E:=by rw[hT] at hI;exact hI.pop
  have hvm:=(hJ.cl.mem v).1 (by simp);have hvl:v<g.n:=((hJ.cl.r v (by simp)).lt hV hl).2;refine⟨_,hs.rd 1 rfl (i:=1) rfl,?_⟩;have fin:∀(bl:Bool),bl=decide (g.e∈P++[v])->∀(td' fs':Sl) (D':List Bool) (T':List Int) (E':List Ev) (h':Heap),St h h' (fsL h4.size h1.size td' fs' D' T' E' bl [.blk h.size [.slice none 0 0,.bool false] 195])->FJ g role s v (outG g.es v).length D' P T' E' ->
    ∃m,m<g.n.toNat-P.length/\∃(fs:Sl) (D:List Bool) (P T:List Int) (E:List Ev),m=g.n.toNat-P.length/\St h h' (fsL h4.size h1.size td' fs D T E (decide (g.e∈P)) [.blk h.size [.slice none 0 0,.bool false] 195])/\FI g role s D P T E:=fun bl hbl td' fs' D' T' E' h' hs' hJ'=>by
   subst hbl;refine⟨_,?_,fs',D',P++[v],T',E',rfl,hs',hJ'.fin hvm.1 (Yyt _)⟩;rw[Yh,Yv];omega
  refine sB_intro (fun c2=>?_) (fun c2=>?_)
  .refine hs.put 1 rfl (o:=1) (vs:=[.bool true]) rfl (show 2<=2 by decide) fun h16 hs=>?_;refine firsts_in hA hV hvm.1 hvl (by omega) (by omega) (bl:=true) (fs:=fs) (D:=D) (P:=P) (T:=T.take (td.n-1)) (E:=E) ?_ hJ (fin true ?_)
   .have h9:=hs.cut 0 rfl (by omega) (td.n-1) (by omega);rw[<-List.map_take] at h9;rw[show subA td.a (Int.toNat 0) td.c 1=td.a from subA_zero _ _ _];exact h9
   .rw[decide_eq_true];exact List.mem_append_left _ (Yyn c2)
  .refine⟨g.e,(hA.ext hs.ext).at_.nth 5 rfl,?_⟩;refine hs.put 1 rfl (o:=1) (vs:=[.bool (v==g.e)]) rfl (show 2<=2 by decide) fun h16 hs=>?_;refine firsts_in hA hV hvm.1 hvl (by omega) (by omega) (bl:=v==g.e) (fs:=fs) (D:=D) (P:=P) (T:=T.take (td.n-1)) (E:=E) ?_ hJ (fin _ ?_)
   .have h9:=hs.cut 0 rfl (by omega) (td.n-1) (by omega);rw[<-List.map_take] at h9;rw[show subA td.a (Int.toNat 0) td.c 1=td.a from subA_zero _ _ _];exact h9
   .have h8:¬g.e∈P:=Yyo c2;rw[Bool.eq_iff_iff,decide_eq_true_eq,Yk,Ye,beq_iff_eq];exact⟨fun e=>.inr e.symm,fun h=>h.elim (fun h=>absurd h h8) Eq.symm⟩
 .have hT:T=[]:=List.length_eq_zero_iff.1 (by omega);subst hT;have hfl:=hs.len 2 (s:=fs) (e:=188) (n:=3) (rows:=E.map Ev.cs) rfl (by omega);have hEl:E.length<=g.es.length:=by
   rw[hI.e];exact ev_total (hI.nd.sublist (List.sublist_append_left _ _)) fun v hv=>((hI.cl.mem v).1 (by simp[hv])).1
  refine⟨fs,hs.rd 1 rfl (i:=0) rfl,?_⟩;refine (sort203 hs 2 rfl (by omega)).mono ?_;rintro _ h137 ⟨rfl,E',hp,hw,hs⟩;refine⟨rfl,fs,hs.rd 1 rfl (i:=0) rfl,?_⟩;refine (compact205 hs 2 rfl (by rw[hp.length_eq];omega)).mono ?_;rintro _ h141 ⟨r,rfl,hs⟩;refine⟨r,rfl,?_⟩;refine hs.put 1 rfl (o:=0) (vs:=[.slice r.a r.n r.c]) rfl (show 1<=2 by decide) fun h142 hs=>?_;refine⟨r,_,hs.at 1 rfl (o:=0) (n:=2) rfl,?_⟩;refine hs.put 4 rfl (o:=0) (vs:=[.slice r.a r.n r.c,.bool (decide (g.e∈P))]) rfl (show 2<=2 by decide) fun h145 hs=>?_;refine⟨r,_,hs.at 4 rfl (o:=0) (n:=2) rfl,r,?_,?_⟩
  .obtain⟨hq,_⟩:=hI.fin hV (by omega) hs1;have hb:decide (g.e∈P)=firstB g role s:=by
    unfold firstB;rw[Bool.eq_iff_iff,decide_eq_true_eq,clo_iff,hq,Int.toNat_of_nonneg (by omega)]
   rw[hb]
  .obtain⟨_,he⟩:=hI.fin hV (by omega) hs1;rw[compact_sortE hp hw,he] at hs;exact hs.sub (L':=[_]) (by
    refine List.Sublist.trans ?_ (List.drop_sublist 2 _);exact List.singleton_sublist.2 (by simp[fsL]))
end Go.VC
end

section
namespace Go.VC
open Go.Proofs Go.LexS Go.RowKit Go.Lib
theorem App_zeros {P:Program} {t u e:TypeId} {size bytes:Nat} {kn:IntKind} (hT:appB P t e size bytes=true) (hun:P.underlying u=some (.int kn)) {h:Heap} {n:Nat} {m:Int} (hm:m=n) (h0:0<n) (hbytes:n*bytes<=140737488355328) (h63:n<=maxLen)
  {K:Sl->Heap->Prop} (hK:∀(r:Sl) (h':Heap) (xs:List Value),r.n=n->Ext h h'->OwnS h' h.size e size r xs->K r h'):App P t u (.slice none 0 0) (.int .i64 m) h K:=by
 intro ty w hw;subst hw;subst hm;unfold appB at hT;simp only[Yt] at hT;obtain⟨⟨⟨⟨⟨⟨⟨hs,he⟩,ht⟩,hz⟩,hzl⟩,hsz⟩,hby⟩,hpos⟩:=hT;have hu:=sliceB_e hs;rw[beqT he] at hu;obtain⟨i,hi⟩:=isT_info ht;obtain⟨z,hz'⟩:=Option.isSome_iff_exists.1 hz;rw[hi] at hz';simp only[Option.bind_some] at hz';have e1:i.size=size:=by have:=beqT hsz;simpa [szOf,hi] using this
 have e2:i.bytes=bytes:=by have:=beqT hby;simpa [byOf,hi] using this
 have e3:z.cells.size=size:=by have:=beqT hzl;simpa [zeroC,hi,hz'] using this
 have hp:0<size:=by simpa using hpos
 have hmax:((0+n:Nat):Int)<=9223372036854775807:=by simp only[maxLen] at h63;omega
 have hr:=Lib.run_append_grow_zeros w t u ty e i z .i64 kn hu hun hi hz' none 0 0 [] (run_firstCells_none w.drew i.size 0 0 0) n h0 (by omega) (by omega) hmax
  (by rw[e2];omega) (growslice_fits (by omega) (by rw[Nat.zero_add,e2];exact hbytes))
 rw[Nat.zero_add] at hr;have hge:=grownCap_ge w n 0 e;have hle:=grownCap_le_maxLen w n 0 e h63;refine⟨_,_,hr,⟨⟨some ⟨w.heap.size,0,none⟩,n,grownCap w n 0 e⟩,rfl,hK _ _ _ rfl (Ext.push _ _) ⟨?_,.inr ⟨w.heap.size,_,rfl,Yyt _,Array.getElem?_push_size,hge,hle,?_,rfl⟩⟩⟩,rfl,rfl,rfl⟩
 .rw[Yu];have:(List.toArray ([]:List Value)++Builtin.zeroCells z.cells n++Builtin.zeroCells z.cells (grownCap w n 0 e-n)).toList.length=grownCap w n 0 e*size:=by
   simp only[Array.toList_append,Yh,zeroCells_len,e3];rw[List.length_nil,Nat.zero_add,<-Nat.add_mul];congr 1;omega
  rw[this];exact Nat.min_eq_left (Nat.mul_le_mul_right _ hge)
 .show (List.toArray ([]:List Value)++Builtin.zeroCells z.cells n++Builtin.zeroCells z.cells (grownCap w n 0 e-n)).toList.length=grownCap w n 0 e*size;simp only[Array.toList_append,Yh,zeroCells_len,e3];rw[List.length_nil,Nat.zero_add,<-Nat.add_mul];congr 1;omega
structure Pmv where
 x:Int
 y:Int
 s:Int
 t:Int
 deriving DecidableEq
def Pmv.cs (m:Pmv):List Value:=[.int .i64 m.x,.int .i64 m.y,.int .i64 m.s,.int .i64 m.t]
theorem pmrows (L:List Pmv):∀r∈L.map Pmv.cs,r.length=4:=fun r hr=>by obtain⟨x,_,rfl⟩:=Yp.1 hr;rfl
theorem app273:appB Pz 197 200 4 32=true:=by kernel_rfl
theorem und3:Pz.underlying 3=some (.int .i64):=by kernel_rfl
theorem grow250 (n:Nat) (h:Heap) (hn:n<=1048576):Fn Pz 232 #[.slice none 0 0,.int .i64 (n:Nat)] h fun v h'=>∃r:Sl,v=.slice r.a r.n r.c/\St h h' [.sl r 200 4 []]:=by
 apply vc232 ⟨none,0,0⟩ (n:Nat);unfold W232;refine⟨fun h'=>h'=h,sBi (fun c=>by omega) (fun _=>rfl),?_⟩;rintro-_ rfl;have e0:IntKind.wrap .i64 (((0:Nat):Int)-((0:Nat):Int))=0:=by rw[w64 (by omega) (by omega)];omega
 have e1:IntKind.wrap .i64 ((n:Int)-IntKind.wrap .i64 (((0:Nat):Int)-((0:Nat):Int)))=n:=by rw[e0,w64 (by omega) (by omega)];omega
 show sB (decide ((IntKind.wrap .i64 ((n:Int)-IntKind.wrap .i64 (((0:Nat):Int)-((0:Nat):Int))))>0)) _ _;refine sBi (fun c=>?_) (fun c=>⟨⟨none,0,0⟩,rfl,(St.refl _).nil_ 200 4⟩);rw[e1] at c;refine⟨⟨by omega,by show (0:Int)<=((0:Nat):Int);omega,by show ((0:Nat):Int)<=((0:Nat):Int);omega⟩,?_⟩;refine App_zeros app273 und3 (n:=n) e1 (by omega) (by omega) (by simp only[maxLen];omega) fun r h' xs hrn E ho=>?_;refine⟨⟨by omega,by show (0:Int)<=((0:Nat):Int);omega,by show ((0:Nat):Int)<=_;omega⟩,⟨subA r.a (Int.toNat 0) r.c 4,Int.toNat ((0:Nat):Int)-Int.toNat 0,r.c-Int.toNat 0⟩,rfl,?_⟩;have h0:(It.sl ⟨subA r.a (Int.toNat 0) r.c 4,Int.toNat ((0:Nat):Int)-Int.toNat 0,r.c-Int.toNat 0⟩ 200 4 []).ok h':=by
  rw[show subA r.a (Int.toNat 0) r.c 4=r.a from subA_zero _ _ _];refine⟨⟨rfl,?_⟩,fun r hr=>by cases hr⟩;rcases ho.2 with ⟨ha,hn0,hc0⟩ | ⟨g,cur,ha,_,hh,hnc,hcm,hcs,_⟩
  .exact .inl ⟨ha,rfl,hc0⟩
  .exact .inr ⟨g,cur,ha,Nat.zero_le _,hh,Nat.zero_le _,hcm,hcs,rfl⟩
 refine (St.refl _).more E h0 fun b hb=>?_;rw[show subA r.a (Int.toNat 0) r.c 4=r.a from subA_zero _ _ _] at hb;exact (own_at_zero ho hb).2.2
theorem sum_take {α:Type} {L:List (Sl × List α)} {i:Nat} {q:Sl × List α} (h:L[i]?=some q):((L.take (i+1)).map fun q=>q.2.length).sum=((L.take i).map fun q=>q.2.length).sum+q.2.length:=by
 rw[take_snoc h,Ym,List.sum_append];simp
theorem sum_take_le {α:Type} (L:List (Sl × List α)) (i:Nat):((L.take i).map fun q=>q.2.length).sum<=(L.map fun q=>q.2.length).sum:=by
 conv=>rhs;rw[<-List.take_append_drop i L,Ym,List.sum_append]
 omega
theorem concat211 (Ls:List (Sl × List Pmv)) (s:Sl) (h:Heap) (hr:Rw h 1 s (Ls.map fun q=>slC q.1)) (hL:∀q∈Ls,RL h 4 q.1 Pmv.cs q.2) (hn:Ls.length<=1048576) (hsm:(Ls.map fun q=>q.2.length).sum<=1048576) :
  Fn Pz 187 #[.slice s.a s.n s.c] h fun v h'=>∃r:Sl,v=.slice r.a r.n r.c/\St h h' [.sl r 200 4 ((Ls.flatMap Prod.snd).map Pmv.cs)]:=by
 apply vc187 s;unfold W187;have hsn:=hr.ln;refine⟨fun z x h' m=>∃i:Nat,x=i/\m=s.n-i/\i<=s.n/\h'=h/\z=(((Ls.take i).map fun q=>q.2.length).sum:Nat),⟨_,0,rfl,rfl,by omega,rfl,rfl⟩,?_⟩;rintro-_ _ h6 m ⟨i,rfl,rfl,hi,rfl,rfl⟩;refine sBi (fun c=>?_) (fun c=>?_)
 .refine hr.nbI (by omega) (by omega) fun b o q gq t=>?_;replace gq:Ls[i]?=some q:=gq;have hq:=hL q (Yb gq);have hqn:=hq.ln;have h1:=sum_take gq;have h2:=sum_take_le Ls (i+1);refine⟨q.1,t.hd,?_⟩;have e:IntKind.wrap .i64 (((((Ls.take i).map fun q=>q.2.length).sum:Nat):Int)+(q.1.n:Int))=(((Ls.take (i+1)).map fun q=>q.2.length).sum:Nat):=by rw[w64 (by omega) (by omega)];omega
  rw[e];refine sBi (fun c2=>by omega) (fun _=>⟨_,by omega,i+1,by rw[w64 (by omega) (by omega)];omega,rfl,by omega,rfl,rfl⟩)
 .have hfull:Ls.take i=Ls:=Yj (by omega);rw[hfull];refine (grow250 _ h6 hsm).mono ?_;rintro _ h13 ⟨r,rfl,hs⟩;refine⟨r,rfl,?_⟩;refine up_loopA (n:=s.n) hs (fun i rows=>rows=((Ls.take i).flatMap Prod.snd).map Pmv.cs) rfl ?_;clear hs;rintro-i2 ns h19 rows hi2 hs rfl;have hcap:=hs.len 0 (s:=ns) (e:=200) (n:=4) rfl (by omega);rw[Yc,List.length_flatMap] at hcap;refine sBi (fun c2=>?_) (fun c2=>?_)
  .refine (hr.ext hs.ext).nbI (by omega) (by omega) fun b o q gq t=>?_;replace gq:Ls[i2]?=some q:=gq;have hq:=hL q (Yb gq);have hqn:=hq.ln;have h1:=sum_take gq;have h2:=sum_take_le Ls (i2+1);refine⟨q.1,t.hd,?_⟩;refine hs.appRw 0 rfl app273 (hq.rw.ext hs.ext) (pmrows _) hq.nil (by
    rw[List.all_eq_true];intro v hv;obtain⟨r,hr,hv⟩:=List.mem_flatten.1 hv;obtain⟨x,_,rfl⟩:=Yp.1 hr;simp[Pmv.cs] at hv;rcases hv with rfl | rfl | rfl | rfl<;>rfl) (by omega) (by simp only[maxLen];omega) fun s23 h24 n23 hs=>?_
   refine UpA.next (by omega) (by omega) ⟨_,hs,?_⟩;rw[take_snoc gq,List.flatMap_append,Ym];simp
  .rw[Yj (by omega)] at hs;exact⟨ns,rfl,hs⟩
def eA (es:List Ed) (k:Nat):Ed:=es.getD k ⟨0,0,0,0,0,false⟩
theorem eA_get {es:List Ed} {k:Nat} {x:Ed} (h:es[k]?=some x):eA es k=x:=by unfold eA;rw[Yo,h];rfl
def qtB (es:List Ed) (role:Int) (k:Nat):Bool:=(vis1 role (eA es k)).isNone
def mqL (es:List Ed) (role:Int) (t:Nat) (l:List Nat):List Pmv:=(l.filter (qtB es role)).map fun i:Nat=>⟨(i:Int),-1,(eA es i).t,(t:Nat)⟩
def moL (es:List Ed) (role:Int) (s:Nat) (l:List Nat):List Pmv:=(l.filter (qtB es role)).map fun k:Nat=>⟨-1,(k:Int),(s:Nat),(eA es k).t⟩
def mb1 (es:List Ed) (role:Int) (i:Nat) (l:List Nat):List Pmv:=match vis1 role (eA es i) with
 | none=>[]
 | some a=>(l.filter fun k=>decide (vis1 role (eA es k)=some a)).map fun k:Nat=>⟨(i:Int),(k:Int),(eA es i).t,(eA es k).t⟩
def mbL (es:List Ed) (role:Int) (l m:List Nat):List Pmv:=l.flatMap fun i=>mb1 es role i m
def movL (es:List Ed) (role:Int) (s t:Nat):List Pmv:=mqL es role t (outG es (s:Nat))++moL es role s (outG es (t:Nat))++mbL es role (outG es (s:Nat)) (outG es (t:Nat))
theorem mqL_len {es:List Ed} {role:Int} {t:Nat} {l:List Nat}:(mqL es role t l).length<=l.length:=by unfold mqL;rw[Yc];exact List.length_filter_le _ _
theorem moL_len {es:List Ed} {role:Int} {t:Nat} {l:List Nat}:(moL es role t l).length<=l.length:=by unfold moL;rw[Yc];exact List.length_filter_le _ _
theorem mb1_len {es:List Ed} {role:Int} {i:Nat} {l:List Nat}:(mb1 es role i l).length<=l.length:=by
 unfold mb1;split
 .exact Nat.zero_le _
 .rw[Yc];exact List.length_filter_le _ _
theorem mbL_len {es:List Ed} {role:Int}:∀ {l m:List Nat},(mbL es role l m).length<=l.length*m.length
 | [],m=>by simp[mbL]
 | a::l,m=>by
  have h1:=mbL_len (es:=es) (role:=role) (l:=l) (m:=m);have h2:=mb1_len (es:=es) (role:=role) (i:=a) (l:=m);unfold mbL at h1 ⊢;rw[List.flatMap_cons,Yh,Yyj,Nat.succ_mul];omega
theorem vis_none {role:Int} {x:Ed}:vis1 role x=none ↔ x.a≠role/\x.b≠role:=by
 unfold vis1;by_cases h1:role=x.a
 .rw[if_pos h1];simp[h1.symm]
 .rw[if_neg h1];by_cases h2:role=x.b
  .rw[if_pos h2];simp[h2.symm]
  .rw[if_neg h2];simp;exact⟨fun e=>h1 e.symm,fun e=>h2 e.symm⟩
theorem RL.ofSt {α:Type} {h0 h:Heap} {L:List It} (hs:St h0 h L) (k:Nat) {s:Sl} {e:TypeId} {n:Nat} {cs:α->List Value} {l:List α} (hk:L[k]?=some (.sl s e n (l.map cs))) (hn:0<n) (hm:l.length<=1048576):RL h n s cs l:=
 ⟨hs.rw k hk hn,(hs.len k hk hn).2.1,(hs.len k hk hn).2.2,hm⟩
end Go.VC
end

section
namespace Go.VC
open Go.Proofs Go.LexS
theorem mqL_snoc {es:List Ed} {role:Int} {t:Nat} {l:List Nat} {j k:Nat} (hk:l[j]?=some k):mqL es role t (l.take (j+1))=mqL es role t (l.take j)++(if qtB es role k then [⟨(k:Int),-1,(eA es k).t,(t:Nat)⟩] else []):=by
 unfold mqL;rw[take_snoc hk,List.filter_append,Ym];congr 1;by_cases h:qtB es role k=true
 .rw[if_pos h,List.filter_cons_of_pos h];rfl
 .rw[if_neg h,List.filter_cons_of_neg h];rfl
theorem moL_snoc {es:List Ed} {role:Int} {t:Nat} {l:List Nat} {j k:Nat} (hk:l[j]?=some k):moL es role t (l.take (j+1))=moL es role t (l.take j)++(if qtB es role k then [⟨-1,(k:Int),(t:Nat),(eA es k).t⟩] else []):=by
 unfold moL;rw[take_snoc hk,List.filter_append,Ym];congr 1;by_cases h:qtB es role k=true
 .rw[if_pos h,List.filter_cons_of_pos h];rfl
 .rw[if_neg h,List.filter_cons_of_neg h];rfl
theorem mb1_snoc {es:List Ed} {role:Int} {i:Nat} {l:List Nat} {j k:Nat} {a:Ev} (ha:vis1 role (eA es i)=some a) (hk:l[j]?=some k):mb1 es role i (l.take (j+1))=mb1 es role i (l.take j)++(if vis1 role (eA es k)=some a then [⟨(i:Int),(k:Int),(eA es i).t,(eA es k).t⟩] else []):=by
 unfold mb1;rw[ha];simp only;rw[take_snoc hk,List.filter_append,Ym];congr 1;by_cases h:vis1 role (eA es k)=some a
 .rw[if_pos h,List.filter_cons_of_pos (by rw[decide_eq_true h])];rfl
 .rw[if_neg h,List.filter_cons_of_neg (by rw[decide_eq_false h];decide)];rfl
theorem mbL_snoc {es:List Ed} {role:Int} {l m:List Nat} {j k:Nat} (hk:l[j]?=some k):mbL es role (l.take (j+1)) m=mbL es role (l.take j) m++mb1 es role k m:=by
 unfold mbL;rw[take_snoc hk,List.flatMap_append,List.flatMap_singleton]
theorem mb1_none {es:List Ed} {role:Int} {i:Nat} {l:List Nat} (ha:vis1 role (eA es i)=none):mb1 es role i l=[]:=by unfold mb1;rw[ha]
def mvB (h:Heap) (q bo:Sl) (Q B:List Pmv) (s t:Nat):List It:=[.sl q 200 4 (Q.map Pmv.cs),.sl bo 200 4 (B.map Pmv.cs),.blk h.size [.int .i64 (s:Nat),.int .i64 (t:Nat)] 97]
theorem movesR164 (b:Nat) (g:Gl) (role:Int) (ho:Sl) (os:Nat->Sl) (s t:Nat) (h:Heap) (hA:AnG h b g role ho os) (hV:ValidS g) (hs1:(s:Int)<g.n) (ht1:(t:Int)<g.n) :
  Fn Pz 108 #[.pointer (some ⟨b,0,none⟩),.agg ⟨[.int .i64 (s:Nat),.int .i64 (t:Nat)]⟩] h fun v h'=>∃r:Sl,v=.slice r.a r.n r.c/\St h h' [.sl r 200 4 ((movL g.es role s t).map Pmv.cs)]:=by
 apply vc108 ⟨b,0,none⟩ (s:Nat) (t:Nat);unfold W108;have hN:=hV.num.n;have hM:=hV.num.m;have hon:=hA.ro.ln;rw[Yyd] at hon;have hen:=hA.gi.e.ln;have hso:=outG_len g.es (s:Nat);have hto:=outG_len g.es (t:Nat);have rs:=hA.rs s (by omega);have rt:=hA.rs t (by omega);have rsn:(os s).n=(outG g.es (s:Nat)).length:=by rw[rs.ln];exact Yc _
 have rtn:(os t).n=(outG g.es (t:Nat)).length:=by rw[rt.ln];exact Yc _
 refine (St.refl h).newb fun h3 hs=>?_;refine⟨ho,(hA.ext hs.ext).at_.nth 9 rfl,(s:Nat),hs.rd 0 rfl (i:=0) rfl,?_⟩;refine (hA.ro.ext hs.ext).nbI (by omega) (by omega) fun b6 o7 d gd u=>?_;obtain rfl:s=d:=(rangeG gd).1;refine⟨os s,u.hd,?_⟩;have hs:=(hs.nil_ 200 4).nil_ 200 4;refine⟨fun q bo x h' m=>∃j:Nat,x=j/\m=(os s).n-j/\j<=(os s).n/\St h h' (mvB h q bo (mqL g.es role t ((outG g.es (s:Nat)).take j)) (mbL g.es role ((outG g.es (s:Nat)).take j) (outG g.es (t:Nat))) s t),⟨_,0,rfl,rfl,by omega,hs⟩,?_⟩;clear hs;rintro-q bo _ h15 m ⟨j,rfl,rfl,hj,hs⟩;have hql:=(hs.len 0 (s:=q) (e:=200) (n:=4) rfl (by omega)).1;have hbl:=(hs.len 1 (s:=bo) (e:=200) (n:=4) rfl (by omega)).1;rw[Yc] at hql hbl;have hq1:=mqL_len (es:=g.es) (role:=role) (t:=t) (l:=(outG g.es (s:Nat)).take j);have hb1:=mbL_len (es:=g.es) (role:=role) (l:=(outG g.es (s:Nat)).take j) (m:=outG g.es (t:Nat));have hb2:((outG g.es (s:Nat)).take j).length*(outG g.es (t:Nat)).length<=400*400:=Nat.mul_le_mul (by rw[Yu];omega) (by omega);rw[Yu] at hq1;refine sBi (fun c=>?_) (fun c=>?_)
 .refine (rs.ext hs.ext).nbI (by omega) (by omega) fun b16 o17 d gd u=>?_;obtain⟨k,hk,rfl⟩:=natI_get gd;replace hk:(outG g.es (s:Nat))[j]?=some k:=hk;obtain⟨x0,hx0,hxf⟩:=outG_mem.1 (Yb hk);have hkl:=(Ya.1 hx0).1;have hxe:=eA_get hx0;refine⟨_,u.hd,g.he,(hA.ext hs.ext).at_.nth 6 rfl,?_⟩;refine (hA.gi.e.rw.ext hs.ext).nbI (by omega) (by omega) fun b20 o21 x gx u2=>?_;replace gx:g.es[k]?=some x:=gx;rw[hx0] at gx;cases gx;refine⟨x0.f,x0.a,x0.b,x0.l,x0.t,x0.ag,u2,?_⟩;refine hs.newput (vs:=x0.cs) rfl rfl fun h29 hs=>?_;refine⟨x0.f,x0.a,x0.b,x0.l,x0.t,x0.ag,hs.at 0 rfl (o:=0) (n:=6) rfl,?_⟩;refine (seenR160 ⟨b,0,none⟩ role x0 h29 ((hA.ext hs.ext).at_.nth 8 rfl)).mono ?_;rintro _ h41 ⟨E41,rfl⟩;replace hs:=hs.step E41;cases hvis:vis1 role x0 with
  | none=>
   refine⟨false,0,0,false,rfl,?_⟩;refine hs.newput (vs:=[.bool false,.int .i64 0,.int .i64 0]) rfl rfl fun h43 hs=>?_;refine sB_t rfl ?_;refine⟨x0.t,hs.rd 1 rfl (i:=4) rfl,(t:Nat),hs.rd 4 rfl (i:=1) rfl,?_⟩;refine hs.app 2 rfl app273 (m:=1) [Pmv.cs ⟨(k:Int),-1,x0.t,(t:Nat)⟩] rfl rfl (fun r hr=>by rw[Ye] at hr;rw[hr];rfl) rfl (by omega) (by simp only[maxLen];omega) fun s47 h48 n47 hs=>?_;refine⟨_,by omega,j+1,by rw[w64 (by omega) (by omega)];omega,rfl,by omega,?_⟩;have hs:=hs.drop 2;rw[mqL_snoc hk,mbL_snoc hk,mb1_none (by rw[hxe];exact hvis),Yw,if_pos (by unfold qtB;rw[hxe,hvis];rfl),hxe];unfold mvB;rw[Ym];exact hs
  | some e=>
   refine⟨e.send,e.peer,e.label,true,rfl,?_⟩;refine hs.newput (vs:=e.cs) rfl rfl fun h43 hs=>?_;refine sB_f rfl ?_;refine⟨ho,(hA.ext hs.ext).at_.nth 9 rfl,(t:Nat),hs.rd 4 rfl (i:=1) rfl,?_⟩;refine (hA.ro.ext hs.ext).nbI (by omega) (by omega) fun b52 o53 d gd u3=>?_;obtain rfl:t=d:=(rangeG gd).1;refine⟨os t,u3.hd,?_⟩;have hq2:mqL g.es role t ((outG g.es (s:Nat)).take (j+1))=mqL g.es role t ((outG g.es (s:Nat)).take j):=by
    rw[mqL_snoc hk,if_neg (by unfold qtB;rw[hxe,hvis];exact fun h9=>by cases h9),Yw]
   refine⟨fun bo x h' m=>∃j2:Nat,x=j2/\m=(os t).n-j2/\j2<=(os t).n/\St h h' (.blk h41.size e.cs 188 :: .blk h15.size x0.cs 67::mvB h q bo (mqL g.es role t ((outG g.es (s:Nat)).take j)) (mbL g.es role ((outG g.es (s:Nat)).take j) (outG g.es (t:Nat))++mb1 g.es role k ((outG g.es (t:Nat)).take j2)) s t),⟨_,0,rfl,rfl,by omega,?_⟩,?_⟩
   .have:mb1 g.es role k ((outG g.es (t:Nat)).take 0)=[]:=List.length_eq_zero_iff.1 (by have:=mb1_len (es:=g.es) (role:=role) (i:=k) (l:=(outG g.es (t:Nat)).take 0);rw[Yyk,List.length_nil] at this;rw[Yyk];omega);rw[this,Yw];exact hs
   clear hs;rintro-bo2 _ h60 m ⟨j2,rfl,rfl,hj2,hs⟩;have hbl2:=(hs.len 3 (s:=bo2) (e:=200) (n:=4) rfl (by omega)).1;rw[Yc,Yh] at hbl2;have hb3:=mb1_len (es:=g.es) (role:=role) (i:=k) (l:=(outG g.es (t:Nat)).take j2);rw[Yu] at hb3;refine sBi (fun c2=>?_) (fun c2=>?_)
   .refine (rt.ext hs.ext).nbI (by omega) (by omega) fun b61 o62 d gd u4=>?_;obtain⟨k2,hk2,rfl⟩:=natI_get gd;replace hk2:(outG g.es (t:Nat))[j2]?=some k2:=hk2;obtain⟨x2,hx2,hxf2⟩:=outG_mem.1 (Yb hk2);have hkl2:=(Ya.1 hx2).1;have hxe2:=eA_get hx2;refine⟨_,u4.hd,g.he,(hA.ext hs.ext).at_.nth 6 rfl,?_⟩;refine (hA.gi.e.rw.ext hs.ext).nbI (by omega) (by omega) fun b65 o66 x gx u5=>?_;replace gx:g.es[k2]?=some x:=gx;rw[hx2] at gx;cases gx;refine⟨x2.f,x2.a,x2.b,x2.l,x2.t,x2.ag,u5,?_⟩;refine hs.newput (vs:=x2.cs) rfl rfl fun h74 hs=>?_;refine⟨x2.f,x2.a,x2.b,x2.l,x2.t,x2.ag,hs.at 0 rfl (o:=0) (n:=6) rfl,?_⟩;refine (seenR160 ⟨b,0,none⟩ role x2 h74 ((hA.ext hs.ext).at_.nth 8 rfl)).mono ?_;rintro _ h86 ⟨E86,rfl⟩;replace hs:=hs.step E86;have hvk:vis1 role (eA g.es k)=some e:=by rw[hxe];exact hvis
    have skip:∀ {hZ:Heap},vis1 role (eA g.es k2)≠some e->St h hZ (.blk h41.size e.cs 188 :: .blk h15.size x0.cs 67::mvB h q bo2 (mqL g.es role t ((outG g.es (s:Nat)).take j)) (mbL g.es role ((outG g.es (s:Nat)).take j) (outG g.es (t:Nat))++mb1 g.es role k ((outG g.es (t:Nat)).take j2)) s t) ->
      ∃m,m<(os t).n-j2/\∃j3:Nat,IntKind.wrap .i64 ((j2:Int)+1)=j3/\m=(os t).n-j3/\j3<=(os t).n/\St h hZ (.blk h41.size e.cs 188 :: .blk h15.size x0.cs 67::mvB h q bo2 (mqL g.es role t ((outG g.es (s:Nat)).take j)) (mbL g.es role ((outG g.es (s:Nat)).take j) (outG g.es (t:Nat))++mb1 g.es role k ((outG g.es (t:Nat)).take j3)) s t):=fun {hZ} hne hs=>by
     refine⟨_,by omega,j2+1,by rw[w64 (by omega) (by omega)];omega,rfl,by omega,?_⟩;rw[mb1_snoc hvk hk2,if_neg hne,Yw];exact hs
    cases hvis2:vis1 role x2 with
    | none=>
     refine⟨false,0,0,false,rfl,?_⟩;refine hs.newput (vs:=[.bool false,.int .i64 0,.int .i64 0]) rfl rfl fun h88 hs=>?_;refine sB_f rfl (skip (by rw[hxe2,hvis2];exact fun e=>by cases e) (hs.drop 2))
    | some e2=>
     refine⟨e2.send,e2.peer,e2.label,true,rfl,?_⟩;refine hs.newput (vs:=e2.cs) rfl rfl fun h88 hs=>?_;refine sB_t rfl ?_;refine⟨e.send,e.peer,e.label,hs.at 2 rfl (o:=0) (n:=3) rfl,e2.send,e2.peer,e2.label,hs.at 0 rfl (o:=0) (n:=3) rfl,?_⟩;rw[evEq];refine sBi (fun c3=>?_) (fun c3=>skip (by rw[hxe2,hvis2];exact fun e9=>c3 (Yyp e9).symm) (hs.drop 2));subst c3;refine⟨x0.t,hs.rd 3 rfl (i:=4) rfl,x2.t,hs.rd 1 rfl (i:=4) rfl,?_⟩;refine hs.app 5 rfl app273 (m:=1) [Pmv.cs ⟨(k:Int),(k2:Int),x0.t,x2.t⟩] rfl rfl (fun r hr=>by rw[Ye] at hr;rw[hr];rfl) rfl (by omega) (by simp only[maxLen];omega) fun s98 h99 n98 hs=>?_;refine⟨_,by omega,j2+1,by rw[w64 (by omega) (by omega)];omega,rfl,by omega,?_⟩;have hs:=hs.drop 2;rw[mb1_snoc hvk hk2,if_pos (by rw[hxe2,hvis2]),hxe,hxe2,<-Yz];unfold mvB;rw[Ym (l₁:=mbL _ _ _ _++_)];exact hs
   .refine⟨_,by omega,j+1,by rw[w64 (by omega) (by omega)];omega,rfl,by omega,?_⟩;rw[hq2,mbL_snoc hk];rw[Yj (l:=outG g.es (t:Nat)) (by omega)] at hs;exact hs.drop 2
 .rw[Yj (by omega)] at hs hq1 hb1 hb2;refine⟨ho,(hA.ext hs.ext).at_.nth 9 rfl,(t:Nat),hs.rd 2 rfl (i:=1) rfl,?_⟩;refine (hA.ro.ext hs.ext).nbI (by omega) (by omega) fun b106 o107 d gd u3=>?_;obtain rfl:t=d:=(rangeG gd).1;refine⟨os t,u3.hd,?_⟩;replace hs:=hs.nil_ 200 4;refine⟨fun ot x h' m=>∃j2:Nat,x=j2/\m=(os t).n-j2/\j2<=(os t).n/\St h h' (.sl ot 200 4 ((moL g.es role s ((outG g.es (t:Nat)).take j2)).map Pmv.cs)::mvB h q bo (mqL g.es role t (outG g.es (s:Nat))) (mbL g.es role (outG g.es (s:Nat)) (outG g.es (t:Nat))) s t),⟨_,0,rfl,rfl,by omega,hs⟩,?_⟩;clear hs;rintro-ot _ h114 m ⟨j2,rfl,rfl,hj2,hs⟩;have hol:=(hs.len 0 (s:=ot) (e:=200) (n:=4) rfl (by omega)).1;rw[Yc] at hol;have ho1:=moL_len (es:=g.es) (role:=role) (t:=s) (l:=(outG g.es (t:Nat)).take j2);rw[Yu] at ho1;refine sBi (fun c2=>?_) (fun c2=>?_)
  .refine (rt.ext hs.ext).nbI (by omega) (by omega) fun b61 o62 d gd u4=>?_;obtain⟨k2,hk2,rfl⟩:=natI_get gd;replace hk2:(outG g.es (t:Nat))[j2]?=some k2:=hk2;obtain⟨x2,hx2,hxf2⟩:=outG_mem.1 (Yb hk2);have hkl2:=(Ya.1 hx2).1;have hxe2:=eA_get hx2;refine⟨_,u4.hd,g.he,(hA.ext hs.ext).at_.nth 6 rfl,?_⟩;refine (hA.gi.e.rw.ext hs.ext).nbI (by omega) (by omega) fun b65 o66 x gx u5=>?_;replace gx:g.es[k2]?=some x:=gx;rw[hx2] at gx;cases gx;refine⟨x2.f,x2.a,x2.b,x2.l,x2.t,x2.ag,u5,?_⟩;refine hs.newput (vs:=x2.cs) rfl rfl fun h128 hs=>?_;have skip:vis1 role x2≠none->∃m,m<(os t).n-j2/\∃j3:Nat,IntKind.wrap .i64 ((j2:Int)+1)=j3/\m=(os t).n-j3/\j3<=(os t).n/\St h h128 (.sl ot 200 4 ((moL g.es role s ((outG g.es (t:Nat)).take j3)).map Pmv.cs)::mvB h q bo (mqL g.es role t (outG g.es (s:Nat))) (mbL g.es role (outG g.es (s:Nat)) (outG g.es (t:Nat))) s t):=fun hne=>by
    refine⟨_,by omega,j2+1,by rw[w64 (by omega) (by omega)];omega,rfl,by omega,?_⟩;rw[moL_snoc hk2,if_neg (by unfold qtB;rw[hxe2];intro h9;exact hne (Option.isNone_iff_eq_none.1 h9)),Yw];exact hs.drop 1
   refine⟨x2.a,hs.rd 0 rfl (i:=1) rfl,role,(hA.ext hs.ext).at_.nth 8 rfl,?_⟩;refine sBn (fun c3=>?_) (fun c3=>skip fun h9=>(vis_none.1 h9).1 c3);refine⟨x2.b,hs.rd 0 rfl (i:=2) rfl,role,(hA.ext hs.ext).at_.nth 8 rfl,?_⟩;refine sBn (fun c4=>?_) (fun c4=>skip fun h9=>(vis_none.1 h9).2 c4);have hvn:=vis_none.2 ⟨c3,c4⟩;refine⟨(s:Nat),hs.rd 4 rfl (i:=0) rfl,x2.t,hs.rd 0 rfl (i:=4) rfl,?_⟩;refine hs.app 1 rfl app273 (m:=1) [Pmv.cs ⟨-1,(k2:Int),(s:Nat),x2.t⟩] rfl rfl (fun r hr=>by rw[Ye] at hr;rw[hr];rfl) rfl (by omega) (by simp only[maxLen];omega) fun s98 h99 n98 hs=>?_;refine⟨_,by omega,j2+1,by rw[w64 (by omega) (by omega)];omega,rfl,by omega,?_⟩;have hs:=hs.drop 1;rw[moL_snoc hk2,if_pos (by unfold qtB;rw[hxe2,hvn];rfl),hxe2,Ym];exact hs
  .rw[Yj (by omega)] at hs ho1;refine hs.newb fun h141 hs=>?_;have hsl:=hs.blkS 3 1 ([q,ot,bo].map slC) rfl (fun r hr=>by obtain⟨x,_,rfl⟩:=Yp.1 hr;rfl) rfl (by decide);refine (concat211 [(q,mqL g.es role t (outG g.es (s:Nat))),(ot,moL g.es role s (outG g.es (t:Nat))),(bo,mbL g.es role (outG g.es (s:Nat)) (outG g.es (t:Nat)))] _ h141 (hsl.rw 0 rfl (by omega)) ?_ (show 3<=1048576 by decide) ?_).mono ?_
   .intro z hz;simp only[Yr,List.not_mem_nil,or_false] at hz;rcases hz with rfl | rfl | rfl
    .exact RL.ofSt hs 2 rfl (by omega) (by show (mqL _ _ _ _).length<=_;omega)
    .exact RL.ofSt hs 1 rfl (by omega) (by show (moL _ _ _ _).length<=_;omega)
    .exact RL.ofSt hs 3 rfl (by omega) (by show (mbL _ _ _ _).length<=_;omega)
   .simp only[Yyl,List.map_nil,List.sum_cons,List.sum_nil];omega
   .rintro _ h144 ⟨r,rfl,hs2⟩;refine⟨r,rfl,r,rfl,?_⟩;have h5:=hs.join hs2;have h6:=h5.sub (L':=[.sl r 200 4 ((([(q,mqL g.es role t (outG g.es (s:Nat))),(ot,moL g.es role s (outG g.es (t:Nat))),(bo,mbL g.es role (outG g.es (s:Nat)) (outG g.es (t:Nat)))]:List (Sl × List Pmv)).flatMap Prod.snd).map Pmv.cs)]) (List.singleton_sublist.2 (by simp));have e9:(([(q,mqL g.es role t (outG g.es (s:Nat))),(ot,moL g.es role s (outG g.es (t:Nat))),(bo,mbL g.es role (outG g.es (s:Nat)) (outG g.es (t:Nat)))]:List (Sl × List Pmv)).flatMap Prod.snd)=movL g.es role s t:=by
     unfold movL;simp
    rw[e9] at h6;exact h6
end Go.VC
end

section
namespace Go.VC
open Go.Proofs Go.LexS Go.Maps
theorem mget_set {α β:Type} [DecidableEq α] (a x:α) (b:β):∀l:List (α × β),mget (mset l a b) x=if x=a then some b else mget l x
 | []=>by
  unfold mset mget;by_cases h:x=a
  .rw[if_pos h,if_pos h.symm]
  .rw[if_neg h,if_neg (fun e=>h e.symm)];rfl
 | (c,y)::r=>by
  have ih:=mget_set a x b r;by_cases hc:c=a
  .rw[mset,if_pos hc];by_cases h:x=a
   .rw[mget,if_pos (by rw[hc,h]),if_pos h]
   .rw[mget,if_neg (fun e=>h (e.symm.trans hc)),if_neg h,mget,if_neg (fun e=>h (e.symm.trans hc))]
  .rw[mset,if_neg hc];by_cases h:c=x
   .rw[mget,if_pos h,if_neg (fun e=>hc (h.trans e)),mget,if_pos h]
   .rw[mget,if_neg h,ih,mget,if_neg h]
theorem mget_isSome {α β:Type} [DecidableEq α] (x:α):∀l:List (α × β),(mget l x).isSome=true ↔ x∈l.map Prod.fst
 | []=>by simp[mget]
 | (c,y)::r=>by
  rw[mget];by_cases h:c=x
  .rw[if_pos h];simp[h]
  .rw[if_neg h,mget_isSome x r,Yyl,Yr];exact⟨.inr,fun h9=>h9.resolve_left fun e=>h e.symm⟩
def pC (p:Nat × Nat):List Value:=[.int .i64 (p.1:Nat),.int .i64 (p.2:Nat)]
def pV (p:Nat × Nat):Value:=.agg ⟨pC p⟩
def kokP (p:Nat × Nat):Prop:=p.1<1048576/\p.2<1048576
theorem s272 : ∃ fs, Pz.underlying 97 = some (.struct fs) /\ fs.all (·.name != "_") = true /\ fs.toList.map (fun f => (f.type, f.offset)) = [(3, 0), (3, 1)] := su (by kernel_rfl)
theorem c272:Pz.cellsOf 97=2:=by kernel_rfl
theorem key_pair (p:Nat × Nat) (h:kokP p):∃l,keyOf Pz 97 (pV p)=some l:=by
 obtain⟨fs,hu,hn,hf⟩:=s272;obtain⟨h1,h2⟩:=h;have hsz:∃n,Pz.types.size+1=n+2:=⟨Pz.types.size-1,by kernel_rfl⟩;obtain⟨n,hsz⟩:=hsz;have w1:inR ((p.1:Nat):Int):=⟨by omega,by omega⟩;have w2:inR ((p.2:Nat):Int):=⟨by omega,by omega⟩;have hl:Pz.keyLits (n+2) 97 (pC p)=some [[.int .i64 ((p.1:Nat):Int)],[.int .i64 ((p.2:Nat):Int)]].flatten:=by
  refine kl_struct hu (by rw[c272];rfl) hn hf ?_;simp only[List.mapM_cons,List.mapM_nil,c3,pC,List.drop_zero,List.take_succ_cons,Yyk,List.drop_succ_cons,kl_int u3 w1.wf,kl_int u3 w2.wf];rfl
 have hkt:Pz.keyType 97=true:=by kernel_rfl
 have hfo:(pV p).formed Pz 97=true:=by
  unfold pV Value.formed;simp only[hu,c272];rfl
 have e:keyOf Pz 97 (pV p)=(Pz.keyLits (n+2) 97 (pC p)).map fun ls=>.string (keyBytes ls):=by
  unfold keyOf;simp only[hu,hkt,hfo,Bool.and_self,if_true,hsz];rfl
 rw[e,hl];exact⟨_,rfl⟩
theorem pV_inj (a b:Nat × Nat) (h:pV a=pV b):a=b:=by
 unfold pV pC at h;simp at h;exact Prod.ext (by omega) (by omega)
theorem M202:MT Pz 93 97 197 pV kokP (.slice none 0 0) where
 K:=Keyed.of_law (deep_law_laid laid25 (m:=2) (by omega) (Yyn (by kernel_rfl)) (by kernel_rfl) (by kernel_rfl))
 ht:=by kernel_rfl
 key:=key_pair
 inj:=pV_inj
 z:=fun w=>by kernel_rfl
theorem M278:MT Pz 293 97 3 pV kokP (.int .i64 0) where
 K:=Keyed.of_law (deep_law_laid laid25 (m:=2) (by omega) (Yyn (by kernel_rfl)) (by kernel_rfl) (by kernel_rfl))
 ht:=by kernel_rfl
 key:=key_pair
 inj:=pV_inj
 z:=fun w=>by kernel_rfl
def pto (m:Pmv):Nat × Nat:=(m.s.toNat,m.t.toNat)
inductive Prr (g:Gl) (role:Int):Nat × Nat->Prop where
 | start:Prr g role (g.s.toNat,g.s.toNat)
 | step {p:Nat × Nat} {m:Pmv}:Prr g role p->m∈movL g.es role p.1 p.2->Prr g role (pto m)
theorem eA_mem {es:List Ed} {k:Nat} {s:Int} (h:k∈outG es s):eA es k∈es/\(eA es k).f=s:=by
 obtain⟨x,hx,hf⟩:=outG_mem.1 h;rw[eA_get hx];exact⟨Yb hx,hf⟩
theorem movL_lt {g:Gl} {role:Int} {s t:Nat} (hV:ValidS g) (hs:(s:Int)<g.n) (ht:(t:Int)<g.n) {m:Pmv} (hm:m∈movL g.es role s t):0<=m.s/\m.s<g.n/\0<=m.t/\m.t<g.n:=by
 have hE:∀ {k:Nat} {s:Int},k∈outG g.es s->0<=(eA g.es k).t/\(eA g.es k).t<g.n:=fun {k s} hk=>by
  have:=hV.num.e _ (eA_mem hk).1;unfold EdS at this;omega
 unfold movL at hm;rcases Yk.1 hm with hm | hm
 .rcases Yk.1 hm with hm | hm
  .obtain⟨k,hk,rfl⟩:=Yp.1 hm;have:=hE (List.mem_filter.1 hk).1;exact⟨this.1,this.2,by show (0:Int)<=((t:Nat):Int);omega,ht⟩
  .obtain⟨k,hk,rfl⟩:=Yp.1 hm;have:=hE (List.mem_filter.1 hk).1;exact⟨by show (0:Int)<=((s:Nat):Int);omega,hs,this.1,this.2⟩
 .unfold mbL at hm;obtain⟨i,hi,hm⟩:=List.mem_flatMap.1 hm;unfold mb1 at hm;split at hm
  .cases hm
  .obtain⟨k,hk,rfl⟩:=Yp.1 hm;have h1:=hE hi;have h2:=hE (List.mem_filter.1 hk).1;exact⟨h1.1,h1.2,h2.1,h2.2⟩
theorem pto_lt {g:Gl} {role:Int} {p:Nat × Nat} (hV:ValidS g) (hp:(p.1:Int)<g.n/\(p.2:Int)<g.n) {m:Pmv} (hm:m∈movL g.es role p.1 p.2):((pto m).1:Int)<g.n/\((pto m).2:Int)<g.n/\((pto m).1:Int)=m.s/\((pto m).2:Int)=m.t:=by
 have:=movL_lt hV hp.1 hp.2 hm;unfold pto;refine⟨?_,?_,?_,?_⟩<;>simp only<;>omega
theorem Prr.lt {g:Gl} {role:Int} (hV:ValidS g) {p:Nat × Nat} (h:Prr g role p):(p.1:Int)<g.n/\(p.2:Int)<g.n:=by
 induction h with
 | start=>have:=hV.num.n;exact⟨by simp only;omega,by simp only;omega⟩
 | step _ hm ih=>have:=pto_lt hV ih hm;exact⟨this.1,this.2.1⟩
theorem grid_le {n:Nat} {A:List (Nat × Nat)} (hn:A.Nodup) (h:∀p∈A,p.1<n/\p.2<n):A.length<=n*n:=by
 have h1:=List.Nodup.length_le_of_subset hn (l₂:=(List.range n).flatMap fun i=>(List.range n).map fun j=>(i,j)) fun p hp=>by
  have:=h p hp;exact List.mem_flatMap.2 ⟨p.1,List.mem_range.2 this.1,Yp.2 ⟨p.2,List.mem_range.2 this.2,rfl⟩⟩
 have h2:((List.range n).flatMap fun i=>(List.range n).map fun j=>(i,j)).length=n*n:=by
  rw[List.length_flatMap];simp only[Yc,Yyd];have:∀(l:List Nat),(l.map fun _=>n).sum=l.length*n:=fun l=>by
   induction l with
   | nil=>simp
   | cons a l ih=>rw[Yyl,List.sum_cons,ih,Yyj,Nat.succ_mul];omega
  rw[this,Yyd]
 omega
theorem movL_len {es:List Ed} {role:Int} {s t:Nat} (h:es.length<=400):(movL es role s t).length<=160800:=by
 unfold movL;rw[Yh,Yh];have h1:=mqL_len (es:=es) (role:=role) (t:=t) (l:=outG es (s:Nat));have h2:=moL_len (es:=es) (role:=role) (t:=s) (l:=outG es (t:Nat));have h3:=mbL_len (es:=es) (role:=role) (l:=outG es (s:Nat)) (m:=outG es (t:Nat));have h4:=outG_len es (s:Nat);have h5:=outG_len es (t:Nat);have h6:(outG es (s:Nat)).length*(outG es (t:Nat)).length<=400*400:=Nat.mul_le_mul (by omega) (by omega);omega
end Go.VC
end

section
namespace Go.VC
open Go.Proofs
/- (*farandole/realize.analysis).reached
   loop rrrrlrborlbrrrb: all_35:Sl, x_36:Int
   loop rrrrlrb: all_17:Sl, head_18:Int -/
def W50 (p0:Addr) (h:Heap) (R:Value->Heap->Prop):Prop:=
 (∃x1,rI h ⟨p0.block,p0.off+4,none⟩ x1 /\ 
 (∃x2,rI h ⟨p0.block,p0.off+4,none⟩ x2 /\ 
 (Wn h [vI 0,vI 0] 97 fun h3=>
 (Sm [⟨p0.block,p0.off+4,none⟩,⟨p0.block,p0.off+4,none⟩] h h3 /\ 
 (Wp h3 (aS h 0) 2 [vI x1,vI x2] fun h4=>
 (∃x5:Int,∃x6:Int,atC h4 (aS h 0) [vI x5,vI x6] /\ 
 (Wn h4 [vI x5,vI x6] 97 fun h7=>
 (RunW Pz (Instr.makeMap 93 (none)) h7 
 (fun v8 h10=>∃x9:Option Nat,v8=.map x9 /\ 
 (∃x11:Int,∃x12:Int,atC h10 (aS h 0) [vI x11,vI x12] /\ 
 (RunW Pz (Instr.mapUpdate 93 (.map x9) (.agg ⟨[vI x11,vI x12]⟩) (.slice none 0 0)) h10 (fun _ h13=>
 (QSI ⟨(some (aS h4 0)),1,1⟩ 0 h13 fun I14 all_17 head_18 h19 m16=>(
 (sB (decide (head_18<(all_17.n:Int))) 
 ((NB all_17.a fun b20 o21=>(Ib head_18 all_17.n /\ 
 (∃x22:Int,∃x23:Int,atC h19 ⟨b20,o21+Int.toNat head_18*2,none⟩ [vI x22,vI x23] /\ 
 (Fn Pz 108 #[.pointer (some p0),.agg ⟨[vI x22,vI x23]⟩] h19 
 (fun v24 h26=>∃x25,iS v24 x25 /\ 
 (NB all_17.a fun b27 o28=>(Ib head_18 all_17.n /\ 
 (∃x29:Int,∃x30:Int,atC h26 ⟨b27,o28+Int.toNat head_18*2,none⟩ [vI x29,vI x30] /\ 
 (RunW Pz (Instr.mapUpdate 93 (.map x9) (.agg ⟨[vI x29,vI x30]⟩) (vS x25)) h26 (fun _ h31=>
 (QSI all_17 0 h31 fun I32 all_35 x_36 h37 m34=>(
 (sB (decide (x_36<(x25.n:Int))) 
 ((NB x25.a fun b38 o39=>(Ib x_36 x25.n /\ 
 (∃x40:Int,∃x41:Int,∃x42:Int,∃x43:Int,atC h37 ⟨b38,o39+Int.toNat x_36*4,none⟩ [vI x40,vI x41,vI x42,vI x43] /\ 
 (Wn h37 [vI 0,vI 0,vI 0,vI 0] 200 fun h44=>
 (Wp h44 (aS h37 0) 4 [vI x40,vI x41,vI x42,vI x43] fun h45=>
 (∃x46:Int,∃x47:Int,atC h45 (aS h37 2) [vI x46,vI x47] /\ 
 (RunW Pz (Instr.lookup 93 (.map x9) (.agg ⟨[vI x46,vI x47]⟩) true) h45 
 (fun v48 h51=>∃x49:Sl,∃x50:Bool,v48=.tuple ⟨[vS x49,.bool x50]⟩ /\ 
 (sB (!x50) 
 ((∃x52:Int,∃x53:Int,atC h51 (aS h37 2) [vI x52,vI x53] /\ 
 (RunW Pz (Instr.mapUpdate 93 (.map x9) (.agg ⟨[vI x52,vI x53]⟩) (.slice none 0 0)) h51 (fun _ h54=>
 (∃x55:Int,∃x56:Int,atC h54 (aS h37 2) [vI x55,vI x56] /\ 
 (Wn h54 [vI x55,vI x56] 97 fun h57=>
 (App Pz 92 92 (vS all_35) (.slice (some (aS h54 0)) 1 1) h57 fun s58 h59=>
 (∃m60,m60<m34/\I32 s58 (IntKind.wrap .i64 (x_36+1)) h59 m60)))))))) 
 ((∃m61,m61<m34/\I32 all_35 (IntKind.wrap .i64 (x_36+1)) h51 m61)))))))))))) 
 ((∃m62,m62<m16/\I14 all_35 (IntKind.wrap .i64 (head_18+1)) h37 m62)))))))))))))))) 
 (R (.tuple ⟨[vS all_17,.map x9]⟩) h19))))))))))))))))
theorem vc50e (p0:Addr) (h:Heap) (R:Value->Heap->Prop):W50 p0 h R=fnW Pz 50 (.s .z (.s .z (.s .z (.s .z (.s (.s .z (.b (.l [(5,.one (.slice)),(7,.one (.int .i64))] (.s .z (.s (.b (.s .z (.s .z (.s .z (.b (.l [(5,.one (.slice)),(49,.one (.int .i64))] .z)))))) .z))))) .z))))) #[.pointer (some p0)] h R:=by kernel_rfl
theorem vc50 (p0:Addr) (h:Heap) (R:Value->Heap->Prop) (H:W50 p0 h R):Fn Pz 50 #[.pointer (some p0)] h R:=fnI (vc50e p0 h R) H
/- (*farandole/realize.analysis).costs -/
def W166 (p0:Addr) (p1:Int) (p2_1:Int) (p2_2:Int) (h:Heap) (R:Value->Heap->Prop):Prop:=
 (∀h3:Heap,h3=h.push (.cells ⟨[.int .i64 p2_1,.int .i64 p2_2]⟩ 97) -> 
 (sB (p1==1) 
  ((∃x4:Int,∃x5:Int,atC h3 ⟨h.size,0,none⟩ [.int .i64 x4,.int .i64 x5] /\ 
  (Fn Pz 170 #[.pointer (some p0),.agg ⟨[.int .i64 x4,.int .i64 x5]⟩] h3 
  (fun v6 h11=>∃x7:Bool,∃x8:Int,∃x9:Int,∃x10:Bool,v6=.tuple ⟨[.agg ⟨[.bool x7,.int .i64 x8,.int .i64 x9]⟩,.bool x10]⟩ /\ 
  (∀h12:Heap,h12=h11.push (.cells ⟨[.bool false,.int .i64 0,.int .i64 0]⟩ 188) -> 
  (okAt h12 ⟨h11.size,0,none⟩ 3/\∀h13:Heap,h13=hputs h12 ⟨h11.size,0,none⟩ 0 [.bool x7,.int .i64 x8,.int .i64 x9] -> 
  R (.tuple ⟨[.int .i64 0,.bool x10]⟩) h13)))))) 
  ((sB (p1==3) 
  ((∃x14:Int,∃x15:Int,atC h3 ⟨h.size,0,none⟩ [.int .i64 x14,.int .i64 x15] /\ 
  (Fn Pz 151 #[.pointer (some p0),.agg ⟨[.int .i64 x14,.int .i64 x15]⟩] h3 
  (fun v16 h18=>∃x17:Bool,v16=.bool x17 /\ 
  R (.tuple ⟨[.int .i64 0,.bool x17]⟩) h18)))) 
  ((∃x19:Int,∃x20:Int,atC h3 ⟨h.size,0,none⟩ [.int .i64 x19,.int .i64 x20] /\ 
  (Fn Pz 152 #[.pointer (some p0),.agg ⟨[.int .i64 x19,.int .i64 x20]⟩] h3 
  (fun v21 h27=>∃x22:Int,∃x23:Int,∃x24:Int,∃x25:Int,∃x26:Bool,v21=.tuple ⟨[.agg ⟨[.int .i64 x22,.int .i64 x23,.int .i64 x24,.int .i64 x25]⟩,.bool x26]⟩ /\ 
  (∀h28:Heap,h28=h27.push (.cells ⟨[.int .i64 0,.int .i64 0,.int .i64 0,.int .i64 0]⟩ 276) -> 
  (okAt h28 ⟨h27.size,0,none⟩ 4/\∀h29:Heap,h29=hputs h28 ⟨h27.size,0,none⟩ 0 [.int .i64 x22,.int .i64 x23,.int .i64 x24,.int .i64 x25] -> 
  (∃x30:Int,hc h29 ⟨h27.size,1,none⟩=some (.int .i64 x30) /\ 
  R (.tuple ⟨[.int .i64 x30,.bool x26]⟩) h29)))))))))))
theorem vc166e (p0:Addr) (p1:Int) (p2_1:Int) (p2_2:Int) (h:Heap) (R:Value->Heap->Prop):W166 p0 p1 p2_1 p2_2 h R=fnW Pz 166 .z #[.pointer (some p0),.int .i64 p1,.agg ⟨[.int .i64 p2_1,.int .i64 p2_2]⟩] h R:=by kernel_rfl
theorem vc166 (p0:Addr) (p1:Int) (p2_1:Int) (p2_2:Int) (h:Heap) (R:Value->Heap->Prop) (H:W166 p0 p1 p2_1 p2_2 h R):Fn Pz 166 #[.pointer (some p0),.int .i64 p1,.agg ⟨[.int .i64 p2_1,.int .i64 p2_2]⟩] h R:=fnI (vc166e p0 p1 p2_1 p2_2 h R) H
/- (*farandole/realize.analysis).arrives
   loop rrlrb: x_14:Int -/
def W152 (p0:Addr) (p1_1:Int) (p1_2:Int) (h:Heap) (R:Value->Heap->Prop):Prop:=
 (Wn h [vI p1_1,vI p1_2] 97 fun h3=>
 (Wn h3 [vI 0,vI 0,vI 0,vI 0] 276 fun h4=>
 (Wn h4 [vI 0,vI 0,vI 0,vI 0] 276 fun h5=>
 (∃x6,rS h5 ⟨p0.block,p0.off+14,none⟩ x6 /\ 
 (∃x7,rI h5 (aS h 0) x7 /\ 
 (NB x6.a fun b8 o9=>(Ib x7 x6.n /\ 
 (∃x10,rS h5 ⟨b8,o9+Int.toNat x7*1,none⟩ x10 /\ 
 (QI 0 h5 fun I11 x_14 h15 m13=>(
 (sB (decide (x_14<(x10.n:Int))) 
 ((NB x10.a fun b16 o17=>(Ib x_14 x10.n /\ 
 (∃x18:Int,∃x19:Int,∃x20:Int,∃x21:Int,atC h15 ⟨b16,o17+Int.toNat x_14*4,none⟩ [vI x18,vI x19,vI x20,vI x21] /\ 
 (Wn h15 [vI 0,vI 0,vI 0,vI 0] 276 fun h22=>
 (Wp h22 (aS h15 0) 4 [vI x18,vI x19,vI x20,vI x21] fun h23=>
 (∃x24,rS h23 ⟨p0.block,p0.off+10,none⟩ x24 /\ 
 (∃x25,rI h23 (aS h 1) x25 /\ 
 (NB x24.a fun b26 o27=>(Ib x25 x24.n /\ 
 (∃x28:Sl,∃x29:Bool,atC h23 ⟨b26,o27+Int.toNat x25*2,none⟩ [vS x28,.bool x29] /\ 
 (∃x30,rI h23 (aS h15 2) x30 /\ 
 (∃x31,rI h23 (aS h15 (2+1)) x31 /\ 
 (Fn Pz 214 #[.agg ⟨[vS x28,.bool x29]⟩,.agg ⟨[.bool false,vI x30,vI x31]⟩] h23 
 (fun v32 h34=>∃x33,iB v32 x33 /\ 
 (sB x33 
 ((∃x35,rI h34 (aS h4 1) x35 /\ 
 (sB (x35==0) 
 ((∃x36:Int,∃x37:Int,∃x38:Int,∃x39:Int,atC h34 (aS h15 0) [vI x36,vI x37,vI x38,vI x39] /\ 
 (Wp h34 (aS h4 0) 4 [vI x36,vI x37,vI x38,vI x39] fun h40=>
 (∃m41,m41<m13/\I11 (IntKind.wrap .i64 (x_14+1)) h40 m41)))) 
 ((∃x42,rI h34 (aS h15 1) x42 /\ 
 (∃x43,rI h34 (aS h4 1) x43 /\ 
 (sB (decide (x42<x43)) 
 ((∃x44:Int,∃x45:Int,∃x46:Int,∃x47:Int,atC h34 (aS h15 0) [vI x44,vI x45,vI x46,vI x47] /\ 
 (Wp h34 (aS h4 0) 4 [vI x44,vI x45,vI x46,vI x47] fun h48=>
 (∃m49,m49<m13/\I11 (IntKind.wrap .i64 (x_14+1)) h48 m49)))) 
 ((∃m50,m50<m13/\I11 (IntKind.wrap .i64 (x_14+1)) h34 m50))))))))) 
 ((∃m51,m51<m13/\I11 (IntKind.wrap .i64 (x_14+1)) h34 m51)))))))))))))))))) 
 ((∃x52:Int,∃x53:Int,∃x54:Int,∃x55:Int,atC h15 (aS h4 0) [vI x52,vI x53,vI x54,vI x55] /\ 
 (∃x56,rI h15 (aS h4 1) x56 /\ 
 (Wp h15 (aS h3 0) 4 [vI x52,vI x53,vI x54,vI x55] fun h57=>
 (Sm [(aS h4 1)] h15 h57 /\ 
 (∃x58:Int,∃x59:Int,∃x60:Int,∃x61:Int,atC h57 (aS h3 0) [vI x58,vI x59,vI x60,vI x61] /\ 
 R (.tuple ⟨[.agg ⟨[vI x58,vI x59,vI x60,vI x61]⟩,.bool (decide (x56>0))]⟩) h57)))))))))))))))))
theorem vc152e (p0:Addr) (p1_1:Int) (p1_2:Int) (h:Heap) (R:Value->Heap->Prop):W152 p0 p1_1 p1_2 h R=fnW Pz 152 (.s .z (.s .z (.s (.s .z (.b (.l [(18,.one (.int .i64))] .z))) .z))) #[.pointer (some p0),.agg ⟨[.int .i64 p1_1,.int .i64 p1_2]⟩] h R:=by kernel_rfl
theorem vc152 (p0:Addr) (p1_1:Int) (p1_2:Int) (h:Heap) (R:Value->Heap->Prop) (H:W152 p0 p1_1 p1_2 h R):Fn Pz 152 #[.pointer (some p0),.agg ⟨[.int .i64 p1_1,.int .i64 p1_2]⟩] h R:=fnI (vc152e p0 p1_1 p1_2 h R) H
/- slices.IndexFunc[[]farandole/realize.move,farandole/realize.move]
   loop rlrb: x_4:Int -/
def W167 (p0:Sl) (p1:Value) (h:Heap) (R:Value->Heap->Prop):Prop:=
 (∃I1:Int->Heap->Nat->Prop,(∃m2,I1 0 h m2) /\ 
 (∀(_:Env) (x_4:Int) (h5:Heap) (m3:Nat),I1 x_4 h5 m3 -> 
 (sB (decide (x_4<(p0.n:Int))) 
  ((NB p0.a fun b6 o7=>((0<=(x_4:Int)/\(x_4:Int)<(p0.n:Nat)) /\ 
  (∃x8:Int,∃x9:Int,∃x10:Int,∃x11:Int,atC h5 ⟨b6,o7+Int.toNat x_4*4,none⟩ [.int .i64 x8,.int .i64 x9,.int .i64 x10,.int .i64 x11] /\ 
  (match p1 with | .func (.func g12) fa13 fc14=>(bif callable Pz g12 then Fn Pz g12 (fa13 ++ #[.agg ⟨[.int .i64 x8,.int .i64 x9,.int .i64 x10,.int .i64 x11]⟩]++fc14) h5 
  (fun v15 h17=>∃x16:Bool,v15=.bool x16 /\ 
  (sB x16 
   (R (.int .i64 x_4) h17) 
   ((∃m18,m18<m3/\I1 (IntKind.wrap .i64 (x_4+1)) h17 m18)))) else ExtW Pz g12 (fa13 ++ #[.agg ⟨[.int .i64 x8,.int .i64 x9,.int .i64 x10,.int .i64 x11]⟩]++fc14) h5 
  (fun v15 h17=>∃x16:Bool,v15=.bool x16 /\ 
  (sB x16 
   (R (.int .i64 x_4) h17) 
   ((∃m18,m18<m3/\I1 (IntKind.wrap .i64 (x_4+1)) h17 m18))))) | _=>False))))) 
  (R (.int .i64 (-1)) h5))))
theorem vc167e (p0:Sl) (p1:Value) (h:Heap) (R:Value->Heap->Prop):W167 p0 p1 h R=fnW Pz 167 (.s .z (.s (.s .z (.b (.l [(8,.one (.int .i64))] .z))) .z)) #[.slice p0.a p0.n p0.c,p1] h R:=by kernel_rfl
theorem vc167 (p0:Sl) (p1:Value) (h:Heap) (R:Value->Heap->Prop) (H:W167 p0 p1 h R):Fn Pz 167 #[.slice p0.a p0.n p0.c,p1] h R:=fnI (vc167e p0 p1 h R) H
/- (*farandole/realize.analysis).byPairs$1 -/
def W168 (p0_1:Int) (p0_2:Int) (p0_3:Int) (p0_4:Int) (c0:Addr) (c1:Addr) (h:Heap) (R:Value->Heap->Prop):Prop:=
 (∀h5:Heap,h5=h.push (.cells ⟨[.int .i64 p0_1,.int .i64 p0_2,.int .i64 p0_3,.int .i64 p0_4]⟩ 200) -> 
 (∃x6:Int,∃x7:Int,∃x8:Int,∃x9:Int,atC h5 ⟨h.size,0,none⟩ [.int .i64 x6,.int .i64 x7,.int .i64 x8,.int .i64 x9] /\ 
 (∃x10:Option Nat,hc h5 c0=some (.map x10) /\ 
 (∃x11:Int,∃x12:Int,atC h5 ⟨h.size,2,none⟩ [.int .i64 x11,.int .i64 x12] /\ 
 (∃x13:Option Nat,hc h5 c0=some (.map x13) /\ 
 (∃x14:Int,∃x15:Int,atC h5 c1 [.int .i64 x14,.int .i64 x15] /\ 
 (Fn Pz 169 #[.agg ⟨[.int .i64 x6,.int .i64 x7,.int .i64 x8,.int .i64 x9]⟩] h5 
 (fun v16 h18=>∃x17:Int,v16=.int .i64 x17 /\ 
 (Sm [c1,c0,⟨h.size,2,none⟩,c0] h5 h18 /\ 
 (Fn Pz 165 #[.map x10,.agg ⟨[.int .i64 x11,.int .i64 x12]⟩] h18 
 (fun v19 h21=>∃x20:Int,v19=.int .i64 x20 /\ 
 (Sm [c1,c0,⟨h.size,0,none⟩] h18 h21 /\ 
 (Fn Pz 165 #[.map x13,.agg ⟨[.int .i64 x14,.int .i64 x15]⟩] h21 
 (fun v22 h24=>∃x23:Int,v22=.int .i64 x23 /\ 
 (Sm [⟨h.size,2,none⟩,c0,⟨h.size,0,none⟩] h21 h24 /\ 
 R (.bool ((IntKind.wrap .i64 (x17+x20))==x23)) h24)))))))))))))))
theorem vc168e (p0_1:Int) (p0_2:Int) (p0_3:Int) (p0_4:Int) (c0:Addr) (c1:Addr) (h:Heap) (R:Value->Heap->Prop):W168 p0_1 p0_2 p0_3 p0_4 c0 c1 h R=fnW Pz 168 .z #[.agg ⟨[.int .i64 p0_1,.int .i64 p0_2,.int .i64 p0_3,.int .i64 p0_4]⟩,.pointer (some c0),.pointer (some c1)] h R:=by kernel_rfl
theorem vc168 (p0_1:Int) (p0_2:Int) (p0_3:Int) (p0_4:Int) (c0:Addr) (c1:Addr) (h:Heap) (R:Value->Heap->Prop) (H:W168 p0_1 p0_2 p0_3 p0_4 c0 c1 h R):Fn Pz 168 #[.agg ⟨[.int .i64 p0_1,.int .i64 p0_2,.int .i64 p0_3,.int .i64 p0_4]⟩,.pointer (some c0),.pointer (some c1)] h R:=fnI (vc168e p0_1 p0_2 p0_3 p0_4 c0 c1 h R) H
end Go.VC
end

section
namespace Go.VC
open Go.Proofs Go.LexS
theorem nodup_ix {α:Type} {L:List α} (hn:L.Nodup) {i j:Nat} {x:α} (hi:L[i]?=some x) (hj:L[j]?=some x):i=j:=by
 obtain⟨h1,e1⟩:=Ya.1 hi;obtain⟨h2,e2⟩:=Ya.1 hj;have hp:=List.pairwise_iff_getElem.1 hn;rcases Nat.lt_trichotomy i j with h | h | h
 .exact absurd (e1.trans e2.symm) (hp i j h1 h2 h)
 .exact h
 .exact absurd (e2.trans e1.symm) (hp j i h2 h1 h)
structure RI (g:Gl) (role:Int) (i c:Nat) (A:List (Nat × Nat)) (Q:List (Sl × List Pmv)) (l:List ((Nat × Nat) × Sl)):Prop where
 qn:Q.length=c
 q:∀(k:Nat) (q:Sl × List Pmv),Q[k]?=some q->∃p,A[k]?=some p/\mget l p=some q.1/\q.2=movL g.es role p.1 p.2
 ky:∀p,p∈l.map Prod.fst ↔ p∈A
 ln:(l.map Prod.fst).Nodup
 nd:A.Nodup
 pr:∀p∈A,Prr g role p
 st:(g.s.toNat,g.s.toNat)∈A
 cl:∀(k:Nat) (p:Nat × Nat),k<i->A[k]?=some p->∀m∈movL g.es role p.1 p.2,pto m∈A
theorem RI.kok {g:Gl} {role:Int} {i c:Nat} {A:List (Nat × Nat)} {Q:List (Sl × List Pmv)} {l:List ((Nat × Nat) × Sl)} (h:RI g role i c A Q l) (hV:ValidS g):∀q∈l,kokP q.1:=fun q hq=>by
 have h1:=(h.pr _ ((h.ky q.1).1 (Yp.2 ⟨q,hq,rfl⟩))).lt hV;have:=hV.num.n;exact⟨by omega,by omega⟩
theorem RI.len {g:Gl} {role:Int} {i c:Nat} {A:List (Nat × Nat)} {Q:List (Sl × List Pmv)} {l:List ((Nat × Nat) × Sl)} (h:RI g role i c A Q l) (hV:ValidS g):A.length<=g.n.toNat*g.n.toNat:=
 grid_le h.nd fun p hp=>by have:=(h.pr p hp).lt hV;have:=hV.num.n;exact⟨by omega,by omega⟩
theorem RI.upd {g:Gl} {role:Int} {i:Nat} {A:List (Nat × Nat)} {Q:List (Sl × List Pmv)} {l:List ((Nat × Nat) × Sl)} (h:RI g role i i A Q l) {p:Nat × Nat} (hp:A[i]?=some p) (r:Sl):RI g role i (i+1) A (Q++[(r,movL g.es role p.1 p.2)]) (mset l p r):=by
 refine⟨by rw[Yh,h.qn];rfl,fun k q hq=>?_,fun x=>?_,mset_nodup _ _ _ h.ln,h.nd,h.pr,h.st,h.cl⟩
 .by_cases hk:k<i
  .rw[Yyi (by rw[h.qn];exact hk)] at hq;obtain⟨p',h1,h2,h3⟩:=h.q k q hq;refine⟨p',h1,?_,h3⟩;rw[mget_set,if_neg (fun e=>by subst e;have:=nodup_ix h.nd h1 hp;omega)];exact h2
  .rw[Yyc (by rw[h.qn];omega),h.qn] at hq;have h9:=(Ya.1 hq).1;rw[Yv] at h9;obtain rfl:k=i:=by omega
   rw[Nat.sub_self] at hq;cases hq;exact⟨p,hp,by rw[mget_set,if_pos rfl],rfl⟩
 .rw[mset_keys,h.ky];exact⟨fun h9=>h9.elim id fun e=>by rw[e];exact Yb hp,.inl⟩
theorem RI.new {g:Gl} {role:Int} {i c:Nat} {A:List (Nat × Nat)} {Q:List (Sl × List Pmv)} {l:List ((Nat × Nat) × Sl)} (h:RI g role i c A Q l) (hi:i<=A.length) {p:Nat × Nat} (hp:p∉A) (hr:Prr g role p) (r:Sl):RI g role i c (A++[p]) Q (mset l p r):=by
 refine⟨h.qn,fun k q hq=>?_,fun x=>?_,mset_nodup _ _ _ h.ln,?_,fun x hx=>?_,List.mem_append_left _ h.st,fun k x hk hx m hm=>?_⟩
 .obtain⟨p',h1,h2,h3⟩:=h.q k q hq;refine⟨p',by rw[Yyi (Ya.1 h1).1];exact h1,?_,h3⟩;rw[mget_set,if_neg (fun e=>hp (by subst e;exact Yb h1))];exact h2
 .rw[mset_keys,h.ky,Yk,Ye]
 .rw[List.nodup_append];exact⟨h.nd,by simp,fun a ha b hb e=>by rw[Ye] at hb;subst hb;subst e;exact hp ha⟩
 .rcases Yk.1 hx with hx | hx
  .exact h.pr x hx
  .rw[Ye] at hx;rw[hx];exact hr
 .rcases Nat.lt_or_ge k A.length with h9 | h9
  .rw[Yyi h9] at hx;exact List.mem_append_left _ (h.cl k x hk hx m hm)
  .omega
def rchL (all:Sl) (mb:Nat) (A:List (Nat × Nat)) (Q:List (Sl × List Pmv)) (l:List ((Nat × Nat) × Sl)) (R:List It):List It:=
 .sl all 97 2 (A.map pC) :: .mp mb (l.map fun q=>(pV q.1,slV q.2))::(R++Q.map (nest 200 4 Pmv.cs))
theorem rch_get {all:Sl} {mb:Nat} {A:List (Nat × Nat)} {Q:List (Sl × List Pmv)} {l:List ((Nat × Nat) × Sl)} {R0:It} {i:Nat} {q:Sl × List Pmv} (hq:Q[i]?=some q):(rchL all mb A Q l [R0])[3+i]?=some (nest 200 4 Pmv.cs q):=by
 unfold rchL;rw[show 3+i=i+1+1+1 by omega,List.getElem?_cons_succ,List.getElem?_cons_succ,List.singleton_append,List.getElem?_cons_succ,Yd,hq];rfl
structure PrM (h:Heap) (g:Gl) (role:Int) (all:Sl) (mb:Nat) (A:List (Nat × Nat)) (l:List ((Nat × Nat) × Sl)):Prop where
 ra:RL h 2 all pC A
 mp:It.ok h (.mp mb (l.map fun q=>(pV q.1,slV q.2)))
 lk:∀q∈l,kokP q.1
 ln:(l.map Prod.fst).Nodup
 mv:∀p∈A,∃r,mget l p=some r/\RL h 4 r Pmv.cs (movL g.es role p.1 p.2)
 nd:A.Nodup
 pr:∀p,p∈A ↔ Prr g role p
theorem PrM.ext {h h':Heap} {g:Gl} {role:Int} {all:Sl} {mb:Nat} {A:List (Nat × Nat)} {l:List ((Nat × Nat) × Sl)} (hM:PrM h g role all mb A l) (E:Ext h h'):PrM h' g role all mb A l:=
 ⟨hM.ra.ext E,hM.mp.keep fun b hb=>E.2 b (hM.mp.lt hb),hM.lk,hM.ln,fun p hp=>(hM.mv p hp).imp fun r hr=>⟨hr.1,hr.2.ext E⟩,hM.nd,hM.pr⟩
theorem app201:appB Pz 92 97 2 16=true:=by kernel_rfl
theorem reached119 (b:Nat) (g:Gl) (role:Int) (ho:Sl) (os:Nat->Sl) (h:Heap) (hA:AnG h b g role ho os) (hV:ValidS g) :
  Fn Pz 50 #[.pointer (some ⟨b,0,none⟩)] h fun v h'=>Ext h h'/\∃(all:Sl) (mb:Nat) (A:List (Nat × Nat)) (l:List ((Nat × Nat) × Sl)),v=.tuple ⟨[.slice all.a all.n all.c,.map (some mb)]⟩/\PrM h' g role all mb A l:=by
 apply vc50 ⟨b,0,none⟩;unfold W50;have hN:=hV.num.n;have hM:=hV.num.m;have hsn:((g.s.toNat:Nat):Int)=g.s:=Int.toNat_of_nonneg (by omega);have hnn:g.n.toNat*g.n.toNat<=200*200:=Nat.mul_le_mul (by omega) (by omega);refine⟨g.s,hA.at_.nth 4 rfl,g.s,hA.at_.nth 4 rfl,?_⟩;refine (St.refl h).newbE fun h3 E3 hs=>⟨E3.sm,?_⟩;refine hs.put 0 rfl (o:=0) (vs:=[.int .i64 g.s,.int .i64 g.s]) rfl (Yyt 2) fun h4 hs=>?_;refine⟨g.s,g.s,hs.at 0 rfl (o:=0) (n:=2) rfl,?_⟩;refine hs.newb fun h7 hs=>?_;have hs:=hs.blkS 1 2 ([(g.s.toNat,g.s.toNat)].map pC) (by unfold pC;simp only[Yyl,List.map_nil,Yyu,List.flatten_nil,Yw];rw[hsn]) (fun r hr=>by obtain⟨x,_,rfl⟩:=Yp.1 hr;rfl) rfl (by decide);refine hs.mmake 93 fun h10 E10 hs=>⟨some h7.size,rfl,?_⟩;refine⟨((g.s.toNat:Nat):Int),((g.s.toNat:Nat):Int),by rw[hsn];exact hs.at 2 rfl (o:=0) (n:=2) rfl,?_⟩;refine hs.mput (cv:=slV) (l:=[]) M202 0 rfl (fun q hq=>by cases hq) .nil (a:=(g.s.toNat,g.s.toNat)) ⟨by simp only;omega,by simp only;omega⟩ ⟨none,0,0⟩ fun h13 hs=>?_;have hI:RI g role 0 0 [(g.s.toNat,g.s.toNat)] [] [((g.s.toNat,g.s.toNat),⟨none,0,0⟩)]:=
  ⟨rfl,fun k q hq=>(by simp at hq),fun p=>by simp,by simp,by simp,fun p hp=>by rw[Ye] at hp;rw[hp];exact .start,by simp,fun k p hk=>by omega⟩
 refine⟨fun all x h' m=>∃(i:Nat) (A:List (Nat × Nat)) (Q:List (Sl × List Pmv)) (l:List ((Nat × Nat) × Sl)),x=i/\m=g.n.toNat*g.n.toNat-i/\i<=A.length/\St h h' (rchL all h7.size A Q l [.blk h.size [.int .i64 g.s,.int .i64 g.s] 97])/\RI g role i i A Q l,⟨_,0,_,[],_,rfl,rfl,Nat.zero_le _,hs.perm (List.Perm.swap _ _ _),hI⟩,?_⟩;clear hs hI;rintro-all _ h19 m ⟨i,A,Q,l,rfl,rfl,hi,hs,hI⟩;have hAl:=hI.len hV;have hal:=hs.len 0 (s:=all) (e:=97) (n:=2) (rows:=A.map pC) rfl (by omega);rw[Yc] at hal;refine sBi (fun c=>?_) (fun c=>?_)
 .refine (hs.rows 0 rfl (by omega)).nbI (by omega) (by omega) fun b20 o21 p gp t=>?_;replace gp:A[i]?=some p:=gp;have hpr:=hI.pr p (Yb gp);have hpl:=hpr.lt hV;refine⟨((p.1:Nat):Int),((p.2:Nat):Int),t,?_⟩;refine (movesR164 b g role ho os p.1 p.2 h19 (hA.ext hs.ext) hV hpl.1 hpl.2).mono ?_;rintro _ h26 ⟨r,rfl,hs2⟩;refine⟨r,rfl,?_⟩;replace hs:=hs.join hs2;refine (hs.rows 0 (s:=all) (e:=97) (n:=2) (cs:=pC) (l:=A) rfl (by omega)).nbI (by omega) (by omega) fun b27 o28 p' gp' t'=>?_;replace gp':A[i]?=some p':=gp';rw[gp] at gp';cases gp';refine⟨((p.1:Nat):Int),((p.2:Nat):Int),t',?_⟩;refine hs.mput (cv:=slV) (l:=l) M202 1 rfl (hI.kok hV) hI.ln (a:=p) ⟨by omega,by omega⟩ r fun h31 hs=>?_;have hI2:=hI.upd gp r;have hs:St h h31 (rchL all h7.size A (Q++[(r,movL g.es role p.1 p.2)]) (mset l p r) [.blk h.size [.int .i64 g.s,.int .i64 g.s] 97]):=by
   refine hs.perm (List.Perm.of_eq ?_);unfold rchL;rw[Ym];simp[nest]
  clear hs2 t t';have hml:=movL_len (es:=g.es) (role:=role) (s:=p.1) (t:=p.2) hM;refine⟨fun all x h' m=>∃(j:Nat) (A':List (Nat × Nat)) (l':List ((Nat × Nat) × Sl)),x=j/\m=r.n-j/\j<=r.n/\A.length<=A'.length/\St h h' (rchL all h7.size A' (Q++[(r,movL g.es role p.1 p.2)]) l' [.blk h.size [.int .i64 g.s,.int .i64 g.s] 97])/\Ext h31 h31/\RI g role i (i+1) A' (Q++[(r,movL g.es role p.1 p.2)]) l'/\A'[i]?=some p/\∀m∈(movL g.es role p.1 p.2).take j,pto m∈A',⟨_,0,A,_,rfl,rfl,Nat.zero_le _,Yyt _,hs,⟨Yyt _,fun _ _=>rfl⟩,hI2,gp,fun m hm=>by rw[Yyk] at hm;cases hm⟩,?_⟩;clear hs hI2;rintro-all2 _ h37 m ⟨j,A',l',rfl,rfl,hj,hAA,hs,-,hI2,gp2,hcl⟩;have hgq:(Q++[(r,movL g.es role p.1 p.2)])[i]?=some (r,movL g.es role p.1 p.2):=by
   rw[Yyc (by rw[hI.qn];exact Yyt _),hI.qn,Nat.sub_self];rfl
  have hw2:Rw h37 4 r ((movL g.es role p.1 p.2).map Pmv.cs):=hs.rw (3+i) (rch_get hgq) (by omega);have hrn:=hw2.ln;have hAl2:=hI2.len hV;have hal2:=hs.len 0 (s:=all2) (e:=97) (n:=2) (rows:=A'.map pC) rfl (by omega);rw[Yc] at hal2;refine sBi (fun c2=>?_) (fun c2=>?_)
  .refine hw2.nbI (by omega) (by omega) fun b38 o39 mv gm t=>?_;replace gm:(movL g.es role p.1 p.2)[j]?=some mv:=gm;have hmm:=Yb gm;have hpt:=pto_lt hV hpl hmm;refine⟨mv.x,mv.y,mv.s,mv.t,t,?_⟩;refine hs.newput (vs:=mv.cs) rfl rfl fun h45 hs=>?_;refine⟨((pto mv).1:Nat),((pto mv).2:Nat),by rw[hpt.2.2.1,hpt.2.2.2];exact hs.at 0 rfl (o:=2) (n:=2) rfl,?_⟩;refine hs.mlookOk (cv:=slV) (l:=l') M202 2 rfl (hI2.kok hV) hI2.ln (a:=pto mv) ⟨by omega,by omega⟩ ?_;refine⟨(mget l' (pto mv)).getD ⟨none,0,0⟩,(mget l' (pto mv)).isSome,by cases mget l' (pto mv)<;>rfl,?_⟩;refine sB_intro (fun c3=>?_) (fun c3=>?_)
   .have hno:pto mv∉A':=fun hm=>by
     have h9:=(mget_isSome (pto mv) l').2 ((hI2.ky _).2 hm);rw[h9] at c3;cases c3
    refine⟨((pto mv).1:Nat),((pto mv).2:Nat),by rw[hpt.2.2.1,hpt.2.2.2];exact hs.at 0 rfl (o:=2) (n:=2) rfl,?_⟩;refine hs.mput (cv:=slV) (l:=l') M202 2 rfl (hI2.kok hV) hI2.ln (a:=pto mv) ⟨by omega,by omega⟩ ⟨none,0,0⟩ fun h54 hs=>?_;refine⟨((pto mv).1:Nat),((pto mv).2:Nat),by rw[hpt.2.2.1,hpt.2.2.2];exact hs.at 0 rfl (o:=2) (n:=2) rfl,?_⟩;refine hs.app 1 rfl app201 (m:=1) [pC (pto mv)] rfl rfl (fun r hr=>by rw[Ye] at hr;rw[hr];rfl) rfl (by omega) (by simp only[maxLen];omega) fun s58 h59 n58 hs=>?_;have hI3:=hI2.new (by omega) hno (.step hpr hmm) ⟨none,0,0⟩;refine⟨_,by omega,j+1,A'++[pto mv],_,by rw[w64 (by omega) (by omega)];omega,rfl,by omega,by rw[Yh];omega,?_,⟨Yyt _,fun _ _=>rfl⟩,hI3,by rw[Yyi (by omega)];exact gp2,fun m hm=>?_⟩
    .have hs:=hs.drop 1;unfold rchL;rw[Ym (f:=pC)];exact hs
    .rw[take_snoc gm,Yk,Ye] at hm;rcases hm with hm | rfl
     .exact List.mem_append_left _ (hcl m hm)
     .simp
   .have hin:pto mv∈A':=(hI2.ky _).1 ((mget_isSome (pto mv) l').1 (bT c3));refine⟨_,by omega,j+1,A',l',by rw[w64 (by omega) (by omega)];omega,rfl,by omega,hAA,hs.drop 1,⟨Yyt _,fun _ _=>rfl⟩,hI2,gp2,fun m hm=>?_⟩;rw[take_snoc gm,Yk,Ye] at hm;rcases hm with hm | rfl
    .exact hcl m hm
    .exact hin
  .rw[Yj (by omega)] at hcl;refine⟨_,by omega,i+1,A',_,l',by rw[w64 (by omega) (by omega)];omega,rfl,by omega,hs,⟨hI2.qn,hI2.q,hI2.ky,hI2.ln,hI2.nd,hI2.pr,hI2.st,fun k x hk hx m hm=>?_⟩⟩;by_cases hki:k=i
   .subst hki;rw[gp2] at hx;cases hx;exact hcl m hm
   .exact hI2.cl k x (by omega) hx m hm
 .refine⟨hs.ext,all,h7.size,A,l,rfl,RL.ofSt hs 0 rfl (by omega) (by omega),hs.get (k:=1) rfl,hI.kok hV,hI.ln,fun p hp=>?_,hI.nd,fun p=>⟨hI.pr p,fun hp=>?_⟩⟩
  .obtain⟨k,hk⟩:=Yf.1 hp;have hkl:=(Ya.1 hk).1;obtain⟨q,hq⟩:=get_some (l:=Q) (i:=k) (by rw[hI.qn];omega);obtain⟨p',h1,h2,h3⟩:=hI.q k q hq;rw[hk] at h1;cases h1;have hml:=movL_len (es:=g.es) (role:=role) (s:=p.1) (t:=p.2) hM;refine⟨q.1,h2,?_⟩;rw[<-h3];exact RL.ofSt hs (3+k) (rch_get hq) (by omega) (by rw[h3];omega)
  .induction hp with
   | start=>exact hI.st
   | step _ hm ih=>
    obtain⟨k,hk⟩:=Yf.1 ih;exact hI.cl k _ (by have:=(Ya.1 hk).1;omega) hk _ hm
structure Arv where
 e:Int
 n:Int
 m:Ms
def Arv.cs (x:Arv):List Value:=[.int .i64 x.e,.int .i64 x.n,.int .i64 x.m.p,.int .i64 x.m.l]
def Ms.ev (m:Ms):Ev:=⟨false,m.p,m.l⟩
def arvS (K:List Ev) (b:Option Arv) (x:Arv):Option Arv:=
 if x.m.ev∈K then (match b with | none=>some x | some y=>if x.n<y.n then some x else b) else b
def arvF (K:List Ev) (L:List Arv):Option Arv:=L.foldl (arvS K) none
def arv0:Arv:=⟨0,0,⟨0,0⟩⟩
def ArB (b:Option Arv):Prop:=∀y,b=some y->0<y.n
structure An where
 ho:Sl
 os:Nat->Sl
 hfi:Sl
 fi:List Fs
 hli:Sl
 li:List Lm
 hag:Sl
 ag:List Bool
 how:Sl
 ow:List Bool
 har:Sl
 ar:List (Sl × List Arv)
structure AnF (h:Heap) (b:Nat) (g:Gl) (role:Int) (X:An):Prop where
 gg:AnG h b g role X.ho X.os
 r:AnR h ⟨b,0,none⟩ role X.hfi X.hli X.hag X.how X.fi X.li X.ag X.ow
 a:hc h ⟨b,14,none⟩=some (.slice X.har.a X.har.n X.har.c)
 ra:RL h 1 X.har slC (X.ar.map Prod.fst)
 re:∀q∈X.ar,RL h 4 q.1 Arv.cs q.2
 nf:X.fi.length=g.n.toNat
 nl:X.li.length=g.n.toNat
 na:X.ag.length=g.n.toNat
 nw:X.ow.length=g.n.toNat
 nr:X.ar.length=g.n.toNat
theorem AnF.ext {h h':Heap} {b:Nat} {g:Gl} {role:Int} {X:An} (hA:AnF h b g role X) (E:Ext h h'):AnF h' b g role X:=
 ⟨hA.gg.ext E,hA.r.ext E,hc_ext E hA.a,hA.ra.ext E,fun q hq=>(hA.re q hq).ext E,hA.nf,hA.nl,hA.na,hA.nw,hA.nr⟩
theorem arrives173 (b:Nat) (g:Gl) (role:Int) (X:An) (s t:Nat) (fs:Fs) (q:Sl × List Arv) (h:Heap) (hA:AnF h b g role X) (gt:X.fi[t]?=some fs) (gq:X.ar[s]?=some q) (hq:∀x∈q.2,0<x.n) :
  Fn Pz 152 #[.pointer (some ⟨b,0,none⟩),.agg ⟨[.int .i64 (s:Nat),.int .i64 (t:Nat)]⟩] h fun v h'=>Ext h h'/\v=.tuple ⟨[.agg ⟨((arvF fs.l q.2).getD arv0).cs⟩,.bool (arvF fs.l q.2).isSome]⟩:=by
 apply vc152 ⟨b,0,none⟩ (s:Nat) (t:Nat);unfold W152;have n1:=hA.ra.ln;have n2:=hA.r.rf.ln;have ls:=(Ya.1 gq).1;have lt:=(Ya.1 gt).1;have hql:=hA.re q (Yb gq);have hfl:=hA.r.re fs (Yb gt);have n3:=hql.ln;have m3:=hql.sm;rw[Yc] at n1;refine (St.refl h).newb fun h3 hs=>?_;refine hs.newb fun h4 hs=>?_;refine hs.newb fun h5 hs=>?_;refine⟨X.har,(hA.ext hs.ext).a,(s:Nat),hs.rd 2 rfl (i:=0) rfl,?_⟩;refine (hA.ra.ext hs.ext).rw.nbI (by omega) (by omega) fun b8 o9 d gd u=>?_;replace gd:(X.ar.map Prod.fst)[s]?=some d:=gd;rw[Yd,gq] at gd;cases gd;refine⟨q.1,u.hd,?_⟩;refine⟨fun x h' m=>∃(i:Nat) (o:Option Arv),x=i/\m=q.1.n-i/\i<=q.1.n/\St h h' [.blk h4.size (o.getD arv0).cs 276,.blk h3.size [.int .i64 0,.int .i64 0,.int .i64 0,.int .i64 0] 276,.blk h.size [.int .i64 (s:Nat),.int .i64 (t:Nat)] 97]/\o=(q.2.take i).foldl (arvS fs.l) none/\ArB o,⟨_,0,none,rfl,rfl,by omega,hs,rfl,fun y hy=>by cases hy⟩,?_⟩;clear hs;rintro-_ h15 m ⟨i,o,rfl,rfl,hi,hs,ho,hob⟩;have nxt:∀ {hZ:Heap} {x:Arv} {o':Option Arv} (c:i<q.1.n) (gx:q.2[i]?=some x) (e:o'=arvS fs.l o x),ArB o'->St h hZ [.blk h4.size (o'.getD arv0).cs 276,.blk h3.size [.int .i64 0,.int .i64 0,.int .i64 0,.int .i64 0] 276,.blk h.size [.int .i64 (s:Nat),.int .i64 (t:Nat)] 97] ->
   ∃m,m<q.1.n-i/\∃(i':Nat) (o:Option Arv),IntKind.wrap .i64 ((i:Int)+1)=i'/\m=q.1.n-i'/\i'<=q.1.n/\St h hZ [.blk h4.size (o.getD arv0).cs 276,.blk h3.size [.int .i64 0,.int .i64 0,.int .i64 0,.int .i64 0] 276,.blk h.size [.int .i64 (s:Nat),.int .i64 (t:Nat)] 97]/\o=(q.2.take i').foldl (arvS fs.l) none/\ArB o:=fun {hZ x o'} c gx e hb hs=>by
  refine⟨_,?_,i+1,o',by rw[w64 (by omega) (by omega)];omega,rfl,by omega,hs,?_,hb⟩
  .omega
  .rw[take_snoc gx,List.foldl_append,<-ho,e];rfl
 refine sBi (fun c=>?_) (fun c=>?_)
 .refine (hql.ext hs.ext).rw.nbI (by omega) (by omega) fun b16 o17 x gx u2=>?_;replace gx:q.2[i]?=some x:=gx;have hx0:=hq x (Yb gx);refine⟨x.e,x.n,x.m.p,x.m.l,u2,?_⟩;refine hs.newput (vs:=x.cs) rfl rfl fun h23 hs=>?_;refine⟨X.hfi,(hA.ext hs.ext).r.f,(t:Nat),hs.rd 3 rfl (i:=1) rfl,?_⟩;refine (hA.r.rf.ext hs.ext).rw.nbI (by omega) (by omega) fun b26 o27 f gf u3=>?_;replace gf:X.fi[t]?=some f:=gf;rw[gt] at gf;cases gf;refine⟨fs.s,fs.b,u3,x.m.p,hs.rd 0 rfl (i:=2) rfl,x.m.l,hs.rd 0 rfl (i:=3) rfl,?_⟩;refine (hasR214 fs.l fs.b x.m.ev fs.s h23 (hfl.ext hs.ext).rw hfl.sm).mono ?_;rintro _ h34 ⟨⟨b2,rfl,hb2⟩,E⟩;replace hs:=hs.step E;refine⟨b2,rfl,sB_intro (fun c2=>?_) (fun c2=>?_)⟩
  .have hin:x.m.ev∈fs.l:=hb2.1 c2;cases o with
   | none=>
    refine⟨0,hs.rd 1 rfl (i:=1) rfl,sB_t rfl ?_⟩;refine⟨x.e,x.n,x.m.p,x.m.l,hs.at 0 rfl (o:=0) (n:=4) rfl,?_⟩;refine hs.put 1 rfl (o:=0) (vs:=x.cs) rfl (Yyt 4) fun h40 hs=>?_;exact nxt (by omega) gx (o':=some x) (by unfold arvS;rw[if_pos hin]) (fun y hy=>by cases hy;exact hx0) (hs.drop 1)
   | some y=>
    have hy0:=hob y rfl;refine⟨y.n,hs.rd 1 rfl (i:=1) rfl,sBe (fun e=>by omega) (fun _=>?_)⟩;refine⟨x.n,hs.rd 0 rfl (i:=1) rfl,y.n,hs.rd 1 rfl (i:=1) rfl,sBi (fun c3=>?_) (fun c3=>?_)⟩
    .refine⟨x.e,x.n,x.m.p,x.m.l,hs.at 0 rfl (o:=0) (n:=4) rfl,?_⟩;refine hs.put 1 rfl (o:=0) (vs:=x.cs) rfl (Yyt 4) fun h40 hs=>?_;exact nxt (by omega) gx (o':=some x) (by unfold arvS;rw[if_pos hin];simp only;rw[if_pos c3]) (fun y hy=>by cases hy;exact hx0) (hs.drop 1)
    .exact nxt (by omega) gx (o':=some y) (by unfold arvS;rw[if_pos hin];simp only;rw[if_neg c3]) hob (hs.drop 1)
  .have hno:x.m.ev∉fs.l:=fun hm=>by rw[hb2.2 hm] at c2;cases c2
   exact nxt (by omega) gx (o':=o) (by unfold arvS;rw[if_neg hno]) hob (hs.drop 1)
 .rw[Yj (by omega)] at ho;have hoF:o=arvF fs.l q.2:=ho;refine⟨(o.getD arv0).e,(o.getD arv0).n,(o.getD arv0).m.p,(o.getD arv0).m.l,hs.at 0 rfl (o:=0) (n:=4) rfl,(o.getD arv0).n,hs.rd 0 rfl (i:=1) rfl,?_⟩;have hb4:=hs.get (k:=0) rfl;refine hs.put 1 rfl (o:=0) (vs:=(o.getD arv0).cs) rfl (Yyt 4) fun h57 hs2=>⟨?_,?_⟩
  .exact sm_cons (hs.same hs2 0 0 rfl rfl) sm_nil
  .refine⟨(o.getD arv0).e,(o.getD arv0).n,(o.getD arv0).m.p,(o.getD arv0).m.l,hs2.at 1 rfl (o:=0) (n:=4) rfl,hs2.ext,?_⟩;rw[<-hoF];have:decide ((o.getD arv0).n>0)=o.isSome:=by
    cases o with
    | none=>rfl
    | some y=>exact decide_eq_true (hob y rfl)
   rw[this];rfl
noncomputable def cstS (X:An) (kind:Int) (p:Nat × Nat):Option Int:=by
 classical exact if kind=1 then (match X.fi[p.1]?,X.fi[p.2]? with | some fs,some ft=>if (fs.l.find? (difP ft.l)).isSome then some 0 else none | _,_=>none)
 else if kind=3 then (if ClA X.li X.ag X.ow p.1 p.2 then some 0 else none)
 else (match X.fi[p.2]?,X.ar[p.1]? with | some ft,some q=>(arvF ft.l q.2).map (·.n) | _,_=>none)
theorem costs167 (b:Nat) (g:Gl) (role:Int) (X:An) (kind:Int) (p:Nat × Nat) (h:Heap) (hA:AnF h b g role X) (hp:(p.1:Int)<g.n/\(p.2:Int)<g.n) (hq:∀q∈X.ar,∀x∈q.2,0<x.n) :
  Fn Pz 166 #[.pointer (some ⟨b,0,none⟩),.int .i64 kind,.agg ⟨pC p⟩] h fun v h'=>Ext h h'/\v=.tuple ⟨[.int .i64 ((cstS X kind p).getD 0),.bool (cstS X kind p).isSome]⟩:=by
 apply vc166 ⟨b,0,none⟩ kind (p.1:Nat) (p.2:Nat);unfold W166;obtain⟨fs,gs⟩:=get_some (l:=X.fi) (i:=p.1) (by rw[hA.nf];omega);obtain⟨ft,gt⟩:=get_some (l:=X.fi) (i:=p.2) (by rw[hA.nf];omega);obtain⟨q,gq⟩:=get_some (l:=X.ar) (i:=p.1) (by rw[hA.nr];omega);refine (St.refl h).newb fun h3 hs=>?_;refine sBe (fun c=>?_) (fun c=>sBe (fun c2=>?_) (fun c2=>?_))
 .refine⟨(p.1:Nat),(p.2:Nat),hs.at 0 rfl (o:=0) (n:=2) rfl,?_⟩;refine (differR171 ⟨b,0,none⟩ role X.hfi X.hli X.hag X.how X.fi X.li X.ag X.ow p.1 p.2 fs ft h3 (hA.ext hs.ext).r gs gt).mono ?_;rintro _ h11 ⟨E,rfl⟩;replace hs:=hs.step E;have hc:cstS X kind p=if (fs.l.find? (difP ft.l)).isSome then some 0 else none:=by unfold cstS;rw[if_pos c,gs,gt]
  cases hf:fs.l.find? (difP ft.l) with
  | some x=>
   refine⟨x.send,x.peer,x.label,true,rfl,?_⟩;refine hs.newput (vs:=x.cs) rfl rfl fun h13 hs=>⟨hs.ext,?_⟩;rw[hc,hf];rfl
  | none=>
   refine⟨false,0,0,false,rfl,?_⟩;refine hs.newput (vs:=[.bool false,.int .i64 0,.int .i64 0]) rfl rfl fun h13 hs=>⟨hs.ext,?_⟩;rw[hc,hf];rfl
 .refine⟨(p.1:Nat),(p.2:Nat),hs.at 0 rfl (o:=0) (n:=2) rfl,?_⟩;refine (clockR213 ⟨b,0,none⟩ role X.hfi X.hli X.hag X.how X.fi X.li X.ag X.ow p.1 p.2 h3 (hA.ext hs.ext).r (by rw[hA.nw];omega) (by rw[hA.nl];omega) (by rw[hA.na];omega)).mono ?_;rintro _ h18 ⟨⟨b2,rfl,hb2⟩,E⟩;refine⟨b2,rfl,(hs.step E).ext,?_⟩;unfold cstS;rw[if_neg c,if_pos c2];by_cases hC:ClA X.li X.ag X.ow p.1 p.2
  .rw[if_pos hC,hb2.2 hC];rfl
  .have:b2=false:=by
    cases b2
    .rfl
    .exact absurd (hb2.1 rfl) hC
   rw[if_neg hC,this];rfl
 .refine⟨(p.1:Nat),(p.2:Nat),hs.at 0 rfl (o:=0) (n:=2) rfl,?_⟩;refine (arrives173 b g role X p.1 p.2 ft q h3 (hA.ext hs.ext) gt gq (hq q (Yb gq))).mono ?_;rintro _ h27 ⟨E,rfl⟩;replace hs:=hs.step E;refine⟨_,_,_,_,_,rfl,?_⟩;refine hs.newput (vs:=((arvF ft.l q.2).getD arv0).cs) rfl rfl fun h29 hs=>?_;refine⟨((arvF ft.l q.2).getD arv0).n,hs.rd 0 rfl (i:=1) rfl,hs.ext,?_⟩;unfold cstS;rw[if_neg c,if_neg c2,gt,gq];simp only;cases arvF ft.l q.2<;>rfl
end Go.VC
end

section
namespace Go.VC
open Go.Proofs
/- (*farandole/realize.analysis).left$1
   loop rrrlb: 
   loop rrrlb:  -/
def V226a (h10:Heap) (c0:Addr) (h:Heap) (p1:Int) (c1:Addr) (R:Value->Heap->Prop):Prop:=
 ((∃x11:Option Nat,hc h10 c0=some (.map x11)/\(∃x12:Int,∃x13:Int,atC h10 ⟨h.size,0,none⟩ [.int .i64 x12,.int .i64 x13]/\(RunW Pz (Instr.mapUpdate 293 (.map x11) (.agg ⟨[.int .i64 x12,.int .i64 x13]⟩) (.int .i64 p1)) h10 (fun _ h14=>(∃I15:Heap->Nat->Prop,(∃m16,I15 h14 m16)/\(∀(_:Env) (h18:Heap) (m17:Nat),I15 h18 m17->(∃x19:Sl,hc h18 c1=some (.slice x19.a x19.n x19.c)/\(sB (decide ((x19.n:Int)<=p1)) ((∃x20:Sl,hc h18 c1=some (.slice x20.a x20.n x20.c)/\(∀h21:Heap,h21=h18.push (.cells ⟨[.slice none 0 0]⟩ 92)->(App Pz 350 350 (.slice x20.a x20.n x20.c) (.slice (some ⟨h18.size,0,none⟩) 1 1) h21 fun s22 h23=>(okAt h23 c1 1/\∀h24:Heap,h24=hputs h23 c1 0 [.slice s22.a s22.n s22.c]->(∃m25,m25<m17/\I15 h24 m25)))))) ((∃x26:Sl,hc h18 c1=some (.slice x26.a x26.n x26.c)/\(∃x27:Sl,hc h18 c1=some (.slice x27.a x27.n x27.c)/\(NB x27.a fun b28 o29=>((0<=(p1:Int)/\(p1:Int)<(x27.n:Nat))/\(∃x30:Sl,hc h18 ⟨b28,o29+Int.toNat p1*1,none⟩=some (.slice x30.a x30.n x30.c)/\(∃x31:Int,∃x32:Int,atC h18 ⟨h.size,0,none⟩ [.int .i64 x31,.int .i64 x32]/\(∀h33:Heap,h33=h18.push (.cells ⟨[.int .i64 x31,.int .i64 x32]⟩ 97)->(Sm [⟨b28,o29+Int.toNat p1*1,none⟩,c1,c1] h18 h33/\(App Pz 92 92 (.slice x30.a x30.n x30.c) (.slice (some ⟨h18.size,0,none⟩) 1 1) h33 fun s34 h35=>(Sm [c1] h33 h35/\(NB x26.a fun b36 o37=>((0<=(p1:Int)/\(p1:Int)<(x26.n:Nat))/\(okAt h35 ⟨b36,o37+Int.toNat p1*1,none⟩ 1/\∀h38:Heap,h38=hputs h35 ⟨b36,o37+Int.toNat p1*1,none⟩ 0 [.slice s34.a s34.n s34.c]->R (.tuple ⟨[]⟩) h38)))))))))))))))))))))))
def W226 (p0_1:Int) (p0_2:Int) (p1:Int) (c0:Addr) (c1:Addr) (h:Heap) (R:Value->Heap->Prop):Prop:=
 (∀h3:Heap,h3=h.push (.cells ⟨[.int .i64 p0_1,.int .i64 p0_2]⟩ 97)->(∃x4:Option Nat,hc h3 c0=some (.map x4)/\(∃x5:Int,∃x6:Int,atC h3 ⟨h.size,0,none⟩ [.int .i64 x5,.int .i64 x6]/\(RunW Pz (Instr.lookup 293 (.map x4) (.agg ⟨[.int .i64 x5,.int .i64 x6]⟩) true) h3 (fun v7 h10=>∃x8:Int,∃x9:Bool,v7=.tuple ⟨[.int .i64 x8,.bool x9]⟩/\(sB x9 ((sB (decide (x8<=p1)) (R (.tuple ⟨[]⟩) h10) (V226a h10 c0 h p1 c1 R))) (V226a h10 c0 h p1 c1 R)))))))
theorem vc226e (p0_1:Int) (p0_2:Int) (p1:Int) (c0:Addr) (c1:Addr) (h:Heap) (R:Value->Heap->Prop):W226 p0_1 p0_2 p1 c0 c1 h R=fnW Pz 226 (.s .z (.s .z (.s .z (.s (.b (.l [] .z)) .z)))) #[.agg ⟨[.int .i64 p0_1,.int .i64 p0_2]⟩,.int .i64 p1,.pointer (some c0),.pointer (some c1)] h R:=by kernel_rfl
theorem vc226 (p0_1:Int) (p0_2:Int) (p1:Int) (c0:Addr) (c1:Addr) (h:Heap) (R:Value->Heap->Prop) (H:W226 p0_1 p0_2 p1 c0 c1 h R):Fn Pz 226 #[.agg ⟨[.int .i64 p0_1,.int .i64 p0_2]⟩,.int .i64 p1,.pointer (some c0),.pointer (some c1)] h R:=fnI (vc226e p0_1 p0_2 p1 c0 c1 h R) H
end Go.VC
end

section
namespace Go.VC
open Go.Proofs Go.LexS
abbrev Pr:=Nat × Nat
def padB (B:List (List Pr)) (m:Nat):List (List Pr):=B++List.replicate (m-B.length) []
def pushB (B:List (List Pr)) (n:Nat) (p:Pr):List (List Pr):=(padB B (n+1)).set n ((padB B (n+1)).getD n []++[p])
def rejB (O:List (Pr × Nat)) (p:Pr) (n:Nat):Bool:=match mget O p with | some k=>decide (k<=n) | none=>false
def lfL (cb ob bb:Nat) (bk:Sl) (O:List (Pr × Nat)) (BS:List (Sl × List Pr)) (R:List It):List It:=
 [.blk cb [.map (some ob)] 293,.mp ob (O.map fun q=>(pV q.1,natV q.2)),.blk bb [.slice bk.a bk.n bk.c] 350,.sl bk 92 1 ((BS.map Prod.fst).map slC)]++BS.map (nest 97 2 pC)++R
theorem app324:appB Pz 350 92 1 24=true:=by kernel_rfl
theorem put_tail {h0 h h10:Heap} {cb ob bb:Nat} {bk:Sl} {O:List (Pr × Nat)} {BS:List (Sl × List Pr)} {R:List It} {p:Pr} {n:Nat} {K:Value->Heap->Prop}
  (hs:St h0 h10 (.blk h.size (pC p) 97::lfL cb ob bb bk O BS R)) (hO:∀q∈O,kokP q.1) (hOn:(O.map Prod.fst).Nodup) (hp:kokP p) (hn:n<=16777216) (hB:BS.length<=16777216) (hBl:∀q∈BS,q.2.length<=1048576)
  (hK:∀(bk':Sl) (BS':List (Sl × List Pr)) (h':Heap),St h0 h' (lfL cb ob bb bk' (mset O p n) BS' R)->BS'.map Prod.snd=pushB (BS.map Prod.snd) n p->K (.tuple ⟨[]⟩) h') :
  V226a h10 ⟨cb,0,none⟩ h (n:Nat) ⟨bb,0,none⟩ K:=by
 unfold V226a;refine⟨some ob,hs.rd 1 rfl (i:=0) rfl,(p.1:Nat),(p.2:Nat),hs.at 0 rfl (o:=0) (n:=2) rfl,?_⟩;refine hs.mput (cv:=natV) (l:=O) M278 2 rfl hO hOn (a:=p) hp n fun h14 hs=>?_;refine⟨fun h' m=>∃(bk':Sl) (BS':List (Sl × List Pr)) (k:Nat),m=n+1-BS'.length/\St h0 h' (.blk h.size (pC p) 97::lfL cb ob bb bk' (mset O p n) BS' R)/\BS'.map Prod.snd=BS.map Prod.snd++List.replicate k []/\(k=0\/BS'.length<=n+1),⟨_,bk,BS,0,rfl,hs,by simp,.inl rfl⟩,?_⟩;clear hs;rintro-h18 m ⟨bk',BS',k,rfl,hs,hBS,hk⟩;have hbl:BS'.length=BS.length+k:=by have:=congrArg List.length hBS;simpa using this
 have hbk:=hs.len 4 (s:=bk') (e:=92) (n:=1) (rows:=(BS'.map Prod.fst).map slC) rfl (by omega);rw[Yc,Yc] at hbk;refine⟨bk',hs.rd 3 rfl (i:=0) rfl,sBi (fun c=>?_) (fun c=>?_)⟩
 .refine⟨bk',hs.rd 3 rfl (i:=0) rfl,?_⟩;refine hs.app 4 rfl app324 (m:=1) [slC ⟨none,0,0⟩] rfl rfl (fun r hr=>by rw[Ye] at hr;rw[hr];rfl) rfl (by omega) (by simp only[maxLen];omega) fun s22 h23 n22 hs=>?_;refine hs.put 3 rfl (o:=0) (vs:=[.slice s22.a s22.n s22.c]) rfl (Yyt 1) fun h24 hs=>?_;have hs:=hs.nil_ 97 2;refine⟨_,?_,s22,BS'++[(⟨none,0,0⟩,[])],k+1,rfl,hs.perm ?_,by rw[Ym,hBS,Yz,List.replicate_succ'];rfl,?_⟩
  .rw[Yh,Yv];omega
  .unfold lfL;rw[Ym (f:=nest 97 2 pC),Ym (f:=Prod.fst),Ym (f:=slC)];have:(BS'.map (nest 97 2 pC)++[(⟨none,0,0⟩,[])].map (nest 97 2 pC):List It)=BS'.map (nest 97 2 pC)++[.sl ⟨none,0,0⟩ 97 2 []]:=rfl;rw[this];refine List.Perm.trans (l₂:=(.blk h.size (pC p) 97::[.blk cb [.map (some ob)] 293,.mp ob ((mset O p n).map fun q=>(pV q.1,natV q.2)),.blk bb [.slice s22.a s22.n s22.c] 350,.sl s22 92 1 ((BS'.map Prod.fst).map slC++[slC ⟨none,0,0⟩])]++BS'.map (nest 97 2 pC)) ++ .sl ⟨none,0,0⟩ 97 2 []::R) ?_ (List.Perm.of_eq (by simp[slC]));refine List.Perm.trans ?_ List.perm_middle.symm;exact List.Perm.of_eq (by simp[splice])
  .right
   rw[Yh,Yv];omega
 .have hnl:n<BS'.length:=by omega
  obtain⟨q,hq⟩:=get_some hnl;have hpad:padB (BS.map Prod.snd) (n+1)=BS'.map Prod.snd:=by
   unfold padB;rw[hBS,Yc];congr 2;omega
  have hql:q.2.length<=1048576:=by
   have h1:(BS'.map Prod.snd)[n]?=some q.2:=by rw[Yd,hq];rfl
   rw[hBS] at h1;rcases Nat.lt_or_ge n BS.length with h9 | h9
   .rw[Yyi (by rw[Yc];exact h9),Yd] at h1;obtain⟨q2,h2,h3⟩:=Yya.1 h1;rw[<-h3];exact hBl q2 (Yb h2)
   .rw[Yyc (by rw[Yc];exact h9)] at h1;have:=List.eq_of_mem_replicate (Yb h1);rw[this];exact Nat.zero_le _
  refine⟨bk',hs.rd 3 rfl (i:=0) rfl,bk',hs.rd 3 rfl (i:=0) rfl,?_⟩;refine (hs.rows 4 rfl (by omega)).nbI (by omega) (by omega) fun b28 o29 d gd u=>?_;replace gd:(BS'.map Prod.fst)[n]?=some d:=gd;rw[Yd,hq] at gd;cases gd;refine⟨q.1,u.hd,(p.1:Nat),(p.2:Nat),hs.at 0 rfl (o:=0) (n:=2) rfl,?_⟩;refine hs.newbE fun h33 E33 hs=>⟨E33.sm,?_⟩;have hs1:St h0 h33 ((.blk h18.size (pC p) 97 :: .blk h.size (pC p) 97::[.blk cb [.map (some ob)] 293,.mp ob ((mset O p n).map fun q=>(pV q.1,natV q.2)),.blk bb [.slice bk'.a bk'.n bk'.c] 350,.sl bk' 92 1 ((BS'.map Prod.fst).map slC)])++BS'.map (nest 97 2 pC)++R):=hs;have hqn:=(hs1.nestLn hq (by omega)).ln;refine hs1.nestAt hq app201 p (hs1.at 0 rfl (o:=0) (n:=2) rfl) rfl rfl (by omega) (by simp only[maxLen];omega) fun r h35 rn hs2=>⟨?_,?_⟩
  .exact sm_cons (hs1.same hs2 4 4 rfl rfl) sm_nil
  .refine hs2.set 5 rfl (by omega) (x:=(n:Nat)) (by omega) (by omega) r rfl rfl (fun b36 o37 h38 hs3=>?_) rfl;refine hK bk' (BS'.set n (r,q.2++[p])) h38 ?_ ?_
   .have:=hs3.drop 2;unfold lfL;rw[List.map_set (f:=Prod.fst)];exact this
   .unfold pushB;rw[hpad,List.map_set,Yo,Yd,hq];rfl
theorem put212 (h0 h:Heap) (cb ob bb:Nat) (bk:Sl) (O:List (Pr × Nat)) (BS:List (Sl × List Pr)) (R:List It) (p:Pr) (n:Nat) (hs:St h0 h (lfL cb ob bb bk O BS R)) (hO:∀q∈O,kokP q.1) (hOn:(O.map Prod.fst).Nodup) (hp:kokP p) (hn:n<=16777216) (hB:BS.length<=16777216) (hBl:∀q∈BS,q.2.length<=1048576) :
  Fn Pz 226 #[.agg ⟨pC p⟩,.int .i64 (n:Nat),.pointer (some ⟨cb,0,none⟩),.pointer (some ⟨bb,0,none⟩)] h fun v h'=>v=.tuple ⟨[]⟩/\∃(bk':Sl) (BS':List (Sl × List Pr)),St h0 h' (lfL cb ob bb bk' (if rejB O p n then O else mset O p n) BS' R)/\BS'.map Prod.snd=if rejB O p n then BS.map Prod.snd else pushB (BS.map Prod.snd) n p:=by
 apply vc226 (p.1:Nat) (p.2:Nat) (n:Nat) ⟨cb,0,none⟩ ⟨bb,0,none⟩;unfold W226;refine hs.newb fun h3 hs=>?_;refine⟨some ob,hs.rd 1 rfl (i:=0) rfl,(p.1:Nat),(p.2:Nat),hs.at 0 rfl (o:=0) (n:=2) rfl,?_⟩;refine hs.mlookOk (cv:=natV) (l:=O) M278 2 rfl hO hOn (a:=p) hp ?_;cases hm:mget O p with
 | none=>
  refine⟨0,false,rfl,sB_f rfl ?_⟩;have hr:rejB O p n=false:=by unfold rejB;rw[hm]
  refine put_tail hs hO hOn hp hn hB hBl fun bk' BS' h' hs' hb=>⟨rfl,bk',BS',?_,?_⟩
  .rw[hr];exact hs'
  .rw[hr];exact hb
 | some k=>
  refine⟨(k:Nat),true,rfl,sB_t rfl ?_⟩;refine sBi (fun c=>?_) (fun c=>?_)
  .have hr:rejB O p n=true:=by unfold rejB;rw[hm];exact decide_eq_true (by omega)
   refine⟨rfl,bk,BS,?_,?_⟩
   .rw[hr];exact hs.drop 1
   .rw[hr];rfl
  .have hr:rejB O p n=false:=by unfold rejB;rw[hm];exact decide_eq_false (by omega)
   refine put_tail hs hO hOn hp hn hB hBl fun bk' BS' h' hs' hb=>⟨rfl,bk',BS',?_,?_⟩
   .rw[hr];exact hs'
   .rw[hr];exact hb
end Go.VC
end

section
namespace Go.VC
def plen (m:Pmv):Nat:=if 0<=m.x/\0<=m.y then 2 else 1
theorem plen_pos (m:Pmv):1<=plen m/\plen m<=2:=by unfold plen;split<;>omega
inductive Dn (mv:Pr->List Pmv) (cst:Pr->Option Nat):Pr->Nat->Prop where
 | base {p:Pr} {c:Nat}:cst p=some c->Dn mv cst p c
 | step {p:Pr} {m:Pmv} {n:Nat}:m∈mv p->Dn mv cst (pto m) n->Dn mv cst p (n+plen m)
def Lst (mv:Pr->List Pmv) (cst:Pr->Option Nat) (p:Pr) (n:Nat):Prop:=Dn mv cst p n/\∀k,Dn mv cst p k->n<=k
theorem padB_get {B:List (List Pr)} {m n:Nat} {l:List Pr} (h:(padB B n)[m]?=some l):B[m]?=some l\/l=[]:=by
 unfold padB at h;rcases Nat.lt_or_ge m B.length with h1 | h1
 .rw[Yyi h1] at h;exact .inl h
 .rw[Yyc h1] at h;exact .inr (List.eq_of_mem_replicate (Yb h))
theorem padB_old {B:List (List Pr)} {m n:Nat} {l:List Pr} (h:B[m]?=some l):(padB B n)[m]?=some l:=by
 unfold padB;rw[Yyi (Ya.1 h).1];exact h
theorem padB_len (B:List (List Pr)) (n:Nat):(padB B n).length=max B.length n:=by
 unfold padB;rw[Yh,Yg];omega
theorem pushB_len (B:List (List Pr)) (n:Nat) (p:Pr):(pushB B n p).length=max B.length (n+1):=by
 unfold pushB;rw[Yyh,padB_len]
theorem pushB_at (B:List (List Pr)) (n:Nat) (p:Pr):∃l0,(B[n]?=some l0\/l0=[])/\(padB B (n+1))[n]?=some l0/\(pushB B n p)[n]?=some (l0++[p]):=by
 have hl:n<(padB B (n+1)).length:=by rw[padB_len];omega
 obtain⟨l0,h0⟩:=get_some hl;refine⟨l0,padB_get h0,h0,?_⟩;unfold pushB;rw[Yq hl,Yo,h0];rfl
theorem pushB_in {B:List (List Pr)} {n m:Nat} {p x:Pr} {l:List Pr} (h:(pushB B n p)[m]?=some l) (hx:x∈l):(∃l0,B[m]?=some l0/\x∈l0)\/(m=n/\x=p):=by
 by_cases e:n=m
 .subst e;obtain⟨l0,h1,_,h2⟩:=pushB_at B n p;rw[h2] at h;cases h;rcases Yk.1 hx with hx | hx
  .rcases h1 with h1 | h1
   .exact .inl ⟨l0,h1,hx⟩
   .subst h1;cases hx
  .exact .inr ⟨rfl,by simpa using hx⟩
 .unfold pushB at h;rw[Yy e] at h;rcases padB_get h with h1 | h1
  .exact .inl ⟨l,h1,hx⟩
  .subst h1;cases hx
theorem pushB_old {B:List (List Pr)} {n m:Nat} {p:Pr} {l0:List Pr} (h:B[m]?=some l0):∃l,(pushB B n p)[m]?=some l/\(l=l0\/(m=n/\l=l0++[p])):=by
 by_cases e:n=m
 .subst e;obtain⟨l1,_,h1,h2⟩:=pushB_at B n p;rw[padB_old h] at h1;cases h1;exact⟨_,h2,.inr ⟨rfl,rfl⟩⟩
 .refine⟨l0,?_,.inl rfl⟩;unfold pushB;rw[Yy e];exact padB_old h
structure OB (A:List Pr) (mv:Pr->List Pmv) (cst:Pr->Option Nat) (O:List (Pr × Nat)) (B:List (List Pr)):Prop where
 on:(O.map Prod.fst).Nodup
 oa:∀q∈O,q.1∈A
 d:∀p n,mget O p=some n->Dn mv cst p n
 b1:∀(n:Nat) (l:List Pr),B[n]?=some l->∀p∈l,p∈A/\∃k,k<=n/\mget O p=some k
 b2:∀p n,mget O p=some n->∃l,B[n]?=some l/\p∈l
 nd:∀(n:Nat) (l:List Pr),B[n]?=some l->l.Nodup
def putO (O:List (Pr × Nat)) (p:Pr) (n:Nat):List (Pr × Nat):=if rejB O p n then O else mset O p n
def putB (O:List (Pr × Nat)) (B:List (List Pr)) (p:Pr) (n:Nat):List (List Pr):=if rejB O p n then B else pushB B n p
theorem rej_t {O:List (Pr × Nat)} {p:Pr} {n:Nat}:rejB O p n=true ↔ ∃k,k<=n/\mget O p=some k:=by
 unfold rejB;cases h:mget O p with
 | none=>simp
 | some k=>simp
theorem OB.put {A:List Pr} {mv:Pr->List Pmv} {cst:Pr->Option Nat} {O:List (Pr × Nat)} {B:List (List Pr)} (h:OB A mv cst O B) {p:Pr} {n:Nat} (hp:p∈A) (hd:Dn mv cst p n):OB A mv cst (putO O p n) (putB O B p n):=by
 unfold putO putB;by_cases hr:rejB O p n=true
 .rw[if_pos hr,if_pos hr];exact h
 .rw[if_neg hr,if_neg hr];have hno:¬∃k,k<=n/\mget O p=some k:=fun h9=>hr (rej_t.2 h9);refine⟨mset_nodup _ _ _ h.on,fun q hq=>?_,fun x m hx=>?_,fun m l hl x hx=>?_,fun x m hx=>?_,fun m l hl=>?_⟩
  .have:=(mset_keys p n O q.1).1 (Yp.2 ⟨q,hq,rfl⟩);rcases this with h1 | h1
   .obtain⟨q2,h2,h3⟩:=Yp.1 h1;rw[<-h3];exact h.oa q2 h2
   .rw[h1];exact hp
  .rw[mget_set] at hx;split at hx
   .rename_i e;cases hx;rw[e];exact hd
   .exact h.d x m hx
  .rw[mget_set];rcases pushB_in hl hx with ⟨l0,h1,h2⟩ | ⟨h1,h2⟩
   .obtain⟨h3,k,h4,h5⟩:=h.b1 m l0 h1 x h2;refine⟨h3,?_⟩;by_cases e:x=p
    .refine⟨n,?_,by rw[if_pos e]⟩;subst e;rcases Nat.lt_or_ge n k with h6 | h6
     .omega
     .exact absurd ⟨k,h6,h5⟩ hno
    .exact⟨k,h4,by rw[if_neg e];exact h5⟩
   .subst h2;exact⟨hp,n,by omega,by rw[if_pos rfl]⟩
  .rw[mget_set] at hx;split at hx
   .rename_i e;cases hx;subst e;obtain⟨l0,_,_,h2⟩:=pushB_at B n x;exact⟨_,h2,by simp⟩
   .obtain⟨l0,h1,h2⟩:=h.b2 x m hx;obtain⟨l,h3,h4⟩:=pushB_old (n:=n) (p:=p) h1;refine⟨l,h3,?_⟩;rcases h4 with rfl | ⟨_,rfl⟩
    .exact h2
    .exact List.mem_append_left _ h2
  .by_cases e:n=m
   .subst e;obtain⟨l0,h1,_,h2⟩:=pushB_at B n p;rw[h2] at hl;cases hl;rw[List.nodup_append];refine⟨?_,by simp,fun a ha b hb e=>?_⟩
    .rcases h1 with h1 | h1
     .exact h.nd n l0 h1
     .subst h1;exact .nil
    .rw[Ye] at hb;subst hb;subst e;rcases h1 with h1 | h1
     .obtain⟨_,k,h4,h5⟩:=h.b1 n l0 h1 a ha;exact hno ⟨k,h4,h5⟩
     .subst h1;cases ha
   .unfold pushB at hl;rw[Yy e] at hl;rcases padB_get hl with h1 | h1
    .exact h.nd m l h1
    .subst h1;exact .nil
theorem putO_le {O:List (Pr × Nat)} {p x:Pr} {n k:Nat} (h:mget O x=some k):∃k',k'<=k/\mget (putO O p n) x=some k':=by
 unfold putO;by_cases hr:rejB O p n=true
 .rw[if_pos hr];exact⟨k,Yyt _,h⟩
 .rw[if_neg hr,mget_set];by_cases e:x=p
  .refine⟨n,?_,by rw[if_pos e]⟩;subst e;rcases Nat.lt_or_ge n k with h6 | h6
   .omega
   .exact absurd (rej_t.2 ⟨k,h6,h⟩) hr
  .exact⟨k,Yyt _,by rw[if_neg e];exact h⟩
theorem putO_at (O:List (Pr × Nat)) (p:Pr) (n:Nat):∃k',k'<=n/\mget (putO O p n) p=some k':=by
 unfold putO;by_cases hr:rejB O p n=true
 .rw[if_pos hr];exact rej_t.1 hr
 .rw[if_neg hr,mget_set,if_pos rfl];exact⟨n,Yyt _,rfl⟩
theorem putO_fix {O:List (Pr × Nat)} {p x:Pr} {n k:Nat} (h:mget O x=some k) (hk:k<=n):mget (putO O p n) x=some k:=by
 unfold putO;by_cases hr:rejB O p n=true
 .rw[if_pos hr];exact h
 .rw[if_neg hr,mget_set,if_neg (fun e=>hr (rej_t.2 ⟨k,hk,by rw[<-e];exact h⟩))];exact h
theorem putO_new {O:List (Pr × Nat)} {p x:Pr} {n k:Nat} (h:mget (putO O p n) x=some k):mget O x=some k\/(x=p/\k=n):=by
 unfold putO at h;by_cases hr:rejB O p n=true
 .rw[if_pos hr] at h;exact .inl h
 .rw[if_neg hr,mget_set] at h;split at h
  .rename_i e;cases h;exact .inr ⟨e,rfl⟩
  .exact .inl h
theorem putB_len (O:List (Pr × Nat)) (B:List (List Pr)) (p:Pr) (n:Nat):(putB O B p n).length<=max B.length (n+1):=by
 unfold putB;split
 .omega
 .rw[pushB_len];exact Yyt _
theorem putB_same {O:List (Pr × Nat)} {B:List (List Pr)} {p:Pr} {n m:Nat} {l:List Pr} (h:B[m]?=some l) (hm:m≠n):(putB O B p n)[m]?=some l:=by
 unfold putB;split
 .exact h
 .obtain⟨l',h1,h2⟩:=pushB_old (n:=n) (p:=p) h;rcases h2 with rfl | ⟨h2,_⟩
  .exact h1
  .exact absurd h2 hm
structure LfI (A:List Pr) (mv:Pr->List Pmv) (cst:Pr->Option Nat) (C n i:Nat) (Z:List Pr) (O:List (Pr × Nat)) (B:List (List Pr)):Prop where
 ob:OB A mv cst O B
 c:∀p∈A,∀c,cst p=some c->∃k,k<=c/\mget O p=some k
 zn:Z.Nodup
 za:∀p∈Z,p∈A
 f:∀p∈Z,∃k,mget O p=some k/\(k<n\/(k=n/\∃l,B[n]?=some l/\p∈l.take i))/\∀q∈A,∀m∈mv q,pto m=p->∃k',k'<=k+plen m/\mget O q=some k'
 g:∀p k,mget O p=some k->(k<n\/(k=n/\∃l,B[n]?=some l/\p∈l.take i))->p∈Z
 ln:B.length<=C+2*Z.length
theorem LfI.start {A:List Pr} {mv:Pr->List Pmv} {cst:Pr->Option Nat} {C:Nat} {O:List (Pr × Nat)} {B:List (List Pr)} (h:OB A mv cst O B) (hc:∀p∈A,∀c,cst p=some c->∃k,k<=c/\mget O p=some k) (hl:B.length<=C):LfI A mv cst C 0 0 [] O B:=
 ⟨h,hc,.nil,fun p hp=>(by cases hp),fun p hp=>(by cases hp),fun p k _ hk=>(by rcases hk with hk | ⟨_,l,_,hk⟩;omega;simp at hk),by simpa using hl⟩
theorem LfI.next {A:List Pr} {mv:Pr->List Pmv} {cst:Pr->Option Nat} {C n i:Nat} {Z:List Pr} {O:List (Pr × Nat)} {B:List (List Pr)} (h:LfI A mv cst C n i Z O B) {l:List Pr} (hl:B[n]?=some l) (hi:l.length<=i):LfI A mv cst C (n+1) 0 Z O B:=by
 refine⟨h.ob,h.c,h.zn,h.za,fun p hp=>?_,fun p k hk h1=>?_,h.ln⟩
 .obtain⟨k,h1,h2,h3⟩:=h.f p hp;exact⟨k,h1,.inl (by omega),h3⟩
 .refine h.g p k hk ?_;rcases h1 with h1 | ⟨_,l',_,h1⟩
  .by_cases e:k<n
   .exact .inl e
   .obtain rfl:k=n:=by omega
    obtain⟨l2,h4,h5⟩:=h.ob.b2 p k hk;rw[hl] at h4;cases h4;exact .inr ⟨rfl,l,hl,by rw[Yj hi];exact h5⟩
  .simp at h1
theorem LfI.skip {A:List Pr} {mv:Pr->List Pmv} {cst:Pr->Option Nat} {C n i:Nat} {Z:List Pr} {O:List (Pr × Nat)} {B:List (List Pr)} (h:LfI A mv cst C n i Z O B) {l:List Pr} (hl:B[n]?=some l) {p:Pr} (hp:l[i]?=some p) (hne:mget O p≠some n):LfI A mv cst C n (i+1) Z O B:=by
 refine⟨h.ob,h.c,h.zn,h.za,fun q hq=>?_,fun q k hk h1=>?_,h.ln⟩
 .obtain⟨k,h1,h2,h3⟩:=h.f q hq;refine⟨k,h1,h2.imp_right fun ⟨h4,l',h5,h6⟩=>⟨h4,l',h5,?_⟩,h3⟩;rw[hl] at h5;cases h5;rw[take_snoc hp];exact List.mem_append_left _ h6
 .refine h.g q k hk (h1.imp_right fun ⟨h4,l',h5,h6⟩=>⟨h4,l',h5,?_⟩);rw[hl] at h5;cases h5;rw[take_snoc hp,Yk,Ye] at h6;rcases h6 with h6 | rfl
  .exact h6
  .exact absurd (h4 ▸ hk) hne
structure LfJ (A:List Pr) (mv:Pr->List Pmv) (cst:Pr->Option Nat) (C n i:Nat) (Z:List Pr) (p:Pr) (rec:List Pmv) (j:Nat) (O:List (Pr × Nat)) (B:List (List Pr)):Prop where
 ob:OB A mv cst O B
 c:∀p∈A,∀c,cst p=some c->∃k,k<=c/\mget O p=some k
 f:∀q∈Z,∃k,mget O q=some k/\(k<n\/(k=n/\∃l,B[n]?=some l/\q∈l.take i))/\∀q'∈A,∀m∈mv q',pto m=q->∃k',k'<=k+plen m/\mget O q'=some k'
 g:∀q k,mget O q=some k->(k<n\/(k=n/\∃l,B[n]?=some l/\q∈l.take i))->q∈Z
 pn:mget O p=some n
 bn:∃l,B[n]?=some l/\l[i]?=some p
 r:∀m∈rec.take j,∃k',k'<=n+plen m/\mget O (pto m)=some k'
 ln:B.length<=C+2*(Z.length+1)
theorem LfI.take {A:List Pr} {mv:Pr->List Pmv} {cst:Pr->Option Nat} {C n i:Nat} {Z:List Pr} {O:List (Pr × Nat)} {B:List (List Pr)} (h:LfI A mv cst C n i Z O B) {l:List Pr} (hl:B[n]?=some l) {p:Pr} (hp:l[i]?=some p) (he:mget O p=some n) (rec:List Pmv):LfJ A mv cst C n i Z p rec 0 O B:=
 ⟨h.ob,h.c,h.f,h.g,he,⟨l,hl,hp⟩,fun m hm=>(by simp at hm),by have:=h.ln;omega⟩
theorem LfJ.put {A:List Pr} {mv:Pr->List Pmv} {cst:Pr->Option Nat} {C n i:Nat} {Z:List Pr} {p:Pr} {rec:List Pmv} {j:Nat} {O:List (Pr × Nat)} {B:List (List Pr)} (h:LfJ A mv cst C n i Z p rec j O B) (hl0:n+1<=C+2*Z.length) {m:Pmv} (hm:rec[j]?=some m) (ha:pto m∈A) (hd:Dn mv cst (pto m) (n+plen m)) :
  LfJ A mv cst C n i Z p rec (j+1) (putO O (pto m) (n+plen m)) (putB O B (pto m) (n+plen m)):=by
 have hpl:=plen_pos m;have keep:∀ {m':Nat} {l:List Pr},m'<=n->B[m']?=some l->(putB O B (pto m) (n+plen m))[m']?=some l:=fun {m' l} h1 h2=>putB_same h2 (by omega);have bk:∀ {l:List Pr},(putB O B (pto m) (n+plen m))[n]?=some l->B[n]?=some l:=fun {l} h1=>by
  obtain⟨l0,h2,_⟩:=h.bn;rw[keep (Yyt _) h2] at h1;cases h1;exact h2
 refine⟨h.ob.put ha hd,fun q hq c hc=>?_,fun q hq=>?_,fun q k hk h1=>?_,putO_fix h.pn (by omega),?_,fun m' hm'=>?_,?_⟩
 .obtain⟨k,h1,h2⟩:=h.c q hq c hc;obtain⟨k',h3,h4⟩:=putO_le (p:=pto m) (n:=n+plen m) h2;exact⟨k',by omega,h4⟩
 .obtain⟨k,h1,h2,h3⟩:=h.f q hq;refine⟨k,putO_fix h1 (by rcases h2 with h2 | ⟨h2,_⟩<;>omega),h2.imp_right fun ⟨h4,l,h5,h6⟩=>⟨h4,l,keep (Yyt _) h5,h6⟩,fun q' hq' m' hm' he=>?_⟩;obtain⟨k',h4,h5⟩:=h3 q' hq' m' hm' he;obtain⟨k2,h6,h7⟩:=putO_le (p:=pto m) (n:=n+plen m) h5;exact⟨k2,by omega,h7⟩
 .rcases putO_new hk with h2 | ⟨_,h2⟩
  .exact h.g q k h2 (h1.imp_right fun ⟨h4,l,h5,h6⟩=>⟨h4,l,bk h5,h6⟩)
  .rcases h1 with h1 | ⟨h1,_⟩<;>omega
 .obtain⟨l,h1,h2⟩:=h.bn;exact⟨l,keep (Yyt _) h1,h2⟩
 .rw[take_snoc hm,Yk,Ye] at hm';rcases hm' with hm' | rfl
  .obtain⟨k,h1,h2⟩:=h.r m' hm';obtain⟨k',h3,h4⟩:=putO_le (p:=pto m) (n:=n+plen m) h2;exact⟨k',by omega,h4⟩
  .exact putO_at O (pto m') (n+plen m')
 .have h1:=putB_len O B (pto m) (n+plen m);have h2:=h.ln;omega
theorem LfJ.fin {A:List Pr} {mv:Pr->List Pmv} {cst:Pr->Option Nat} {C n i:Nat} {Z:List Pr} {p:Pr} {rec:List Pmv} {j:Nat} {O:List (Pr × Nat)} {B:List (List Pr)} (h:LfJ A mv cst C n i Z p rec j O B) (hj:rec.length<=j) (hpA:p∈A) (hz:Z.Nodup) (hza:∀p∈Z,p∈A)
  (hrec:∀q∈A,∀m∈mv q,pto m=p->∃r∈rec,pto r=q/\plen r=plen m):LfI A mv cst C n (i+1) (p::Z) O B:=by
 obtain⟨l,hl,hp⟩:=h.bn;have hpZ:p∉Z:=fun hm=>by
  obtain⟨k,h1,h2,_⟩:=h.f p hm;rw[h.pn] at h1;cases h1;rcases h2 with h2 | ⟨_,l',h3,h4⟩
  .omega
  .rw[hl] at h3;cases h3;obtain⟨a,ha⟩:=Yf.1 h4;rw[Yyf] at ha;split at ha
   .have:=nodup_ix (h.ob.nd n l hl) ha hp;omega
   .cases ha
 refine⟨h.ob,h.c,List.nodup_cons.2 ⟨hpZ,hz⟩,fun q hq=>?_,fun q hq=>?_,fun q k hk h1=>?_,?_⟩
 .rcases Yr.1 hq with rfl | hq
  .exact hpA
  .exact hza q hq
 .rcases Yr.1 hq with rfl | hq
  .refine⟨n,h.pn,.inr ⟨rfl,l,hl,by rw[take_snoc hp];simp⟩,fun q' hq' m hm he=>?_⟩;obtain⟨r,h1,h2,h3⟩:=hrec q' hq' m hm he;obtain⟨k',h4,h5⟩:=h.r r (by rw[Yj hj];exact h1);rw[h2] at h5;exact⟨k',by omega,h5⟩
  .obtain⟨k,h1,h2,h3⟩:=h.f q hq;refine⟨k,h1,h2.imp_right fun ⟨h4,l',h5,h6⟩=>⟨h4,l',h5,?_⟩,h3⟩;rw[hl] at h5;cases h5;rw[take_snoc hp];exact List.mem_append_left _ h6
 .by_cases e:q=p
  .rw[e];exact Yx
  .refine Yn _ (h.g q k hk (h1.imp_right fun ⟨h4,l',h5,h6⟩=>⟨h4,l',h5,?_⟩));rw[hl] at h5;cases h5;rw[take_snoc hp,Yk,Ye] at h6;exact h6.resolve_right e
 .have:=h.ln;rw[Yyj];exact this
theorem LfI.fin {A:List Pr} {mv:Pr->List Pmv} {cst:Pr->Option Nat} {C n i:Nat} {Z:List Pr} {O:List (Pr × Nat)} {B:List (List Pr)} (h:LfI A mv cst C n i Z O B) (hn:B.length<=n) (hcl:∀p∈A,∀m∈mv p,pto m∈A) {p:Pr} (hp:p∈A) (k:Nat):(mget O p=some k ↔ Lst mv cst p k)/\(mget O p=some k->k<B.length):=by
 have hin:∀ {q:Pr} {k:Nat},mget O q=some k->k<B.length:=fun {q k} hk=>by
  obtain⟨l,h1,_⟩:=h.ob.b2 q k hk;exact (Ya.1 h1).1
 have key:∀ {q:Pr} {k:Nat},Dn mv cst q k->q∈A->∃k',k'<=k/\mget O q=some k':=fun {q k} hd=>by
  induction hd with
  | base hc=>exact fun hq=>h.c _ hq _ hc
  | @step q m k hm _ ih=>
   intro hq;obtain⟨k1,h1,h2⟩:=ih (hcl q hq m hm);have h3:=h.g _ _ h2 (.inl (by have:=hin h2;omega));obtain⟨k2,h4,_,h5⟩:=h.f _ h3;rw[h2] at h4;cases h4;obtain⟨k',h6,h7⟩:=h5 q hq m hm rfl;exact⟨k',by omega,h7⟩
 refine⟨⟨fun hk=>⟨h.ob.d p k hk,fun k2 hd=>?_⟩,fun ⟨h1,h2⟩=>?_⟩,hin⟩
 .obtain⟨k',h3,h4⟩:=key hd hp;rw[hk] at h4;cases h4;exact h3
 .obtain⟨k',h3,h4⟩:=key h1 hp;have h5:=h2 k' (h.ob.d p k' h4);rw[h4,show k'=k by omega]
end Go.VC
end

section
namespace Go.VC
open Go.Proofs
/- (*farandole/realize.analysis).left
   loop rrrrrlrborrlbrlrb: x_29:Int
   loop rrrrrrlrborlbrborlbrrrb: x_106:Int
   loop rrrrrrlrborlbrb: i_75:Int
   loop rrrrrrlrb: n_69:Int
   loop rrrrrlrb: x_13:Int -/
def W164 (p0:Addr) (p1:Int) (p2:Sl) (p3:Option Nat) (h:Heap) (R:Value->Heap->Prop):Prop:=
 (RunW Pz (Instr.makeMap 293 (some (vI (p2.n:Int)))) h 
 (fun v1 h3=>∃x2:Option Nat,v1=.map x2 /\ 
 (Wn h3 [.map none] 293 fun h4=>
 (Wp h4 (aS h3 0) 1 [.map x2] fun h5=>
 (RunW Pz (Instr.makeMap 93 (none)) h5 
 (fun v6 h8=>∃x7:Option Nat,v6=.map x7 /\ 
 (Wn h8 [.slice none 0 0] 350 fun h9=>
 (QI 0 h9 fun I10 x_13 h14 m12=>(
 (sB (decide (x_13<(p2.n:Int))) 
 ((NB p2.a fun b15 o16=>(Ib x_13 p2.n /\ 
 (∃x17:Int,∃x18:Int,atC h14 ⟨b15,o16+Int.toNat x_13*2,none⟩ [vI x17,vI x18] /\ 
 (Wn h14 [vI 0,vI 0] 97 fun h19=>
 (Wp h19 (aS h14 0) 2 [vI x17,vI x18] fun h20=>
 (∃x21:Int,∃x22:Int,atC h20 (aS h14 0) [vI x21,vI x22] /\ 
 (RunW Pz (Instr.lookup 93 (.map p3) (.agg ⟨[vI x21,vI x22]⟩) false) h20 
 (fun v23 h25=>∃x24,iS v23 x24 /\ 
 (QI 0 h25 fun I26 x_29 h30 m28=>(
 (sB (decide (x_29<(x24.n:Int))) 
 ((NB x24.a fun b31 o32=>(Ib x_29 x24.n /\ 
 (∃x33:Int,∃x34:Int,∃x35:Int,∃x36:Int,atC h30 ⟨b31,o32+Int.toNat x_29*4,none⟩ [vI x33,vI x34,vI x35,vI x36] /\ 
 (Wn h30 [vI 0,vI 0,vI 0,vI 0] 200 fun h37=>
 (Wp h37 (aS h30 0) 4 [vI x33,vI x34,vI x35,vI x36] fun h38=>
 (∃x39:Int,∃x40:Int,atC h38 (aS h30 2) [vI x39,vI x40] /\ 
 (∃x41,rI h38 (aS h30 0) x41 /\ 
 (∃x42,rI h38 (aS h30 1) x42 /\ 
 (∃x43:Int,∃x44:Int,atC h38 (aS h14 0) [vI x43,vI x44] /\ 
 (Wn h38 [vI x41,vI x42,vI x43,vI x44] 200 fun h45=>
 (RunW Pz (Instr.mapEntry 93 (.map x7) (.agg ⟨[vI x39,vI x40]⟩)) h45 (fun v46 h47=>
 ∃x48:Sl,∃n49:Int,v46=.tuple ⟨[vS x48,vI n49]⟩ /\ 
 (App Pz 197 197 (vS x48) (.slice (some (aS h38 0)) 1 1) h47 fun s50 h51=>
 (RunW Pz (Instr.entryStore 93 (.map x7) (vI n49) (vS s50)) h51 (fun _ h52=>
 (∃m53,m53<m28/\I26 (IntKind.wrap .i64 (x_29+1)) h52 m53))))))))))))))))) 
 ((∃x54:Int,∃x55:Int,atC h30 (aS h14 0) [vI x54,vI x55] /\ 
 (Fn Pz 166 #[.pointer (some p0),vI p1,.agg ⟨[vI x54,vI x55]⟩] h30 
 (fun v56 h59=>∃x57:Int,∃x58:Bool,v56=.tuple ⟨[vI x57,.bool x58]⟩ /\ 
 (sB x58 
 ((∃x60:Int,∃x61:Int,atC h59 (aS h14 0) [vI x60,vI x61] /\ 
 (Fn Pz 226 #[.agg ⟨[vI x60,vI x61]⟩,vI x57,.pointer (some (aS h3 0)),.pointer (some (aS h8 0))] h59 
 (fun v62 h63=>v62=.tuple ⟨[]⟩ /\ 
 (∃m64,m64<m12/\I10 (IntKind.wrap .i64 (x_13+1)) h63 m64))))) 
 ((∃m65,m65<m12/\I10 (IntKind.wrap .i64 (x_13+1)) h59 m65))))))))))))))))))) 
 ((QI 0 h14 fun I66 n_69 h70 m68=>(
 (∃x71,rS h70 (aS h8 0) x71 /\ 
 (sB (decide (n_69<(x71.n:Int))) 
 ((QI 0 h70 fun I72 i_75 h76 m74=>(
 (∃x77,rS h76 (aS h8 0) x77 /\ 
 (NB x77.a fun b78 o79=>(Ib n_69 x77.n /\ 
 (∃x80,rS h76 ⟨b78,o79+Int.toNat n_69*1,none⟩ x80 /\ 
 (sB (decide (i_75<(x80.n:Int))) 
 ((∃x81,rS h76 (aS h8 0) x81 /\ 
 (NB x81.a fun b82 o83=>(Ib n_69 x81.n /\ 
 (∃x84,rS h76 ⟨b82,o83+Int.toNat n_69*1,none⟩ x84 /\ 
 (NB x84.a fun b85 o86=>(Ib i_75 x84.n /\ 
 (∃x87:Int,∃x88:Int,atC h76 ⟨b85,o86+Int.toNat i_75*2,none⟩ [vI x87,vI x88] /\ 
 (Wn h76 [vI 0,vI 0] 97 fun h89=>
 (Wp h89 (aS h76 0) 2 [vI x87,vI x88] fun h90=>
 (∃x91:Option Nat,hc h90 (aS h3 0)=some (.map x91) /\ 
 (∃x92:Int,∃x93:Int,atC h90 (aS h76 0) [vI x92,vI x93] /\ 
 (RunW Pz (Instr.lookup 293 (.map x91) (.agg ⟨[vI x92,vI x93]⟩) false) h90 
 (fun v94 h96=>∃x95,iI v94 x95 /\ 
 (sB (x95 != n_69) 
 ((∃m97,m97<m74/\I72 (IntKind.wrap .i64 (i_75+1)) h96 m97)) 
 ((∃x98:Int,∃x99:Int,atC h96 (aS h76 0) [vI x98,vI x99] /\ 
 (RunW Pz (Instr.lookup 93 (.map x7) (.agg ⟨[vI x98,vI x99]⟩) false) h96 
 (fun v100 h102=>∃x101,iS v100 x101 /\ 
 (QI 0 h102 fun I103 x_106 h107 m105=>(
 (sB (decide (x_106<(x101.n:Int))) 
 ((NB x101.a fun b108 o109=>(Ib x_106 x101.n /\ 
 (∃x110:Int,∃x111:Int,∃x112:Int,∃x113:Int,atC h107 ⟨b108,o109+Int.toNat x_106*4,none⟩ [vI x110,vI x111,vI x112,vI x113] /\ 
 (Wn h107 [vI 0,vI 0,vI 0,vI 0] 200 fun h114=>
 (Wp h114 (aS h107 0) 4 [vI x110,vI x111,vI x112,vI x113] fun h115=>
 (∃x116:Int,∃x117:Int,atC h115 (aS h107 2) [vI x116,vI x117] /\ 
 (∃x118:Int,∃x119:Int,∃x120:Int,∃x121:Int,atC h115 (aS h107 0) [vI x118,vI x119,vI x120,vI x121] /\ 
 (Fn Pz 169 #[.agg ⟨[vI x118,vI x119,vI x120,vI x121]⟩] h115 
 (fun v122 h124=>∃x123,iI v122 x123 /\ 
 (Sm [(aS h107 2)] h115 h124 /\ 
 (Fn Pz 226 #[.agg ⟨[vI x116,vI x117]⟩,vI (IntKind.wrap .i64 (n_69+x123)),.pointer (some (aS h3 0)),.pointer (some (aS h8 0))] h124 
 (fun v125 h126=>v125=.tuple ⟨[]⟩ /\ 
 (∃m127,m127<m105/\I103 (IntKind.wrap .i64 (x_106+1)) h126 m127)))))))))))))) 
 ((∃m128,m128<m74/\I72 (IntKind.wrap .i64 (i_75+1)) h107 m128)))))))))))))))))))))))) 
 ((∃m129,m129<m68/\I66 (IntKind.wrap .i64 (n_69+1)) h76 m129)))))))))) 
 ((∃x130:Option Nat,hc h70 (aS h3 0)=some (.map x130) /\ 
 R (.map x130) h70)))))))))))))))))
theorem vc164e (p0:Addr) (p1:Int) (p2:Sl) (p3:Option Nat) (h:Heap) (R:Value->Heap->Prop):W164 p0 p1 p2 p3 h R=fnW Pz 164 (.s .z (.s .z (.s .z (.s .z (.s .z (.s (.s .z (.b (.l [(31,.one (.int .i64))] (.s .z (.s .z (.s (.b (.s .z (.s (.s .z (.b (.l [(39,.one (.int .i64))] .z))) .z))) .z)))))) (.s (.s .z (.b (.l [(19,.one (.int .i64))] (.s .z (.s (.b (.s .z (.b (.l [(20,.one (.int .i64))] (.s .z (.s (.b (.s .z (.s .z (.s .z (.b (.l [(102,.one (.int .i64))] .z)))))) .z)))))) .z))))) .z))))))) #[.pointer (some p0),.int .i64 p1,.slice p2.a p2.n p2.c,.map p3] h R:=by kernel_rfl
theorem vc164 (p0:Addr) (p1:Int) (p2:Sl) (p3:Option Nat) (h:Heap) (R:Value->Heap->Prop) (H:W164 p0 p1 p2 p3 h R):Fn Pz 164 #[.pointer (some p0),.int .i64 p1,.slice p2.a p2.n p2.c,.map p3] h R:=fnI (vc164e p0 p1 p2 p3 h R) H
end Go.VC
end

section
namespace Go.VC
open Go.Proofs Go.LexS
abbrev NE:=Pr × (Sl × List Pmv)
def nsI (e:NE):It:=nest 200 4 Pmv.cs e.2
def nkv (N:List NE):List (Pr × Sl):=N.map fun e=>(e.1,e.2.1)
def RecN (N:List NE) (q:Pr) (r:Pmv):Prop:=∃e∈N,e.1=q/\r∈e.2.2
def totN (N:List NE):Nat:=(N.map fun e=>e.2.2.length).sum
structure UpN (N:List NE) (a:Pr) (r:Pmv) (N':List NE):Prop where
 nd:(N'.map Prod.fst).Nodup
 ky:∀x,x∈N'.map Prod.fst ↔ x∈N.map Prod.fst\/x=a
 rc:∀q r',RecN N' q r' ↔ RecN N q r'\/(q=a/\r'=r)
 tot:totN N'=totN N+1
theorem nkv_fst (N:List NE):(nkv N).map Prod.fst=N.map Prod.fst:=by unfold nkv;rw[List.map_map];rfl
theorem split_at {α:Type} {l:List α} {j:Nat} {e:α} (h:l[j]?=some e):∃A B,l=A++e::B/\j=A.length:=by
 obtain⟨h1,h2⟩:=Ya.1 h;refine⟨l.take j,l.drop (j+1),?_,by rw[Yu];omega⟩;rw[<-h2,<-List.drop_eq_getElem_cons h1,List.take_append_drop]
theorem perm_f {α:Type} (x y e:α) (A R:List α):(x::y::(A++e::R)).Perm (e::x::y::(A++R)):=
 (((List.perm_middle (l₁:=A) (a:=e) (l₂:=R)).cons y).cons x).trans (((List.Perm.swap e y _).cons x).trans (List.Perm.swap e x _))
theorem UpN.old {A B:List NE} {a:Pr} {s s':Sl} {rows:List Pmv} (r:Pmv) (hn:((A++(a,(s,rows))::B).map Prod.fst).Nodup):UpN (A++(a,(s,rows))::B) a r (A++(a,(s',rows++[r]))::B):=by
 have e1:(A++(a,(s',rows++[r]))::B).map Prod.fst=(A++(a,(s,rows))::B).map Prod.fst:=by simp
 refine⟨by rw[e1];exact hn,fun x=>by rw[e1];exact⟨.inl,fun h=>h.elim id fun e=>by rw[e];simp⟩,fun q r'=>?_,?_⟩
 .unfold RecN;constructor
  .rintro⟨e,he,h1,h2⟩;rcases Yk.1 he with he | he
   .exact .inl ⟨e,List.mem_append_left _ he,h1,h2⟩
   .rcases Yr.1 he with rfl | he
    .simp only at h1 h2;rcases Yk.1 h2 with h2 | h2
     .exact .inl ⟨(a,(s,rows)),by simp,h1,h2⟩
     .exact .inr ⟨h1.symm,by simpa using h2⟩
    .exact .inl ⟨e,by simp[he],h1,h2⟩
  .rintro (⟨e,he,h1,h2⟩ | ⟨rfl,rfl⟩)
   .rcases Yk.1 he with he | he
    .exact⟨e,List.mem_append_left _ he,h1,h2⟩
    .rcases Yr.1 he with rfl | he
     .exact⟨(a,(s',rows++[r])),by simp,h1,List.mem_append_left _ h2⟩
     .exact⟨e,by simp[he],h1,h2⟩
   .exact⟨(q,(s',rows++[r'])),by simp,rfl,by simp⟩
 .unfold totN;simp only[Ym,Yyl,List.sum_append,List.sum_cons,Yh,Yv];omega
theorem UpN.new {N:List NE} {a:Pr} {s':Sl} (r:Pmv) (hn:(N.map Prod.fst).Nodup) (ha:a∉N.map Prod.fst):UpN N a r (N++[(a,(s',[r]))]):=by
 refine⟨?_,fun x=>by rw[Ym,Yk];simp,fun q r'=>?_,?_⟩
 .rw[Ym,List.nodup_append];exact⟨hn,by simp,fun x hx y hy e=>by simp only[Yyl,List.map_nil,Ye] at hy;subst hy;subst e;exact ha hx⟩
 .unfold RecN;constructor
  .rintro⟨e,he,h1,h2⟩;rcases Yk.1 he with he | he
   .exact .inl ⟨e,he,h1,h2⟩
   .rw[Ye] at he;subst he;exact .inr ⟨h1.symm,by simpa using h2⟩
  .rintro (⟨e,he,h1,h2⟩ | ⟨rfl,rfl⟩)
   .exact⟨e,List.mem_append_left _ he,h1,h2⟩
   .exact⟨(q,(s',[r'])),by simp,rfl,by simp⟩
 .unfold totN;rw[Ym,List.sum_append];simp
theorem tot_le {N:List NE} {e:NE} (h:e∈N):e.2.2.length<=totN N:=by
 obtain⟨A,B,rfl⟩:=List.append_of_mem h;unfold totN;simp only[Ym,Yyl,List.sum_append,List.sum_cons];omega
theorem into_step {h0 h:Heap} {rb ib:Nat} {N:List NE} {R:List It} {r:Pmv} {a:Pr} {K:Heap->Prop} (hs:St h0 h (.blk rb r.cs 200 :: .mp ib ((nkv N).map fun q=>(pV q.1,slV q.2))::(N.map nsI++R)))
  (hN:(N.map Prod.fst).Nodup) (hk:∀x∈N.map Prod.fst,kokP x) (ha:kokP a) (ht:totN N<=10000000000)
  (hK:∀(h':Heap) (N':List NE),St h0 h' (.blk rb r.cs 200 :: .mp ib ((nkv N').map fun q=>(pV q.1,slV q.2))::(N'.map nsI++R))->UpN N a r N'->K h') :
  RunW Pz (Instr.mapEntry 93 (.map (some ib)) (pV a)) h fun v46 h47=>∃x48:Sl,∃n49:Int,v46=.tuple ⟨[.slice x48.a x48.n x48.c,.int .i64 n49]⟩ /\
   (App Pz 197 197 (.slice x48.a x48.n x48.c) (.slice (some ⟨rb,0,none⟩) 1 1) h47 fun s50 h51=>(RunW Pz (Instr.entryStore 93 (.map (some ib)) (.int .i64 n49) (.slice s50.a s50.n s50.c)) h51 (fun _ h52=>K h52))):=by
 have hn':((nkv N).map Prod.fst).Nodup:=by rw[nkv_fst];exact hN
 refine hs.mentry (cv:=slV) (l:=nkv N) M202 1 rfl (fun q hq=>hk _ (by rw[<-nkv_fst];exact Yp.2 ⟨q,hq,rfl⟩)) hn' ha fun st o h47 hs hst=>?_;replace hs:St h0 h47 (.blk rb r.cs 200 :: .raw ib o::(N.map nsI++R)):=hs;have one:([r.cs].flatten).all oneB=true:=rfl;by_cases hin:a∈N.map Prod.fst
 .obtain⟨e,he,rfl⟩:=Yp.1 hin;obtain⟨A,B,rfl⟩:=List.append_of_mem he;obtain⟨a,s,rows⟩:=e;have hj:(nkv (A++(a,(s,rows))::B))[A.length]?=some (a,s):=by unfold nkv;simp
  have hg:mget (nkv (A++(a,(s,rows))::B)) a=some s:=mget_some hn' hj;have hm:∀y:Sl,mset (nkv (A++(a,(s,rows))::B)) a y=nkv (A++(a,(y,rows++[r]))::B):=fun y=>by
   rw[mset_some hn' hj];unfold nkv;simp
  simp only at hst ⊢;rw[hg];refine⟨s,st,rfl,?_⟩;rw[Ym,Yyl,Yz,List.cons_append] at hs;replace hs:=hs.perm (perm_f _ _ _ _ _);have hlen:=hs.len 0 (s:=s) (e:=200) (n:=4) (rows:=rows.map Pmv.cs) rfl (by omega);rw[Yc] at hlen;have htl:=tot_le he;simp only at htl;refine hs.appended 0 (news:=[r.cs]) rfl app273 (hs.at 1 rfl (o:=0) (n:=4) rfl) rfl (fun q hq=>by rw[Ye] at hq;rw[hq];rfl) one (by show (s.n+1)*32<=140737488355328;omega) (by show s.n+1<=9223372036854775807;omega) fun s50 h51 n50 hs=>?_;refine hs.mstore 2 rfl hst s50 fun h52 hs=>?_;refine hK h52 (A++(a,(s50,rows++[r]))::B) ?_ (UpN.old r hN);rw[hm] at hs;rw[Ym (f:=nsI),Yyl,Yz,List.cons_append];refine hs.perm (List.Perm.trans ?_ (perm_f _ _ _ _ _).symm);refine List.Perm.of_eq ?_;simp[nsI,nest]
 .have hg:mget (nkv N) a=none:=mget_none fun q hq e=>hin (by rw[<-nkv_fst];exact Yp.2 ⟨q,hq,e⟩);have hm:∀y:Sl,mset (nkv N) a y=nkv (N++[(a,(y,[r]))]):=fun y=>by
   rw[mset_none fun q hq e=>hin (by rw[<-nkv_fst];exact Yp.2 ⟨q,hq,e⟩)];unfold nkv;simp
  rw[hg];refine⟨⟨none,0,0⟩,st,rfl,?_⟩;replace hs:=hs.nil_ 200 4;refine hs.appended 0 (news:=[r.cs]) rfl app273 (hs.at 1 rfl (o:=0) (n:=4) rfl) rfl (fun q hq=>by rw[Ye] at hq;rw[hq];rfl) one (by show (0+1)*32<=140737488355328;decide) (by show 0+1<=9223372036854775807;decide) fun s50 h51 n50 hs=>?_;refine hs.mstore 2 rfl hst s50 fun h52 hs=>?_;refine hK h52 (N++[(a,(s50,[r]))]) ?_ (UpN.new r hN hin);rw[hm] at hs;rw[Ym (f:=nsI),Yz];exact hs.perm (perm_f _ _ _ _ _).symm
theorem St.mmakeN {P:Program} {h0 h:Heap} {L:List It} (hs:St h0 h L) {t kt e:TypeId} (ht:P.underlying t=some (.map kt e)) (n:Int) {K:Value->Heap->Prop} (hK:∀h',Ext h h'->St h0 h' (.mp h.size []::L)->K (.map (some h.size)) h'):RunW P (Instr.makeMap t (some (.int .i64 n))) h K:=by
 intro w hw;subst hw;obtain⟨v,w',h1,h2⟩:=hs.mmake (P:=P) t hK w rfl;refine⟨v,w',?_,h2⟩;rw[<-h1];simp[Instr.makeMap,run_underlying ht,asInt,asIntOf,Result.andThen]
theorem St.rwm {h0 h:Heap} {L:List It} (hs:St h0 h L) {s:Sl} {e:TypeId} {n:Nat} {rows:List (List Value)} (hi:.sl s e n rows∈L) (hn:0<n):Rw h n s rows:=(hs.ok _ hi).1.1.rw (hs.ok _ hi).1.2 hn
theorem lf_perm {cb ob bb:Nat} {bk:Sl} {O:List (Pr × Nat)} {BS:List (Sl × List Pr)} {z:It} {NS:List It}:(lfL cb ob bb bk O BS (z::NS)).Perm (z::(NS++lfL cb ob bb bk O BS [])):=by
 have e:∀R,lfL cb ob bb bk O BS R=lfL cb ob bb bk O BS []++R:=fun R=>by unfold lfL;simp
 rw[e (z::NS)];exact List.perm_middle.trans (List.perm_append_comm.cons _)
theorem perm_mid2 {α:Type} (c a b z:α) (NS R:List α):(c::a::b::z::(NS++R)).Perm (c::z::(NS++a::b::R)):=by
 refine List.Perm.cons _ ?_;refine (List.Perm.cons a (List.Perm.swap z b _)).trans ((List.Perm.swap z a _).trans (List.Perm.cons z ?_));refine (List.Perm.trans ?_ List.perm_middle.symm);exact List.Perm.cons a List.perm_middle.symm
noncomputable def cstN (X:An) (kind:Int) (p:Pr):Option Nat:=(cstS X kind p).map Int.toNat
def mvP (g:Gl) (role:Int) (p:Pr):List Pmv:=movL g.es role p.1 p.2
def recO (p:Pr) (m:Pmv):Pmv:=⟨m.x,m.y,(p.1:Nat),(p.2:Nat)⟩
structure L1 (A:List Pr) (mv:Pr->List Pmv) (cst:Pr->Option Nat) (CB i:Nat) (O:List (Pr × Nat)) (B:List (List Pr)) (N:List NE):Prop where
 ob:OB A mv cst O B
 c:∀p∈A.take i,∀c,cst p=some c->∃k,k<=c/\mget O p=some k
 ln:B.length<=CB
 nn:(N.map Prod.fst).Nodup
 nk:∀x∈N.map Prod.fst,x∈A
 rc:∀q r,RecN N q r ↔ ∃p∈A.take i,∃m∈mv p,pto m=q/\r=recO p m
 tot:totN N<=i*160800
structure L2 (A:List Pr) (mv:Pr->List Pmv) (i j:Nat) (p:Pr) (N:List NE):Prop where
 nn:(N.map Prod.fst).Nodup
 nk:∀x∈N.map Prod.fst,x∈A
 rc:∀q r,RecN N q r ↔ (∃p∈A.take i,∃m∈mv p,pto m=q/\r=recO p m)\/∃m∈(mv p).take j,pto m=q/\r=recO p m
 tot:totN N<=i*160800+j
theorem L2.step {A:List Pr} {mv:Pr->List Pmv} {i j:Nat} {p:Pr} {N N':List NE} (h:L2 A mv i j p N) {m:Pmv} (hm:(mv p)[j]?=some m) (ha:pto m∈A) (hu:UpN N (pto m) (recO p m) N'):L2 A mv i (j+1) p N':=by
 refine⟨hu.nd,fun x hx=>?_,fun q r=>?_,by rw[hu.tot];have:=h.tot;omega⟩
 .rcases (hu.ky x).1 hx with h1 | h1
  .exact h.nk x h1
  .rw[h1];exact ha
 .rw[hu.rc,h.rc,take_snoc hm];constructor
  .rintro ((h1 | ⟨m',h1,h2⟩) | ⟨h1,h2⟩)
   .exact .inl h1
   .exact .inr ⟨m',List.mem_append_left _ h1,h2⟩
   .exact .inr ⟨m,by simp,h1.symm,h2⟩
  .rintro (h1 | ⟨m',h1,h2⟩)
   .exact .inl (.inl h1)
   .rcases Yk.1 h1 with h1 | h1
    .exact .inl (.inr ⟨m',h1,h2⟩)
    .rw[Ye] at h1;subst h1;exact .inr ⟨h2.1.symm,h2.2⟩
theorem OB.bl {A:List Pr} {mv:Pr->List Pmv} {cst:Pr->Option Nat} {O:List (Pr × Nat)} {BS:List (Sl × List Pr)} (h:OB A mv cst O (BS.map Prod.snd)) (hA:A.length<=40000):∀q∈BS,q.2.length<=1048576:=fun q hq=>by
 obtain⟨n,hn⟩:=Yf.1 hq;have hl:(BS.map Prod.snd)[n]?=some q.2:=by rw[Yd,hn];rfl
 have:=List.Nodup.length_le_of_subset (h.nd n q.2 hl) (l₂:=A) fun x hx=>(h.b1 n q.2 hl x hx).1;omega
theorem OB.kok {A:List Pr} {mv:Pr->List Pmv} {cst:Pr->Option Nat} {O:List (Pr × Nat)} {B:List (List Pr)} (h:OB A mv cst O B) (hk:∀p∈A,kokP p):∀q∈O,kokP q.1:=fun q hq=>hk _ (h.oa q hq)
theorem OB.empty (A:List Pr) (mv:Pr->List Pmv) (cst:Pr->Option Nat):OB A mv cst [] []:=
 ⟨.nil,fun q hq=>(by cases hq),fun p n h=>(by cases h),fun n l h=>(by simp at h),fun p n h=>(by cases h),fun n l h=>(by simp at h)⟩
abbrev mpI (ib:Nat) (N:List NE):It:=.mp ib ((nkv N).map fun q=>(pV q.1,slV q.2))
structure CkB (X:An) (kind:Int) (A:List Pr) (CB:Nat):Prop where
 a:∀q∈X.ar,∀x∈q.2,0<x.n
 c:∀p∈A,∀c,cstS X kind p=some c->0<=c/\c<CB
 b:CB<=4194304
theorem St.mlook1 {α β:Type} {P:Program} {t kt e:TypeId} {ck:α->Value} {cv:β->Value} {kok:α->Prop} [DecidableEq α] {z:Value} (M:MT P t kt e ck kok z) {h0 h:Heap} {L:List It} (hs:St h0 h L) (k:Nat) {b:Nat} {l:List (α × β)} (hk:L[k]?=some (.mp b (l.map fun q=>(ck q.1,cv q.2)))) (hl:∀q∈l,kok q.1) (hn:(l.map Prod.fst).Nodup) {a:α} (ha:kok a) {R:Value->Heap->Prop}
  (hR:R ((mget l a).elim z cv) h):RunW P (Instr.lookup t (.map (some b)) (ck a) false) h R:=by
 refine hs.mlook M k hk hl hn ha false ?_;generalize mget l a=o at *;cases o<;>exact hR
theorem left165 (b:Nat) (g:Gl) (role:Int) (X:An) (kind:Int) (all:Sl) (mb:Nat) (A:List Pr) (l:List (Pr × Sl)) (CB:Nat) (h:Heap) (hA:AnF h b g role X) (hV:ValidS g) (hM:PrM h g role all mb A l) (hC:CkB X kind A CB) :
  Fn Pz 164 #[.pointer (some ⟨b,0,none⟩),.int .i64 kind,.slice all.a all.n all.c,.map (some mb)] h fun v h'=>Ext h h'/\∃(ob:Nat) (O:List (Pr × Nat)),v=.map (some ob)/\It.ok h' (.mp ob (O.map fun q=>(pV q.1,natV q.2)))/\(∀q∈O,kokP q.1)/\(O.map Prod.fst).Nodup /\
   ∀p∈A,∀k,(mget O p=some k ↔ Lst (mvP g role) (cstN X kind) p k)/\(mget O p=some k->k<CB+2*A.length):=by
 apply vc164 ⟨b,0,none⟩ kind all (some mb);unfold W164;have hN:=hV.num.n;have hE:=hV.num.m;have hAn:=hM.ra.ln;have hpA:∀p∈A,(p.1:Int)<g.n/\(p.2:Int)<g.n:=fun p hp=>((hM.pr p).1 hp).lt hV;have hkA:∀p∈A,kokP p:=fun p hp=>by have:=hpA p hp;exact⟨by omega,by omega⟩
 have hcl:∀p∈A,∀m∈mvP g role p,pto m∈A:=fun p hp m hm=>(hM.pr _).2 (.step ((hM.pr p).1 hp) hm);have hA4:A.length<=40000:=by
  have h1:=grid_le (n:=g.n.toNat) hM.nd fun p hp=>by have:=hpA p hp;exact⟨by omega,by omega⟩
  have h2:g.n.toNat*g.n.toNat<=200*200:=Nat.mul_le_mul (by omega) (by omega);omega
 have hCb:=hC.b;have hml:∀p:Pr,(movL g.es role p.1 p.2).length<=160800:=fun p=>movL_len hE;have hme:∀p:Pr,(mvP g role p).length=(movL g.es role p.1 p.2).length:=fun p=>rfl;refine (St.refl h).mmakeN M278.ht _ fun h3 E3 hs=>⟨some h.size,rfl,?_⟩;refine hs.newput (vs:=[.map (some h.size)]) rfl rfl fun h5 hs=>?_;refine hs.mmake 93 fun h8 E8 hs=>⟨some h5.size,rfl,?_⟩;refine hs.newb fun h9 hs=>?_;have hs:St h h9 (lfL h3.size h.size h8.size ⟨none,0,0⟩ [] [] (mpI h5.size []::[].map nsI)):=by
  refine (hs.nil_ 92 1).perm ?_;show ([It.sl ⟨none,0,0⟩ 92 1 [],.blk h8.size [.slice none 0 0] 350,.mp h5.size [],.blk h3.size [.map (some h.size)] 293,.mp h.size []]:List It).Perm [.blk h3.size [.map (some h.size)] 293,.mp h.size [],.blk h8.size [.slice none 0 0] 350,.sl ⟨none,0,0⟩ 92 1 [],.mp h5.size []];refine List.Perm.trans (l₂:=[.blk h3.size [.map (some h.size)] 293,.mp h.size [],.sl ⟨none,0,0⟩ 92 1 [],.blk h8.size [.slice none 0 0] 350,.mp h5.size []]) ?_ (List.Perm.cons _ (List.Perm.cons _ (List.Perm.swap _ _ _)));exact List.perm_append_comm (l₁:=[It.sl ⟨none,0,0⟩ 92 1 [],.blk h8.size [.slice none 0 0] 350,.mp h5.size []]) (l₂:=[.blk h3.size [.map (some h.size)] 293,.mp h.size []])
 refine⟨fun x h' m=>∃(i:Nat) (bk:Sl) (O:List (Pr × Nat)) (BS:List (Sl × List Pr)) (N:List NE),x=i/\m=all.n-i/\i<=all.n/\St h h' (lfL h3.size h.size h8.size bk O BS (mpI h5.size N::N.map nsI))/\L1 A (mvP g role) (cstN X kind) CB i O (BS.map Prod.snd) N,
  ⟨_,0,⟨none,0,0⟩,[],[],[],rfl,rfl,Nat.zero_le _,hs,OB.empty _ _ _,fun p hp=>(by simp at hp),Nat.zero_le _,.nil,fun x hx=>(by cases hx),fun q r=>⟨fun ⟨e,he,_⟩=>(by cases he),fun ⟨p,hp,_⟩=>(by simp at hp)⟩,Nat.zero_le _⟩,?_⟩
 clear hs;rintro-_ h14 m ⟨i,bk,O,BS,N,rfl,rfl,hi,hs,hL⟩;refine sBi (fun c=>?_) (fun c=>?_)
 .refine (hM.ra.ext hs.ext).rw.nbI (by omega) (by omega) fun b15 o16 p gp u=>?_;replace gp:A[i]?=some p:=gp;have hpm:=Yb gp;have hpl:=hpA p hpm;refine⟨(p.1:Nat),(p.2:Nat),u,?_⟩;refine hs.newput (vs:=pC p) rfl rfl fun h20 hs=>?_;refine⟨(p.1:Nat),(p.2:Nat),hs.at 0 rfl (o:=0) (n:=2) rfl,?_⟩;obtain⟨r,hr,hrl⟩:=hM.mv p hpm;refine mlookI (cv:=slV) (l:=l) M202 ((hM.ext hs.ext).mp) hM.lk hM.ln (a:=p) (hkA p hpm) false ?_;rw[hr];refine⟨r,rfl,?_⟩;have hs:St h h20 (.blk h14.size (pC p) 97::mpI h5.size N::(N.map nsI++lfL h3.size h.size h8.size bk O BS [])):=hs.perm (List.Perm.cons _ lf_perm);have hrn:=hrl.ln;have hrm:=hml p;have hL2:L2 A (mvP g role) i 0 p N:=⟨hL.nn,hL.nk,fun q r=>by rw[hL.rc];exact⟨.inl,fun h=>h.elim id fun ⟨m,h,_⟩=>(by rw[Yyk] at h;cases h)⟩,Yys hL.tot (Nat.le_add_right _ _)⟩;refine⟨fun x h' m=>∃(j:Nat) (N':List NE),x=j/\m=r.n-j/\j<=r.n/\St h h' (.blk h14.size (pC p) 97::mpI h5.size N'::(N'.map nsI++lfL h3.size h.size h8.size bk O BS []))/\L2 A (mvP g role) i j p N',⟨_,0,N,rfl,rfl,Nat.zero_le _,hs,hL2⟩,?_⟩;clear hs hL2;rintro-_ h30 m ⟨j,N',rfl,rfl,hj,hs,hL2⟩;refine sBi (fun c2=>?_) (fun c2=>?_)
  .refine (hrl.ext hs.ext).rw.nbI (by omega) (by omega) fun b31 o32 mv gm t=>?_;replace gm:(mvP g role p)[j]?=some mv:=gm;have hmm:=Yb gm;have hpt:=pto_lt hV hpl hmm;have hta:=hcl p hpm mv hmm;refine⟨mv.x,mv.y,mv.s,mv.t,t,?_⟩;refine hs.newput (vs:=mv.cs) rfl rfl fun h38 hs=>?_;refine⟨((pto mv).1:Nat),((pto mv).2:Nat),by rw[hpt.2.2.1,hpt.2.2.2];exact hs.at 0 rfl (o:=2) (n:=2) rfl,mv.x,hs.rd 0 rfl (i:=0) rfl,mv.y,hs.rd 0 rfl (i:=1) rfl,(p.1:Nat),(p.2:Nat),hs.at 1 rfl (o:=0) (n:=2) rfl,?_⟩;refine hs.newb fun h45 hs=>?_;have hs:=hs.perm (perm_mid2 (It.blk h38.size (recO p mv).cs 200) _ _ _ _ _);have htot:=hL2.tot;have hi4:i*160800<=40000*160800:=Nat.mul_le_mul_right _ (by omega);refine into_step hs hL2.nn (fun x hx=>hkA x (hL2.nk x hx)) (hkA _ hta) (by omega) fun h52 N'' hs hu=>?_;refine⟨_,by omega,j+1,N'',by rw[w64 (by omega) (by omega)];omega,rfl,by omega,?_,hL2.step gm hta hu⟩;have hs:=(hs.perm (perm_mid2 (It.blk h38.size (recO p mv).cs 200) _ _ _ _ _).symm).drop 2;exact hs
  .have hjn:j=(mvP g role p).length:=by unfold mvP;omega
   refine⟨(p.1:Nat),(p.2:Nat),hs.at 0 rfl (o:=0) (n:=2) rfl,?_⟩;refine (costs167 b g role X kind p h30 (hA.ext hs.ext) hpl hC.a).mono ?_;rintro _ h59 ⟨E59,rfl⟩;replace hs:=hs.step E59;refine⟨_,_,rfl,?_⟩;have hrc:∀q r,RecN N' q r ↔ ∃p∈A.take (i+1),∃m∈mvP g role p,pto m=q/\r=recO p m:=fun q r=>by
    rw[hL2.rc,take_snoc gp,hjn,Yye];constructor
    .rintro (⟨p',h1,h2⟩ | h1)
     .exact⟨p',List.mem_append_left _ h1,h2⟩
     .exact⟨p,by simp,h1⟩
    .rintro⟨p',h1,h2⟩;rcases Yk.1 h1 with h1 | h1
     .exact .inl ⟨p',h1,h2⟩
     .rw[Ye] at h1;subst h1;exact .inr h2
   have htot:totN N'<=(i+1)*160800:=by have:=hL2.tot;rw[Nat.succ_mul];omega
   have hBl:=hL.ln;rw[Yc] at hBl;cases hc:cstS X kind p with
   | none=>
    refine sB_f rfl ?_;refine⟨_,by omega,i+1,bk,O,BS,N',by rw[w64 (by omega) (by omega)];omega,rfl,by omega,(hs.drop 1).perm lf_perm.symm,hL.ob,fun q hq c' hc'=>?_,hL.ln,hL2.nn,hL2.nk,hrc,htot⟩;rw[take_snoc gp,Yk,Ye] at hq;rcases hq with hq | rfl
    .exact hL.c q hq c' hc'
    .unfold cstN at hc';rw[hc] at hc';cases hc'
   | some cv=>
    obtain⟨hc0,hc1⟩:=hC.c p hpm cv hc;have hcN:cstN X kind p=some cv.toNat:=by unfold cstN;rw[hc];rfl
    refine sB_t rfl ?_;refine⟨(p.1:Nat),(p.2:Nat),hs.at 0 rfl (o:=0) (n:=2) rfl,?_⟩;have hs:=(hs.drop 1).perm lf_perm.symm;have hcc:(((some cv:Option Int).getD 0):Int)=((cv.toNat:Nat):Int):=by show cv=_;omega
    rw[hcc];refine (put212 h h59 h3.size h.size h8.size bk O BS _ p cv.toNat hs (hL.ob.kok hkA) hL.ob.on (hkA p hpm) (by omega) (by omega) (hL.ob.bl hA4)).mono ?_;rintro _ h63 ⟨rfl,bk',BS',hs,hBS⟩;refine⟨rfl,_,by omega,i+1,bk',putO O p cv.toNat,BS',N',by rw[w64 (by omega) (by omega)];omega,rfl,by omega,hs,?_,fun q hq c' hc'=>?_,?_,hL2.nn,hL2.nk,hrc,htot⟩
    .have h9:=hL.ob.put hpm (.base hcN);rw[hBS];exact h9
    .rw[take_snoc gp,Yk,Ye] at hq;rcases hq with hq | rfl
     .obtain⟨k,h1,h2⟩:=hL.c q hq c' hc';obtain⟨k',h3,h4⟩:=putO_le (p:=p) (n:=cv.toNat) h2;exact⟨k',by omega,h4⟩
     .rw[hcN] at hc';cases hc';exact putO_at O q cv.toNat
    .rw[hBS];have:=putB_len O (BS.map Prod.snd) p cv.toNat;have h8:=hL.ln;show (putB O (BS.map Prod.snd) p cv.toNat).length<=CB;omega
 .have hin:i=A.length:=by omega
  have hOB:=hL.ob;have hI:LfI A (mvP g role) (cstN X kind) CB 0 0 [] O (BS.map Prod.snd):=LfI.start hL.ob (fun p hp c hc=>hL.c p (by rw[hin,Yye];exact hp) c hc) hL.ln;have hNn:=hL.nn;have hNk:=hL.nk;have hNr:∀q r,RecN N q r ↔ ∃p∈A,∃m∈mvP g role p,pto m=q/\r=recO p m:=fun q r=>by rw[hL.rc,hin,Yye]
  have hNt:totN N<=40000*160800:=Yys hL.tot (Nat.mul_le_mul_right _ (by omega));clear hL hin hOB;refine⟨fun x h' m=>∃(n:Nat) (Z:List Pr) (bk:Sl) (O:List (Pr × Nat)) (BS:List (Sl × List Pr)),x=n/\m=CB+2*A.length-n/\St h h' (lfL h3.size h.size h8.size bk O BS (mpI h5.size N::N.map nsI))/\LfI A (mvP g role) (cstN X kind) CB n 0 Z O (BS.map Prod.snd),⟨_,0,[],bk,O,BS,rfl,rfl,hs,hI⟩,?_⟩;clear hs hI hi;rintro-_ h70 m ⟨n,Z,bk,O,BS,rfl,rfl,hs,hI⟩;have hZA:Z.length<=A.length:=List.Nodup.length_le_of_subset hI.zn fun x hx=>hI.za x hx;have hBl:=hI.ln;rw[Yc] at hBl;have hbk:=hs.len 3 (s:=bk) (e:=92) (n:=1) (rows:=(BS.map Prod.fst).map slC) rfl (by omega);rw[Yc,Yc] at hbk;refine⟨bk,hs.rd 2 rfl (i:=0) rfl,sBi (fun c2=>?_) (fun c2=>?_)⟩
  .obtain⟨q0,hq0⟩:=get_some (l:=BS) (i:=n) (by omega);have hl0:(BS.map Prod.snd)[n]?=some q0.2:=by rw[Yd,hq0];rfl
   refine⟨fun x h' m=>∃(i:Nat) (Z:List Pr) (bk:Sl) (O:List (Pr × Nat)) (BS:List (Sl × List Pr)),x=i/\m=q0.2.length-i/\St h h' (lfL h3.size h.size h8.size bk O BS (mpI h5.size N::N.map nsI))/\LfI A (mvP g role) (cstN X kind) CB n i Z O (BS.map Prod.snd)/\(BS.map Prod.snd)[n]?=some q0.2,⟨_,0,Z,bk,O,BS,rfl,rfl,hs,hI,hl0⟩,?_⟩;have hq00:=hI.ob.bl hA4 q0 (Yb hq0);clear hs hI hZA hBl hbk c2 hq0 hl0;rintro-_ h76 m ⟨i,Z,bk,O,BS,rfl,rfl,hs,hI,hl0⟩;have hZA:Z.length<=A.length:=List.Nodup.length_le_of_subset hI.zn fun x hx=>hI.za x hx;have hBl:=hI.ln;rw[Yc] at hBl;have hbk:=hs.len 3 (s:=bk) (e:=92) (n:=1) (rows:=(BS.map Prod.fst).map slC) rfl (by omega);rw[Yc,Yc] at hbk;obtain⟨q1,hq1,hq2⟩:∃q1,BS[n]?=some q1/\q1.2=q0.2:=by
    rw[Yd] at hl0;exact Yya.1 hl0
   have hnl:=(Ya.1 hq1).1;have hrw:=hs.nestLn (A:=[.blk h3.size [.map (some h.size)] 293,.mp h.size (O.map fun q=>(pV q.1,natV q.2)),.blk h8.size [.slice bk.a bk.n bk.c] 350,.sl bk 92 1 ((BS.map Prod.fst).map slC)]) (e:=97) (n:=2) (cs:=pC) hq1 (by omega);rw[hq2] at hrw;have hrn:=hrw.ln;refine⟨bk,hs.rd 2 rfl (i:=0) rfl,?_⟩;refine (hs.rows 3 rfl (by omega)).nbI (by omega) (by omega) fun b78 o79 d gd u=>?_;replace gd:(BS.map Prod.fst)[n]?=some d:=gd;rw[Yd,hq1] at gd;cases gd;refine⟨q1.1,u.hd,sBi (fun c3=>?_) (fun c3=>?_)⟩
   .refine⟨bk,hs.rd 2 rfl (i:=0) rfl,?_⟩;refine (hs.rows 3 rfl (by omega)).nbI (by omega) (by omega) fun b82 o83 d gd u2=>?_;replace gd:(BS.map Prod.fst)[n]?=some d:=gd;rw[Yd,hq1] at gd;cases gd;refine⟨q1.1,u2.hd,?_⟩;refine hrw.nbI (by omega) (by omega) fun b85 o86 p gp u3=>?_;replace gp:q0.2[i]?=some p:=gp;obtain⟨hpm,k,hkn,hmk⟩:=hI.ob.b1 n q0.2 hl0 p (Yb gp);refine⟨(p.1:Nat),(p.2:Nat),u3,?_⟩;refine hs.newput (vs:=pC p) rfl rfl fun h90 hs=>?_;refine⟨some h.size,hs.rd 1 rfl (i:=0) rfl,(p.1:Nat),(p.2:Nat),hs.at 0 rfl (o:=0) (n:=2) rfl,?_⟩;refine hs.mlook (cv:=natV) (l:=O) M278 2 rfl (hI.ob.kok hkA) hI.ob.on (a:=p) (hkA p hpm) false ?_;rw[hmk];refine⟨(k:Nat),rfl,?_⟩;refine sBn (fun c4=>?_) (fun c4=>?_)
    .refine⟨_,?_,i+1,Z,bk,O,BS,by rw[w64 (by omega) (by omega)];omega,rfl,hs.drop 1,hI.skip hl0 gp (by rw[hmk];intro e;cases e;exact c4 rfl),hl0⟩;omega
    .obtain rfl:k=n:=by omega
     refine⟨(p.1:Nat),(p.2:Nat),hs.at 0 rfl (o:=0) (n:=2) rfl,?_⟩;have hs:=(hs.drop 1).perm lf_perm;have hnn':((nkv N).map Prod.fst).Nodup:=by rw[nkv_fst];exact hNn
     refine hs.mlook1 (cv:=slV) (l:=nkv N) M202 0 rfl (fun q hq=>hkA _ (hNk _ (by rw[<-nkv_fst];exact Yp.2 ⟨q,hq,rfl⟩))) hnn' (a:=p) (hkA p hpm) ?_;obtain⟨sr,rec,hsr,hrl,hrd,hrec⟩:∃(sr:Sl) (rec:List Pmv),(mget (nkv N) p).elim (.slice none 0 0) slV=.slice sr.a sr.n sr.c/\rec.length<=40000*160800/\(∀ {h0 hh:Heap} {L:List It},St h0 hh L->(∀e∈N,nsI e∈L)->Rw hh 4 sr (rec.map Pmv.cs))/\(∀r,r∈rec ↔ RecN N p r):=by
      cases hg:mget (nkv N) p with
      | none=>
       refine⟨⟨none,0,0⟩,[],rfl,Nat.zero_le _,fun _ _=>⟨rfl,fun h=>absurd h (by simp)⟩,fun r=>⟨fun h=>(by cases h),fun ⟨e,he,h1,h2⟩=>?_⟩⟩;have:=(mget_isSome p (nkv N)).2 (by rw[nkv_fst,<-h1];exact Yp.2 ⟨e,he,rfl⟩);rw[hg] at this;cases this
      | some y=>
       have h9:=(mget_isSome p (nkv N)).1 (by rw[hg];rfl);rw[nkv_fst] at h9;obtain⟨e,he,h1⟩:=Yp.1 h9;obtain⟨j,hj⟩:=Yf.1 he;have h2:mget (nkv N) p=some e.2.1:=mget_some hnn' (j:=j) (by unfold nkv;rw[Yd,hj,<-h1];rfl);rw[hg] at h2;cases h2;refine⟨e.2.1,e.2.2,rfl,Yys (tot_le he) hNt,fun hs' hm'=>hs'.rwm (e:=200) (hm' e he) (by omega),fun r=>⟨fun h=>⟨e,he,h1,h⟩,fun ⟨e',he',h3,h4⟩=>?_⟩⟩;obtain⟨j',hj'⟩:=Yf.1 he';have h5:(N.map Prod.fst)[j]?=some p:=by rw[Yd,hj,<-h1];rfl
       have h6:(N.map Prod.fst)[j']?=some p:=by rw[Yd,hj',<-h3];rfl
       have h7:=nodup_ix hNn h5 h6;subst h7;rw[hj] at hj';cases hj';exact h4
     rw[hsr];refine⟨sr,rfl,?_⟩;have hs:=hs.perm lf_perm.symm;have hmemN:∀ {O:List (Pr × Nat)} {BS:List (Sl × List Pr)} {bk:Sl} (e:NE),e∈N->nsI e∈lfL h3.size h.size h8.size bk O BS (mpI h5.size N::N.map nsI):=fun e he=>by
      unfold lfL;exact List.mem_append_right _ (Yn _ (Yp.2 ⟨e,he,rfl⟩))
     have hJ:=hI.take hl0 gp hmk rec;have hI0:=hI;have hnC:k+1<=CB+2*Z.length:=by omega
     refine⟨fun x h' m=>∃(j:Nat) (bk:Sl) (O:List (Pr × Nat)) (BS:List (Sl × List Pr)),x=j/\m=sr.n-j/\j<=sr.n/\St h h' (lfL h3.size h.size h8.size bk O BS (mpI h5.size N::N.map nsI))/\LfJ A (mvP g role) (cstN X kind) CB k i Z p rec j O (BS.map Prod.snd)/\(BS.map Prod.snd)[k]?=some q0.2,⟨_,0,bk,O,BS,rfl,rfl,Nat.zero_le _,hs,hJ,hl0⟩,?_⟩;clear hs hJ hrw hbk hBl hq1 hnl hI hl0 hmk;rintro-_ h107 m ⟨j,bk,O,BS,rfl,rfl,hj,hs,hJ,hl0⟩;have hBl:=hJ.ln;rw[Yc] at hBl;have hrw:=hrd hs fun e he=>hmemN e he;have hrn:=hrw.ln;refine sBi (fun c5=>?_) (fun c5=>?_)
     .refine hrw.nbI (by omega) (by omega) fun b108 o109 r gr u4=>?_;replace gr:rec[j]?=some r:=gr;obtain⟨p',hp',m',hm',hto,rfl⟩:=(hNr p r).1 ((hrec r).1 (Yb gr));have hpl:=plen_pos m';have hd0:Dn (mvP g role) (cstN X kind) p' (k+plen m'):=.step hm' (by rw[hto];exact hJ.ob.d p k hJ.pn);have hd:Dn (mvP g role) (cstN X kind) (pto (recO p' m')) (k+plen (recO p' m')):=hd0;refine⟨m'.x,m'.y,(p'.1:Nat),(p'.2:Nat),u4,?_⟩;refine hs.newput (vs:=(recO p' m').cs) rfl rfl fun h115 hs=>?_;refine⟨(p'.1:Nat),(p'.2:Nat),hs.at 0 rfl (o:=2) (n:=2) rfl,m'.x,m'.y,(p'.1:Nat),(p'.2:Nat),hs.at 0 rfl (o:=0) (n:=4) rfl,?_⟩;refine (moveLen170 m'.x m'.y (p'.1:Nat) (p'.2:Nat) h115).mono ?_;rintro _ h124 ⟨rfl,E⟩;have hs:=(hs.step E).drop 1;refine⟨_,rfl,E.sm,?_⟩;have hw:IntKind.wrap .i64 ((k:Int)+(if 0<=m'.x/\0<=m'.y then 2 else 1))=((k+plen (recO p' m'):Nat):Int):=by
       have:plen (recO p' m')=if 0<=m'.x/\0<=m'.y then 2 else 1:=rfl
       rw[this];split<;>rw[w64 (by omega) (by omega)]<;>omega
      rw[hw];have hpl2:=plen_pos (recO p' m');refine (put212 h h124 h3.size h.size h8.size bk O BS _ p' (k+plen (recO p' m')) hs (hJ.ob.kok hkA) hJ.ob.on (hkA p' hp') (by omega) (by omega) (hJ.ob.bl hA4)).mono ?_;rintro _ h126 ⟨rfl,bk',BS',hs,hBS⟩;have hJ2:=hJ.put hnC gr (show pto (recO p' m')∈A from hp') hd;refine⟨rfl,_,?_,j+1,bk',putO O p' (k+plen (recO p' m')),BS',by rw[w64 (by omega) (by omega)];omega,rfl,by omega,hs,?_,?_⟩
      .omega
      .rw[hBS];exact hJ2
      .rw[hBS];exact putB_same (p:=p') hl0 (by omega)
     .have hI2:=hJ.fin (by omega) hpm hI0.zn hI0.za fun q hq m hm he=>⟨recO q m,(hrec _).2 ((hNr p _).2 ⟨q,hq,m,hm,he,rfl⟩),rfl,rfl⟩;refine⟨_,?_,i+1,p::Z,bk,O,BS,by rw[w64 (by omega) (by omega)];omega,rfl,hs,hI2,hl0⟩;omega
   .have hq0l:q0.2.length<=i:=by omega
    refine⟨_,?_,n+1,Z,bk,O,BS,by rw[w64 (by omega) (by omega)];omega,rfl,hs,hI.next hl0 hq0l⟩;omega
  .refine⟨some h.size,hs.rd 0 rfl (i:=0) rfl,hs.ext,h.size,O,rfl,hs.get (k:=1) rfl,hI.ob.kok hkA,hI.ob.on,fun p hp k=>?_⟩;obtain⟨h1,h2⟩:=hI.fin (by rw[Yc];omega) hcl hp k;refine⟨h1,fun hk=>?_⟩;have:=h2 hk;rw[Yc] at this;omega
end Go.VC
end

section
namespace Go.VC
theorem bits8:∀b:Fin 256,∀x:Fin 8,((andI .u8 (shrI .u8 (b.val:Int) (x.val:Int)) 1==1)=b.val.testBit x.val)/\((andI .u8 (shrI .u8 (b.val:Int) (x.val:Int)) 1==0)=!b.val.testBit x.val)/\orI .u8 (b.val:Int) (shlI .u8 1 (x.val:Int))=((b.val|||2^x.val:Nat):Int):=by
 decide +kernel
theorem shl8:∀x:Fin 8,shlI .u8 1 (x.val:Int)=((2^x.val:Nat):Int):=by decide +kernel
theorem or8 {b x:Nat} (hb:b<256) (hx:x<8):b|||2^x<256:=Nat.or_lt_two_pow (n:=8) hb (Nat.pow_lt_pow_right (by omega) hx)
theorem or6 {b x:Nat} (hb:b<64) (hx:x<6):b|||2^x<64:=Nat.or_lt_two_pow (n:=6) hb (Nat.pow_lt_pow_right (by omega) hx)
theorem two6 {x:Nat} (hx:x<6):2^x<64:=Nat.pow_lt_pow_right (m:=x) (n:=6) (by omega) hx
theorem two8 {x:Nat} (hx:x<8):2^x<256:=Nat.pow_lt_pow_right (m:=x) (n:=8) (by omega) hx
structure Plc where
 s:Nat
 b:Nat
 d:Nat
 deriving DecidableEq
def Plc.cs (p:Plc):List Value:=[.int .i64 (p.s:Nat),.int .u8 (p.b:Nat),.int .u8 (p.d:Nat)]
def Plc.ok (n:Nat) (p:Plc):Prop:=p.s<n/\p.b<64/\p.d<64
theorem plc_le {n:Nat} {L:List Plc} (hn:L.Nodup) (h:∀p∈L,p.ok n):L.length<=n*4096:=by
 have h1:(L.map fun p=>p.s*4096+p.b*64+p.d).Nodup:=by
  rw[List.Nodup,List.pairwise_map];refine hn.imp_of_mem fun {a b} ha hb hab e=>hab ?_;obtain⟨h1,h2,h3⟩:=h a ha;obtain⟨h4,h5,h6⟩:=h b hb;obtain⟨a1,a2,a3⟩:=a;obtain⟨b1,b2,b3⟩:=b;simp only at *;congr 1<;>omega
 have h2:=List.Nodup.length_le_of_subset h1 (l₂:=List.range (n*4096)) fun x hx=>by
  obtain⟨p,hp,rfl⟩:=Yp.1 hx;obtain⟨h3,h4,h5⟩:=h p hp;rw[List.mem_range];omega
 rwa [Yc,Yyd] at h2
theorem sorted_uniq {α:Type} {R:α->α->Prop} (irr:∀a,¬R a a) (tr:∀a b c,R a b->R b c->R a c):∀l m:List α,l.Pairwise R->m.Pairwise R->(∀x,x∈l ↔ x∈m)->l=m
 | [],[],_,_,_=>rfl
 | [],b::m,_,_,h=>absurd ((h b).2 (by simp)) (by simp)
 | a::l,[],_,_,h=>absurd ((h a).1 (by simp)) (by simp)
 | a::l,b::m,hl,hm,h=>by
  obtain⟨hl1,hl2⟩:=List.pairwise_cons.1 hl;obtain⟨hm1,hm2⟩:=List.pairwise_cons.1 hm;have e:a=b:=by
   rcases Yr.1 ((h a).1 (by simp)) with h1 | h1
   .exact h1
   rcases Yr.1 ((h b).2 (by simp)) with h2 | h2
   .exact h2.symm
   exact absurd (tr _ _ _ (hl1 b h2) (hm1 a h1)) (irr a)
  subst e;congr 1;refine sorted_uniq irr tr l m hl2 hm2 fun x=>⟨fun hx=>?_,fun hx=>?_⟩
  .rcases Yr.1 ((h x).1 (Yn _ hx)) with h1 | h1
   .subst h1;exact absurd (hl1 x hx) (irr x)
   .exact h1
  .rcases Yr.1 ((h x).2 (Yn _ hx)) with h1 | h1
   .subst h1;exact absurd (hm1 x hx) (irr x)
   .exact h1
def insEd (x:Ed):List Ed->List Ed
 | []=>[x]
 | y::r=>if acLt y.act x.act then y::insEd x r else x::y::r
theorem insEd_mem (x z:Ed):∀l:List Ed,z∈insEd x l ↔ z=x\/z∈l
 | []=>by simp[insEd]
 | y::r=>by
  unfold insEd;split
  .rw[Yr,insEd_mem x z r,Yr];constructor
   .rintro (h | h | h)
    .exact .inr (.inl h)
    .exact .inl h
    .exact .inr (.inr h)
   .rintro (h | h | h)
    .exact .inr (.inl h)
    .exact .inl h
    .exact .inr (.inr h)
  .simp
theorem acLt_tr {x y z:Ac} (h1:acLt x y) (h2:acLt y z):acLt x z:=by unfold acLt at *;omega
theorem acLt_irr (x:Ac):¬acLt x x:=by unfold acLt;omega
theorem acLt_tri {x y:Ac} (h:x≠y) (h1:¬acLt y x):acLt x y:=by
 obtain⟨a,b,c⟩:=x;obtain⟨a',b',c'⟩:=y;unfold acLt at *;simp only[ne_eq,Ac.mk.injEq] at h;simp only at *;omega
theorem insEd_sorted {x:Ed}:∀ {l:List Ed},l.Pairwise (fun a b=>acLt a.act b.act)->(∀y∈l,y.act≠x.act)->(insEd x l).Pairwise fun a b=>acLt a.act b.act
 | [],_,_=>by simp[insEd]
 | y::r,hl,hx=>by
  obtain⟨h1,h2⟩:=List.pairwise_cons.1 hl;unfold insEd;by_cases h:acLt y.act x.act
  .rw[if_pos h,List.pairwise_cons];refine⟨fun z hz=>?_,insEd_sorted h2 fun z hz=>hx z (Yn _ hz)⟩;rcases (insEd_mem x z r).1 hz with rfl | hz
   .exact h
   .exact h1 z hz
  .rw[if_neg h,List.pairwise_cons];have h3:acLt x.act y.act:=acLt_tri (fun e=>hx y (by simp) e.symm) h;refine⟨fun z hz=>?_,hl⟩;rcases Yr.1 hz with rfl | hz
   .exact h3
   .exact acLt_tr h3 (h1 z hz)
def srtL (l:List Ed):List Ed:=l.foldr insEd []
def srtS (es:List Ed) (s:Nat):List Ed:=srtL (es.filter fun x=>decide (x.f=(s:Int)))
theorem srtL_mem (l:List Ed) (z:Ed):z∈srtL l ↔ z∈l:=by
 induction l with
 | nil=>simp[srtL]
 | cons a l ih=>
  show z∈insEd a (srtL l) ↔ _;rw[insEd_mem,ih,Yr]
theorem insEd_len (x:Ed):∀l:List Ed,(insEd x l).length=l.length+1
 | []=>rfl
 | y::r=>by
  unfold insEd;split
  .rw[Yyj,insEd_len x r,Yyj]
  .rfl
theorem srtL_len (l:List Ed):(srtL l).length=l.length:=by
 induction l with
 | nil=>rfl
 | cons a l ih=>
  show (insEd a (srtL l)).length=_;rw[insEd_len,ih];rfl
theorem srtL_sorted:∀ {l:List Ed},l.Pairwise (fun a b=>a.act≠b.act)->(srtL l).Pairwise fun a b=>acLt a.act b.act
 | [],_=>.nil
 | a::l,h=>by
  obtain⟨h1,h2⟩:=List.pairwise_cons.1 h;exact insEd_sorted (srtL_sorted h2) fun y hy=>(h1 y ((srtL_mem l y).1 hy)).symm
theorem srt_of {l l':List Ed} (hp:l'.Perm l) (hw:l'.Pairwise fun a b=>¬acLt b.act a.act) (hd:l.Pairwise fun a b=>a.act≠b.act):l'=srtL l:=by
 have hd':l'.Pairwise fun a b=>a.act≠b.act:=(hp.pairwise_iff fun {a b} h=>h.symm).2 hd;refine sorted_uniq (R:=fun a b:Ed=>acLt a.act b.act) (fun a=>acLt_irr _) (fun a b c=>acLt_tr) _ _ ?_ (srtL_sorted hd) fun x=>by rw[srtL_mem];exact hp.mem_iff
 exact (hw.and hd').imp fun ⟨h1,h2⟩=>acLt_tri h2 h1
theorem acts_apart {g:Gl} (hV:ValidS g) (s:Int):(g.es.filter fun x=>decide (x.f=s)).Pairwise fun a b=>a.act≠b.act:=by
 have h1:g.es.Pairwise fun a b=>a.f=b.f->a.act≠b.act:=by
  rw[List.pairwise_iff_getElem];intro i j hi hj hij hf he;refine hV.ord.p i _ (Yi hi) j _ (Yi hj) (.inl ⟨by omega,hf,.inl ?_⟩);unfold Ed.act at he;simp only[Ac.mk.injEq] at he;exact he
 refine (h1.sublist List.filter_sublist).imp_of_mem fun {a b} ha hb h=>h ?_;rw[List.mem_filter,decide_eq_true_eq] at ha hb;rw[ha.2,hb.2]
structure Fnd where
 m:Ms
 path:List Ac
abbrev Vst:=Plc × List Ac
def seaT (role:Int) (p:Plc) (x:Ed):Plc × Bool:=
 if p.b.testBit x.a.toNat then (⟨x.t.toNat,p.b|||2^x.b.toNat,p.d⟩,false)
 else if x.b=role/\p.d.testBit x.a.toNat=false then (⟨x.t.toNat,p.b,p.d|||2^x.a.toNat⟩,true) else (⟨x.t.toNat,p.b,p.d⟩,false)
def noteF (F:List Fnd) (f:Fnd):List Fnd:=if ∃y∈F,y.m=f.m then F else F++[f]
def seaE (role:Int) (p:Plc) (path:List Ac) (st:List Vst × List Fnd) (x:Ed):List Vst × List Fnd:=
 (if (seaT role p x).1∈st.1.map Prod.fst then st.1 else st.1++[((seaT role p x).1,path++[x.act])],
  if (seaT role p x).2 then noteF st.2 ⟨⟨x.a,x.l⟩,path++[x.act]⟩ else st.2)
def seaN (es:List Ed) (role:Int):Nat->Nat->List Vst->List Fnd->List Fnd
 | 0,_,_,F=>F
 | f+1,hd,Q,F=>match Q[hd]? with
  | none=>F
  | some (p,path)=>seaN es role f (hd+1) ((srtS es p.s).foldl (seaE role p path) (Q,F)).1 ((srtS es p.s).foldl (seaE role p path) (Q,F)).2
def seaS (g:Gl) (i:Nat):List Fnd:=match g.es[i]? with
 | none=>[]
 | some x=>seaN g.es x.b (g.n.toNat*65536+1) 0 [(⟨x.t.toNat,2^x.b.toNat,0⟩,[])] []
end Go.VC
end

section
namespace Go.VC
open Go.Proofs
/- slices.ContainsFunc[[]farandole/early.found,farandole/early.found] -/
def W131 (p0:Sl) (p1:Value) (h:Heap) (R:Value->Heap->Prop):Prop:=
 (Fn Pz 71 #[.slice p0.a p0.n p0.c,p1] h 
 (fun v1 h3=>∃x2:Int,v1=.int .i64 x2 /\ 
 R (.bool (decide (x2>=0))) h3))
theorem vc131e (p0:Sl) (p1:Value) (h:Heap) (R:Value->Heap->Prop):W131 p0 p1 h R=fnW Pz 131 .z #[.slice p0.a p0.n p0.c,p1] h R:=by kernel_rfl
theorem vc131 (p0:Sl) (p1:Value) (h:Heap) (R:Value->Heap->Prop) (H:W131 p0 p1 h R):Fn Pz 131 #[.slice p0.a p0.n p0.c,p1] h R:=fnI (vc131e p0 p1 h R) H
/- farandole/early.search$2 -/
def W132 (p0_1:Int) (p0_2:Int) (p0_3:Sl) (c0:Addr) (h:Heap) (R:Value->Heap->Prop):Prop:=
 (∀h4:Heap,h4=h.push (.cells ⟨[.int .i64 p0_1,.int .i64 p0_2,.slice p0_3.a p0_3.n p0_3.c]⟩ 134) -> 
 (∃x5:Int,∃x6:Int,atC h4 ⟨h.size,0,none⟩ [.int .i64 x5,.int .i64 x6] /\ 
 (∃x7:Int,∃x8:Int,atC h4 c0 [.int .i64 x7,.int .i64 x8] /\ 
 R (.bool ((x5==x7)&&((x6==x8)&&true))) h4)))
theorem vc132e (p0_1:Int) (p0_2:Int) (p0_3:Sl) (c0:Addr) (h:Heap) (R:Value->Heap->Prop):W132 p0_1 p0_2 p0_3 c0 h R=fnW Pz 132 .z #[.agg ⟨[.int .i64 p0_1,.int .i64 p0_2,.slice p0_3.a p0_3.n p0_3.c]⟩,.pointer (some c0)] h R:=by kernel_rfl
theorem vc132 (p0_1:Int) (p0_2:Int) (p0_3:Sl) (c0:Addr) (h:Heap) (R:Value->Heap->Prop) (H:W132 p0_1 p0_2 p0_3 c0 h R):Fn Pz 132 #[.agg ⟨[.int .i64 p0_1,.int .i64 p0_2,.slice p0_3.a p0_3.n p0_3.c]⟩,.pointer (some c0)] h R:=fnI (vc132e p0_1 p0_2 p0_3 c0 h R) H
/- slices.IndexFunc[[]farandole/early.found,farandole/early.found]
   loop rlrb: x_4:Int -/
def W71 (p0:Sl) (p1:Value) (h:Heap) (R:Value->Heap->Prop):Prop:=
 (∃I1:Int->Heap->Nat->Prop,(∃m2,I1 0 h m2) /\ 
 (∀(_:Env) (x_4:Int) (h5:Heap) (m3:Nat),I1 x_4 h5 m3 -> 
 (sB (decide (x_4<(p0.n:Int))) 
  ((NB p0.a fun b6 o7=>((0<=(x_4:Int)/\(x_4:Int)<(p0.n:Nat)) /\ 
  (∃x8:Int,∃x9:Int,∃x10:Sl,atC h5 ⟨b6,o7+Int.toNat x_4*3,none⟩ [.int .i64 x8,.int .i64 x9,.slice x10.a x10.n x10.c] /\ 
  (match p1 with | .func (.func g11) fa12 fc13=>(bif callable Pz g11 then Fn Pz g11 (fa12 ++ #[.agg ⟨[.int .i64 x8,.int .i64 x9,.slice x10.a x10.n x10.c]⟩]++fc13) h5 
  (fun v14 h16=>∃x15:Bool,v14=.bool x15 /\ 
  (sB x15 
   (R (.int .i64 x_4) h16) 
   ((∃m17,m17<m3/\I1 (IntKind.wrap .i64 (x_4+1)) h16 m17)))) else ExtW Pz g11 (fa12 ++ #[.agg ⟨[.int .i64 x8,.int .i64 x9,.slice x10.a x10.n x10.c]⟩]++fc13) h5 
  (fun v14 h16=>∃x15:Bool,v14=.bool x15 /\ 
  (sB x15 
   (R (.int .i64 x_4) h16) 
   ((∃m17,m17<m3/\I1 (IntKind.wrap .i64 (x_4+1)) h16 m17))))) | _=>False))))) 
  (R (.int .i64 (-1)) h5))))
theorem vc71e (p0:Sl) (p1:Value) (h:Heap) (R:Value->Heap->Prop):W71 p0 p1 h R=fnW Pz 71 (.s .z (.s (.s .z (.b (.l [(8,.one (.int .i64))] .z))) .z)) #[.slice p0.a p0.n p0.c,p1] h R:=by kernel_rfl
theorem vc71 (p0:Sl) (p1:Value) (h:Heap) (R:Value->Heap->Prop) (H:W71 p0 p1 h R):Fn Pz 71 #[.slice p0.a p0.n p0.c,p1] h R:=fnI (vc71e p0 p1 h R) H
/- farandole/early.Path$1 -/
def W72 (p0_1:Int) (p0_2:Int) (p0_3:Sl) (c0:Addr) (h:Heap) (R:Value->Heap->Prop):Prop:=
 (∀h4:Heap,h4=h.push (.cells ⟨[.int .i64 p0_1,.int .i64 p0_2,.slice p0_3.a p0_3.n p0_3.c]⟩ 134) -> 
 (∃x5:Int,∃x6:Int,atC h4 ⟨h.size,0,none⟩ [.int .i64 x5,.int .i64 x6] /\ 
 (∃x7:Int,∃x8:Int,atC h4 c0 [.int .i64 x7,.int .i64 x8] /\ 
 R (.bool ((x5==x7)&&((x6==x8)&&true))) h4)))
theorem vc72e (p0_1:Int) (p0_2:Int) (p0_3:Sl) (c0:Addr) (h:Heap) (R:Value->Heap->Prop):W72 p0_1 p0_2 p0_3 c0 h R=fnW Pz 72 .z #[.agg ⟨[.int .i64 p0_1,.int .i64 p0_2,.slice p0_3.a p0_3.n p0_3.c]⟩,.pointer (some c0)] h R:=by kernel_rfl
theorem vc72 (p0_1:Int) (p0_2:Int) (p0_3:Sl) (c0:Addr) (h:Heap) (R:Value->Heap->Prop) (H:W72 p0_1 p0_2 p0_3 c0 h R):Fn Pz 72 #[.agg ⟨[.int .i64 p0_1,.int .i64 p0_2,.slice p0_3.a p0_3.n p0_3.c]⟩,.pointer (some c0)] h R:=fnI (vc72e p0_1 p0_2 p0_3 c0 h R) H
/- slices.Reverse[[]farandole/api.Interaction,farandole/api.Interaction]
   loop rb: i_4:Int, j_5:Int -/
def W133 (p0:Sl) (h:Heap) (R:Value->Heap->Prop):Prop:=
 (∃I1:Int->Int->Heap->Nat->Prop,(∃m2,I1 0 (IntKind.wrap .i64 ((p0.n:Int)-1)) h m2) /\ 
 (∀(_:Env) (i_4:Int) (j_5:Int) (h6:Heap) (m3:Nat),I1 i_4 j_5 h6 m3 -> 
 (sB (decide (i_4<j_5)) 
  ((NB p0.a fun b7 o8=>((0<=(j_5:Int)/\(j_5:Int)<(p0.n:Nat)) /\ 
  (∃x9:Int,∃x10:Int,∃x11:Int,atC h6 ⟨b7,o8+Int.toNat j_5*3,none⟩ [.int .i64 x9,.int .i64 x10,.int .i64 x11] /\ 
  (NB p0.a fun b12 o13=>((0<=(i_4:Int)/\(i_4:Int)<(p0.n:Nat)) /\ 
  (∃x14:Int,∃x15:Int,∃x16:Int,atC h6 ⟨b12,o13+Int.toNat i_4*3,none⟩ [.int .i64 x14,.int .i64 x15,.int .i64 x16] /\ 
  (NB p0.a fun b17 o18=>((0<=(i_4:Int)/\(i_4:Int)<(p0.n:Nat)) /\ 
  (okAt h6 ⟨b17,o18+Int.toNat i_4*3,none⟩ 3/\∀h19:Heap,h19=hputs h6 ⟨b17,o18+Int.toNat i_4*3,none⟩ 0 [.int .i64 x9,.int .i64 x10,.int .i64 x11] -> 
  (NB p0.a fun b20 o21=>((0<=(j_5:Int)/\(j_5:Int)<(p0.n:Nat)) /\ 
  (okAt h19 ⟨b20,o21+Int.toNat j_5*3,none⟩ 3/\∀h22:Heap,h22=hputs h19 ⟨b20,o21+Int.toNat j_5*3,none⟩ 0 [.int .i64 x14,.int .i64 x15,.int .i64 x16] -> 
  (∃m23,m23<m3/\I1 (IntKind.wrap .i64 (i_4+1)) (IntKind.wrap .i64 (j_5-1)) h22 m23)))))))))))))) 
  (R (.tuple ⟨[]⟩) h6))))
theorem vc133e (p0:Sl) (h:Heap) (R:Value->Heap->Prop):W133 p0 h R=fnW Pz 133 (.s .z (.b (.l [(2,.one (.int .i64)),(3,.one (.int .i64))] .z))) #[.slice p0.a p0.n p0.c] h R:=by kernel_rfl
theorem vc133 (p0:Sl) (h:Heap) (R:Value->Heap->Prop) (H:W133 p0 h R):Fn Pz 133 #[.slice p0.a p0.n p0.c] h R:=fnI (vc133e p0 h R) H
/- farandole/early.Early
   loop rrrlrb: out_25:Sl, x_26:Int -/
def W31 (p0_1:ByteArray) (p0_2:Sl) (p0_3:Sl) (p0_4:Int) (p0_5:Int) (p0_6:Int) (p0_7:Sl) (p0_8:Sl) (p1:Int) (h:Heap) (R:Value->Heap->Prop):Prop:=
 (∀h9:Heap,h9=h.push (.cells ⟨[.string p0_1,.slice p0_2.a p0_2.n p0_2.c,.slice p0_3.a p0_3.n p0_3.c,.int .i64 p0_4,.int .i64 p0_5,.int .i64 p0_6,.slice p0_7.a p0_7.n p0_7.c,.slice p0_8.a p0_8.n p0_8.c]⟩ 27) -> 
 (∃x10:ByteArray,∃x11:Sl,∃x12:Sl,∃x13:Int,∃x14:Int,∃x15:Int,∃x16:Sl,∃x17:Sl,atC h9 ⟨h.size,0,none⟩ [.string x10,.slice x11.a x11.n x11.c,.slice x12.a x12.n x12.c,.int .i64 x13,.int .i64 x14,.int .i64 x15,.slice x16.a x16.n x16.c,.slice x17.a x17.n x17.c] /\ 
 (Fn Pz 68 #[.agg ⟨[.string x10,.slice x11.a x11.n x11.c,.slice x12.a x12.n x12.c,.int .i64 x13,.int .i64 x14,.int .i64 x15,.slice x16.a x16.n x16.c,.slice x17.a x17.n x17.c]⟩,.int .i64 p1] h9 
 (fun v18 h21=>∃x19:Sl,∃x20:Int,v18=.tuple ⟨[.slice x19.a x19.n x19.c,.int .i64 x20]⟩ /\ 
 (∃I22:Sl->Int->Heap->Nat->Prop,(∃m23,I22 ⟨none,0,0⟩ 0 h21 m23) /\ 
 (∀(_:Env) (out_25:Sl) (x_26:Int) (h27:Heap) (m24:Nat),I22 out_25 x_26 h27 m24 -> 
 (sB (decide (x_26<(x19.n:Int))) 
  ((NB x19.a fun b28 o29=>((0<=(x_26:Int)/\(x_26:Int)<(x19.n:Nat)) /\ 
  (∃x30:Int,∃x31:Int,∃x32:Sl,atC h27 ⟨b28,o29+Int.toNat x_26*3,none⟩ [.int .i64 x30,.int .i64 x31,.slice x32.a x32.n x32.c] /\ 
  (∀h33:Heap,h33=h27.push (.cells ⟨[.int .i64 0,.int .i64 0,.slice none 0 0]⟩ 134) -> 
  (okAt h33 ⟨h27.size,0,none⟩ 3/\∀h34:Heap,h34=hputs h33 ⟨h27.size,0,none⟩ 0 [.int .i64 x30,.int .i64 x31,.slice x32.a x32.n x32.c] -> 
  (∃x35:Int,∃x36:Int,atC h34 ⟨h27.size,0,none⟩ [.int .i64 x35,.int .i64 x36] /\ 
  (∀h37:Heap,h37=h34.push (.cells ⟨[.int .i64 x35,.int .i64 x36]⟩ 72) -> 
  (App Pz 68 68 (.slice out_25.a out_25.n out_25.c) (.slice (some ⟨h34.size,0,none⟩) 1 1) h37 fun s38 h39=>
  (∃m40,m40<m24/\I22 s38 (IntKind.wrap .i64 (x_26+1)) h39 m40)))))))))) 
  ((Fn Pz 69 #[.slice out_25.a out_25.n out_25.c,.func (.func 70) #[] #[]] h27 
  (fun v41 h42=>v41=.tuple ⟨[]⟩ /\ 
  R (.tuple ⟨[.slice out_25.a out_25.n out_25.c,.int .i64 x20]⟩) h42))))))))))
theorem vc31e (p0_1:ByteArray) (p0_2:Sl) (p0_3:Sl) (p0_4:Int) (p0_5:Int) (p0_6:Int) (p0_7:Sl) (p0_8:Sl) (p1:Int) (h:Heap) (R:Value->Heap->Prop):W31 p0_1 p0_2 p0_3 p0_4 p0_5 p0_6 p0_7 p0_8 p1 h R=fnW Pz 31 (.s .z (.s .z (.s .z (.s (.s .z (.b (.l [(8,.one (.slice)),(19,.one (.int .i64))] .z))) .z)))) #[.agg ⟨[.string p0_1,.slice p0_2.a p0_2.n p0_2.c,.slice p0_3.a p0_3.n p0_3.c,.int .i64 p0_4,.int .i64 p0_5,.int .i64 p0_6,.slice p0_7.a p0_7.n p0_7.c,.slice p0_8.a p0_8.n p0_8.c]⟩,.int .i64 p1] h R:=by kernel_rfl
theorem vc31 (p0_1:ByteArray) (p0_2:Sl) (p0_3:Sl) (p0_4:Int) (p0_5:Int) (p0_6:Int) (p0_7:Sl) (p0_8:Sl) (p1:Int) (h:Heap) (R:Value->Heap->Prop) (H:W31 p0_1 p0_2 p0_3 p0_4 p0_5 p0_6 p0_7 p0_8 p1 h R):Fn Pz 31 #[.agg ⟨[.string p0_1,.slice p0_2.a p0_2.n p0_2.c,.slice p0_3.a p0_3.n p0_3.c,.int .i64 p0_4,.int .i64 p0_5,.int .i64 p0_6,.slice p0_7.a p0_7.n p0_7.c,.slice p0_8.a p0_8.n p0_8.c]⟩,.int .i64 p1] h R:=fnI (vc31e p0_1 p0_2 p0_3 p0_4 p0_5 p0_6 p0_7 p0_8 p1 h R) H
/- farandole/early.Path -/
def W32 (p0_1:ByteArray) (p0_2:Sl) (p0_3:Sl) (p0_4:Int) (p0_5:Int) (p0_6:Int) (p0_7:Sl) (p0_8:Sl) (p1:Int) (p2_9:Int) (p2_10:Int) (h:Heap) (R:Value->Heap->Prop):Prop:=
 (∀h11:Heap,h11=h.push (.cells ⟨[.string p0_1,.slice p0_2.a p0_2.n p0_2.c,.slice p0_3.a p0_3.n p0_3.c,.int .i64 p0_4,.int .i64 p0_5,.int .i64 p0_6,.slice p0_7.a p0_7.n p0_7.c,.slice p0_8.a p0_8.n p0_8.c]⟩ 27) -> 
 (∀h12:Heap,h12=h11.push (.cells ⟨[.int .i64 p2_9,.int .i64 p2_10]⟩ 72) -> 
 (∃x13:ByteArray,∃x14:Sl,∃x15:Sl,∃x16:Int,∃x17:Int,∃x18:Int,∃x19:Sl,∃x20:Sl,atC h12 ⟨h.size,0,none⟩ [.string x13,.slice x14.a x14.n x14.c,.slice x15.a x15.n x15.c,.int .i64 x16,.int .i64 x17,.int .i64 x18,.slice x19.a x19.n x19.c,.slice x20.a x20.n x20.c] /\ 
 (Fn Pz 68 #[.agg ⟨[.string x13,.slice x14.a x14.n x14.c,.slice x15.a x15.n x15.c,.int .i64 x16,.int .i64 x17,.int .i64 x18,.slice x19.a x19.n x19.c,.slice x20.a x20.n x20.c]⟩,.int .i64 p1] h12 
 (fun v21 h24=>∃x22:Sl,∃x23:Int,v21=.tuple ⟨[.slice x22.a x22.n x22.c,.int .i64 x23]⟩ /\ 
 (sB (x23 != 0) 
  (R (.tuple ⟨[.slice none 0 0,.int .i64 x23]⟩) h24) 
  ((Fn Pz 71 #[.slice x22.a x22.n x22.c,.func (.func 72) #[] #[.pointer (some ⟨h11.size,0,none⟩)]] h24 
  (fun v25 h27=>∃x26:Int,v25=.int .i64 x26 /\ 
  (sB (decide (x26<0)) 
  (R (.tuple ⟨[.slice none 0 0,.int .i64 8]⟩) h27) 
  ((NB x22.a fun b28 o29=>((0<=(x26:Int)/\(x26:Int)<(x22.n:Nat)) /\ 
  (∃x30:Sl,hc h27 ⟨b28,o29+Int.toNat x26*3+2,none⟩=some (.slice x30.a x30.n x30.c) /\ 
  R (.tuple ⟨[.slice x30.a x30.n x30.c,.int .i64 0]⟩) h27))))))))))))))
theorem vc32e (p0_1:ByteArray) (p0_2:Sl) (p0_3:Sl) (p0_4:Int) (p0_5:Int) (p0_6:Int) (p0_7:Sl) (p0_8:Sl) (p1:Int) (p2_9:Int) (p2_10:Int) (h:Heap) (R:Value->Heap->Prop):W32 p0_1 p0_2 p0_3 p0_4 p0_5 p0_6 p0_7 p0_8 p1 p2_9 p2_10 h R=fnW Pz 32 .z #[.agg ⟨[.string p0_1,.slice p0_2.a p0_2.n p0_2.c,.slice p0_3.a p0_3.n p0_3.c,.int .i64 p0_4,.int .i64 p0_5,.int .i64 p0_6,.slice p0_7.a p0_7.n p0_7.c,.slice p0_8.a p0_8.n p0_8.c]⟩,.int .i64 p1,.agg ⟨[.int .i64 p2_9,.int .i64 p2_10]⟩] h R:=by kernel_rfl
theorem vc32 (p0_1:ByteArray) (p0_2:Sl) (p0_3:Sl) (p0_4:Int) (p0_5:Int) (p0_6:Int) (p0_7:Sl) (p0_8:Sl) (p1:Int) (p2_9:Int) (p2_10:Int) (h:Heap) (R:Value->Heap->Prop) (H:W32 p0_1 p0_2 p0_3 p0_4 p0_5 p0_6 p0_7 p0_8 p1 p2_9 p2_10 h R):Fn Pz 32 #[.agg ⟨[.string p0_1,.slice p0_2.a p0_2.n p0_2.c,.slice p0_3.a p0_3.n p0_3.c,.int .i64 p0_4,.int .i64 p0_5,.int .i64 p0_6,.slice p0_7.a p0_7.n p0_7.c,.slice p0_8.a p0_8.n p0_8.c]⟩,.int .i64 p1,.agg ⟨[.int .i64 p2_9,.int .i64 p2_10]⟩] h R:=fnI (vc32e p0_1 p0_2 p0_3 p0_4 p0_5 p0_6 p0_7 p0_8 p1 p2_9 p2_10 h R) H
end Go.VC
end
