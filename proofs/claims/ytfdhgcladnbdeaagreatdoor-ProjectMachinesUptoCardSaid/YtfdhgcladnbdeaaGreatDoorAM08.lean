/- PjUb PjUc PjUd PjUe PjUf PjUg. -/
import Derived.Test.YtfdhgcladnbdeaaGreatDoorAM07
set_option linter.all false
set_option maxRecDepth 100000
set_option maxHeartbeats 8000000

section
namespace Go.VC
open Go.Proofs Go.LexS
theorem St.swapU {h0 h:Heap} {a b:It} (hs:St h0 h [a,b]):St h0 h [b,a]:=hs.perm (List.Perm.swap b a [])
theorem clo_congr {es:List Ed} {role:Int} {l l':List Int} (h:∀x,x∈l ↔ x∈l'):clo es role l=clo es role l':=by
 funext j
 have e:clo es role l j=true ↔ clo es role l' j=true:=by
  rw[clo_iff,clo_iff];exact⟨fun h1=>h1.mono fun x hx=>(h x).1 hx,fun h1=>h1.mono fun x hx=>(h x).2 hx⟩
 cases h1:clo es role l j<;>cases h2:clo es role l' j<;>simp_all
def Stl (n:Int) (l:List Int):Prop:=∀v∈l,0<=v/\v<n
theorem Qr.stl {g:Gl} (hV:ValidS g) {role:Int} {l:List Int} (hl:Stl g.n l) {v:Int} (h:Qr g.es role l v):0<=v/\v<g.n:=by
 induction h with
 | base hm=>exact hl _ hm
 | step _ hx _=>
  obtain⟨x,hx,_,_,rfl⟩:=hx;have:=hV.num.e x hx;unfold EdS at this;omega
theorem asc_len {n:Int}:∀ {l:List Int} {a:Int},l.Pairwise (· < ·)->(∀v∈l,a<=v/\v<n)->a<=n->(l.length:Int)<=n-a
 | [],a,_,_,h=>by simp;omega
 | x::l,a,hp,hv,h=>by
  obtain⟨h1,h2⟩:=List.pairwise_cons.1 hp;have hx:=hv x Yx;have:=asc_len (n:=n) (l:=l) (a:=x+1) h2 (fun v hm=>⟨by have:=h1 v hm;omega,(hv v (Yn _ hm)).2⟩) (by omega);rw[Yyj];omega
theorem clo_setI {g:Gl} (hV:ValidS g) {role:Int} {l O:List Int} (hl:Stl g.n l) (ha:O.Pairwise (· < ·)) (h1:∀v∈O,Qr g.es role l v) (h2:∀v∈l,v∈O) (hc:∀x∈g.es,vis1 role x=none->x.f∈O->x.t∈O):O=setI (clo g.es role l):=by
 have hN:=hV.num.n;have key:∀v,Qr g.es role l v->v∈O:=fun v h=>by
  induction h with
  | base hm=>exact h2 _ hm
  | step _ hx ih=>
   obtain⟨x,hx,hv,rfl,rfl⟩:=hx;exact hc x hx hv ih
 refine setI_of ha fun v=>⟨fun hv=>?_,fun ⟨h0,_,h3⟩=>?_⟩
 .have h3:=h1 v hv;have h4:=h3.stl hV hl;refine⟨h4.1,by omega,clo_iff.2 ?_⟩;rw[show ((v.toNat:Nat):Int)=v by omega];exact h3
 .have:=clo_iff.1 h3;rw[show ((v.toNat:Nat):Int)=v by omega] at this;exact key v this
theorem closure142 (g:Gl) (role:Int) (l:List Int) (s:Sl) (h:Heap) (hg:GI h g) (hV:ValidS g) (hr:RL h 1 s inC l) (ha:l.Pairwise (· < ·)) (hl:Stl g.n l) :
  Fn Pz 142 #[g.v,.int .i64 role,.slice s.a s.n s.c] h fun v h'=>∃s':Sl,v=.slice s'.a s'.n s'.c/\St h h' [.sl s' 3 1 ((setI (clo g.es role l)).map inC)]:=by
 apply vc142 (bs g.nm) g.hr g.hd g.n g.s g.e g.he g.ht;unfold W142;have hN:=hV.num.n;have hE:=hV.num.m;have hen:=hg.e.ln;have hln:=hr.ln;have hll:=asc_len ha hl (by omega);refine (St.refl h).newb fun h9 hs=>?_;refine hs.newb fun h10 hs=>?_;have hs:=hs.blkS 0 1 (([]:List Int).map inC) rfl (inrows _) rfl (Nat.zero_le _);refine hs.appRw 0 rfl app42 (hr.rw.ext hs.ext) (inrows _) hr.nil (flat_oneB (fun _=>rfl) _) (by show (0+s.n)*8<=_;omega) (by show 0+s.n<=_;simp only[maxLen];omega) fun s11 h12 _ hs=>?_;have hs:St h h12 [.blk h.size g.cs 27,.sl s11 3 1 (l.map inC)]:=hs.swapU;refine⟨fun out n h' μ=>∃(k:Nat) (O:List Int),n=(k:Int)/\μ=202-k/\(k:Int)<=g.n+1/\k<=O.length/\St h h' [.blk h.size g.cs 27,.sl out 3 1 (O.map inC)]/\O.Pairwise (· < ·)/\(∀v∈O,Qr g.es role l v)/\(∀v∈l,v∈O),⟨_,0,l,rfl,rfl,by omega,Nat.zero_le _,hs,ha,fun v hv=>.base hv,fun v hv=>hv⟩,?_⟩;clear hs;rintro-out _ h18 μ ⟨k,O,rfl,rfl,hk,hkO,hs,hOa,hO1,hO2⟩;have hOl:=asc_len hOa (fun v hv=>(hO1 v hv).stl hV hl) (by omega);have hRn:=(hs.rl 1 (s:=out) (cs:=inC) rfl (by decide) (by omega)).ln;refine⟨g.n,hs.rd 0 rfl (i:=3) rfl,sBi (fun c=>?_) (fun c=>absurd c (by omega))⟩;refine⟨fun out' i h' μ'=>∃(j:Nat) (O':List Int),i=(j:Int)/\μ'=g.es.length-j/\j<=g.es.length/\St h h' [.blk h.size g.cs 27,.sl out' 3 1 (O'.map inC)]/\O'.Pairwise (· < ·)/\(∀v∈O',Qr g.es role l v)/\(∀v∈l,v∈O') /\
   ((O'=O/\∀(m:Nat) x,m<j->g.es[m]?=some x->vis1 role x=none->x.f∈O->x.t∈O)\/O.length<O'.length),⟨_,0,O,rfl,rfl,Nat.zero_le _,hs,hOa,hO1,hO2,.inl ⟨rfl,fun m x hm=>by omega⟩⟩,?_⟩
 clear hs;rintro-out' _ h25 μ' ⟨j,O',rfl,rfl,hj,hs,hOa',hO1',hO2',hor⟩;have hOl':=asc_len hOa' (fun v hv=>(hO1' v hv).stl hV hl) (by omega);have hR:=hs.rl 1 (s:=out') (cs:=inC) rfl (by decide) (by omega);have hRn':=hR.ln;refine⟨g.he,hs.rd 0 rfl (i:=6) rfl,sBi (fun c1=>?_) (fun c1=>?_)⟩
 .refine⟨g.he,hs.rd 0 rfl (i:=6) rfl,?_⟩;refine (hg.e.rw.ext hs.ext).nbI (by omega) (by omega) fun b28 o29 x gx t=>?_;replace gx:g.es[j]?=some x:=gx;have hxm:=Yb gx;refine⟨x.f,x.a,x.b,x.l,x.t,x.ag,t,?_⟩;refine (St.refl h25).newput (vs:=x.cs) rfl rfl fun h37 hx=>?_;have hs:=hs.step hx.ext;have hR:=hR.ext hx.ext;have keep:∀ {hZ:Heap},Ext h37 hZ->(vis1 role x=none->x.f∈O->x.t∈O)\/O.length<O'.length->∃m57,m57<g.es.length-j/\∃(j':Nat) (O'':List Int),IntKind.wrap .i64 ((j:Int)+1)=(j':Int)/\m57=g.es.length-j'/\j'<=g.es.length/\St h hZ [.blk h.size g.cs 27,.sl out' 3 1 (O''.map inC)]/\O''.Pairwise (· < ·)/\(∀v∈O'',Qr g.es role l v)/\(∀v∈l,v∈O'') /\
    ((O''=O/\∀(m:Nat) x,m<j'->g.es[m]?=some x->vis1 role x=none->x.f∈O->x.t∈O)\/O.length<O''.length):=fun {hZ} E hk=>by
   refine⟨_,(show g.es.length-(j+1)<g.es.length-j by omega),j+1,O',by rw[w64 (by omega) (by omega)];omega,rfl,by omega,hs.step E,hOa',hO1',hO2',?_⟩;rcases hor with ⟨he,hc⟩ | hlt
   .rcases hk with hk | hk
    .refine .inl ⟨he,fun m y hm gy=>?_⟩;by_cases e:m=j
     .subst e;rw[gx] at gy;cases gy;exact hk
     .exact hc m y (by omega) gy
    .exact .inr hk
   .exact .inr hlt
  refine⟨x.f,x.a,x.b,x.l,x.t,x.ag,hx.at 0 rfl (o:=0) (n:=6) rfl,?_⟩;refine (sees50 x role h37).mono ?_;rintro _ h46 ⟨rfl,E1⟩;refine⟨_,rfl,sB_intro (fun c2=>?_) (fun c2=>keep E1 (.inl fun hv=>?_))⟩;rotate_left
  .rw[hv] at c2;cases c2
  have hvn:vis1 role x=none:=by
   have:=bF c2;cases hv:vis1 role x with
   | none=>rfl
   | some e=>rw[hv] at this;cases this
  have hx:=hx.step E1;refine⟨x.f,hx.rd 0 rfl (i:=0) rfl,?_⟩;refine (refHas92 O' x.f out' h46 (hR.rw.ext E1) hR.sm).mono ?_;rintro _ h50 ⟨⟨bb,rfl,hbb⟩,E2⟩;refine⟨bb,rfl,sB_intro (fun c3=>?_) (fun c3=>keep (E1.trans E2) ?_)⟩;rotate_left
  .have hno:x.f∉O':=iff_f hbb c3;rcases hor with ⟨he,_⟩ | hlt
   .exact .inl fun _ hf=>absurd (by rw[he];exact hf) hno
   .exact .inr hlt
  have hin:x.f∈O':=hbb.1 c3;have hx:=hx.step E2;refine⟨x.t,hx.rd 0 rfl (i:=4) rfl,?_⟩;refine (refWith144 O' x.t out' h50 ((hR.rw.ext E1).ext E2) (by omega)).mono ?_;rintro _ h54 ⟨s',rfl,hs3⟩;have hq:Qr g.es role l x.t:=.step (hO1' _ hin) ⟨x,hxm,hvn,rfl,rfl⟩;refine⟨s',rfl,_,(show g.es.length-(j+1)<g.es.length-j by omega),j+1,withL x.t O',by rw[w64 (by omega) (by omega)];omega,rfl,by omega,(((hs.step E1).step E2).join hs3).eras 1,withL_sorted hOa',fun v hv=>?_,fun v hv=>withL_mem.2 (.inr (hO2' v hv)),?_⟩
  .rcases withL_mem.1 hv with rfl | hv
   .exact hq
   .exact hO1' v hv
  .by_cases hm:x.t∈O'
   .rw[withL_same hOa' hm];rcases hor with ⟨he,hc⟩ | hlt
    .refine .inl ⟨he,fun m y hm' gy=>?_⟩;by_cases e:m=j
     .subst e;rw[gx] at gy;cases gy;exact fun _ _=>by rw[<-he];exact hm
     .exact hc m y (by omega) gy
    .exact .inr hlt
   .right
    rw[withL_len hm];rcases hor with ⟨he,_⟩ | hlt
    .rw[he];omega
    .omega
 .refine sBe (fun c2=>?_) (fun c2=>?_)
  .rcases hor with ⟨he,hc⟩ | hlt
   .subst he;have e:O'=setI (clo g.es role l):=clo_setI hV hl hOa' hO1' hO2' fun x hx hv hf=>by
     obtain⟨m,hm⟩:=Yf.1 hx;exact hc m x (by have:=(Ya.1 hm).1;omega) hm hv hf
    exact⟨out',rfl,by rw[<-e];exact hs.drop 1⟩
   .omega
  .have hlt:O.length<O'.length:=by
    rcases hor with ⟨he,_⟩ | hlt
    .rw[he] at hRn';omega
    .exact hlt
   exact⟨_,(show 202-(k+1)<202-k by omega),k+1,O',by rw[w64 (by omega) (by omega)];omega,rfl,by omega,by omega,hs,hOa',hO1',hO2'⟩
/-! ### events -/
theorem evs_in {g:Gl} (hV:ValidS g) {role:Int} {p:PSet} {e:Ev}:e∈evs g.es role p ↔ ∃x∈g.es,vis1 role x=some e/\x.f∈setI p:=by
 have hN:=hV.num.n;unfold evs;rw[sortE_mem];unfold evL;rw[List.mem_flatMap];constructor
 .rintro⟨n,hn,hm⟩;obtain⟨a,ha,rfl⟩:=Yp.1 hm;unfold visL at ha;obtain⟨x,hx,h2⟩:=Yym.1 ha;split at h2
  .rename_i hf;cases hv:vis1 role x with
   | none=>rw[hv] at h2;cases h2
   | some e=>
    rw[hv] at h2;injection h2 with h2;refine⟨x,hx,by rw[<-h2];exact hv,setI_mem.2 ?_⟩;have:=elems_mem.1 hn;rw[hf];exact⟨by omega,by omega,this.2⟩
  .cases h2
 .rintro⟨x,hx,hv,hf⟩;obtain⟨h0,h1,h2⟩:=setI_mem.1 hf;refine⟨x.f.toNat,elems_mem.2 ⟨by omega,h2⟩,Yp.2 ⟨⟨e,x.t⟩,?_,rfl⟩⟩;unfold visL;refine Yym.2 ⟨x,hx,?_⟩;rw[if_pos (by omega),hv];rfl
theorem toL_in {g:Gl} {role:Int} {p:PSet} {e:Ev} {v:Int}:v∈toL g.es role p e ↔ ∃x∈g.es,vis1 role x=some e/\x.f∈setI p/\v=x.t:=by
 unfold toL;rw[List.mem_flatMap];constructor
 .rintro⟨n,hn,hm⟩;obtain⟨a,ha,h3⟩:=Yym.1 hm;unfold visL at ha;obtain⟨x,hx,h2⟩:=Yym.1 ha;split at h2
  .rename_i hf;cases hv:vis1 role x with
   | none=>rw[hv] at h2;cases h2
   | some e'=>
    rw[hv] at h2;injection h2 with h2;subst h2;split at h3
    .rename_i he;injection h3 with h3;replace he:e'=e:=he;refine⟨x,hx,by rw[hv,he],setI_mem.2 ?_,h3.symm⟩;have:=elems_mem.1 hn;rw[hf];exact⟨by omega,by omega,this.2⟩
    .cases h3
  .cases h2
 .rintro⟨x,hx,hv,hf,rfl⟩;obtain⟨h0,h1,h2⟩:=setI_mem.1 hf;refine⟨x.f.toNat,elems_mem.2 ⟨by omega,h2⟩,Yym.2 ⟨⟨e,x.t⟩,?_,if_pos rfl⟩⟩;unfold visL;refine Yym.2 ⟨x,hx,?_⟩;rw[if_pos (by omega),hv];rfl
theorem refEvents93 (g:Gl) (role:Int) (p:PSet) (s:Sl) (h:Heap) (hg:GI h g) (hV:ValidS g) (hr:RL h 1 s inC (setI p)) :
  Fn Pz 93 #[g.v,.int .i64 role,.slice s.a s.n s.c] h fun v h'=>∃s':Sl,v=.slice s'.a s'.n s'.c/\St h h' [.sl s' 60 5 ((evs g.es role p).map (aC role))]:=by
 apply vc93 (bs g.nm) g.hr g.hd g.n g.s g.e g.he g.ht;unfold W93;have hE:=hV.num.m;have hen:=hg.e.ln;refine (St.refl h).newb fun h9 hs=>?_;have hs:St h h9 [.blk h.size g.cs 27,.sl ⟨none,0,0⟩ 60 5 (([]:List Ev).map (aC role))]:=(hs.nil_ 60 5).swapU;refine⟨fun out i h' μ=>∃(j:Nat) (T:List Ev),i=(j:Int)/\μ=g.es.length-j/\j<=g.es.length/\T.length<=j/\St h h' [.blk h.size g.cs 27,.sl out 60 5 (T.map (aC role))]/\T.Pairwise evLt/\∀e,e∈T ↔ ∃(m:Nat) (x:Ed),m<j/\g.es[m]?=some x/\vis1 role x=some e/\x.f∈setI p,
  ⟨_,0,[],rfl,rfl,Nat.zero_le _,Nat.zero_le _,hs,.nil,fun e=>⟨fun he=>(by cases he),fun ⟨m,x,hm,_⟩=>(by omega)⟩⟩,?_⟩
 clear hs;rintro-out _ h15 μ ⟨j,T,rfl,rfl,hj,hT,hs,hTa,hTm⟩;refine⟨g.he,hs.rd 0 rfl (i:=6) rfl,sBi (fun c=>?_) (fun c=>?_)⟩
 .refine⟨g.he,hs.rd 0 rfl (i:=6) rfl,?_⟩;refine (hg.e.rw.ext hs.ext).nbI (by omega) (by omega) fun b28 o29 x gx t=>?_;replace gx:g.es[j]?=some x:=gx;refine⟨x.f,x.a,x.b,x.l,x.t,x.ag,t,?_⟩;refine (St.refl h15).newput (vs:=x.cs) rfl rfl fun h27 hx=>?_;have hs:=hs.step hx.ext;have keep:∀ {hZ:Heap},Ext h27 hZ->(∀e,vis1 role x=some e->x.f∉setI p)->∃m57,m57<g.es.length-j/\∃(j':Nat) (T:List Ev),IntKind.wrap .i64 ((j:Int)+1)=(j':Int)/\m57=g.es.length-j'/\j'<=g.es.length/\T.length<=j'/\St h hZ [.blk h.size g.cs 27,.sl out 60 5 (T.map (aC role))]/\T.Pairwise evLt/\∀e,e∈T ↔ ∃(m:Nat) (x:Ed),m<j'/\g.es[m]?=some x/\vis1 role x=some e/\x.f∈setI p:=fun {hZ} E hno=>by
   refine⟨_,(show g.es.length-(j+1)<g.es.length-j by omega),j+1,T,by rw[w64 (by omega) (by omega)];omega,rfl,by omega,by omega,hs.step E,hTa,fun e=>(hTm e).trans ⟨fun ⟨m,y,hm,h1⟩=>⟨m,y,by omega,h1⟩,fun ⟨m,y,hm,gy,hv,hf⟩=>?_⟩⟩;by_cases e2:m=j
   .subst e2;rw[gx] at gy;cases gy;exact absurd hf (hno e hv)
   .exact⟨m,y,by omega,gy,hv,hf⟩
  refine⟨x.f,x.a,x.b,x.l,x.t,x.ag,hx.at 0 rfl (o:=0) (n:=6) rfl,?_⟩;refine (sees50 x role h27).mono ?_;rintro _ h36 ⟨rfl,E1⟩;refine⟨_,rfl,sB_intro (fun c2=>?_) (fun c2=>keep E1 fun e hv=>by rw[hv] at c2;cases c2)⟩;obtain⟨e,hv⟩:∃e,vis1 role x=some e:=Option.isSome_iff_exists.1 c2;have hx:=hx.step E1;refine⟨x.f,hx.rd 0 rfl (i:=0) rfl,?_⟩;refine (refHas92 (setI p) x.f s h36 (hr.rw.ext (hs.step E1).ext) hr.sm).mono ?_;rintro _ h40 ⟨⟨bb,rfl,hbb⟩,E2⟩;refine⟨bb,rfl,sB_intro (fun c3=>?_) (fun c3=>keep (E1.trans E2) fun _ _=>iff_f hbb c3)⟩;have hin:x.f∈setI p:=hbb.1 c3;have hx:=hx.step E2;refine⟨x.f,x.a,x.b,x.l,x.t,x.ag,hx.at 0 rfl (o:=0) (n:=6) rfl,?_⟩;refine (event51 x role e hv h40).mono ?_;rintro _ h53 ⟨rfl,E3⟩;refine⟨role,e.send,e.peer,e.label,⟨none,0,0⟩,rfl,?_⟩;have hs:=((hs.step E1).step E2).step E3;refine (insert143 role T e out h53 (hs.rows 1 rfl (by decide)) (by omega)).mono ?_;rintro _ h56 ⟨s',rfl,hs4⟩;have hl:=insE_len e T;refine⟨s',rfl,_,(show g.es.length-(j+1)<g.es.length-j by omega),j+1,insE e T,by rw[w64 (by omega) (by omega)];omega,rfl,by omega,by omega,(hs.join hs4).eras 1,insE_sorted e T hTa,fun e'=>?_⟩;rw[insE_mem,hTm];constructor
  .rintro (rfl | ⟨m,y,hm,h1⟩)
   .exact⟨j,x,by omega,gx,hv,hin⟩
   .exact⟨m,y,by omega,h1⟩
  .rintro⟨m,y,hm,gy,hv',hf⟩;by_cases e2:m=j
   .subst e2;rw[gx] at gy;cases gy;rw[hv] at hv';cases hv';exact .inl rfl
   .exact .inr ⟨m,y,by omega,gy,hv',hf⟩
 .have e:T=evs g.es role p:=sorted_ext _ _ hTa (sortE_sorted _) fun e=>by
   rw[hTm];refine Iff.trans ?_ (evs_in hV).symm;constructor
   .rintro⟨m,x,_,gx,h1,h2⟩;exact⟨x,Yb gx,h1,h2⟩
   .rintro⟨x,hx,h1,h2⟩;obtain⟨m,hm⟩:=Yf.1 hx;exact⟨m,x,by have:=(Ya.1 hm).1;omega,hm,h1,h2⟩
  exact⟨out,rfl,by rw[<-e];exact hs.drop 1⟩
theorem refAfter94 (g:Gl) (role:Int) (p:PSet) (e:Ev) (s:Sl) (h:Heap) (hg:GI h g) (hV:ValidS g) (hr:RL h 1 s inC (setI p)) :
  Fn Pz 94 #[g.v,.int .i64 role,.slice s.a s.n s.c,.agg ⟨aC role e⟩] h fun v h'=>∃s':Sl,v=.slice s'.a s'.n s'.c/\St h h' [.sl s' 3 1 ((setI (clo g.es role (toL g.es role p e))).map inC)]:=by
 apply vc94 (bs g.nm) g.hr g.hd g.n g.s g.e g.he g.ht role s role e.send e.peer e.label ⟨none,0,0⟩;unfold W94;have hE:=hV.num.m;have hen:=hg.e.ln;refine (St.refl h).newb fun h14 hs=>?_;refine hs.newb fun h15 hs=>?_;have hs:St h h15 [.blk h14.size (aC role e) 60,.blk h.size g.cs 27]:=hs;have hs:St h h15 [.blk h14.size (aC role e) 60,.blk h.size g.cs 27,.sl ⟨none,0,0⟩ 3 1 (([]:List Int).map inC)]:=(hs.nil_ 3 1).perm (List.perm_append_comm (l₁:=[_]) (l₂:=[_,_]));refine⟨fun out i h' μ=>∃(j:Nat) (T:List Int),i=(j:Int)/\μ=g.es.length-j/\j<=g.es.length/\T.length<=j/\St h h' [.blk h14.size (aC role e) 60,.blk h.size g.cs 27,.sl out 3 1 (T.map inC)]/\T.Pairwise (· < ·)/\∀v,v∈T ↔ ∃(m:Nat) (x:Ed),m<j/\g.es[m]?=some x/\vis1 role x=some e/\x.f∈setI p/\v=x.t,
  ⟨_,0,[],rfl,rfl,Nat.zero_le _,Nat.zero_le _,hs,.nil,fun e=>⟨fun he=>(by cases he),fun ⟨m,x,hm,_⟩=>(by omega)⟩⟩,?_⟩
 clear hs;rintro-out _ h21 μ ⟨j,T,rfl,rfl,hj,hT,hs,hTa,hTm⟩;refine⟨g.he,hs.rd 1 rfl (i:=6) rfl,sBi (fun c=>?_) (fun c=>?_)⟩
 .refine⟨g.he,hs.rd 1 rfl (i:=6) rfl,?_⟩;refine (hg.e.rw.ext hs.ext).nbI (by omega) (by omega) fun b28 o29 x gx t=>?_;replace gx:g.es[j]?=some x:=gx;refine⟨x.f,x.a,x.b,x.l,x.t,x.ag,t,?_⟩;refine (St.refl h21).newput (vs:=x.cs) rfl rfl fun h33 hx=>?_;have hs:=hs.step hx.ext;have keep:∀ {hZ:Heap},Ext h33 hZ->¬(vis1 role x=some e/\x.f∈setI p)->∃m57,m57<g.es.length-j/\∃(j':Nat) (T:List Int),IntKind.wrap .i64 ((j:Int)+1)=(j':Int)/\m57=g.es.length-j'/\j'<=g.es.length/\T.length<=j'/\St h hZ [.blk h14.size (aC role e) 60,.blk h.size g.cs 27,.sl out 3 1 (T.map inC)]/\T.Pairwise (· < ·)/\∀v,v∈T ↔ ∃(m:Nat) (x:Ed),m<j'/\g.es[m]?=some x/\vis1 role x=some e/\x.f∈setI p/\v=x.t:=fun {hZ} E hno=>by
   refine⟨_,(show g.es.length-(j+1)<g.es.length-j by omega),j+1,T,by rw[w64 (by omega) (by omega)];omega,rfl,by omega,by omega,hs.step E,hTa,fun v=>(hTm v).trans ⟨fun ⟨m,y,hm,h1⟩=>⟨m,y,by omega,h1⟩,fun ⟨m,y,hm,gy,hv,hf,hvt⟩=>?_⟩⟩;by_cases e2:m=j
   .subst e2;rw[gx] at gy;cases gy;exact absurd ⟨hv,hf⟩ hno
   .exact⟨m,y,by omega,gy,hv,hf,hvt⟩
  refine⟨x.f,x.a,x.b,x.l,x.t,x.ag,hx.at 0 rfl (o:=0) (n:=6) rfl,?_⟩;refine (sees50 x role h33).mono ?_;rintro _ h42 ⟨rfl,E1⟩;refine⟨_,rfl,sB_intro (fun c2=>?_) (fun c2=>keep E1 fun ⟨hv,_⟩=>by rw[hv] at c2;cases c2)⟩;obtain⟨e',hv⟩:∃e,vis1 role x=some e:=Option.isSome_iff_exists.1 c2;have hx:=hx.step E1;have hs:=hs.step E1;refine⟨x.f,x.a,x.b,x.l,x.t,x.ag,hx.at 0 rfl (o:=0) (n:=6) rfl,role,e.send,e.peer,e.label,⟨none,0,0⟩,hs.at 0 rfl (o:=0) (n:=5) rfl,?_⟩;refine (event51 x role e' hv h42).mono ?_;rintro _ h60 ⟨rfl,E2⟩;refine⟨role,e'.send,e'.peer,e'.label,⟨none,0,0⟩,rfl,E2.sm,?_⟩;refine (sameEv47 role e' e h60).mono ?_;rintro _ h63 ⟨rfl,E3⟩;refine⟨_,rfl,E3.sm,sB_intro (fun c3=>?_) (fun c3=>keep ((E1.trans E2).trans E3) fun ⟨h1,_⟩=>Yyo c3 (by rw[hv] at h1;exact Yyp h1))⟩;have he:e'=e:=Yyn c3;subst he;have hx:=(hx.step E2).step E3;have hs:=(hs.step E2).step E3;refine⟨x.f,hx.rd 0 rfl (i:=0) rfl,?_⟩;refine (refHas92 (setI p) x.f s h63 (hr.rw.ext hs.ext) hr.sm).mono ?_;rintro _ h67 ⟨⟨bb,rfl,hbb⟩,E4⟩;refine⟨bb,rfl,E4.sm,sB_intro (fun c4=>?_) (fun c4=>keep (((E1.trans E2).trans E3).trans E4) fun ⟨_,h1⟩=>iff_f hbb c4 h1)⟩;have hin:x.f∈setI p:=hbb.1 c4;have hx:=hx.step E4;refine⟨x.t,hx.rd 0 rfl (i:=4) rfl,?_⟩;have hs:=hs.step E4;refine (refWith144 T x.t out h67 (hs.rows 2 rfl (by decide)) (by omega)).mono ?_;rintro _ h71 ⟨s',rfl,hs5⟩;have hl:(withL x.t T).length<=T.length+1:=by
   by_cases hm:x.t∈T
   .rw[withL_same hTa hm];omega
   .rw[withL_len hm];exact Yyt _
  refine⟨s',rfl,_,(show g.es.length-(j+1)<g.es.length-j by omega),j+1,withL x.t T,by rw[w64 (by omega) (by omega)];omega,rfl,by omega,by omega,(hs.join hs5).eras 2,withL_sorted hTa,fun v=>?_⟩;rw[withL_mem,hTm];constructor
  .rintro (rfl | ⟨m,y,hm,h1⟩)
   .exact⟨j,x,by omega,gx,hv,hin,rfl⟩
   .exact⟨m,y,by omega,h1⟩
  .rintro⟨m,y,hm,gy,hv',hf,hvt⟩;by_cases e2:m=j
   .subst e2;rw[gx] at gy;cases gy;exact .inl hvt
   .exact .inr ⟨m,y,by omega,gy,hv',hf,hvt⟩
 .have hmem:∀v,v∈T ↔ v∈toL g.es role p e:=fun v=>by
   rw[hTm];refine Iff.trans ?_ toL_in.symm;constructor
   .rintro⟨m,x,_,gx,h1,h2,h3⟩;exact⟨x,Yb gx,h1,h2,h3⟩
   .rintro⟨x,hx,h1,h2,h3⟩;obtain⟨m,hm⟩:=Yf.1 hx;exact⟨m,x,by have:=(Ya.1 hm).1;omega,hm,h1,h2,h3⟩
  refine⟨bs g.nm,g.hr,g.hd,g.n,g.s,g.e,g.he,g.ht,hs.at 1 rfl (o:=0) (n:=8) rfl,?_⟩;refine (closure142 g role T out h21 (hg.ext hs.ext) hV (hs.rl 2 rfl (by decide) (by omega)) hTa fun v hv=>?_).mono ?_
  .obtain⟨m,x,_,gx,_,_,rfl⟩:=(hTm v).1 hv;have:=hV.num.e x (Yb gx);unfold EdS at this;omega
  rintro _ h86 ⟨s',rfl,hs'⟩;exact⟨s',rfl,s',rfl,by rw[<-clo_congr hmem];exact (hs.join hs').drop 3⟩
/-! ### sets in memory -/
structure SR where
 s:Sl
 p:PSet
def SR.cs (x:SR):List Value:=slC x.s
structure SsI (h:Heap) (s:Sl) (Q:List SR):Prop where
 r:RL h 1 s SR.cs Q
 i:∀q∈Q,RL h 1 q.s inC (setI q.p)
def Below (p:PSet):Prop:=∀j,p j=true->j<4096
theorem find95 (Q:List SR) (s t:Sl) (p:PSet) (h:Heap) (hQ:SsI h s Q) (ht:RL h 1 t inC (setI p)) (hb:∀q∈Q,Below q.p) (hp:Below p) :
  Fn Pz 95 #[.slice s.a s.n s.c,.slice t.a t.n t.c] h fun v h'=>Ext h h'/\((p∈Q.map SR.p/\v=.int .i64 (rowI (Q.map SR.p) p:Nat))\/(p∉Q.map SR.p/\v=.int .i64 (-1))):=by
 apply vc95 s t;unfold W95;have hn:=hQ.r.ln;have hsm:=hQ.r.sm;refine up_loop (n:=s.n) (fun i h'=>Ext h h'/\∀(j:Nat) q,j<i->(Q.map SR.p)[j]?=some q->q≠p) ⟨.rfl',fun j q hj=>by omega⟩ ?_;rintro-i h5 hi ⟨E,hq⟩;refine sB_intro (fun c=>?_) (fun c=>?_)
 .replace c:=lt_t c;refine (hQ.r.rw.ext E).nbI (by omega) (by omega) fun b6 o7 q gq t6=>?_;replace gq:Q[i]?=some q:=gq;have hqm:=Yb gq;have gp:(Q.map SR.p)[i]?=some q.p:=by rw[Yd,gq];rfl
  refine⟨q.s,t6.hd,?_⟩;refine (same145 (setI q.p) (setI p) q.s t h5 ((hQ.i q hqm).rw.ext E) (ht.rw.ext E) (hQ.i q hqm).sm).mono ?_;rintro _ _ ⟨rfl,rfl⟩;refine⟨_,rfl,sB_intro (fun c2=>?_) (fun c2=>Up.next c (by omega) ⟨E,fun j q' hj gq'=>?_⟩)⟩
  .have e:q.p=p:=setI_inj (hb q hqm) hp (Yyn c2);rw[e] at gp;exact⟨E,.inl ⟨Yb gp,by rw[rowI_first gp hq]⟩⟩
  .by_cases e:j=i
   .subst e;rw[gp] at gq';cases gq';intro e2;rw[e2] at c2;simp at c2
   .exact hq j q' (by omega) gq'
 .replace c:=lt_f c;refine⟨E,.inr ⟨fun hm=>?_,rfl⟩⟩;obtain⟨j,hj⟩:=Yf.1 hm;exact hq j p (by have:=(Ya.1 hj).1;rw[Yc] at this;omega) hj rfl
theorem St.rlm {h0 h:Heap} {L:List It} (hs:St h0 h L) {s:Sl} {e n:Nat} {α:Type} {cs:α->List Value} {X:List α} (hk:It.sl s e n (X.map cs)∈L) (hn:0<n) (hX:X.length<=1048576):RL h n s cs X:=by
 obtain⟨k,hk⟩:=Yf.1 hk;exact hs.rl k hk hn hX
theorem St.keepb {h0 h h1 h':Heap} {L L':List It} (hs:St h0 h L) (hs':St h1 h' L') (k k' o:Nat) {b:Nat} {xs:List Value} {e:TypeId} (hk:L[k]?=some (.blk b xs e)) (hk':L'[k']?=some (.blk b xs e)):Sm [⟨b,o,none⟩] h h':=by
 intro a ha i v hv;rw[Ye.1 ha] at hv ⊢;have e1:h[b]?=some (.cells ⟨xs⟩ e):=hs.get hk;have e2:h'[b]?=some (.cells ⟨xs⟩ e):=hs'.get hk';have e3:h'[b]?=h[b]?:=by rw[e1,e2]
 rw[hc_of_block (h:=h) (h':=h') (a:=addk ⟨b,o,none⟩ i) (by rw[addk_block'];exact e3)];exact hv
theorem St.appf {h0 h h2:Heap} {L:List It} (hs:St h0 h L) (kb ks:Nat) {cb:Nat} {xs:List Value} {e0 t e:TypeId} {n bytes:Nat} {α:Type} {cs:α->List Value} {so:Sl} {X:List α} {x:α} (hkb:L[kb]?=some (.blk cb xs e0)) (hks:L[ks]?=some (.sl so e n (X.map cs)))
  (hT:appB Pz t e n bytes=true) (e2:h2=h.push (.cells ⟨cs x⟩ e)) (hc:(cs x).length=n) (ho:(cs x).all oneB=true) (hn:X.length<=1000000) (hnb:0<n/\bytes<=56) (f:Nat) (hf:f<xs.length) (hne:ks≠kb) {K:Heap->Prop}
  (hK:∀(s':Sl) (h':Heap),St h0 h' ((L.set ks (.sl s' e n ((X++[x]).map cs))).set kb (.blk cb (splice xs f [.slice s'.a s'.n s'.c]) e0))->K h') :
  Sm [⟨cb,f,none⟩] h h2/\App Pz t t (.slice so.a so.n so.c) (.slice (some ⟨h.size,0,none⟩) 1 1) h2 fun s55 h56=>okAt h56 ⟨cb,f,none⟩ 1/\∀h57:Heap,h57=hputs h56 ⟨cb,f,none⟩ 0 [.slice s55.a s55.n s55.c]->K h57:=by
 have hs2:St h0 h2 (.blk h.size (cs x) e::L):=hs.newb (K:=fun h2=>St h0 h2 (.blk h.size (cs x) e::L)) (fun _ h=>h) h2 e2;have hl:=(hs.len ks (s:=so) hks hnb.1).1;rw[Yc] at hl;refine⟨hs.keepb hs2 kb (kb+1) f hkb hkb,?_⟩;have hb1:(so.n+1)*bytes<=1000001*56:=Nat.mul_le_mul (by omega) hnb.2;refine hs2.appended (ks+1) (s:=so) hks hT (x:=⟨h.size,0,none⟩) (m:=1) (c:=1) (news:=[cs x]) (hs2.at 0 rfl (o:=0) (n:=n) (by rw[List.drop_zero,<-hc,Yye];simp)) rfl (by intro r hr;rw[Ye.1 hr];exact hc) (by simpa using ho) (by omega) (by simp only[maxLen];omega) fun s55 h56 n55 hs3=>?_;have hs3:St h0 h56 (L.set ks (.sl s55 e n (X.map cs++[cs x]))):=hs3.drop 1;refine hs3.put kb (by rw[Yy hne];exact hkb) (o:=f) (vs:=[.slice s55.a s55.n s55.c]) rfl (by show f+1<=xs.length;omega) fun h57 hs4=>hK s55 h57 ?_;rw[Ym];exact hs4
def GdS (g:Gl) (role:Int):Prop:=ValidS g/\0<=role/\role<g.rs.length
theorem refStart91 (g:Gl) (role:Int) (h:Heap) (hg:GI h g) (hM:GNm g.ds) :
  Fn Pz 91 #[g.v,.int .i64 role] h fun v h'=>(¬GdS g role/\v=.tuple ⟨[.slice none 0 0,.int .i64 1]⟩/\Ext h h')\/(GdS g role/\∃s:Sl,v=.tuple ⟨[.slice s.a s.n s.c,.int .i64 0]⟩/\St h h' [.sl s 3 1 ((setI (clo g.es role [g.s])).map inC)]):=by
 apply vc91 (bs g.nm) g.hr g.hd g.n g.s g.e g.he g.ht;unfold W91;refine (St.refl h).newb fun h9 hs=>?_;refine⟨_,_,_,_,_,_,_,_,hs.at 0 rfl (o:=0) (n:=8) rfl,?_⟩;refine (good49 g role h9 (hg.ext hs.ext) hM).mono ?_;rintro _ h20 ⟨⟨b,rfl,hb⟩,E⟩;have hs:=hs.step E;refine⟨b,rfl,sB_intro (fun c=>.inl ⟨iff_f hb (bF c),rfl,hs.ext⟩) (fun c=>?_)⟩;have hG:GdS g role:=hb.1 (bT c);have hN:=hG.1.num.n;refine⟨_,_,_,_,_,_,_,_,hs.at 0 rfl (o:=0) (n:=8) rfl,g.s,hs.rd 0 rfl (i:=4) rfl,?_⟩;refine (St.refl h20).newb fun h30 hs1=>?_;have hR:RL h30 1 ⟨some ⟨h20.size,0,none⟩,1,1⟩ inC [g.s]:=(hs1.blkS 1 1 ([g.s].map inC) rfl (inrows _) rfl (by decide)).rl 0 rfl (by decide) (by show 1<=_;decide);have hs:=hs.step hs1.ext;refine (closure142 g role [g.s] _ h30 (hg.ext hs.ext) hG.1 hR (List.pairwise_singleton _ _) (fun v hv=>by rw[Ye.1 hv];omega)).mono ?_;rintro _ h33 ⟨s,rfl,hs2⟩;exact⟨s,rfl,.inr ⟨hG,s,rfl,(hs.join hs2).drop 1⟩⟩
/-! ### the view table -/
theorem app98:appB Pz 98 42 1 24=true:=by kernel_rfl
def SetOk (g:Gl) (p:PSet):Prop:=(∀j,p j=true->(j:Int)<g.n)/\∃j,p j=true
def SR.it (q:SR):It:=.sl q.s 3 1 ((setI q.p).map inC)
theorem arcsF_len {es:List Ed} {role:Int} {i:Nat} {p:PSet}:∀(l:List Ev) (S:List PSet) (M:List Mv),S.length<=(arcsF es role i p l S M).1.length
 | [],_,_=>Yyt _
 | x::r,S,M=>by
  rw[arcsF];refine Yys ?_ (arcsF_len r _ _);unfold rowS;split
  .exact Yyt _
  .rw[Yh];omega
theorem SR.rl {h0 h:Heap} {A:List It} {q:SR} (hs:St h0 h A) (hq:q.it∈A):RL h 1 q.s inC (setI q.p):=hs.rlm hq (by decide) (by have:=setI_len q.p;omega)
inductive RfV (g:Gl) (role:Int) (h h':Heap):Value->Prop
 | bad (hG:¬GdS g role) (E:Ext h h'):RfV g role h h' (.tuple ⟨[.agg ⟨[.slice none 0 0,.slice none 0 0,.slice none 0 0]⟩,.int .i64 1]⟩)
 | lim (hG:GdS g role) (hv:views g role=none) (E:Ext h h'):RfV g role h h' (.tuple ⟨[.agg ⟨[.slice none 0 0,.slice none 0 0,.slice none 0 0]⟩,.int .i64 6]⟩)
 | ok (hG:GdS g role) (ss fs ars:Sl) (Q:List SR) (M:List Mv) (A:List It) (hv:views g role=some (Q.map SR.p,M)) (hs:St h h' (.sl ss 42 1 (Q.map SR.cs) :: .sl fs 4 1 ((Q.map fun q=>q.p g.e.toNat).map bC) :: .sl ars 45 6 (M.map Mv.cs)::A))
   (hA:∀q∈Q,q.it∈A) (hB:∀q∈Q,SetOk g q.p) (hQ:Q.length<=200) (hM:M.length<=80000):RfV g role h h' (.tuple ⟨[.agg ⟨[.slice ss.a ss.n ss.c,.slice fs.a fs.n fs.c,.slice ars.a ars.n ars.c]⟩,.int .i64 0]⟩)
abbrev vwL (cb rb gb:Nat) (g:Gl) (ss fs ars:Sl) (Q:List SR) (F:List Bool) (M:List Mv) (A:List It):List It:=
 .blk cb [.slice ss.a ss.n ss.c,.slice fs.a fs.n fs.c,.slice ars.a ars.n ars.c] 100 :: .sl ss 42 1 (Q.map SR.cs) :: .sl fs 4 1 (F.map bC) :: .sl ars 45 6 (M.map Mv.cs) :: .blk rb [.slice none 0 0,.slice none 0 0,.slice none 0 0] 100 :: .blk gb g.cs 27::A
theorem refViews43 (g:Gl) (role:Int) (h:Heap) (hg:GI h g) (hM:GNm g.ds):Fn Pz 43 #[g.v,.int .i64 role] h fun v h'=>RfV g role h h' v:=by
 apply vc43 (bs g.nm) g.hr g.hd g.n g.s g.e g.he g.ht;unfold W43;refine (St.refl h).newb fun h9 hs=>?_;refine hs.newb fun h10 hs=>?_;refine⟨_,_,_,_,_,_,_,_,hs.at 1 rfl (o:=0) (n:=8) rfl,?_⟩;refine (refStart91 g role h10 (hg.ext hs.ext) hM).mono ?_;rintro _ h22 (⟨hG,rfl,E⟩ | ⟨hG,s0,rfl,hs0⟩)
 .refine⟨⟨none,0,0⟩,1,rfl,sBn (fun _=>?_) (fun c=>absurd c (by decide))⟩;refine (hs.step E).put 0 rfl (o:=0) (vs:=[.slice none 0 0,.slice none 0 0,.slice none 0 0]) rfl (Yyt 3) fun h23 hs=>?_;exact⟨⟨none,0,0⟩,⟨none,0,0⟩,⟨none,0,0⟩,hs.at 0 rfl (o:=0) (n:=3) rfl,.bad hG hs.ext⟩
 have hV:=hG.1;have hN:=hV.num.n;refine⟨s0,0,rfl,sBn (fun c=>absurd rfl c) (fun _=>?_)⟩;have hp0:SetOk g (clo g.es role [g.s]):=⟨fun j hj=>clo_lt hV (fun v hv=>by rw[Ye.1 hv];omega) j hj,g.s.toNat,clo_iff.2 (by rw[show ((g.s.toNat:Nat):Int)=g.s by omega];exact .base Yx)⟩;have hs:=hs.join hs0;refine hs.newb fun h27 hs=>?_;have hs:=hs.blkS 1 1 ([(⟨s0,clo g.es role [g.s]⟩:SR)].map SR.cs) rfl (by intro r hr;rw[Ye.1 hr];rfl) rfl (by decide);refine hs.newput (vs:=[.slice (some ⟨h22.size,0,none⟩) 1 1,.slice none 0 0,.slice none 0 0]) rfl rfl fun h29 hs=>?_;have hs:St h h29 (vwL h27.size h9.size h.size g ⟨some ⟨h22.size,0,none⟩,1,1⟩ ⟨none,0,0⟩ ⟨none,0,0⟩ [⟨s0,clo g.es role [g.s]⟩] [] [] [SR.it ⟨s0,clo g.es role [g.s]⟩]):=by
  have h1:=(hs.nil_ 45 6).nil_ 4 1;exact h1.perm (by
   show List.Perm [It.sl _ 4 1 _,.sl _ 45 6 _,.blk h27.size _ 100,.sl _ 42 1 _,.blk h9.size _ 100,.blk h.size _ 27,_] [.blk h27.size _ 100,.sl _ 42 1 _,It.sl _ 4 1 _,.sl _ 45 6 _,.blk h9.size _ 100,.blk h.size _ 27,_];exact List.perm_append_comm_assoc [_,_] [_,_] _)
 refine⟨fun x h' μ=>∃(i:Nat) (Q:List SR) (M:List Mv) (A:List It) (ss fs ars:Sl),x=(i:Int)/\μ=202-i/\i<=Q.length/\Q.length<=200/\M.length<=400*i/\views g role=viewsF g.es role (202-i) i (Q.map SR.p) M/\St h h' (vwL h27.size h9.size h.size g ss fs ars Q ((Q.take i).map fun q=>q.p g.e.toNat) M A) /\
   (∀q∈Q,q.it∈A)/\(∀q∈Q,SetOk g q.p),⟨_,0,_,[],_,_,_,_,rfl,rfl,Nat.zero_le _,by show 1<=200;decide,Nat.zero_le _,rfl,hs,fun q hq=>by rw[Ye.1 hq];exact Yx,fun q hq=>by rw[Ye.1 hq];exact hp0⟩,?_⟩
 clear hs hs0;rintro-_ h34 μ ⟨i,Q,M,A,ss,fs,ars,rfl,rfl,hiQ,hQ,hMl,hvw,hs,hA,hB⟩;have hsn:=(hs.rows 1 rfl (by decide)).ln;obtain⟨f,hf⟩:∃f,202-i=f+1:=⟨201-i,by omega⟩;rw[hf] at hvw;refine⟨ss,hs.rd 0 rfl (i:=0) rfl,sBi (fun c=>?_) (fun c=>?_)⟩;rotate_left
 .-- the table is done
  have hie:i=Q.length:=by omega
  subst hie;rw[Yye] at hs;have e:(Q.map SR.p)[Q.length]?=none:=Yl (by rw[Yc];exact Yyt _);rw[viewsF,e] at hvw;refine⟨ss,fs,ars,hs.at 0 rfl (o:=0) (n:=3) rfl,?_⟩;refine hs.put 4 rfl (o:=0) (vs:=[.slice ss.a ss.n ss.c,.slice fs.a fs.n fs.c,.slice ars.a ars.n ars.c]) rfl (Yyt 3) fun h127 hs=>?_;refine⟨ss,fs,ars,hs.at 4 rfl (o:=0) (n:=3) rfl,.ok hG ss fs ars Q M (.blk h9.size _ 100 :: .blk h.size g.cs 27::A) hvw (hs.drop 1) (fun q hq=>Yn _ (Yn _ (hA q hq))) hB hQ (by omega)⟩
 obtain⟨q,gq⟩:=get_some (l:=Q) (i:=i) (by omega);have hqm:=Yb gq;have gp:(Q.map SR.p)[i]?=some q.p:=by rw[Yd,gq];rfl
 rw[viewsF,gp] at hvw;replace hvw:views g role=if (arcsF g.es role i q.p (evs g.es role q.p) (Q.map SR.p) M).1.length>200 then none else viewsF g.es role f (i+1) (arcsF g.es role i q.p (evs g.es role q.p) (Q.map SR.p) M).1 (arcsF g.es role i q.p (evs g.es role q.p) (Q.map SR.p) M).2:=hvw
 have mem5:∀ {L:List It} {x:It} {a b c d e f:It},x∈L->x∈a::b::c::d::e::f::L:=fun h=>by simp[h]
 have rowAt:∀ {hX:Heap} {ss fs ars:Sl} {Q':List SR} {F:List Bool} {M:List Mv} {A:List It} {K:Nat->Nat->Prop},St h hX (vwL h27.size h9.size h.size g ss fs ars Q' F M A)->Q'[i]?=some q->(∀b o,hc hX ⟨b,o+Int.toNat (i:Int)*1,none⟩=some (.slice q.s.a q.s.n q.s.c)->K b o)->NB ss.a fun b o=>(0<=(i:Int)/\(i:Int)<(ss.n:Nat))/\K b o:=fun {hX ss fs ars Q' F M A K} hs gq hK=>by
  have hr:=hs.rows 1 rfl (by decide);refine hr.nbI (by omega) (by have:=hr.ln;have:=(Ya.1 gq).1;omega) fun b o q' gq' t=>hK b o ?_;replace gq':Q'[i]?=some q':=gq';rw[gq] at gq';cases gq';exact t.hd
 refine⟨fs,hs.rd 0 rfl (i:=1) rfl,ss,hs.rd 0 rfl (i:=0) rfl,rowAt hs gq fun b38 o39 t=>⟨q.s,t,g.e,hs.rd 5 rfl (i:=5) rfl,?_⟩⟩;have hqR:=SR.rl hs (mem5 (hA q hqm));refine (refHas92 (setI q.p) g.e q.s h34 hqR.rw hqR.sm).mono ?_;rintro _ h44 ⟨⟨bb,rfl,hbb⟩,E⟩;have hbe:bb=q.p g.e.toNat:=by
  have h1:g.e∈setI q.p ↔ q.p g.e.toNat=true:=by rw[setI_mem];exact⟨fun h=>h.2.2,fun h=>⟨by omega,by omega,h⟩⟩
  cases hb:q.p g.e.toNat<;>cases bb<;>simp_all
 subst hbe;refine⟨_,rfl,E.sm,fun h45 e45=>?_⟩;have hs:=hs.step E;refine hs.appf 0 2 rfl rfl (cs:=bC) (x:=q.p g.e.toNat) app30 e45 rfl rfl (by rw[Yc,Yu];omega) ⟨by decide,by decide⟩ 1 (show 1<3 by decide) (by decide) fun fs' h48 hs=>?_;have hF:((Q.take i).map fun q=>q.p g.e.toNat)++[q.p g.e.toNat]=(Q.take (i+1)).map fun q=>q.p g.e.toNat:=by rw[take_snoc gq,Ym];rfl
 rw[hF] at hs;replace hs:St h h48 (vwL h27.size h9.size h.size g ss fs' ars Q ((Q.take (i+1)).map fun q=>q.p g.e.toNat) M A):=hs;refine⟨_,_,_,_,_,_,_,_,hs.at 5 rfl (o:=0) (n:=8) rfl,ss,hs.rd 0 rfl (i:=0) rfl,rowAt hs gq fun b58 o59 t=>⟨q.s,t,?_⟩⟩;refine (refEvents93 g role q.p q.s h48 (hg.ext hs.ext) hV (SR.rl hs (mem5 (hA q hqm)))).mono ?_;rintro _ h63 ⟨le,rfl,hle⟩;have hel:=evs_len (role:=role) (p:=q.p) hV;have hs:=hs.join hle;refine⟨le,rfl,?_⟩;have hQF:(Q.take (i+1)).length=i+1:=by rw[Yu];omega
 generalize hFe:((Q.take (i+1)).map fun q=>q.p g.e.toNat)=F at *;replace hs:St h h63 (vwL h27.size h9.size h.size g ss fs' ars Q F M (A++[It.sl le 60 5 ((evs g.es role q.p).map (aC role))])):=hs;generalize hev:evs g.es role q.p=ev at *;refine⟨fun x h' μ'=>∃(k:Nat) (Q':List SR) (M':List Mv) (A':List It) (ss' ars':Sl),x=(k:Int)/\μ'=ev.length-k/\k<=ev.length/\(∃T,Q'=Q++T)/\Q'.length<=200/\M'.length<=400*i+k/\arcsF g.es role i q.p (ev.drop k) (Q'.map SR.p) M'=arcsF g.es role i q.p ev (Q.map SR.p) M /\
   St h h' (vwL h27.size h9.size h.size g ss' fs' ars' Q' F M' A')/\(∀q∈Q',q.it∈A')/\It.sl le 60 5 (ev.map (aC role))∈A'/\(∀q∈Q',SetOk g q.p),
  ⟨_,0,Q,M,A++[It.sl le 60 5 (ev.map (aC role))],ss,ars,rfl,rfl,Nat.zero_le _,⟨[],by rw[Yw]⟩,hQ,hMl,rfl,hs,fun q hq=>List.mem_append_left _ (hA q hq),List.mem_append_right _ (Ye.2 rfl),hB⟩,?_⟩
 clear hs hle hqR;rintro-_ h68 μ' ⟨k,Q',M',A',ss',ars',rfl,rfl,hk,⟨T,hT⟩,hQ',hM',harc,hs,hA',hle,hB'⟩;have gq':Q'[i]?=some q:=by rw[hT,Yyi (by omega)];exact gq
 have hleR:RL h68 5 le (aC role) ev:=hs.rlm (mem5 hle) (by decide) (by omega);have hlen:=hleR.ln;refine sBi (fun c2=>?_) (fun c2=>?_);rotate_left
 .have hke:k=ev.length:=by omega
  subst hke;rw[List.drop_length,arcsF] at harc;refine⟨_,(show 202-(i+1)<202-i by omega),i+1,Q',M',A',ss',fs',ars',by rw[w64 (by omega) (by omega)];omega,rfl,by rw[hT,Yh];omega,hQ',by omega,?_,?_,hA',hB'⟩
  .rw[hvw,<-harc];show (if (Q'.map SR.p).length>200 then none else viewsF g.es role f (i+1) (Q'.map SR.p) M')=_;rw[if_neg (by rw[Yc];omega),show 202-(i+1)=f by omega]
  .have e:((Q'.take (i+1)).map fun q=>q.p g.e.toNat)=F:=by
    rw[<-hFe,hT,Yyq (by omega)]
   rw[e];exact hs
 obtain⟨x,gx⟩:=get_some (l:=ev) (i:=k) (by omega);rw[drop_get gx,arcsF] at harc;refine⟨_,_,_,_,_,_,_,_,hs.at 5 rfl (o:=0) (n:=8) rfl,ss',hs.rd 0 rfl (i:=0) rfl,rowAt hs gq' fun b78 o79 t=>⟨q.s,t,?_⟩⟩;have leAt:∀ {hX:Heap} {K:Nat->Nat->Prop},RL hX 5 le (aC role) ev->(∀b o,atC hX ⟨b,o+Int.toNat (k:Int)*5,none⟩ (aC role x)->K b o)->NB le.a fun b o=>(0<=(k:Int)/\(k:Int)<(le.n:Nat))/\K b o:=fun {hX K} hR hK=>by
  refine hR.rw.nbI (by omega) (by omega) fun b o x' gx' t=>hK b o ?_;replace gx':ev[k]?=some x':=gx';rw[gx] at gx';cases gx';exact t
 refine leAt hleR fun b81 o82 t=>⟨role,x.send,x.peer,x.label,⟨none,0,0⟩,t,?_⟩;refine (refAfter94 g role q.p x q.s h68 (hg.ext hs.ext) hV (SR.rl hs (mem5 (hA' q (Yb gq'))))).mono ?_;rintro _ h90 ⟨s',rfl,hs'⟩;generalize hpn:clo g.es role (toL g.es role q.p x)=pn at *;have hxe:x∈evs g.es role q.p:=by rw[hev];exact Yb gx
 have hne:∃j,pn j=true:=by
  obtain⟨y,hy⟩:=toL_some hxe;obtain⟨z,hz,_,_,hyt⟩:=toL_in.1 hy;have hz2:=hV.num.e z hz;unfold EdS at hz2;exact⟨y.toNat,by rw[<-hpn];exact clo_iff.2 (by rw[show ((y.toNat:Nat):Int)=y by omega];exact .base hy)⟩
 have hpl:SetOk g pn:=⟨fun j hj=>by
  rw[<-hpn] at hj;refine clo_lt hV (fun v hv=>?_) j hj;obtain⟨y,hy,_,_,rfl⟩:=toL_in.1 hv;have:=hV.num.e y hy;unfold EdS at this;omega,hne⟩
 have hs:=hs.join hs';replace hs:St h h90 (vwL h27.size h9.size h.size g ss' fs' ars' Q' F M' (A'++[SR.it ⟨s',pn⟩])):=hs;have hA2:∀q∈Q',q.it∈A'++[SR.it ⟨s',pn⟩]:=fun q hq=>List.mem_append_left _ (hA' q hq);have hle2:It.sl le 60 5 (ev.map (aC role))∈A'++[SR.it ⟨s',pn⟩]:=List.mem_append_left _ hle;have hmn:SR.it ⟨s',pn⟩∈A'++[SR.it ⟨s',pn⟩]:=List.mem_append_right _ (Ye.2 rfl);have hpR:RL h90 1 s' inC (setI pn):=SR.rl (q:=⟨s',pn⟩) hs (mem5 hmn);refine⟨s',rfl,ss',hs.rd 0 rfl (i:=0) rfl,?_⟩;have bel:∀ {p:PSet},(∀j,p j=true->(j:Int)<g.n)->Below p:=fun hp j hj=>by have:=hp j hj;omega
 refine (find95 Q' ss' s' pn h90 ⟨hs.rl 1 rfl (by decide) (by omega),fun q hq=>SR.rl hs (mem5 (hA2 q hq))⟩ hpR (fun q hq=>bel (hB' q hq).1) (bel hpl.1)).mono ?_;rintro v92 h94 ⟨E,hfd⟩;have hs:=hs.step E;have hrl:=rowI_lt (S:=Q'.map SR.p) (p:=pn);rw[Yc] at hrl;have fi:∃x93:Int,v92=.int .i64 x93/\((0<=x93/\pn∈Q'.map SR.p/\x93=(rowI (Q'.map SR.p) pn:Nat))\/(x93=-1/\pn∉Q'.map SR.p)):=by
  rcases hfd with ⟨h1,rfl⟩ | ⟨h1,rfl⟩
  .exact⟨_,rfl,.inl ⟨by omega,h1,rfl⟩⟩
  .exact⟨_,rfl,.inr ⟨rfl,h1⟩⟩
 obtain⟨x93,rfl,hx⟩:=fi;refine⟨x93,rfl,?_⟩;refine⟨fun n h'=>∃(Q'':List SR) (ss'':Sl),n=(rowI (Q'.map SR.p) pn:Nat)/\(∃T,Q''=Q++T)/\Q''.length<=201/\(Q''.length=201 ↔ n>=200)/\Q''.map SR.p=rowS (Q'.map SR.p) pn/\St h h' (vwL h27.size h9.size h.size g ss'' fs' ars' Q'' F M' (A'++[SR.it ⟨s',pn⟩]))/\(∀q∈Q'',q.it∈A'++[SR.it ⟨s',pn⟩])/\(∀q∈Q'',SetOk g q.p),?_,?_⟩
 .refine sBi (fun c3=>?_) (fun c3=>?_)
  .have hno:pn∉Q'.map SR.p:=by
    rcases hx with ⟨h1,_⟩ | ⟨_,h1⟩
    .omega
    .exact h1
   have hri:=rowI_of_not hno;rw[Yc] at hri;have hsn:=(hs.rows 1 rfl (by decide)).ln;refine⟨ss',hs.rd 0 rfl (i:=0) rfl,ss',hs.rd 0 rfl (i:=0) rfl,fun h98 e98=>?_⟩;refine (hs.appf 0 1 rfl rfl (cs:=SR.cs) (x:=⟨s',pn⟩) app98 e98 rfl rfl (by omega) ⟨by decide,by decide⟩ 0 (show 0<3 by decide) (by decide) fun ss'' h101 hs=>?_).2;refine⟨Q'++[(⟨s',pn⟩:SR)],ss'',by rw[hri];omega,⟨T++[(⟨s',pn⟩:SR)],by rw[hT,Yz]⟩,by rw[Yh];show Q'.length+1<=_;omega,?_,?_,hs,fun q hq=>?_,fun q hq=>?_⟩
   .rw[Yh];show Q'.length+1=201 ↔ _;omega
   .unfold rowS;rw[if_neg hno,Ym];rfl
   .rcases Yk.1 hq with hq | hq
    .exact hA2 q hq
    .rw[Ye.1 hq];exact hmn
   .rcases Yk.1 hq with hq | hq
    .exact hB' q hq
    .rw[Ye.1 hq];exact hpl
  .rcases hx with ⟨_,h1,h2⟩ | ⟨h1,_⟩
   .have hl:=hrl.2 h1;exact⟨Q',ss',h2,⟨T,hT⟩,by omega,by omega,by unfold rowS;rw[if_pos h1],hs,hA2,hB'⟩
   .omega
 clear hs hx;rintro-n h103 ⟨Q'',ss'',hn,⟨T2,hT2⟩,hQ2,hQ3,hQp,hs,hA3,hB3⟩;refine sBi (fun c3=>?_) (fun c3=>?_)
 .refine hs.put 4 rfl (o:=0) (vs:=[.slice none 0 0,.slice none 0 0,.slice none 0 0]) rfl (Yyt 3) fun h104 hs=>?_;refine⟨⟨none,0,0⟩,⟨none,0,0⟩,⟨none,0,0⟩,hs.at 4 rfl (o:=0) (n:=3) rfl,.lim hG ?_ hs.ext⟩;have h1:=arcsF_len (es:=g.es) (role:=role) (i:=i) (p:=q.p) (ev.drop (k+1)) (rowS (Q'.map SR.p) pn) (M'++[⟨i,x.send,x.peer,x.label,rowI (Q'.map SR.p) pn,false⟩]);rw[harc,<-hQp,Yc,hQ3.2 c3] at h1;rw[hvw];exact if_pos (by omega)
 .have hQ2':Q''.length<=200:=by
   have:Q''.length≠201:=fun e=>c3 (hQ3.1 e);omega
  refine⟨ars',hs.rd 0 rfl (i:=2) rfl,?_⟩;have hleR:=hs.rlm (mem5 hle2) (by decide) (by omega);refine leAt hleR fun b o t=>⟨x.send,t.nth 1 rfl,?_⟩;refine leAt hleR fun b o t=>⟨x.peer,t.nth 2 rfl,?_⟩;refine leAt hleR fun b o t=>⟨x.label,t.nth 3 rfl,fun h118 e118=>?_⟩;refine hs.appf 0 3 rfl rfl (cs:=Mv.cs) (x:=⟨i,x.send,x.peer,x.label,n,false⟩) app31 e118 rfl rfl (by omega) ⟨by decide,by decide⟩ 2 (show 2<3 by decide) (by decide) fun ars'' h121 hs=>?_;refine⟨_,(show ev.length-(k+1)<ev.length-k by omega),k+1,Q'',M'++[(⟨i,x.send,x.peer,x.label,n,false⟩:Mv)],A'++[SR.it ⟨s',pn⟩],ss'',ars'',by rw[w64 (by omega) (by omega)];omega,rfl,by omega,⟨T2,hT2⟩,hQ2',by rw[Yh];show M'.length+1<=_;omega,?_,hs,hA3,hle2,hB3⟩;rw[hQp,hn];exact harc
def TmR (g:Gl) (x:Ed) (t:Ti):Prop:=(∃u∈g.ts,u.s=x.f/\∃z,g.es[u.e.toNat]?=some z/\t=⟨x.ag,u.k,⟨true,z.b,z.l⟩⟩)\/((∀u∈g.ts,u.s≠x.f)/\t=⟨x.ag,0,ti0.x⟩)
theorem tim_ex {g:Gl} (hV:ValidS g) {u:To} (hu:u∈g.ts):0<=u.s/\1<=u.k/\0<=u.e/\∃z,g.es[u.e.toNat]?=some z/\z.f=u.s:=by
 obtain⟨i,hi⟩:=Yf.1 hu;obtain⟨_,hk,he,z,hz,hf,_⟩:=hV.tim i u hi;have hz2:=hV.num.e z (Yb hz);unfold EdS at hz2;exact⟨by omega,hk.1,he,z,hz,hf⟩
theorem own_row2 {g:Gl} (hV:ValidS g) {role:Int} {x:Ed} (hx:x∈g.es) (ha:x.a=role):(ownE g.es role g.n.toNat).1[x.f.toNat]?=some true/\∃t,(ownT g.es g.ts role g.n.toNat)[x.f.toNat]?=some t/\TmR g x t:=by
 have hr:=hV.num.e x hx;unfold EdS at hr;have hkf:((x.f.toNat:Nat):Int)=x.f:=by omega
 rcases ownE_row (es:=g.es) (role:=role) (n:=g.n.toNat) (k:=x.f.toNat) (by omega) (fun y hy=>by have:=hV.num.e y hy;unfold EdS at this;omega) with ⟨h1,_⟩ | ⟨y,h1,h2,h3,h4,h5⟩
 .exact absurd ⟨hkf.symm,ha⟩ (h1 x hx)
 .have hsame:=(row_same hV h1 hx (by omega)).2;refine⟨h4,?_⟩;unfold ownT;rcases ownT_row (es:=g.es) h4 g.ts _ _ (fun u hu=>by obtain⟨h0,_,_,z,hz,_⟩:=tim_ex hV hu;exact⟨h0,z,hz⟩) h5 with ⟨h6,h7⟩ | ⟨u,hu,hus,z,hz,h7⟩
  .exact⟨_,h7,.inr ⟨fun u hu=>by have:=h6 u hu;omega,by rw[hsame]⟩⟩
  .exact⟨_,h7,.inl ⟨u,hu,by omega,z,hz,by rw[hsame]⟩⟩
def OwnS_ (g:Gl) (p s:Int):Prop:=∃x∈g.es,x.f=s/\x.a=p
theorem own_iff {g:Gl} (hV:ValidS g) {p:Int} {k:Nat} (hk:(k:Int)<g.n):(ownE g.es p g.n.toNat).1[k]?=some true ↔ OwnS_ g p (k:Int):=by
 rcases ownE_row (es:=g.es) (role:=p) (n:=g.n.toNat) (k:=k) (by omega) (fun y hy=>by have:=hV.num.e y hy;unfold EdS at this;omega) with ⟨h1,h2,_⟩ | ⟨y,h1,h2,h3,h4,_⟩
 .rw[h2];exact⟨fun h=>(by cases h),fun ⟨x,hx,hf,ha⟩=>absurd ⟨hf,ha⟩ (h1 x hx)⟩
 .exact⟨fun _=>⟨y,h1,h2,h3⟩,fun _=>h4⟩
def LimV (g:Gl) (s:Int) (k a b l:Int):Prop:=(∃t∈g.ts,t.s=s/\k=t.k/\∃z,g.es[t.e.toNat]?=some z/\a=z.a/\b=z.b/\l=z.l)\/((∀t∈g.ts,t.s≠s)/\k=0/\a=0/\b=0/\l=0)
theorem lim_tm {g:Gl} (hV:ValidS g) {x:Ed} {t:Ti} {k a b l:Int} (hx:x∈g.es) (ht:TmR g x t) (hl:LimV g x.f k a b l):t.ag=x.ag/\t.k=k/\((1<=k/\a=x.a/\t.x=⟨true,b,l⟩)\/(k=0/\a=0/\b=0/\l=0/\t.x=ti0.x)):=by
 rcases ht with ⟨u,hu,hus,z,hz,rfl⟩ | ⟨hno,rfl⟩
 .rcases hl with ⟨w,hw,hws,rfl,z',hz',rfl,rfl,rfl⟩ | ⟨hno,_⟩
  .have e:u=w:=tim_uniq hV.tim hu hw (by omega);subst e;rw[hz] at hz';cases hz';obtain⟨_,h1,_,z2,hz2,hf⟩:=tim_ex hV hu;rw[hz] at hz2;cases hz2;exact⟨rfl,rfl,.inl ⟨h1,(row_same hV (Yb hz) hx (by omega)).1,rfl⟩⟩
  .exact absurd hus (hno u hu)
 .rcases hl with ⟨w,hw,hws,_⟩ | ⟨_,rfl,rfl,rfl,rfl⟩
  .exact absurd hws (hno w hw)
  .exact⟨rfl,rfl,.inr ⟨rfl,rfl,rfl,rfl,rfl⟩⟩
theorem ti_ext {t u:Ti} (h1:t.ag=u.ag) (h2:t.k=u.k) (h3:t.x=u.x):t=u:=by
 cases t;cases u;simp_all
theorem lim_eq {g:Gl} (hV:ValidS g) {x y:Ed} {t u:Ti} {k a b l k' a' b' l':Int} (hx:x∈g.es) (hy:y∈g.es) (hxy:x.a=y.a) (ht:TmR g x t) (hu:TmR g y u) (h1:LimV g x.f k a b l) (h2:LimV g y.f k' a' b' l') :
  t=u ↔ k=k'/\(a=a'/\b=b'/\l=l')/\x.ag=y.ag:=by
 obtain⟨g1,k1,c1⟩:=lim_tm hV hx ht h1;obtain⟨g2,k2,c2⟩:=lim_tm hV hy hu h2;constructor
 .rintro rfl;refine⟨by omega,?_,by rw[<-g1,<-g2]⟩;rcases c1 with ⟨p1,p2,p3⟩ | ⟨p1,p2,p3,p4,p5⟩
  .rcases c2 with ⟨q1,q2,q3⟩ | ⟨q1,_⟩
   .rw[p3] at q3;injection q3 with _ e1 e2;exact⟨by omega,e1,e2⟩
   .omega
  .rcases c2 with ⟨q1,_⟩ | ⟨_,q2,q3,q4,_⟩
   .omega
   .omega
 .rintro⟨e1,⟨e2,e3,e4⟩,e5⟩;refine ti_ext (by rw[g1,g2,e5]) (by omega) ?_;rcases c1 with ⟨p1,_,p3⟩ | ⟨p1,p2,p3,p4,p5⟩
  .rcases c2 with ⟨_,_,q3⟩ | ⟨q1,_⟩
   .rw[p3,q3,e3,e4]
   .omega
  .rcases c2 with ⟨q1,_⟩ | ⟨_,_,_,_,q5⟩
   .omega
   .rw[p5,q5]
def ClkS (g:Gl) (p s t:Int):Prop:=OwnS_ g p s/\OwnS_ g p t/\(ownT g.es g.ts p g.n.toNat)[s.toNat]?≠(ownT g.es g.ts p g.n.toNat)[t.toNat]?
/-! ### the timing of a view -/
theorem fold_some {F:Nat->List Ev} {en:Nat->Bool} {O:List Bool} {T:List Ti} {l:List Nat}:∀(m:List Nat) (k:Bool) (o:Ti),(∀n∈m,badV F en l n=false) ->
  (∀n∈m,∀t,O[n]?=some true->T[n]?=some t->(k=true->t=o)/\∀n'∈m,∀t',O[n']?=some true->T[n']?=some t'->t=t')->∃r,m.foldl (stepV F en O T l) (some (k,o))=some r
 | [],k,o,_,_=>⟨_,rfl⟩
 | n::m,k,o,hb,hp=>by
  rw[List.foldl_cons];have hbn:=hb n Yx;have hb':∀n∈m,badV F en l n=false:=fun n hn=>hb n (Yn _ hn);cases hO:O[n]? with
  | none=>
   have e:stepV F en O T l (some (k,o)) n=some (k,o):=by simp[stepV,hbn,hO]
   rw[e];exact fold_some m k o hb' fun n1 h1 t a1 a2=>⟨(hp n1 (Yn _ h1) t a1 a2).1,fun n2 h2=>(hp n1 (Yn _ h1) t a1 a2).2 n2 (Yn _ h2)⟩
  | some b=>
   cases b with
   | false=>
    have e:stepV F en O T l (some (k,o)) n=some (k,o):=by simp[stepV,hbn,hO]
    rw[e];exact fold_some m k o hb' fun n1 h1 t a1 a2=>⟨(hp n1 (Yn _ h1) t a1 a2).1,fun n2 h2=>(hp n1 (Yn _ h1) t a1 a2).2 n2 (Yn _ h2)⟩
   | true=>
    cases hT:T[n]? with
    | none=>
     have e:stepV F en O T l (some (k,o)) n=some (k,o):=by simp[stepV,hbn,hO,hT]
     rw[e];exact fold_some m k o hb' fun n1 h1 t a1 a2=>⟨(hp n1 (Yn _ h1) t a1 a2).1,fun n2 h2=>(hp n1 (Yn _ h1) t a1 a2).2 n2 (Yn _ h2)⟩
    | some t=>
     have h1:=hp n Yx t hO hT;have e:stepV F en O T l (some (k,o)) n=some (true,t):=by
      simp only[stepV,hbn,hO,hT];cases k with
      | false=>rfl
      | true=>rw[h1.1 rfl];simp
     rw[e];exact fold_some m true t hb' fun n1 hn1 t' a1 a2=>⟨fun _=>((h1.2 n1 (Yn _ hn1) t' a1 a2)).symm,fun n2 hn2=>(hp n1 (Yn _ hn1) t' a1 a2).2 n2 (Yn _ hn2)⟩
theorem vw_iff {F:Nat->List Ev} {en:Nat->Bool} {O:List Bool} {T:List Ti} {l:List Nat}:(∃o,viewV F en O T l=some o) ↔ (∀n∈l,badV F en l n=false)/\∀n∈l,∀k∈l,∀t u,O[n]?=some true->T[n]?=some t->O[k]?=some true->T[k]?=some u->t=u:=by
 constructor
 .rintro⟨o,h⟩;refine⟨fun n hn=>(viewV_row h hn).1,fun n hn k hk t u a1 a2 b1 b2=>?_⟩;rw[<- (viewV_row h hn).2 t a1 a2,<- (viewV_row h hk).2 u b1 b2]
 .rintro⟨h1,h2⟩;obtain⟨r,hr⟩:=fold_some (F:=F) (en:=en) (O:=O) (T:=T) (l:=l) l false ti0 h1 fun n hn t a1 a2=>⟨fun h=>(by cases h),fun n' hn' t' b1 b2=>h2 n hn n' hn' t t' a1 a2 b1 b2⟩;exact⟨r.2,by unfold viewV;rw[hr];rfl⟩
theorem vw_none {F:Nat->List Ev} {en:Nat->Bool} {O:List Bool} {T:List Ti} {l:List Nat} {o:Ti} (h:viewV F en O T l=some o) (hn:∀n∈l,O[n]?≠some true):o=ti0:=by
 unfold viewV at h;have key:∀(m:List Nat) (k:Bool) (o:Ti),(∀n∈m,O[n]?≠some true)->∀r,m.foldl (stepV F en O T l) (some (k,o))=some r->r=(k,o):=by
  intro m
  induction m with
  | nil=>intro k o _ r h;cases h;rfl
  | cons n m ih=>
   intro k o hm r h;rw[List.foldl_cons] at h;cases hb:badV F en l n with
   | true=>
    have e:stepV F en O T l (some (k,o)) n=none:=by simp only[stepV,hb,if_true]
    rw[e,stepV_none] at h;cases h
   | false=>
    have hno:=hm n Yx;have e:stepV F en O T l (some (k,o)) n=some (k,o):=by
     simp only[stepV,hb];cases hO:O[n]? with
     | none=>simp
     | some b=>cases b with
      | false=>simp
      | true=>exact absurd hO hno
    rw[e] at h;exact ih k o (fun n hn=>hm n (Yn _ hn)) r h
 obtain⟨r,hr,e⟩:=Yya.1 h;rw[key l false ti0 hn r hr] at e;exact e.symm
/-! ### the sending conditions al the reference asks them -/
def FstA (g:Gl) (role:Int) (n0 n:Nat):Prop:=firstB g role n=false/\firstE g role n≠[]/\sndAt (firstE g role n) ((firstE g role n).length-1)=true/\firstE g role n=firstE g role n0
def SndV (g:Gl) (role:Int) (p:PSet):Prop:=∃o,vwG g role (elems p)=some o
theorem snd_iff {g:Gl} (hV:ValidS g) {role:Int} {l:List Nat} {n0:Nat} (h0:l[0]?=some n0) (hl:∀n∈l,(n:Int)<g.n):(∃o,vwG g role l=some o) ↔
  ((l.any fun n=>sndAt (firstE g role n) 0)=true->∀n∈l,FstA g role n0 n)/\∀(i k:Nat) n m,k<i->l[i]?=some n->l[k]?=some m->¬ClkS g role n m:=by
 have hn0:=Yb h0;unfold vwG;rw[vw_iff];constructor
 .rintro⟨h1,h2⟩;refine⟨fun hs n hn=>?_,fun i k n m _ hi hk hc=>?_⟩
  .obtain⟨m,hm,hsm⟩:=List.any_eq_true.1 hs;have hb:=h1 m hm;unfold badV at hb;rw[hsm,Bool.true_and,Bool.or_eq_false_iff,Bool.or_eq_false_iff] at hb;obtain⟨⟨_,hb2⟩,hb3⟩:=hb;have hall:∀k∈l,firstB g role k=false/\firstE g role m=firstE g role k:=fun k hk=>by
    have:=List.any_eq_false.1 hb3 k hk;simp only[Bool.or_eq_true,decide_eq_true_eq,not_or,Bool.not_eq_true,Classical.not_not] at this;exact this
   obtain⟨e1,e2⟩:=hall n hn;refine⟨e1,?_,?_,by rw[<-e2,(hall n0 hn0).2]⟩
   .intro e;rw[e2,e] at hsm;cases hsm
   .rw[<-e2];cases h:sndAt (firstE g role m) ((firstE g role m).length-1) with
    | true=>rfl
    | false=>rw[h] at hb2;cases hb2
  .obtain⟨⟨x,hx,hxf,hxa⟩,⟨y,hy,hyf,hya⟩,hne⟩:=hc;obtain⟨o1,t,t1,_⟩:=own_row2 hV hx hxa;obtain⟨o2,u,u1,_⟩:=own_row2 hV hy hya;rw[hxf,Ys] at o1 t1;rw[hyf,Ys] at o2 u1;have:=h2 n (Yb hi) m (Yb hk) t u o1 t1 o2 u1;rw[Ys,Ys,t1,u1,this] at hne;exact hne rfl
 .rintro⟨h1,h2⟩;refine⟨fun n hn=>?_,fun n hn k hk t u a1 a2 b1 b2=>?_⟩
  .cases hs:sndAt (firstE g role n) 0 with
   | false=>unfold badV;simp only[hs,Bool.false_and]
   | true=>
    have hA:=h1 (List.any_eq_true.2 ⟨n,hn,hs⟩);unfold badV;rw[hs,Bool.true_and,Bool.or_eq_false_iff,Bool.or_eq_false_iff];obtain⟨p1,_,p3,p4⟩:=hA n hn;refine⟨⟨p1,by rw[p3];rfl⟩,List.any_eq_false.2 fun k hk=>?_⟩;obtain⟨q1,_,_,q4⟩:=hA k hk;simp only[Bool.or_eq_true,decide_eq_true_eq,not_or,Bool.not_eq_true,Classical.not_not];exact⟨q1,by rw[p4,q4]⟩
  .obtain⟨i,hi⟩:=Yf.1 hn;obtain⟨j,hj⟩:=Yf.1 hk;have on:=(own_iff hV (hl n hn)).1 a1;have ok:=(own_iff hV (hl k hk)).1 b1;rcases Nat.lt_trichotomy i j with h | h | h
   .have:=h2 j i k n h hj hi;refine Classical.not_not.1 fun hne=>this ⟨ok,on,?_⟩;rw[Ys,Ys,a2,b2];exact fun e=>hne (Yyp e).symm
   .subst h;rw[hi] at hj;cases hj;rw[a2] at b2;exact Yyp b2
   .have:=h2 i j n k h hi hj;refine Classical.not_not.1 fun hne=>this ⟨on,ok,?_⟩;rw[Ys,Ys,a2,b2];exact fun e=>hne (Yyp e)
theorem refStates196 (g:Gl) (l:List Int) (s:Sl) (h:Heap) (hr:Rw h 1 s (l.map inC)) (hl:Stl g.n l) (hm:l.length<=1048576):Fn Pz 196 #[g.v,.slice s.a s.n s.c] h fun v h'=>v=.bool true/\Ext h h':=by
 apply vc196 (bs g.nm) g.hr g.hd g.n g.s g.e g.he g.ht;unfold W196;have hn:=hr.ln;refine (St.refl h).newb fun h9 hs=>?_;refine up_loopS (n:=s.n) hs (fun _=>True) trivial ?_;rintro-i h14 hi ⟨hs,-⟩;refine sB_intro (fun c=>?_) (fun c=>⟨rfl,hs.ext⟩);replace c:=lt_t c;refine (hr.ext hs.ext).nbI (by omega) (by omega) fun b15 o16 x gx t=>?_;replace gx:l[i]?=some x:=gx;have hx:=hl x (Yb gx);refine⟨x,t.hd,sBi (fun c1=>absurd c1 (by omega)) (fun _=>?_)⟩;refine (hr.ext hs.ext).nbI (by omega) (by omega) fun b18 o19 y gy t2=>?_;replace gy:l[i]?=some y:=gy;rw[gx] at gy;cases gy;exact⟨x,t2.hd,g.n,hs.rd 0 rfl (i:=3) rfl,sBi (fun c2=>absurd c2 (by omega)) (fun _=>Up.next c (by omega) ⟨hs,trivial⟩)⟩
theorem refClosure146 (g:Gl) (role:Int) (l:List Int) (s:Sl) (h:Heap) (hg:GI h g) (hM:GNm g.ds) (hG:GdS g role) (hr:RL h 1 s inC l) (ha:l.Pairwise (· < ·)) (hl:Stl g.n l) :
  Fn Pz 146 #[g.v,.int .i64 role,.slice s.a s.n s.c] h fun v h'=>∃s':Sl,v=.tuple ⟨[.slice s'.a s'.n s'.c,.int .i64 0]⟩/\St h h' [.sl s' 3 1 ((setI (clo g.es role l)).map inC)]:=by
 apply vc146 (bs g.nm) g.hr g.hd g.n g.s g.e g.he g.ht;unfold W146;refine (St.refl h).newb fun h9 hs=>?_;refine⟨_,_,_,_,_,_,_,_,hs.at 0 rfl (o:=0) (n:=8) rfl,?_⟩;refine (good49 g role h9 (hg.ext hs.ext) hM).mono ?_;rintro _ h20 ⟨⟨b,rfl,hb⟩,E⟩;have hs:=hs.step E;refine⟨b,rfl,sB_intro (fun c=>absurd hG (iff_f hb (bF c))) (fun _=>?_)⟩;refine⟨_,_,_,_,_,_,_,_,hs.at 0 rfl (o:=0) (n:=8) rfl,?_⟩;refine (refStates196 g l s h20 (hr.rw.ext hs.ext) hl hr.sm).mono ?_;rintro _ h31 ⟨rfl,E2⟩;have hs:=hs.step E2;refine⟨true,rfl,sB_f rfl ?_⟩;refine⟨_,_,_,_,_,_,_,_,hs.at 0 rfl (o:=0) (n:=8) rfl,?_⟩;refine (closure142 g role l s h31 (hg.ext hs.ext) hG.1 (hr.ext hs.ext) ha hl).mono ?_;rintro _ h42 ⟨s',rfl,hs'⟩;exact⟨s',rfl,s',rfl,(hs.join hs').drop 1⟩
theorem set_bool {p:PSet} {v:Int} {b:Bool} (h:0<=v/\v<4096) (hb:b=true ↔ v∈setI p):b=p v.toNat:=by
 have h1:v∈setI p ↔ p v.toNat=true:=by rw[setI_mem];exact⟨fun h=>h.2.2,fun h2=>⟨h.1,h.2,h2⟩⟩
 cases hp:p v.toNat<;>cases b<;>simp_all
theorem refFirst96 (g:Gl) (role st:Int) (h:Heap) (hg:GI h g) (hM:GNm g.ds) (hG:GdS g role) (h0:0<=st/\st<g.n) :
  Fn Pz 96 #[g.v,.int .i64 role,.int .i64 st] h fun v h'=>∃r:Sl,v=.tuple ⟨[.slice r.a r.n r.c,.bool (firstB g role st),.int .i64 0]⟩/\St h h' [.sl r 60 5 ((firstE g role st).map (aC role))]:=by
 apply vc96 (bs g.nm) g.hr g.hd g.n g.s g.e g.he g.ht;unfold W96;have hN:=hG.1.num.n;refine (St.refl h).newb fun h9 hs=>?_;refine⟨_,_,_,_,_,_,_,_,hs.at 0 rfl (o:=0) (n:=8) rfl,?_⟩;refine (St.refl h9).newb fun h18 hx=>?_;have hR:RL h18 1 ⟨some ⟨h9.size,0,none⟩,1,1⟩ inC [st]:=(hx.blkS 1 1 ([st].map inC) rfl (inrows _) rfl (by decide)).rl 0 rfl (by decide) (by show 1<=_;decide);have hs:=hs.step hx.ext;refine (refClosure146 g role [st] _ h18 (hg.ext hs.ext) hM hG hR (List.pairwise_singleton _ _) (fun v hv=>by rw[Ye.1 hv];omega)).mono ?_;rintro _ h22 ⟨s',rfl,hs2⟩;have hs:=hs.join hs2;refine⟨s',0,rfl,sBn (fun c=>absurd rfl c) (fun _=>?_)⟩;refine⟨_,_,_,_,_,_,_,_,hs.at 0 rfl (o:=0) (n:=8) rfl,g.e,hs.rd 0 rfl (i:=5) rfl,?_⟩;have hR':RL h22 1 s' inC (setI (clo g.es role [st])):=hs.rl 1 rfl (by decide) (by have:=setI_len (clo g.es role [st]);omega);refine (refEvents93 g role (clo g.es role [st]) s' h22 (hg.ext hs.ext) hG.1 hR').mono ?_;rintro _ h34 ⟨r,rfl,hs3⟩;have hs:=hs.join hs3;refine⟨r,rfl,hs3.ext.sm,?_⟩;refine (refHas92 (setI (clo g.es role [st])) g.e s' h34 (hR'.rw.ext hs3.ext) hR'.sm).mono ?_;rintro _ h37 ⟨⟨bb,rfl,hbb⟩,E⟩;have hbe:bb=firstB g role st:=set_bool (by omega) hbb;exact⟨bb,rfl,E.sm,r,by rw[hbe],(hs.step E).drop 2⟩
theorem refSender99 (g:Gl) (p s:Int) (h:Heap) (hg:GI h g) (hV:ValidS g):Fn Pz 99 #[g.v,.int .i64 p,.int .i64 s] h (RP (OwnS_ g p s) h):=by
 apply vc99 (bs g.nm) g.hr g.hd g.n g.s g.e g.he g.ht;unfold W99;have hen:=hg.e.ln;refine (St.refl h).newb fun h9 hs=>?_;refine⟨_,_,_,_,_,_,_,_,hs.at 0 rfl (o:=0) (n:=8) rfl,?_⟩;refine (out23 g s h9 (hg.ext hs.ext)).mono ?_;rintro _ h20 ⟨E,r,rfl,hr⟩;have hs:=hs.step E;have hrn:=hr.ln;rw[show (natI (outG g.es s)).length=(outG g.es s).length from Yc _] at hrn;refine⟨r,rfl,sBi (fun c=>?_) (fun c=>?_)⟩
 .refine⟨g.he,hs.rd 0 rfl (i:=6) rfl,?_⟩;refine hr.nbI (by decide) (by omega) fun b22 o23 d gd t=>?_;obtain⟨k,gk,rfl⟩:=natI_get (i:=0) gd;obtain⟨x,gx,hf⟩:=outG_mem.1 (Yb gk);have hxm:=Yb gx;refine⟨(k:Int),t.hd,?_⟩;refine (hg.e.rw.ext hs.ext).nbI (by omega) (by have:=(Ya.1 gx).1;omega) fun b25 o26 y gy t2=>?_;replace gy:g.es[k]?=some y:=gy;rw[gx] at gy;cases gy;refine⟨x.a,t2.nth 1 rfl,RP.e ?_ hs.ext⟩;rw[beq_iff_eq];exact⟨fun e=>⟨x,hxm,hf,e⟩,fun ⟨y,hy,hyf,hya⟩=>by rw[<-hya];exact (row_same hV hxm hy (by omega)).1⟩
 .refine RP.f (fun ⟨x,hx,hf,_⟩=>?_) hs.ext;obtain⟨k,hk⟩:=Yf.1 hx;have:=List.length_pos_of_mem (outG_mem.2 ⟨x,hk,hf⟩);omega
theorem refLimit147 (g:Gl) (s:Int) (h:Heap) (hg:GI h g) (hV:ValidS g):Fn Pz 147 #[g.v,.int .i64 s] h fun v h'=>Ext h h'/\∃k a b l:Int,v=.tuple ⟨[.int .i64 k,.agg ⟨[.int .i64 a,.int .i64 b,.int .i64 l]⟩]⟩/\LimV g s k a b l:=by
 apply vc147 (bs g.nm) g.hr g.hd g.n g.s g.e g.he g.ht;unfold W147;have hen:=hg.e.ln;have htn:=hg.t.ln;have htm:=hg.t.sm;refine (St.refl h).newb fun h9 hs=>?_;refine hs.newb fun h10 hs=>?_;refine up_loopS (n:=g.ht.n) hs (fun i=>∀(j:Nat) t,j<i->g.ts[j]?=some t->t.s≠s) (fun j t hj=>by omega) ?_;rintro-i h15 hi ⟨hs,hq⟩;refine⟨g.ht,hs.rd 1 rfl (i:=7) rfl,sB_intro (fun c=>?_) (fun c=>?_)⟩
 .replace c:=lt_t c;obtain⟨t,gt⟩:=get_some (l:=g.ts) (i:=i) (by omega);have tAt:∀ {K:Nat->Nat->Prop},(∀b o,atC h15 ⟨b,o+Int.toNat (i:Int)*3,none⟩ t.cs->K b o)->NB g.ht.a fun b o=>(0<=(i:Int)/\(i:Int)<(g.ht.n:Nat))/\K b o:=fun {K} hK=>by
   refine (hg.t.rw.ext hs.ext).nbI (by omega) (by omega) fun b o t' gt' u=>hK b o ?_;replace gt':g.ts[i]?=some t':=gt';rw[gt] at gt';cases gt';exact u
  refine⟨g.ht,hs.rd 1 rfl (i:=7) rfl,tAt fun b o u=>⟨t.s,u.hd,sBe (fun c1=>?_) (fun c1=>?_)⟩⟩
  .obtain⟨_,_,he0,z,gz,_⟩:=tim_ex hV (Yb gt);refine⟨g.ht,hs.rd 1 rfl (i:=7) rfl,tAt fun b o u=>⟨t.k,u.nth 1 rfl,g.he,hs.rd 1 rfl (i:=6) rfl,g.ht,hs.rd 1 rfl (i:=7) rfl,tAt fun b o u=>⟨t.e,u.nth 2 rfl,?_⟩⟩⟩;refine (hg.e.rw.ext hs.ext).nbI he0 (by have:=(Ya.1 gz).1;omega) fun b30 o31 z' gz' u2=>?_;rw[gz] at gz';cases gz';refine⟨z.a,z.b,z.l,u2.sub 1 3 rfl,?_⟩;refine hs.put 0 rfl (o:=0) (vs:=[.int .i64 z.a,.int .i64 z.b,.int .i64 z.l]) rfl (Yyt 3) fun h35 hs=>?_;exact⟨z.a,z.b,z.l,hs.at 0 rfl (o:=0) (n:=3) rfl,hs.ext,t.k,z.a,z.b,z.l,rfl,.inl ⟨t,Yb gt,c1,rfl,z,gz,rfl,rfl,rfl⟩⟩
  .refine Up.next c (by omega) ⟨hs,fun j t' hj gt'=>?_⟩;by_cases e:j=i
   .subst e;rw[gt] at gt';cases gt';exact c1
   .exact hq j t' (by omega) gt'
 .replace c:=lt_f c;refine hs.put 0 rfl (o:=0) (vs:=[.int .i64 0,.int .i64 0,.int .i64 0]) rfl (Yyt 3) fun h40 hs=>?_;refine⟨0,0,0,hs.at 0 rfl (o:=0) (n:=3) rfl,hs.ext,0,0,0,0,rfl,.inr ⟨fun t ht=>?_,rfl,rfl,rfl,rfl⟩⟩;obtain⟨j,hj⟩:=Yf.1 ht;exact hq j t (by have:=(Ya.1 hj).1;omega) hj
theorem refClocks98 (g:Gl) (p s t:Int) (h:Heap) (hg:GI h g) (hV:ValidS g):Fn Pz 98 #[g.v,.int .i64 p,.int .i64 s,.int .i64 t] h (RP (ClkS g p s t) h):=by
 apply vc98 (bs g.nm) g.hr g.hd g.n g.s g.e g.he g.ht;unfold W98;have hen:=hg.e.ln;refine (St.refl h).newb fun h9 hs=>?_;refine⟨_,_,_,_,_,_,_,_,hs.at 0 rfl (o:=0) (n:=8) rfl,?_⟩;refine (refSender99 g p s h9 (hg.ext hs.ext) hV).mono ?_;rintro _ h20 ⟨⟨b1,rfl,hb1⟩,E⟩;have hs:=hs.step E;refine⟨b1,rfl,sB_intro (fun c=>RP.f (fun hc=>iff_f hb1 (bF c) hc.1) hs.ext) (fun c=>?_)⟩;have o1:=hb1.1 (bT c);refine⟨_,_,_,_,_,_,_,_,hs.at 0 rfl (o:=0) (n:=8) rfl,?_⟩;refine (refSender99 g p t h20 (hg.ext hs.ext) hV).mono ?_;rintro _ h31 ⟨⟨b2,rfl,hb2⟩,E⟩;have hs:=hs.step E;refine⟨b2,rfl,sB_intro (fun c=>RP.f (fun hc=>iff_f hb2 (bF c) hc.2.1) hs.ext) (fun c=>?_)⟩;have o2:=hb2.1 (bT c);obtain⟨x,hx,rfl,hxa⟩:=o1;obtain⟨y,hy,rfl,hya⟩:=o2;have hOx:OwnS_ g p x.f:=⟨x,hx,rfl,hxa⟩;have hOy:OwnS_ g p y.f:=⟨y,hy,rfl,hya⟩;obtain⟨_,T,hT,hTm⟩:=own_row2 hV hx hxa;obtain⟨_,U,hU,hUm⟩:=own_row2 hV hy hya;have hclk:ClkS g p x.f y.f ↔ T≠U:=by
  unfold ClkS;rw[hT,hU];exact⟨fun h e=>h.2.2 (by rw[e]),fun h=>⟨hOx,hOy,fun e=>h (Yyp e)⟩⟩
 refine⟨_,_,_,_,_,_,_,_,hs.at 0 rfl (o:=0) (n:=8) rfl,?_⟩;refine (refLimit147 g x.f h31 (hg.ext hs.ext) hV).mono ?_;rintro _ h45 ⟨E,k1,a1,c1,l1,rfl,L1⟩;have hs:=hs.step E;refine⟨k1,a1,c1,l1,rfl,?_⟩;refine hs.newput (vs:=[.int .i64 a1,.int .i64 c1,.int .i64 l1]) rfl rfl fun h47 hs=>?_;refine⟨_,_,_,_,_,_,_,_,hs.at 1 rfl (o:=0) (n:=8) rfl,?_⟩;refine (refLimit147 g y.f h47 (hg.ext hs.ext) hV).mono ?_;rintro _ h61 ⟨E,k2,a2,c2,l2,rfl,L2⟩;have hs:=hs.step E;refine⟨k2,a2,c2,l2,rfl,?_⟩;refine hs.newput (vs:=[.int .i64 a2,.int .i64 c2,.int .i64 l2]) rfl rfl fun h63 hs=>?_;have heq:=lim_eq hV hx hy (by rw[hxa,hya]) hTm hUm L1 L2;refine sBn (fun d=>RP.t (hclk.2 fun e=>d (heq.1 e).1) hs.ext) (fun d=>?_);refine⟨a1,c1,l1,hs.at 1 rfl (o:=0) (n:=3) rfl,a2,c2,l2,hs.at 0 rfl (o:=0) (n:=3) rfl,sB_intro (fun d2=>RP.t (hclk.2 fun e=>?_) hs.ext) (fun d2=>?_)⟩
 .obtain⟨_,⟨e1,e2,e3⟩,_⟩:=heq.1 e;rw[e1,e2,e3] at d2;simp at d2
 have hact:a1=a2/\c1=c2/\l1=l2:=by
  simp only[Bool.not_eq_false',Yt,beq_iff_eq,and_true] at d2;exact d2
 refine⟨g.he,hs.rd 2 rfl (i:=6) rfl,_,_,_,_,_,_,_,_,hs.at 2 rfl (o:=0) (n:=8) rfl,g.he,hs.rd 2 rfl (i:=6) rfl,_,_,_,_,_,_,_,_,hs.at 2 rfl (o:=0) (n:=8) rfl,?_⟩;have first:∀ {hZ:Heap} {r:Sl} {w:Ed} {K:Int->Nat->Nat->Prop},w∈g.es->Rw hZ 1 r ((natI (outG g.es w.f)).map inC)->(∀(k:Nat) (x:Ed) b o,g.es[k]?=some x->x.f=w.f->hc hZ ⟨b,o+Int.toNat 0*1,none⟩=some (.int .i64 (k:Int))->K k b o)->NB r.a fun b o=>(0<=(0:Int)/\(0:Int)<(r.n:Nat))/\∃x93:Int,hc hZ ⟨b,o+Int.toNat 0*1,none⟩=some (.int .i64 x93)/\K x93 b o:=fun {hZ r w K} hw hr hK=>by
  obtain⟨j,hj⟩:=Yf.1 hw;have hpos:=List.length_pos_of_mem (outG_mem.2 ⟨w,hj,rfl⟩);have hrn:=hr.ln;rw[show (natI (outG g.es w.f)).length=(outG g.es w.f).length from Yc _] at hrn;refine hr.nbI (by decide) (by omega) fun b o d gd t=>?_;obtain⟨k,gk,rfl⟩:=natI_get (i:=0) gd;obtain⟨x,gx,hf⟩:=outG_mem.1 (Yb gk);exact⟨(k:Int),t.hd,hK k x b o gx hf t.hd⟩
 refine (out23 g x.f h63 (hg.ext hs.ext)).mono ?_;rintro _ h90 ⟨E,r,rfl,hr⟩;have hs:=hs.step E;refine⟨r,rfl,E.sm,first hx hr fun k z b o gz hzf t=>?_⟩;refine (hg.e.rw.ext hs.ext).nbI (by omega) (by have:=(Ya.1 gz).1;omega) fun b94 o95 z' gz' t2=>?_;replace gz':g.es[k]?=some z':=gz';rw[gz] at gz';cases gz';refine⟨z.ag,t2.nth 5 rfl,?_⟩;refine (out23 g y.f h90 (hg.ext hs.ext)).mono ?_;rintro _ h99 ⟨E,r2,rfl,hr2⟩;have hs:=hs.step E;refine⟨r2,rfl,E.sm,first hy hr2 fun k2' w b2 o2 gw hwf t3=>?_⟩;refine (hg.e.rw.ext hs.ext).nbI (by omega) (by have:=(Ya.1 gw).1;omega) fun b103 o104 w' gw' t4=>?_;replace gw':g.es[k2']?=some w':=gw';rw[gw] at gw';cases gw';refine⟨w.ag,t4.nth 5 rfl,RP.e ?_ hs.ext⟩;have ez:z.ag=x.ag:=(row_same hV (Yb gz) hx hzf).2;have ew:w.ag=y.ag:=(row_same hV (Yb gw) hy hwf).2;rw[hclk,Ne,heq,ez,ew];constructor
 .intro hb he;rw[he.2.2] at hb;simp at hb
 .intro hne;cases hxa2:x.ag<;>cases hya2:y.ag<;>simp_all
theorem setI_get {p:PSet} {i n:Nat} (h:(elems p)[i]?=some n):(setI p)[i]?=some (n:Int):=by
 unfold setI natI;rw[Yd,h];rfl
theorem setI_ln (p:PSet):(setI p).length=(elems p).length:=Yc _
theorem elems_ok {g:Gl} {p:PSet} (hp:SetOk g p) {n:Nat} (hn:n∈elems p):(n:Int)<g.n:=hp.1 n (elems_mem.1 hn).2
theorem sAt {h hZ:Heap} {s:Sl} {p:PSet} {i n:Nat} {K:Nat->Nat->Prop} (hr:RL h 1 s inC (setI p)) (E:Ext h hZ) (hi:(elems p)[i]?=some n) (hK:∀b o,hc hZ ⟨b,o+Int.toNat (i:Int)*1,none⟩=some (.int .i64 (n:Int))->K b o) :
  NB s.a fun b o=>(0<=(i:Int)/\(i:Int)<(s.n:Nat))/\K b o:=by
 have hn:=hr.ln;have:=setI_ln p;refine (hr.rw.ext E).nbI (by omega) (by have:=(Ya.1 hi).1;omega) fun b o d gd t=>hK b o ?_;replace gd:(setI p)[i]?=some d:=gd;rw[setI_get hi] at gd;cases gd;exact t.hd
theorem refSends44 (g:Gl) (role:Int) (p:PSet) (s:Sl) (h:Heap) (hg:GI h g) (hM:GNm g.ds) (hG:GdS g role) (hp:SetOk g p) (hr:RL h 1 s inC (setI p)):Fn Pz 44 #[g.v,.int .i64 role,.slice s.a s.n s.c] h (RP (SndV g role p) h):=by
 apply vc44 (bs g.nm) g.hr g.hd g.n g.s g.e g.he g.ht;unfold W44 V44a;have hV:=hG.1;have hsn:=hr.ln;have hel:=setI_ln p;have hlm:=setI_len p;have hN:=hV.num.n;obtain⟨n0,h0⟩:∃n0,(elems p)[0]?=some n0:=by
  obtain⟨j,hj⟩:=hp.2;have:=List.length_pos_of_mem (elems_mem.2 ⟨by have:=hp.1 j hj;omega,hj⟩);exact⟨_,Yi this⟩
 have hiff:=snd_iff (role:=role) hV h0 fun n hn=>elems_ok hp hn;refine (St.refl h).newb fun h9 hs=>?_;refine⟨fun so x h' μ=>∃i:Nat,x=(i:Int)/\μ=(elems p).length-i/\i<=(elems p).length/\St h h' [.blk h.size g.cs 27]/\so=((elems p).take i).any fun n=>sndAt (firstE g role n) 0,⟨_,0,rfl,rfl,Nat.zero_le _,hs,rfl⟩,?_⟩;clear hs;rintro-so _ h15 μ ⟨i,rfl,rfl,hi,hs,hso⟩;refine sBi (fun c=>?_) (fun c=>?_)
 .obtain⟨n,gn⟩:=get_some (l:=elems p) (i:=i) (by omega);have hnl:=elems_ok hp (Yb gn);refine⟨_,_,_,_,_,_,_,_,hs.at 0 rfl (o:=0) (n:=8) rfl,sAt hr hs.ext gn fun b o t=>⟨(n:Int),t,?_⟩⟩;refine (refFirst96 g role n h15 (hg.ext hs.ext) hM hG ⟨by omega,hnl⟩).mono ?_;rintro _ h31 ⟨r,rfl,hs1⟩;have hs:=hs.step hs1.ext;have hR:=hs1.rows 0 (s:=r) (cs:=aC role) rfl (by decide);have hrn:=hR.ln;have next:∀ {b:Bool},b=(so||sndAt (firstE g role n) 0)->∃m32,m32<(elems p).length-i/\∃i':Nat,IntKind.wrap .i64 ((i:Int)+1)=(i':Int)/\m32=(elems p).length-i'/\i'<=(elems p).length/\St h h31 [.blk h.size g.cs 27]/\b=((elems p).take i').any fun n=>sndAt (firstE g role n) 0:=fun {b} hb=>
   ⟨_,(show (elems p).length-(i+1)<(elems p).length-i by omega),i+1,by rw[w64 (by omega) (by omega)];omega,rfl,by omega,hs,by rw[hb,take_snoc gn,List.any_append,hso];simp⟩
  refine⟨r,firstB g role n,0,rfl,sB_intro (fun c1=>next (by rw[c1];rfl)) (fun c1=>sBi (fun c2=>?_) (fun c2=>next ?_))⟩
  .refine hR.nbI (by decide) (by omega) fun b33 o34 e ge t=>?_;replace ge:(firstE g role n)[0]?=some e:=ge;refine⟨e.send,t.nth 1 rfl,next ?_⟩;unfold sndAt;rw[ge,c1];rfl
  .have:(firstE g role n)[0]?=none:=Yl (by omega);unfold sndAt;rw[this,c1];rfl
 have hie:i=(elems p).length:=by omega
 subst hie;rw[Yye] at hso;have hn0:=Yb h0;refine⟨_,_,_,_,_,_,_,_,hs.at 0 rfl (o:=0) (n:=8) rfl,sAt (i:=0) hr hs.ext h0 fun b o t=>⟨(n0:Int),t,?_⟩⟩;refine (refFirst96 g role n0 h15 (hg.ext hs.ext) hM hG ⟨by omega,elems_ok hp hn0⟩).mono ?_;rintro _ h53 ⟨r0,rfl,hs1⟩;have hR0:=hs1.rows 0 (s:=r0) (cs:=aC role) rfl (by decide);have hs:=hs.step hs1.ext;refine⟨r0,firstB g role n0,0,rfl,?_⟩;have hss:=St.refl h53;refine up_loop (n:=s.n) (fun i h'=>Ext h53 h'/\∀(j:Nat) n,j<i->(elems p)[j]?=some n->(so=true->FstA g role n0 n)/\∀k m,k<j->(elems p)[k]?=some m->¬ClkS g role n m) ⟨.rfl',fun j n hj=>by omega⟩ ?_;rintro-i h58 hi ⟨E,hq⟩;have hs:=hs.step E;refine sB_intro (fun c1=>?_) (fun c1=>?_);rotate_left
 .replace c1:=lt_f c1;refine RP.t (hiff.2 ⟨fun h1 n hn=>?_,fun i' k n m hk hi' hk'=>?_⟩) hs.ext
  .obtain⟨j,hj⟩:=Yf.1 hn;exact (hq j n (by have:=(Ya.1 hj).1;omega) hj).1 (by rw[hso];exact h1)
  .exact (hq i' n (by have:=(Ya.1 hi').1;omega) hi').2 k m hk hk'
 replace c1:=lt_t c1;obtain⟨n,gn⟩:=get_some (l:=elems p) (i:=i) (by omega);have hnm:=Yb gn;have hnl:=elems_ok hp hnm;have no:so=true->¬FstA g role n0 n->¬SndV g role p:=fun h1 h2 h3=>h2 ((hiff.1 h3).1 (by rw[<-hso];exact h1) n hnm);refine⟨_,_,_,_,_,_,_,_,hs.at 0 rfl (o:=0) (n:=8) rfl,sAt hr hs.ext gn fun b o t=>⟨(n:Int),t,?_⟩⟩;refine (refFirst96 g role n h58 (hg.ext hs.ext) hM hG ⟨by omega,hnl⟩).mono ?_;rintro _ h74 ⟨r,rfl,hs2⟩;have E:=E.trans hs2.ext;have hs:=hs.step hs2.ext;have hR:=hs2.rows 0 (s:=r) (cs:=aC role) rfl (by decide);have hrn:=hR.ln;refine⟨r,firstB g role n,0,rfl,?_⟩;have inner:∀ {hZ:Heap} {m56:Nat} {I:Int->Heap->Nat->Prop},Ext h53 hZ->St h hZ [.blk h.size g.cs 27]->(so=true->FstA g role n0 n)->(∀hY,Ext h53 hY->(∀k m,k<i->(elems p)[k]?=some m->¬ClkS g role n m)->∃m104,m104<m56/\I (IntKind.wrap .i64 ((i:Int)+1)) hY m104) ->
   (∃I81:Int->Heap->Nat->Prop,(∃m82,I81 0 hZ m82)/\(∀(_:Env) (k_84:Int) (h85:Heap) (m83:Nat),I81 k_84 h85 m83->(sB (decide (k_84<(i:Int)))
    ((∃x86:ByteArray,∃x87:Sl,∃x88:Sl,∃x89:Int,∃x90:Int,∃x91:Int,∃x92:Sl,∃x93:Sl,atC h85 ⟨h.size,0,none⟩ [.string x86,.slice x87.a x87.n x87.c,.slice x88.a x88.n x88.c,.int .i64 x89,.int .i64 x90,.int .i64 x91,.slice x92.a x92.n x92.c,.slice x93.a x93.n x93.c] /\
    (NB s.a fun b94 o95=>((0<=((i:Nat):Int)/\((i:Nat):Int)<(s.n:Nat))/\(∃x96:Int,hc h85 ⟨b94,o95+Int.toNat ((i:Nat):Int)*1,none⟩=some (.int .i64 x96) /\
    (NB s.a fun b97 o98=>((0<=(k_84:Int)/\(k_84:Int)<(s.n:Nat))/\(∃x99:Int,hc h85 ⟨b97,o98+Int.toNat k_84*1,none⟩=some (.int .i64 x99) /\
    (Fn Pz 98 #[.agg ⟨[.string x86,.slice x87.a x87.n x87.c,.slice x88.a x88.n x88.c,.int .i64 x89,.int .i64 x90,.int .i64 x91,.slice x92.a x92.n x92.c,.slice x93.a x93.n x93.c]⟩,.int .i64 role,.int .i64 x96,.int .i64 x99] h85
    (fun v100 h102=>∃x101:Bool,v100=.bool x101/\(sB x101 (RP (SndV g role p) h (.bool false) h102) ((∃m103,m103<m83/\I81 (IntKind.wrap .i64 (k_84+1)) h102 m103)))))))))))))
    ((∃m104,m104<m56/\I (IntKind.wrap .i64 ((i:Int)+1)) h85 m104))))):=fun {hZ m56 I} EZ hsZ hF hK=>by
  refine up_loop (n:=i) (fun k h'=>Ext h53 h'/\St h h' [.blk h.size g.cs 27]/\∀(j:Nat) m,j<k->(elems p)[j]?=some m->¬ClkS g role n m) ⟨EZ,hsZ,fun j m hj=>by omega⟩ ?_;rintro-k h85 hk ⟨EY,hsY,hqk⟩;refine sB_intro (fun c2=>?_) (fun c2=>hK _ EY fun j m hj gm=>hqk j m (by have:=lt_f c2;omega) gm);replace c2:=lt_t c2;obtain⟨m,gm⟩:=get_some (l:=elems p) (i:=k) (by omega);refine⟨_,_,_,_,_,_,_,_,hsY.at 0 rfl (o:=0) (n:=8) rfl,sAt hr hsY.ext gn fun b o t=>⟨(n:Int),t,sAt hr hsY.ext gm fun b o t=>⟨(m:Int),t,?_⟩⟩⟩;refine (refClocks98 g role n m h85 (hg.ext hsY.ext) hV).mono ?_;rintro _ h102 ⟨⟨bb,rfl,hbb⟩,E2⟩;have hsY:=hsY.step E2;refine⟨bb,rfl,sB_intro (fun c3=>RP.f (fun h3=>(hiff.1 h3).2 i k n m c2 gn gm (hbb.1 c3)) hsY.ext) (fun c3=>Up.next c2 (by omega) ⟨EY.trans E2,hsY,fun j m' hj gm'=>?_⟩)⟩;by_cases e:j=k
  .subst e;rw[gm] at gm';cases gm';exact iff_f hbb c3
  .exact hqk j m' (by omega) gm'
 have done:∀hY,Ext h53 hY->(so=true->FstA g role n0 n)->(∀k m,k<i->(elems p)[k]?=some m->¬ClkS g role n m)->∃m104,m104<s.n-i/\Up s.n (fun i h'=>Ext h53 h'/\∀(j:Nat) n,j<i->(elems p)[j]?=some n->(so=true->FstA g role n0 n)/\∀k m,k<j->(elems p)[k]?=some m->¬ClkS g role n m) (IntKind.wrap .i64 ((i:Int)+1)) hY m104:=fun hY EY hF hC=>by
  refine Up.next c1 (by omega) ⟨EY,fun j n' hj gn'=>?_⟩;by_cases e:j=i
  .subst e;rw[gn] at gn';cases gn';exact⟨hF,hC⟩
  .exact hq j n' (by omega) gn'
 refine sB_intro (fun c2=>?_) (fun c2=>inner E hs (fun h1=>absurd h1 (by rw[c2];decide)) (fun hY EY hC=>done hY EY (fun h1=>absurd h1 (by rw[c2];decide)) hC));refine sB_intro (fun c3=>RP.f (no c2 fun hF=>by rw[hF.1] at c3;cases c3) hs.ext) (fun c3=>?_);refine sBe (fun c4=>RP.f (no c2 fun hF=>hF.2.1 (List.length_eq_zero_iff.1 (by omega))) hs.ext) (fun c4=>?_);rw[w64 (n:=(r.n:Int)-1) (by omega) (by have:=hR.ln;have:=evs_len (role:=role) (p:=clo g.es role [(n:Int)]) hV;have e:firstE g role n=evs g.es role (clo g.es role [(n:Int)]):=rfl;rw[e] at hrn;omega)];refine hR.nbI (by omega) (by omega) fun b75 o76 e ge t=>?_;have hle:((r.n:Int)-1).toNat=(firstE g role n).length-1:=by omega
 rw[hle] at ge;refine⟨e.send,t.nth 1 rfl,sB_intro (fun c5=>RP.f (no c2 fun hF=>?_) hs.ext) (fun c5=>?_)⟩
 .have h3:=hF.2.2.1;unfold sndAt at h3;rw[ge] at h3;replace h3:e.send=true:=h3;rw[h3] at c5;cases c5
 have hfl:(firstE g role n).length<=1048576:=by
  have h1:=evs_len (role:=role) (p:=clo g.es role [(n:Int)]) hV;have e:firstE g role n=evs g.es role (clo g.es role [(n:Int)]):=rfl;rw[e];omega
 refine (sameEvs97 role (firstE g role n) (firstE g role n0) r r0 h74 hR (hR0.ext E) hfl).mono ?_;rintro _ h80 ⟨rfl,E3⟩;have hs:=hs.step E3;refine⟨_,rfl,sB_intro (fun c6=>RP.f (no c2 fun hF=>Yyo (bF c6) hF.2.2.2) hs.ext) (fun c6=>?_)⟩;have hF:so=true->FstA g role n0 n:=fun _=>⟨c3,fun e=>c4 (by rw[hrn,e];rfl),by unfold sndAt;rw[ge];exact bT c5,Yyn (bT c6)⟩;exact inner (E.trans E3) hs hF (fun hY EY hC=>done hY EY hF hC)
theorem vw_own {g:Gl} (hV:ValidS g) {role:Int} {p:PSet} {o:Ti} (ho:vwG g role (elems p)=some o) {x:Ed} (hx:x∈g.es) (ha:x.a=role) (hin:x.f∈setI p):TmR g x o:=by
 obtain⟨o1,t,t1,hm⟩:=own_row2 hV hx ha;obtain⟨h0,h1,h2⟩:=setI_mem.1 hin;unfold vwG at ho;have:=(viewV_row ho (n:=x.f.toNat) (elems_mem.2 ⟨by omega,h2⟩)).2 t o1 t1;rw[this];exact hm
theorem refTimeout45 (g:Gl) (role:Int) (p:PSet) (s:Sl) (o:Ti) (h:Heap) (hg:GI h g) (hV:ValidS g) (hp:SetOk g p) (hr:RL h 1 s inC (setI p)) (ho:vwG g role (elems p)=some o) :
  Fn Pz 45 #[g.v,.int .i64 role,.slice s.a s.n s.c] h fun v h'=>Ext h h'/\((0<o.k/\o.x.send=true/\v=.tuple ⟨[.int .i64 o.k,.agg ⟨aC role o.x⟩]⟩)\/(o.k=0/\v=.tuple ⟨[.int .i64 0,.agg ⟨[.int .i64 0,.bool false,.int .i64 0,.int .i64 0,.slice none 0 0]⟩]⟩)):=by
 apply vc45 (bs g.nm) g.hr g.hd g.n g.s g.e g.he g.ht;unfold W45;have hen:=hg.e.ln;have htn:=hg.t.ln;have htm:=hg.t.sm;refine (St.refl h).newb fun h9 hs=>?_;refine hs.newb fun h10 hs=>?_;refine up_loopS (n:=g.ht.n) hs (fun i=>∀(j:Nat) t,j<i->g.ts[j]?=some t->¬(t.s∈setI p/\OwnS_ g role t.s)) (fun j t hj=>by omega) ?_;rintro-i h15 hi ⟨hs,hq⟩;refine⟨g.ht,hs.rd 1 rfl (i:=7) rfl,sB_intro (fun c=>?_) (fun c=>?_)⟩
 .replace c:=lt_t c;obtain⟨t,gt⟩:=get_some (l:=g.ts) (i:=i) (by omega);have htm':=Yb gt;refine⟨g.ht,hs.rd 1 rfl (i:=7) rfl,?_⟩;refine (hg.t.rw.ext hs.ext).nbI (by omega) (by omega) fun b oo t' gt' u=>?_;replace gt':g.ts[i]?=some t':=gt';rw[gt] at gt';cases gt';refine⟨t.s,t.k,t.e,u,?_⟩;refine (St.refl h15).newput (vs:=t.cs) rfl rfl fun h24 hx=>?_;have hs:=hs.step hx.ext;have skip:∀ {hZ:Heap},Ext h24 hZ->¬(t.s∈setI p/\OwnS_ g role t.s)->∃m65,m65<g.ht.n-i/\Up g.ht.n (fun i h'=>St h h' [.blk h9.size [.int .i64 0,.bool false,.int .i64 0,.int .i64 0,.slice none 0 0] 60,.blk h.size g.cs 27]/\∀(j:Nat) t,j<i->g.ts[j]?=some t->¬(t.s∈setI p/\OwnS_ g role t.s)) (IntKind.wrap .i64 ((i:Int)+1)) hZ m65:=fun {hZ} E hno=>by
   refine Up.next c (by omega) ⟨hs.step E,fun j t' hj gt'=>?_⟩;by_cases e:j=i
   .subst e;rw[gt] at gt';cases gt';exact hno
   .exact hq j t' (by omega) gt'
  refine⟨t.s,hx.rd 0 rfl (i:=0) rfl,?_⟩;refine (refHas92 (setI p) t.s s h24 (hr.rw.ext hs.ext) hr.sm).mono ?_;rintro _ h28 ⟨⟨b1,rfl,hb1⟩,E⟩;refine⟨b1,rfl,sB_intro (fun c1=>?_) (fun c1=>skip E fun hc=>iff_f hb1 c1 hc.1)⟩;have hs:=hs.step E;have hx:=hx.step E;refine⟨_,_,_,_,_,_,_,_,hs.at 1 rfl (o:=0) (n:=8) rfl,t.s,hx.rd 0 rfl (i:=0) rfl,?_⟩;refine (refSender99 g role t.s h28 (hg.ext hs.ext) hV).mono ?_;rintro _ h40 ⟨⟨b2,rfl,hb2⟩,E2⟩;refine⟨b2,rfl,sB_intro (fun c2=>?_) (fun c2=>skip (E.trans E2) fun hc=>iff_f hb2 c2 hc.2)⟩;have hs:=hs.step E2;have hx:=hx.step E2;obtain⟨x,hxm,hxf,hxa⟩:=hb2.1 c2;have hin:x.f∈setI p:=by rw[hxf];exact hb1.1 c1
  have hT:=vw_own hV ho hxm hxa hin;obtain⟨_,hk1,he0,z,gz,hzf⟩:=tim_ex hV htm';have hza:z.a=role:=by rw[<-hxa];exact (row_same hV (Yb gz) hxm (by omega)).1
  have hot:o.k=t.k/\o.x=⟨true,z.b,z.l⟩:=by
   rcases hT with ⟨u,hu,hus,z',gz',rfl⟩ | ⟨hno,_⟩
   .have e:u=t:=tim_uniq hV.tim hu htm' (by omega);subst e;rw[gz] at gz';cases gz';exact⟨rfl,rfl⟩
   .exact absurd hxf.symm (hno t htm')
  refine⟨t.k,hx.rd 0 rfl (i:=1) rfl,g.he,hs.rd 1 rfl (i:=6) rfl,t.e,hx.rd 0 rfl (i:=2) rfl,?_⟩;refine (hg.e.rw.ext hs.ext).nbI he0 (by have:=(Ya.1 gz).1;omega) fun b44 o45 z' gz' t2=>?_;rw[gz] at gz';cases gz';refine⟨z.f,z.a,z.b,z.l,z.t,z.ag,t2,?_⟩;refine (event51 z role ⟨true,z.b,z.l⟩ (by unfold vis1;rw[if_pos hza.symm]) h40).mono ?_;rintro _ h58 ⟨rfl,E3⟩;have hs:=hs.step E3;refine⟨role,true,z.b,z.l,⟨none,0,0⟩,rfl,E3.sm,?_⟩;refine hs.put 0 rfl (o:=0) (vs:=aC role ⟨true,z.b,z.l⟩) rfl (Yyt 5) fun h59 hs=>?_;exact⟨role,true,z.b,z.l,⟨none,0,0⟩,hs.at 0 rfl (o:=0) (n:=5) rfl,hs.ext,.inl ⟨by omega,by rw[hot.2],by rw[hot.1,hot.2];rfl⟩⟩
 .replace c:=lt_f c;have h0:o.k=0:=by
   by_cases hex:∃n∈elems p,OwnS_ g role (n:Int)
   .obtain⟨n,hn,x,hxm,hxf,hxa⟩:=hex;have hnl:=elems_ok hp hn;have hin:x.f∈setI p:=by rw[hxf,setI_mem,Ys];have:=elems_mem.1 hn;exact⟨by omega,by omega,this.2⟩
    rcases vw_own hV ho hxm hxa hin with ⟨u,hu,hus,_⟩ | ⟨_,rfl⟩
    .obtain⟨j,hj⟩:=Yf.1 hu;exact absurd ⟨by rw[hus];exact hin,x,hxm,hus.symm,hxa⟩ (hq j u (by have:=(Ya.1 hj).1;omega) hj)
    .rfl
   .unfold vwG at ho;rw[vw_none ho fun n hn hO=>hex ⟨n,hn,(own_iff hV (elems_ok hp hn)).1 hO⟩];rfl
  refine hs.put 0 rfl (o:=0) (vs:=[.int .i64 0,.bool false,.int .i64 0,.int .i64 0,.slice none 0 0]) rfl (Yyt 5) fun h67 hs=>?_;exact⟨0,false,0,0,⟨none,0,0⟩,hs.at 0 rfl (o:=0) (n:=5) rfl,hs.ext,.inr ⟨h0,rfl⟩⟩
theorem vis_send {role:Int} {x:Ed} {e:Ev} (h:vis1 role x=some e) (hs:e.send=true):x.a=role:=by
 unfold vis1 at h;split at h
 .rename_i h1;exact h1.symm
 .split at h
  .cases h;cases hs
  .cases h
theorem refAgain46 (g:Gl) (role:Int) (p:PSet) (e:Ev) (s:Sl) (o:Ti) (h:Heap) (hg:GI h g) (hV:ValidS g) (hr:RL h 1 s inC (setI p)) (ho:vwG g role (elems p)=some o) (he:e∈evs g.es role p) :
  Fn Pz 46 #[g.v,.int .i64 role,.slice s.a s.n s.c,.agg ⟨aC role e⟩] h fun v h'=>Ext h h'/\v=.bool (e.send&&o.ag):=by
 apply vc46 (bs g.nm) g.hr g.hd g.n g.s g.e g.he g.ht role s role e.send e.peer e.label ⟨none,0,0⟩;unfold W46;have hen:=hg.e.ln;have hem:=hg.e.sm;refine (St.refl h).newb fun h14 hs=>?_;refine hs.newb fun h15 hs=>?_;have tag:∀ {x:Ed},x∈g.es->vis1 role x=some e->e.send=true->x.f∈setI p->o.ag=x.ag:=fun hx hv h1 hf=>by
  rcases vw_own hV ho hx (vis_send hv h1) hf with ⟨_,_,_,_,_,rfl⟩ | ⟨_,rfl⟩<;>rfl
 refine up_loopS (n:=g.he.n) hs (fun i=>∀(j:Nat) x,j<i->g.es[j]?=some x->¬(x.ag=true/\e.send=true/\vis1 role x=some e/\x.f∈setI p)) (fun j t hj=>by omega) ?_;rintro-i h20 hi ⟨hs,hq⟩;refine⟨g.he,hs.rd 1 rfl (i:=6) rfl,sB_intro (fun c=>?_) (fun c=>⟨hs.ext,?_⟩)⟩
 .replace c:=lt_t c;obtain⟨x,gx⟩:=get_some (l:=g.es) (i:=i) (by omega);have hxm:=Yb gx;refine⟨g.he,hs.rd 1 rfl (i:=6) rfl,?_⟩;refine (hg.e.rw.ext hs.ext).nbI (by omega) (by omega) fun b23 o24 x' gx' t=>?_;replace gx':g.es[i]?=some x':=gx';rw[gx] at gx';cases gx';refine⟨x.f,x.a,x.b,x.l,x.t,x.ag,t,?_⟩;refine (St.refl h20).newput (vs:=x.cs) rfl rfl fun h32 hx=>?_;have hs:=hs.step hx.ext;have skip:∀ {hZ:Heap},Ext h32 hZ->¬(x.ag=true/\e.send=true/\vis1 role x=some e/\x.f∈setI p)->∃m65,m65<g.he.n-i/\Up g.he.n (fun i h'=>St h h' [.blk h14.size (aC role e) 60,.blk h.size g.cs 27]/\∀(j:Nat) x,j<i->g.es[j]?=some x->¬(x.ag=true/\e.send=true/\vis1 role x=some e/\x.f∈setI p)) (IntKind.wrap .i64 ((i:Int)+1)) hZ m65:=fun {hZ} E hno=>by
   refine Up.next c (by omega) ⟨hs.step E,fun j x' hj gx'=>?_⟩;by_cases e2:j=i
   .subst e2;rw[gx] at gx';cases gx';exact hno
   .exact hq j x' (by omega) gx'
  refine⟨x.ag,hx.rd 0 rfl (i:=5) rfl,sB_intro (fun c1=>?_) (fun c1=>skip (Ext.refl _) fun hc=>by rw[hc.1] at c1;cases c1)⟩;refine⟨e.send,hs.rd 0 rfl (i:=1) rfl,sB_intro (fun c2=>?_) (fun c2=>skip (Ext.refl _) fun hc=>by rw[hc.2.1] at c2;cases c2)⟩;refine⟨x.f,x.a,x.b,x.l,x.t,x.ag,hx.at 0 rfl (o:=0) (n:=6) rfl,?_⟩;refine (sees50 x role h32).mono ?_;rintro _ h43 ⟨rfl,E1⟩;refine⟨_,rfl,E1.sm,sB_intro (fun c3=>?_) (fun c3=>skip E1 fun hc=>by rw[hc.2.2.1] at c3;cases c3)⟩;obtain⟨e',hv⟩:∃e,vis1 role x=some e:=Option.isSome_iff_exists.1 c3;have hx:=hx.step E1;have hs:=hs.step E1;refine⟨x.f,hx.rd 0 rfl (i:=0) rfl,?_⟩;refine (refHas92 (setI p) x.f s h43 (hr.rw.ext hs.ext) hr.sm).mono ?_;rintro _ h47 ⟨⟨bb,rfl,hbb⟩,E2⟩;refine⟨bb,rfl,E2.sm,sB_intro (fun c4=>?_) (fun c4=>skip (E1.trans E2) fun hc=>iff_f hbb c4 hc.2.2.2)⟩;have hx:=hx.step E2;have hs:=hs.step E2;refine⟨x.f,x.a,x.b,x.l,x.t,x.ag,hx.at 0 rfl (o:=0) (n:=6) rfl,role,e.send,e.peer,e.label,⟨none,0,0⟩,hs.at 0 rfl (o:=0) (n:=5) rfl,?_⟩;refine (event51 x role e' hv h47).mono ?_;rintro _ h65 ⟨rfl,E3⟩;refine⟨role,e'.send,e'.peer,e'.label,⟨none,0,0⟩,rfl,E3.sm,?_⟩;refine (sameEv47 role e' e h65).mono ?_;rintro _ h68 ⟨rfl,E4⟩;have hs:=(hs.step E3).step E4;refine⟨_,rfl,E4.sm,sB_intro (fun c5=>⟨hs.ext,?_⟩) (fun c5=>skip (((E1.trans E2).trans E3).trans E4) fun hc=>Yyo c5 (by have:=hc.2.2.1;rw[hv] at this;exact Yyp this))⟩;have hee:e'=e:=Yyn c5;subst hee;rw[tag hxm hv c2 (hbb.1 c4),c1,c2];rfl
 .replace c:=lt_f c;congr 1;cases h1:e.send with
  | false=>rfl
  | true=>
   obtain⟨x,hx,hv,hf⟩:=(evs_in hV).1 he;rw[tag hx hv h1 hf];cases h2:x.ag with
   | false=>rfl
   | true=>
    obtain⟨j,hj⟩:=Yf.1 hx;exact absurd ⟨h2,h1,hv,hf⟩ (hq j x (by have:=(Ya.1 hj).1;omega) hj)
/-! ### plain -/
theorem arcsF_ag {es:List Ed} {role:Int} {i:Nat} {p:PSet}:∀(l:List Ev) (S:List PSet) (M:List Mv),(∀x∈M,x.ag=false)->∀x∈(arcsF es role i p l S M).2,x.ag=false
 | [],_,_,hM=>hM
 | e::r,S,M,hM=>by
  rw[arcsF];exact arcsF_ag r _ _ fun x hx=>by
   rcases Yk.1 hx with hx | hx
   .exact hM x hx
   .rw[Ye.1 hx]
theorem viewsF_ag {es:List Ed} {role:Int}:∀(f i:Nat) (S:List PSet) (M:List Mv) {S':List PSet} {M':List Mv},(∀x∈M,x.ag=false)->viewsF es role f i S M=some (S',M')->∀x∈M',x.ag=false
 | 0,_,_,_,_,_,_,h=>by cases h
 | f+1,i,S,M,S',M',hM,h=>by
  rw[viewsF] at h;cases hg:S[i]? with
  | none=>rw[hg] at h;cases h;exact hM
  | some p=>
   rw[hg] at h;replace h:(if (arcsF es role i p (evs es role p) S M).1.length>200 then none else viewsF es role f (i+1) (arcsF es role i p (evs es role p) S M).1 (arcsF es role i p (evs es role p) S M).2)=some (S',M'):=h;split at h
   .cases h
   .exact viewsF_ag f (i+1) _ _ (arcsF_ag _ _ _ hM) h
theorem views_ag {g:Gl} {role:Int} {S:List PSet} {M:List Mv} (h:views g role=some (S,M)):∀x∈M,x.ag=false:=by
 unfold views at h;exact viewsF_ag 202 0 _ [] (fun x hx=>by cases hx) h
structure RwI (M:List Mv) (n:Nat) (Mi:List Mv):Prop where
 sk:Mi.map skM=M.map skM
 up:∀(k:Nat) y,M[k]?=some y->(n:Int)<=y.f->Mi[k]?=some y
theorem RwI.len {M Mi:List Mv} {n:Nat} (h:RwI M n Mi):Mi.length=M.length:=by
 have:=congrArg List.length h.sk
 rwa [Yc,Yc] at this
theorem RwI.at {M Mi:List Mv} {n k:Nat} {y:Mv} (h:RwI M n Mi) (gy:M[k]?=some y):∃z,Mi[k]?=some z/\skM z=skM y:=by
 obtain⟨z,gz⟩:=get_some (l:=Mi) (i:=k) (by rw[h.len];exact (Ya.1 gy).1);refine⟨z,gz,?_⟩;have e:(Mi.map skM)[k]?=(M.map skM)[k]?:=by rw[h.sk]
 rw[Yd,Yd,gy,gz] at e;exact Yyp e
theorem RwI.back {M Mi:List Mv} {n k:Nat} {z:Mv} (h:RwI M n Mi) (gz:Mi[k]?=some z):∃y,M[k]?=some y/\z.f=y.f:=by
 obtain⟨y,gy⟩:=get_some (l:=M) (i:=k) (by rw[<-h.len];exact (Ya.1 gz).1);obtain⟨z',gz',e⟩:=h.at gy;rw[gz] at gz';cases gz';exact⟨y,gy,congrArg Prod.fst e⟩
theorem updR_no {n:Nat} {o:Ti} {y:Mv} (h:y.f≠(n:Int)):updR n o y=y:=by unfold updR;rw[if_neg fun c=>h c.1]
theorem RwI.next {M Mi:List Mv} {n:Nat} (h:RwI M n Mi) (o:Ti):RwI M (n+1) (Mi.map (updR n o)):=by
 refine⟨?_,fun k y gy hy=>?_⟩
 .rw[List.map_map,<-h.sk];exact List.map_congr_left fun y _=>updR_sk n o y
 .rw[Yd,h.up k y gy (by omega),Option.map_some,updR_no (by omega)]
theorem lim_snoc {n k:Nat} {o:Ti} {Mi:List Mv} {z:Mv} (hz:Mi[k]?=some z):(Mi.take (k+1)).zipIdx.filterMap (limC n o)=(Mi.take k).zipIdx.filterMap (limC n o)++(limC n o (z,k)).toList:=by
 rw[zip_snoc hz,List.filterMap_append];cases h:limC n o (z,k)<;>simp[h]
theorem lim_ln (n k:Nat) (o:Ti) (Mi:List Mv):((Mi.take k).zipIdx.filterMap (limC n o)).length<=k:=by
 refine Yys (List.length_filterMap_le _ _) ?_;rw[List.length_zipIdx,Yu];exact Nat.min_le_left _ _
def CpJ (M:List Mv) (n k j:Nat):Prop:=j<=M.length/\∀(i:Nat) y,M[i]?=some y->(i<j ↔ y.f<(n:Int)\/(y.f=(n:Int)/\i<k))
theorem mv_le {M:List Mv} (hM:M.Pairwise mvLt) {i k:Nat} {x y:Mv} (gx:M[i]?=some x) (gy:M[k]?=some y) (h:i<k):x.f<=y.f:=by
 obtain⟨hi,ei⟩:=Ya.1 gx;obtain⟨hk,ek⟩:=Ya.1 gy;have:=List.pairwise_iff_getElem.1 hM i k hi hk h;rw[ei,ek] at this;unfold mvLt at this;omega
theorem CpJ.hit {M:List Mv} (hM:M.Pairwise mvLt) {n k j:Nat} {y:Mv} (h:CpJ M n k j) (gy:M[k]?=some y) (hy:y.f=(n:Int)):j=k:=by
 have hk:=(Ya.1 gy).1;have h1:¬k<j:=fun c=>by have:=(h.2 k y gy).1 c;omega
 rcases Nat.lt_trichotomy j k with c | c | c
 .obtain⟨x,gx⟩:=get_some (l:=M) (i:=j) (by omega);have:=(h.2 j x gx).2 (by have:=mv_le hM gx gy c;omega);omega
 .exact c
 .exact absurd c h1
theorem CpJ.put {M:List Mv} {n k:Nat} {y:Mv} (h:CpJ M n k k) (gy:M[k]?=some y) (hy:y.f=(n:Int)):CpJ M n (k+1) (k+1):=by
 have hk:=(Ya.1 gy).1;refine⟨hk,fun i x gx=>?_⟩;by_cases e:i=k
 .subst e;rw[gy] at gx;cases gx;exact iff_of_true (by omega) (by omega)
 .have:=h.2 i x gx;omega
theorem CpJ.skip {M:List Mv} {n k j:Nat} {y:Mv} (h:CpJ M n k j) (gy:M[k]?=some y) (hy:y.f≠(n:Int)):CpJ M n (k+1) j:=by
 refine⟨h.1,fun i x gx=>?_⟩;by_cases e:i=k
 .subst e;rw[gy] at gx;cases gx;have:=h.2 i y gy;omega
 .have:=h.2 i x gx;omega
theorem CpJ.all {M:List Mv} {n k j:Nat} (h:CpJ M n k j) (hk:M.length<=k):CpJ M (n+1) 0 j:=by
 refine⟨h.1,fun i x gx=>?_⟩;have:=(Ya.1 gx).1;have:=h.2 i x gx;omega
theorem CpJ.end_ {M:List Mv} {n j:Nat} (h:CpJ M n 0 j) (hM:∀y∈M,y.f<(n:Int)):j=M.length:=by
 rcases Nat.lt_or_ge j M.length with c | c
 .obtain⟨x,gx⟩:=get_some (l:=M) (i:=j) c;have:=(h.2 j x gx).2 (.inl (hM x (Yb gx)));omega
 .exact Nat.le_antisymm h.1 c
theorem cp_same {M Mi:List Mv} {n j:Nat} (hI:RwI M n Mi) (hJ:CpJ M n 0 j) (o:Ti):(Mi.map (updR n o)).take j=Mi.take j:=by
 rw[<-List.map_take]
 conv=>rhs;rw[<-List.map_id (Mi.take j)]
 refine List.map_congr_left fun z hz=>?_;obtain⟨i,hi⟩:=Yf.1 hz;have hij:i<j:=by have:=(Ya.1 hi).1;rw[Yu] at this;omega
 rw[Yyf,if_pos hij] at hi;obtain⟨y,gy,e⟩:=hI.back hi;have:=(hJ.2 i y gy).1 hij;exact updR_no (by omega)
theorem updR_row {n:Nat} {o:Ti} {y:Mv} (hf:y.f=(n:Int)) (ha:y.ag=false):updR n o y=⟨y.f,y.send,y.peer,y.label,y.t,y.send&&o.ag⟩:=by
 cases y with
 | mk f s p l t ag=>
  replace ha:ag=false:=ha;replace hf:f=(n:Int):=hf;subst ha;unfold updR;cases s with
  | true=>rw[if_pos ⟨hf,rfl⟩];rfl
  | false=>rw[if_neg fun c=>Bool.noConfusion c.2];rfl
theorem limC_hit {n k:Nat} {o:Ti} {y:Mv} (hf:y.f=(n:Int)) (hk:0<o.k) (hx:o.x.send=true) (he:o.x=y.ev):limC n o (y,k)=some ⟨n,o.k,k⟩:=by
 unfold limC;exact if_pos ⟨hf,by rw[he] at hx;exact hx,hk,by rw[he] at hx ⊢;unfold Mv.ev at hx ⊢;rw[show y.send=true from hx]⟩
theorem limC_no {n k:Nat} {o:Ti} {y:Mv} (h:y.f≠(n:Int)\/o.k<=0\/o.x≠y.ev):limC n o (y,k)=none:=by
 unfold limC;refine if_neg fun ⟨h1,h2,h3,h4⟩=>?_;rcases h with h | h | h
 .exact h h1
 .omega
 .exact h (by rw[h4];unfold Mv.ev;rw[show y.send=true from h2])
/-! ### the walk -/
theorem app25g:appB Pz 25 63 3 24=true:=by kernel_rfl
theorem app31g:appB Pz 31 45 6 48=true:=by kernel_rfl
abbrev rfL (gb rb tb ob:Nat) (g:Gl) (role:Int) (ss fs ars sm sl:Sl) (Q:List SR) (F:List Bool) (M R:List Mv) (L:List To) (A:List It):List It:=
 .sl sm 45 6 (R.map Mv.cs) :: .sl sl 63 3 (L.map To.cs) :: .blk ob [.int .i64 role,.int .i64 (ss.n:Int),.int .i64 0,.slice fs.a fs.n fs.c,.slice sm.a sm.n sm.c,.slice sl.a sl.n sl.c] 33 ::
  .blk tb [.slice ss.a ss.n ss.c,.slice fs.a fs.n fs.c,.slice ars.a ars.n ars.c] 100 :: .blk rb m0 33 :: .blk gb g.cs 27 :: .sl ss 42 1 (Q.map SR.cs) :: .sl fs 4 1 (F.map bC) :: .sl ars 45 6 (M.map Mv.cs)::A
def tmC (role:Int) (o:Ti) (kx xr:Int) (xs:Bool) (xp xl:Int) (xd:Sl):Prop:=(0<o.k/\o.x.send=true/\kx=o.k/\xr=role/\xs=o.x.send/\xp=o.x.peer/\xl=o.x.label/\xd=⟨none,0,0⟩)\/(o.k=0/\kx=0)
theorem rfL_mem {gb rb tb ob:Nat} {g:Gl} {role:Int} {ss fs ars sm sl:Sl} {Q:List SR} {F:List Bool} {M R:List Mv} {L:List To} {A:List It} {x:It} (h:x∈A):x∈rfL gb rb tb ob g role ss fs ars sm sl Q F M R L A:=by
 iterate 9 refine Yn _ ?_
 exact h
theorem rawIn15 (g:Gl) (role:Int) (n:Nat) (o:Ti) (q:SR) {h h94 h93 h24 h26:Heap} {rb:Nat} {ss fs ars sm0 sl00:Sl} {Q:List SR} {F:List Bool} {M Mi:List Mv} {L:List To} {A:List It} {j0 m48:Nat} {I46:Int->Heap->Nat->Prop} {kx xr xp xl:Int} {xs:Bool} {xd:Sl}
  (hg:GI h g) (hV:ValidS g) (gq:Q[n]?=some q) (hqA:q.it∈A) (ho:vwG g role (elems q.p)=some o) (hT:tmC role o kx xr xs xp xl xd) (hM:M.length<=400) (hQ:Q.length<=200) (hL:L.length<=n*400)
  (hMs:M.Pairwise mvLt) (hag:∀y∈M,y.ag=false) (hev:∀y∈M,y.f=(n:Int)->y.ev∈evs g.es role q.p) (hI:RwI M n Mi) (hJ:CpJ M n 0 j0)
  (hs:St h h94 (.blk h93.size [.int .i64 0,.bool false,.int .i64 0,.int .i64 0,.slice none 0 0] 60::rfL h.size rb h24.size h26.size g role ss fs ars sm0 sl00 Q F M (Mi.take j0) L A))
  (hnext:∀(h':Heap) (sm sl:Sl) (j:Nat),St h h' (rfL h.size rb h24.size h26.size g role ss fs ars sm sl Q F M ((Mi.map (updR n o)).take j) (L++limR n o Mi) A)->CpJ M (n+1) 0 j->∃m,m<m48/\I46 (IntKind.wrap .i64 ((n:Int)+1)) h' m) :
  V15a h94 h93 xr xs xp xl xd h24 n role h kx h26 m48 I46:=by
 unfold V15a;have hnQ:=(Ya.1 gq).1;have hlen:=hI.len;refine hs.put 0 rfl (o:=0) (vs:=[.int .i64 xr,.bool xs,.int .i64 xp,.int .i64 xl,.slice xd.a xd.n xd.c]) rfl (Yyt 5) fun h95 hs=>?_;have hs:St h h95 (.blk h93.size [.int .i64 xr,.bool xs,.int .i64 xp,.int .i64 xl,.slice xd.a xd.n xd.c] 60::rfL h.size rb h24.size h26.size g role ss fs ars sm0 sl00 Q F M ((Mi.map (updR n o)).take j0) (L++(Mi.take 0).zipIdx.filterMap (limC n o)) A):=by
  rw[cp_same hI hJ,show (Mi.take 0).zipIdx.filterMap (limC n o)=[] from rfl,Yw];exact hs
 refine up_loop (n:=M.length) (fun k h'=>∃(sm sl:Sl) (j:Nat),St h h' (.blk h93.size [.int .i64 xr,.bool xs,.int .i64 xp,.int .i64 xl,.slice xd.a xd.n xd.c] 60::rfL h.size rb h24.size h26.size g role ss fs ars sm sl Q F M ((Mi.map (updR n o)).take j) (L++(Mi.take k).zipIdx.filterMap (limC n o)) A)/\CpJ M n k j) ⟨sm0,sl00,j0,hs,hJ⟩ ?_;clear hs;rintro-k h100 hk ⟨sm,sl,j,hs,hj⟩;have har:=(hs.rl 9 rfl (by decide) (by omega):RL h100 6 ars Mv.cs M).ln;refine⟨ars,hs.rd 4 rfl (i:=2) rfl,sB_intro (fun c=>?_) (fun c=>?_)⟩
 .replace c:=lt_t c;rw[har] at c;refine⟨ars,hs.rd 4 rfl (i:=2) rfl,?_⟩;refine (hs.rl 9 rfl (by decide) (by omega):RL h100 6 ars Mv.cs M).rw.nbI (by omega) (by omega) fun b o' y gy t=>?_;replace gy:M[k]?=some y:=gy;have hym:=Yb gy;obtain⟨z,gz,esk⟩:=hI.at gy;refine⟨y.f,y.send,y.peer,y.label,y.t,y.ag,t,?_⟩;refine hs.newput (vs:=y.cs) rfl rfl fun h112 hs=>?_;refine⟨y.f,hs.rd 0 rfl (i:=0) rfl,sBn (fun c1=>?_) (fun c1=>?_)⟩
  .refine Up.next c (by omega) ⟨sm,sl,j,?_,hj.skip gy c1⟩;rw[lim_snoc gz,limC_no (.inl (by rw[show z.f=y.f from congrArg Prod.fst esk];exact c1)),Option.toList_none,Yw];exact hs.drop 1
  have hzy:Mi[k]?=some y:=hI.up k y gy (by omega);obtain rfl:=hj.hit hMs gy c1;have hsm:sm.n=j:=by
   have:=(hs.rl 2 rfl (by decide) (by rw[Yu];omega):RL h112 6 sm Mv.cs ((Mi.map (updR n o)).take j)).ln;rw[Yu,Yc] at this;omega
  have hrow:((Mi.map (updR n o)).take (j+1))=(Mi.map (updR n o)).take j++[⟨y.f,y.send,y.peer,y.label,y.t,y.send&&o.ag⟩]:=by
   rw[<-updR_row c1 (hag y hym)];exact take_snoc (by rw[Yd,hzy];rfl)
  refine⟨y.send,hs.rd 0 rfl (i:=1) rfl,y.peer,hs.rd 0 rfl (i:=2) rfl,y.label,hs.rd 0 rfl (i:=3) rfl,?_⟩;refine hs.newput (vs:=aC role y.ev) rfl rfl fun h119 hs=>?_;refine⟨_,_,_,_,_,_,_,_,hs.at 8 rfl (o:=0) (n:=8) rfl,ss,hs.rd 6 rfl (i:=0) rfl,?_⟩;have hsn:=(hs.rl 9 rfl (by decide) (by omega):RL h119 1 ss SR.cs Q).ln;refine (hs.rl 9 rfl (by decide) (by omega):RL h119 1 ss SR.cs Q).rw.nbI (by omega) (by omega) fun b o' q' gq' t=>?_;replace gq':Q[n]?=some q':=gq';rw[gq] at gq';cases gq';refine⟨q.s,t.hd,role,y.send,y.peer,y.label,⟨none,0,0⟩,hs.at 0 rfl (o:=0) (n:=5) rfl,?_⟩;refine (refAgain46 g role q.p y.ev q.s o h119 (hg.ext hs.ext) hV (SR.rl hs (Yn _ (Yn _ (Yn _ (rfL_mem hqA))))) ho (hev y hym c1)).mono ?_;rintro _ h139 ⟨E,rfl⟩;have hs:=hs.step E;refine⟨_,rfl,?_⟩;refine hs.put 1 rfl (o:=5) (vs:=[.bool (y.ev.send&&o.ag)]) rfl (by show 5+1<=6;decide) fun h140 hs=>?_;have vb:∀ {hZ:Heap} (sl':Sl),St h hZ (.blk h112.size (aC role y.ev) 60 :: .blk h100.size [.int .i64 y.f,.bool y.send,.int .i64 y.peer,.int .i64 y.label,.int .i64 y.t,.bool (y.send&&o.ag)] 45 :: .blk h93.size [.int .i64 xr,.bool xs,.int .i64 xp,.int .i64 xl,.slice xd.a xd.n xd.c] 60 ::
    rfL h.size rb h24.size h26.size g role ss fs ars sm sl' Q F M ((Mi.map (updR n o)).take j) (L++(Mi.take (j+1)).zipIdx.filterMap (limC n o)) A)->V15b hZ h26 h100 (M.length-j) (Up M.length fun k h'=>∃(sm sl:Sl) (j:Nat),St h h' (.blk h93.size [.int .i64 xr,.bool xs,.int .i64 xp,.int .i64 xl,.slice xd.a xd.n xd.c] 60::rfL h.size rb h24.size h26.size g role ss fs ars sm sl Q F M ((Mi.map (updR n o)).take j) (L++(Mi.take k).zipIdx.filterMap (limC n o)) A)/\CpJ M n k j) j:=by
   intro hZ sl' hs;unfold V15b;refine⟨sm,hs.rd 5 rfl (i:=4) rfl,y.f,y.send,y.peer,y.label,y.t,(y.send&&o.ag),hs.at 1 rfl (o:=0) (n:=6) rfl,fun h167 e167=>?_⟩;refine (hs.appf 5 3 rfl rfl (cs:=Mv.cs) (x:=⟨y.f,y.send,y.peer,y.label,y.t,y.send&&o.ag⟩) app31g e167 rfl rfl (by rw[Yu];omega) (by decide) 4 (by show 4<6;decide) (by decide) fun s' h' hs=>?_).2;refine Up.next c (by omega) ⟨s',sl',j+1,?_,hj.put gy c1⟩;rw[hrow];exact hs.drop 2
  have hno:(o.k<=0\/o.x≠y.ev)->(Mi.take (j+1)).zipIdx.filterMap (limC n o)=(Mi.take j).zipIdx.filterMap (limC n o):=fun hc=>by
   rw[lim_snoc hzy,limC_no (.inr hc),Option.toList_none,Yw]
  refine sBi (fun c2=>?_) (fun c2=>?_)
  .rcases hT with ⟨hk0,hsd,rfl,rfl,rfl,rfl,rfl,rfl⟩ | ⟨_,rfl⟩
   case inr=>omega
   refine⟨xr,o.x.send,o.x.peer,o.x.label,⟨none,0,0⟩,hs.at 2 rfl (o:=0) (n:=5) rfl,xr,y.send,y.peer,y.label,⟨none,0,0⟩,hs.at 0 rfl (o:=0) (n:=5) rfl,?_⟩;refine (sameEv47 _ o.x y.ev h140).mono ?_;rintro _ h153 ⟨rfl,E2⟩;have hs:=hs.step E2;refine⟨_,rfl,sB_intro (fun c3=>?_) (fun c3=>?_)⟩
   .have c3:=Yyn c3;refine⟨sl,hs.rd 5 rfl (i:=5) rfl,sm,hs.rd 5 rfl (i:=4) rfl,fun h156 e156=>?_⟩;rw[hsm] at e156;refine (hs.appf 5 4 rfl rfl (cs:=To.cs) (x:=⟨n,o.k,(j:Int)⟩) app25g e156 rfl rfl (by have:=lim_ln n j o Mi;rw[Yh];omega) (by decide) 5 (by show 5<6;decide) (by decide) fun s' h' hs=>?_).2;refine vb s' ?_;rw[lim_snoc hzy,limC_hit c1 hk0 hsd c3,Option.toList_some,<-Yz];exact hs
   .have c3:=Yyo c3;refine vb sl ?_;rw[hno (.inr c3)];exact hs
  .refine vb sl ?_;rw[hno (.inl (by rcases hT with ⟨hk0,_,rfl,_⟩ | ⟨h0,_⟩<;>omega))];exact hs
 .replace c:=lt_f c;refine hnext h100 sm sl j ?_ (hj.all (by omega));rw[Yj (l:=Mi) (by omega)] at hs;exact hs.drop 1
theorem refRaw15 (g:Gl) (role:Int) (h:Heap) (hg:GI h g) (hM:GNm g.ds):Fn Pz 15 #[g.v,.int .i64 role] h fun v h'=>Ext h h'/\MaR (raw g role) h h' v:=by
 apply vc15 (bs g.nm) g.hr g.hd g.n g.s g.e g.he g.ht;unfold W15;refine (St.refl h).newb fun h9 hs=>?_;refine hs.newb fun h10 hs=>?_;refine⟨_,_,_,_,_,_,_,_,hs.at 1 rfl (o:=0) (n:=8) rfl,?_⟩;refine (refViews43 g role h10 (hg.ext hs.ext) hM).mono ?_;rintro _ h24 hvi;cases hvi with
 | bad hG E=>
  replace hs:=hs.step E;refine⟨⟨none,0,0⟩,⟨none,0,0⟩,⟨none,0,0⟩,_,rfl,?_⟩;refine hs.newput (vs:=sl0) rfl rfl fun h26 hs=>?_;refine sBn (fun _=>?_) (fun c=>absurd c (by decide));refine hs.put 1 rfl (o:=0) (vs:=m0) rfl (by decide) fun h27 hs=>?_;exact⟨0,0,0,⟨none,0,0⟩,⟨none,0,0⟩,⟨none,0,0⟩,hs.at 1 rfl (o:=0) (n:=6) rfl,hs.ext,.err (by unfold raw;rw[if_pos (show ¬(ValidS g/\0<=role/\role<g.rs.length) from hG)]) (by decide)⟩
 | lim hG hv E=>
  replace hs:=hs.step E;refine⟨⟨none,0,0⟩,⟨none,0,0⟩,⟨none,0,0⟩,_,rfl,?_⟩;refine hs.newput (vs:=sl0) rfl rfl fun h26 hs=>?_;refine sBn (fun _=>?_) (fun c=>absurd c (by decide));refine hs.put 1 rfl (o:=0) (vs:=m0) rfl (by decide) fun h27 hs=>?_;exact⟨0,0,0,⟨none,0,0⟩,⟨none,0,0⟩,⟨none,0,0⟩,hs.at 1 rfl (o:=0) (n:=6) rfl,hs.ext,.err (by unfold raw;rw[if_neg (fun c=>c hG),hv]) (by decide)⟩
 | ok hG ss fs ars Q M A hv hsT hA hB hQ hM80=>
  have hV:=hG.1;replace hs:=hs.join hsT;have hraw:raw g role=(if M.length>400 then ((none,6):Option Mch × Int) else match rawL (vwG g role) 0 (Q.map SR.p) M [] with
   | none=>(none,18)
   | some (M',L)=>(some ⟨role,(Q.map SR.p).length,0,(Q.map SR.p).map (fun p=>p g.e.toNat),M',L⟩,0)):=by unfold raw;rw[if_neg (fun c=>c hG),hv];rfl
  refine⟨ss,fs,ars,0,rfl,?_⟩;refine hs.newput (vs:=[.slice ss.a ss.n ss.c,.slice fs.a fs.n fs.c,.slice ars.a ars.n ars.c]) rfl rfl fun h26 hs=>?_;refine sBn (fun c=>absurd rfl c) (fun _=>?_);have har:=(hs.rl 5 rfl (by decide) (by omega):RL h26 6 ars Mv.cs M).ln;have hsn:=(hs.rl 3 rfl (by decide) (by omega):RL h26 1 ss SR.cs Q).ln;refine⟨ars,hs.rd 0 rfl (i:=2) rfl,sBi (fun c=>?_) (fun c=>?_)⟩
  .refine hs.put 1 rfl (o:=0) (vs:=m0) rfl (by decide) fun h27 hs=>?_;exact⟨0,0,0,⟨none,0,0⟩,⟨none,0,0⟩,⟨none,0,0⟩,hs.at 1 rfl (o:=0) (n:=6) rfl,hs.ext,.err (by rw[hraw,if_pos (by omega)]) (by decide)⟩
  rw[if_neg (by omega)] at hraw;obtain⟨hvi,_,_⟩:=views_vi hV hv;have hvr:=(views_vr hv).1;have hag:=views_ag hv;rw[Yc] at hvi;have hev:∀(n:Nat) (q:SR),Q[n]?=some q->∀y∈M,y.f=(n:Int)->y.ev∈evs g.es role q.p:=fun n q gq y hy hf=>by
   obtain⟨r,p,h1,_,h3,h4,_⟩:=hvr.a y hy;have:r=n:=by omega
   subst this;rw[Yd,gq] at h3;rw[<-Yyp h3] at h4;exact h4
  refine⟨ss,hs.rd 0 rfl (i:=0) rfl,fs,hs.rd 0 rfl (i:=1) rfl,?_⟩;refine hs.newput (vs:=[.int .i64 role,.int .i64 (ss.n:Int),.int .i64 0,.slice fs.a fs.n fs.c,.slice none 0 0,.slice none 0 0]) rfl rfl fun h45 hs=>?_;have hs:St h h45 (rfL h.size h9.size h24.size h26.size g role ss fs ars ⟨none,0,0⟩ ⟨none,0,0⟩ Q (Q.map fun q=>q.p g.e.toNat) M (M.take 0) [] A):=(hs.nil_ 63 3).nil_ 45 6;refine up_loop (n:=Q.length) (fun n h'=>∃(sm sl:Sl) (Mi:List Mv) (L:List To) (j:Nat),St h h' (rfL h.size h9.size h24.size h26.size g role ss fs ars sm sl Q (Q.map fun q=>q.p g.e.toNat) M (Mi.take j) L A)/\RwI M n Mi/\CpJ M n 0 j/\L.length<=n*400 /\
   rawL (vwG g role) 0 (Q.map SR.p) M []=rawL (vwG g role) n ((Q.map SR.p).drop n) Mi L) ⟨_,_,M,[],0,hs,⟨rfl,fun k y gy _=>gy⟩,⟨Nat.zero_le _,fun i y gy=>by have:=hvi.mv y (Yb gy);omega⟩,by decide,by rw[List.drop_zero]⟩ ?_
  clear hs;rintro-n h50 hn ⟨sm,sl,Mi,L,j,hs,hI,hJ,hL,hst⟩;have hlen:=hI.len;refine⟨ss,hs.rd 3 rfl (i:=0) rfl,sB_intro (fun c=>?_) (fun c=>?_)⟩
  .replace c:=lt_t c;rw[hsn] at c;obtain⟨q,gq⟩:=get_some (l:=Q) (i:=n) (by omega);have hqm:=Yb gq;have hqA:=hA q hqm;rw[drop_get (l:=Q.map SR.p) (x:=q.p) (by rw[Yd,gq];rfl),rawL] at hst;have qAt:∀ {hZ:Heap} {K:Nat->Nat->Prop},Ext h50 hZ->(∀b o,hc hZ ⟨b,o+Int.toNat (n:Int)*1,none⟩=some (.slice q.s.a q.s.n q.s.c)->K b o)->NB ss.a fun b o=>(0<=(n:Int)/\(n:Int)<(ss.n:Nat))/\K b o:=fun {hZ K} E hK=>by
    refine ((hs.rl 6 rfl (by decide) (by omega):RL h50 1 ss SR.cs Q).rw.ext E).nbI (by omega) (by omega) fun b o x gx t=>hK b o ?_;replace gx:Q[n]?=some x:=gx;rw[gq] at gx;cases gx;exact t.hd
   refine⟨_,_,_,_,_,_,_,_,hs.at 5 rfl (o:=0) (n:=8) rfl,ss,hs.rd 3 rfl (i:=0) rfl,qAt .rfl' fun b o t=>⟨q.s,t,?_⟩⟩;refine (refSends44 g role q.p q.s h50 (hg.ext hs.ext) hM hG (hB q hqm) (SR.rl hs (rfL_mem hqA))).mono ?_;rintro _ h66 ⟨⟨bb,rfl,hbb⟩,E⟩;have hs':=hs.step E;refine⟨bb,rfl,sB_intro (fun c2=>?_) (fun c2=>?_)⟩
   .refine hs'.put 4 rfl (o:=0) (vs:=m0) rfl (by decide) fun h67 hs=>?_;refine⟨0,0,0,⟨none,0,0⟩,⟨none,0,0⟩,⟨none,0,0⟩,hs.at 4 rfl (o:=0) (n:=6) rfl,hs.ext,.err ?_ (by decide)⟩;have hno:vwG g role (elems q.p)=none:=by
     cases hc:vwG g role (elems q.p) with
     | none=>rfl
     | some o=>exact absurd ⟨o,hc⟩ (iff_f hbb (bF c2))
    rw[hraw,hst,hno]
   obtain⟨o,ho⟩:=hbb.1 (bT c2);rw[ho] at hst;refine⟨_,_,_,_,_,_,_,_,hs'.at 5 rfl (o:=0) (n:=8) rfl,ss,hs'.rd 3 rfl (i:=0) rfl,qAt E fun b o' t=>⟨q.s,t,?_⟩⟩;have key:∀ {h94 h93:Heap} {kx xr xp xl:Int} {xs:Bool} {xd:Sl},tmC role o kx xr xs xp xl xd->St h h94 (.blk h93.size [.int .i64 0,.bool false,.int .i64 0,.int .i64 0,.slice none 0 0] 60::rfL h.size h9.size h24.size h26.size g role ss fs ars sm sl Q (Q.map fun q=>q.p g.e.toNat) M (Mi.take j) L A) ->
     V15a h94 h93 xr xs xp xl xd h24 n role h kx h26 (Q.length-n) (Up Q.length fun n h'=>∃(sm sl:Sl) (Mi:List Mv) (L:List To) (j:Nat),St h h' (rfL h.size h9.size h24.size h26.size g role ss fs ars sm sl Q (Q.map fun q=>q.p g.e.toNat) M (Mi.take j) L A)/\RwI M n Mi/\CpJ M n 0 j/\L.length<=n*400 /\
      rawL (vwG g role) 0 (Q.map SR.p) M []=rawL (vwG g role) n ((Q.map SR.p).drop n) Mi L):=fun hT hs3=>
    rawIn15 g role n o q hg hV gq hqA ho hT (by omega) (by omega) hL hvi.so hag (hev n q gq) hI hJ hs3 fun h' sm' sl' j' hs4 hJ4=>
     Up.next c (by omega) ⟨sm',sl',_,_,j',hs4,hI.next o,hJ4,by rw[Yh];have:=limR_len n o Mi;omega,hst⟩
   have hr':RL h66 1 q.s inC (setI q.p):=SR.rl hs' (rfL_mem hqA);refine⟨?_,?_⟩
   .refine (refTimeout45 g role q.p q.s o h66 (hg.ext hs'.ext) hV (hB q hqm) hr' ho).mono ?_;rintro _ h93 ⟨E2,hv2⟩;have hs2:=hs'.step E2;have fin:∀ {kx xr xp xl:Int} {xs:Bool} {xd:Sl},tmC role o kx xr xs xp xl xd->∀h94:Heap,h94=h93.push (.cells ⟨[.int .i64 0,.bool false,.int .i64 0,.int .i64 0,.slice none 0 0]⟩ 60)->(Sm [⟨b,o'+Int.toNat (n:Int)*1,none⟩,⟨h24.size,0,none⟩,⟨h.size,0,none⟩] h93 h94/\V15a h94 h93 xr xs xp xl xd h24 n role h kx h26 (Q.length-n) (Up Q.length fun n h'=>∃(sm sl:Sl) (Mi:List Mv) (L:List To) (j:Nat),St h h' (rfL h.size h9.size h24.size h26.size g role ss fs ars sm sl Q (Q.map fun q=>q.p g.e.toNat) M (Mi.take j) L A)/\RwI M n Mi/\CpJ M n 0 j/\L.length<=n*400 /\
      rawL (vwG g role) 0 (Q.map SR.p) M []=rawL (vwG g role) n ((Q.map SR.p).drop n) Mi L)):=fun hT=>by
     refine (St.refl h93).newb fun h94 hx=>?_;exact⟨hx.ext.sm,key hT ((hs2.join hx).perm List.perm_append_comm)⟩
    rcases hv2 with ⟨hk,hsd,rfl⟩ | ⟨hk,rfl⟩
    .exact⟨o.k,role,o.x.send,o.x.peer,o.x.label,⟨none,0,0⟩,rfl,fin (.inl ⟨hk,hsd,rfl,rfl,rfl,rfl,rfl,rfl⟩)⟩
    .exact⟨0,0,false,0,0,⟨none,0,0⟩,rfl,fin (.inr ⟨hk,rfl⟩)⟩
   .refine (St.refl h66).newb fun h197 hx=>?_;refine⟨hx.ext.sm,?_⟩;have hs2:St h h197 ([.blk h66.size [.int .i64 0,.bool false,.int .i64 0,.int .i64 0,.slice none 0 0] 60]++rfL h.size h9.size h24.size h26.size g role ss fs ars sm sl Q (Q.map fun q=>q.p g.e.toNat) M (Mi.take j) L A):=(hs'.join hx).perm List.perm_append_comm;refine (refTimeout45 g role q.p q.s o h197 (hg.ext hs2.ext) hV (hB q hqm) (hr'.ext hx.ext) ho).mono ?_;rintro _ h205 ⟨E2,hv2⟩;have hs3:=hs2.step E2;rcases hv2 with ⟨hk,hsd,rfl⟩ | ⟨hk,rfl⟩
    .exact⟨o.k,role,o.x.send,o.x.peer,o.x.label,⟨none,0,0⟩,rfl,key (.inl ⟨hk,hsd,rfl,rfl,rfl,rfl,rfl,rfl⟩) hs3⟩
    .exact⟨0,0,false,0,0,⟨none,0,0⟩,rfl,key (.inr ⟨hk,rfl⟩) hs3⟩
  .replace c:=lt_f c;rw[hsn] at c;have hnQ:n=Q.length:=by omega
   subst hnQ;have hjM:=hJ.end_ fun y hy=>(hvi.mv y hy).2.1;have hdrop:(Q.map SR.p).drop Q.length=[]:=List.drop_of_length_le (by rw[Yc];exact Yyt _);rw[hdrop,rawL] at hst;rw[hst] at hraw;refine⟨role,(ss.n:Int),0,fs,sm,sl,hs.at 2 rfl (o:=0) (n:=6) rfl,?_⟩;refine hs.put 4 rfl (o:=0) (vs:=[.int .i64 role,.int .i64 (ss.n:Int),.int .i64 0,.slice fs.a fs.n fs.c,.slice sm.a sm.n sm.c,.slice sl.a sl.n sl.c]) rfl (show 6<=6 by decide) fun h314 hs=>?_;refine⟨role,(ss.n:Int),0,fs,sm,sl,hs.at 4 rfl (o:=0) (n:=6) rfl,hs.ext,?_⟩;rw[hjM,Yj (by omega)] at hs;have hsN:(ss.n:Int)=((Q.map SR.p).length:Nat):=by rw[hsn,Yc]
   rw[hsN];refine MaR.ok (m:=⟨role,(Q.map SR.p).length,0,(Q.map SR.p).map (fun p=>p g.e.toNat),Mi,L⟩) hraw ?_;have hs5:St h h314 ([.sl sm 45 6 (Mi.map Mv.cs),.sl sl 63 3 (L.map To.cs)] ++ .sl fs 4 1 (((Q.map SR.p).map fun p=>p g.e.toNat).map bC)::[]):=by
    refine hs.sub ?_;rw[show ((Q.map SR.p).map fun p=>p g.e.toNat)=Q.map fun q=>q.p g.e.toNat by rw[List.map_map];rfl];refine List.Sublist.cons_cons _ (List.Sublist.cons_cons _ ?_)
    iterate 5 refine List.Sublist.cons _ ?_
    refine List.Sublist.cons_cons _ ?_;exact List.nil_sublist _
   exact hs5.perm List.perm_append_comm
end Go.VC
end
