/- PjM2 PjM3 PjM4 PjM5 PjM6 PjM7 PjM8 PjM9 PjM10 PjM11 PjM12 PjM13 PjM14 PjM15 PjM16 PjKa PjKb PjKc PjKd PjKe PjKf PjKg PjKh PjKj PjKk PjM17 PjM18 PjArgs. -/
import Derived.Test.YtfdhgcladnbdeaaGreatDoorDM09
import Derived.Test.YtfdhgcladnbdeaaGreatDoorRows
set_option linter.all false
set_option maxRecDepth 100000
set_option maxHeartbeats 8000000

section
namespace Go.VC
open Go.Proofs Go.LexS
def arv1 (g:Gl) (i:Nat) (m:Ms):Arv:=⟨(i:Int),1+((pthS g i m).length:Int),m⟩
def arM (g:Gl) (i:Nat) (l:List Ms):List Arv:=(l.filter fun m=>decide (m.p≠(eA g.es i).a)).map (arv1 g i)
def arr1 (g:Gl) (role:Int) (i:Nat):List Arv:=if (eA g.es i).b=role then arM g i (earS g i) else []
def arrS (g:Gl) (role:Int) (s:Nat):List Arv:=(outG g.es (s:Nat)).flatMap (arr1 g role)
theorem arM_snoc {g:Gl} {i:Nat} {l:List Ms} {k:Nat} {m:Ms} (hm:l[k]?=some m):arM g i (l.take (k+1))=arM g i (l.take k)++(if m.p≠(eA g.es i).a then [arv1 g i m] else []):=by
 unfold arM;rw[take_snoc hm,List.filter_append,Ym];congr 1;by_cases e:m.p≠(eA g.es i).a
 .rw[if_pos e,List.filter_cons_of_pos (by rw[decide_eq_true e])];rfl
 .rw[if_neg e,List.filter_cons_of_neg (by rw[decide_eq_false e];decide)];rfl
def anB (ab gb:Nat) (g:Gl) (role:Int) (ho hfi hli hag how har:Sl) (OU:List OuR) (FI:List Fs) (LI:List Lm) (AG OW:List Bool) (AR:List ArR) (R:List It):List It:=
 ([.blk ab (anC g role ho hfi hli hag how har) 250,.sl ho 42 1 ((OU.map Prod.fst).map slC),.sl hfi 259 2 (FI.map Fs.cs),.sl hli 256 4 (LI.map Lm.cs),.sl hag 4 1 (AG.map bC),.sl how 4 1 (OW.map bC),.sl har 268 1 ((AR.map Prod.fst).map slC),.blk gb g.cs 27]++OU.map (nest 3 1 inC)++FI.map fIt)++AR.map (nest 270 4 Arv.cs)++R
theorem anB_eq (ab gb:Nat) (g:Gl) (role:Int) (ho hfi hli hag how har:Sl) (OU:List OuR) (FI:List Fs) (LI:List Lm) (AG OW:List Bool) (AR:List ArR) (R:List It):anB ab gb g role ho hfi hli hag how har OU FI LI AG OW AR R=anA ab gb g role ho hfi hli hag how har OU FI LI AG OW AR++R:=by
 unfold anB anA;simp only[Yz]
structure ArI (g:Gl) (role:Int) (f:Nat->List Arv) (AR:List ArR):Prop where
 l:AR.map Prod.snd=(List.range g.n.toNat).map f
 b:∀q∈AR,∀x∈q.2,0<x.n/\x.n<=1048577
theorem ArI.len {g:Gl} {role:Int} {f:Nat->List Arv} {AR:List ArR} (h:ArI g role f AR):AR.length=g.n.toNat:=by have:=congrArg List.length h.l;simpa using this
theorem early118 {h0 h:Heap} {ab gb:Nat} {g:Gl} {role:Int} {ho hfi hli hag how har:Sl} {OU:List OuR} {FI:List Fs} {LI:List Lm} {AG OW:List Bool} {R:List It} (hs:St h0 h (anB ab gb g role ho hfi hli hag how har OU FI LI AG OW (List.replicate g.n.toNat (nilS,[])) R)) (hg:GI h0 g) (hx:Gx h0) (hV:ValidS g)
  (hO:OU.map Prod.snd=(List.range g.n.toNat).map fun s=>natI (outG g.es (s:Nat))) :
  Fn Pz 118 #[.pointer (some ⟨ab,0,none⟩)] h fun v h'=>v=.tuple ⟨[]⟩/\∃AR:List ArR,St h0 h' (anB ab gb g role ho hfi hli hag how har OU FI LI AG OW AR R)/\ArI g role (arrS g role) AR/\∀q∈AR,q.2.length<=160000:=by
 apply vc118 ⟨ab,0,none⟩;unfold W118;have hN:=hV.num.n;have hM:=hV.num.m;have hE:=hV.num.e;have hen:=hg.e.ln;have hOl:OU.length=g.n.toNat:=by have:=congrArg List.length hO;simpa using this
 refine⟨g.n,hs.rd 0 rfl (i:=3) rfl,?_⟩;refine⟨fun x h' μ=>∃(s:Nat) (AR:List ArR),x=(s:Int)/\μ=g.n.toNat-s/\s<=g.n.toNat/\St h0 h' (anB ab gb g role ho hfi hli hag how har OU FI LI AG OW AR R)/\ArI g role (fun t=>if t<s then arrS g role t else []) AR/\∀q∈AR,q.2.length<=160000,⟨_,0,_,rfl,rfl,Nat.zero_le _,hs,⟨?_,fun q hq x hx=>?_⟩,fun q hq=>?_⟩,?_⟩
 .rw[List.map_replicate];apply Yyr;intro s;rw[List.getElem?_replicate,Yd];by_cases hs:s<g.n.toNat
  .rw[if_pos hs,Yyb hs];rfl
  .rw[if_neg hs,Yl (by rw[Yyd];omega)];rfl
 .rw[List.eq_of_mem_replicate hq] at hx;cases hx
 .rw[List.eq_of_mem_replicate hq];exact Nat.zero_le _
 clear hs;rintro-_ h6 μ ⟨s,AR,rfl,rfl,hsn,hs,hAR,hAl⟩;refine sBi (fun c=>?_) (fun c=>?_)
 .obtain⟨qo,hqo⟩:=get_some (l:=OU) (i:=s) (by omega);have hqo2:qo.2=natI (outG g.es (s:Nat)):=by
   have h1:=map_range_get hO (s:=s) (by omega);rw[Yd,hqo] at h1;exact Yyp h1
  have hol:=outG_len g.es (s:Nat);have hhon:=(hs.len 1 (s:=ho) (e:=42) (n:=1) (rows:=(OU.map Prod.fst).map slC) rfl (by omega)).1;rw[Yc,Yc] at hhon;refine⟨ho,hs.rd 0 rfl (i:=9) rfl,?_⟩;refine (hs.rows 1 rfl (by omega)).nbI (by omega) (by omega) fun b8 o9 d gd u=>?_;replace gd:(OU.map Prod.fst)[s]?=some d:=gd;rw[Yd,hqo] at gd;cases gd;refine⟨qo.1,u.hd,?_⟩;have hmem:∀ {AR F},.sl qo.1 3 1 (qo.2.map inC)∈(F++anB ab gb g role ho hfi hli hag how har OU FI LI AG OW AR R:List It):=fun {AR F}=>by
   refine List.mem_append_right _ ?_;unfold anB;refine List.mem_append_left _ (List.mem_append_left _ (List.mem_append_left _ (List.mem_append_right _ (Yp.2 ⟨qo,Yb hqo,rfl⟩))))
  have hrw0:Rw h6 1 qo.1 (qo.2.map inC):=hs.rwm (hmem (F:=[])) (by omega);have hqn:qo.1.n=(outG g.es (s:Nat)).length:=by have:=hrw0.1;rw[Yc,hqo2] at this;rw[this];exact Yc _
  clear hrw0;refine⟨fun x h' μ=>∃(j:Nat) (AR:List ArR),x=(j:Int)/\μ=qo.1.n-j/\j<=qo.1.n/\St h0 h' (anB ab gb g role ho hfi hli hag how har OU FI LI AG OW AR R)/\ArI g role (fun t=>if t<s then arrS g role t else if t=s then ((outG g.es (s:Nat)).take j).flatMap (arr1 g role) else []) AR/\(∀q∈AR,q.2.length<=160000)/\(((outG g.es (s:Nat)).take j).flatMap (arr1 g role)).length<=400*j,⟨_,0,AR,rfl,rfl,Nat.zero_le _,hs,?_,hAl,Nat.zero_le _⟩,?_⟩
  .refine⟨?_,hAR.b⟩;rw[hAR.l];apply List.map_congr_left;intro t _;by_cases e1:t<s
   .rw[if_pos e1,if_pos e1]
   .rw[if_neg e1,if_neg e1];by_cases e2:t=s
    .rw[if_pos e2];rfl
    .rw[if_neg e2]
  clear hs hAR hAl;rintro-_ h15 μ ⟨j,AR,rfl,rfl,hj,hs,hAR,hAl,hjl⟩;have hrw:Rw h15 1 qo.1 (qo.2.map inC):=hs.rwm (hmem (F:=[])) (by omega);refine sBi (fun c2=>?_) (fun c2=>?_)
  .refine hrw.nbI (by omega) (by omega) fun b16 o17 d gd u2=>?_;rw[hqo2] at gd;obtain⟨k,hk,rfl⟩:=natI_get gd;replace hk:(outG g.es (s:Nat))[j]?=some k:=hk;obtain⟨x0,hx0,hxf⟩:=outG_mem.1 (Yb hk);have hkl:=(Ya.1 hx0).1;have hxe:=eA_get hx0;have step1:∀ {AR':List ArR},ArI g role (fun t=>if t<s then arrS g role t else if t=s then ((outG g.es (s:Nat)).take j).flatMap (arr1 g role)++arr1 g role k else []) AR'->ArI g role (fun t=>if t<s then arrS g role t else if t=s then ((outG g.es (s:Nat)).take (j+1)).flatMap (arr1 g role) else []) AR':=fun {AR'} h9=>by
    rw[take_snoc hk,List.flatMap_append,List.flatMap_singleton];exact h9
   refine⟨(k:Int),u2.hd,g.he,hs.rd 0 rfl (i:=6) rfl,?_⟩;refine (hg.e.rw.ext hs.ext).nbI (by omega) (by omega) fun b20 o21 x gx u3=>?_;replace gx:g.es[k]?=some x:=gx;rw[hx0] at gx;cases gx;refine⟨x0.b,u3.nth 2 rfl,role,hs.rd 0 rfl (i:=8) rfl,sBn (fun c3=>?_) (fun c3=>?_)⟩
   .have e1:arr1 g role k=[]:=by unfold arr1;rw[hxe,if_neg c3]
    refine⟨_,?_,j+1,AR,by rw[w64 (by omega) (by omega)];omega,rfl,by omega,hs,step1 (by rw[e1,Yw];exact hAR),hAl,?_⟩
    .omega
    .rw[take_snoc hk,List.flatMap_append,List.flatMap_singleton,e1,Yw];omega
   .have e1:arr1 g role k=arM g k (earS g k):=by unfold arr1;rw[hxe,if_pos c3]
    refine⟨_,_,_,_,_,_,_,_,hs.at 0 rfl (o:=0) (n:=8) rfl,?_⟩;refine (early162 g k x0 h15 (hg.ext hs.ext) (hx.ext hs.ext) hV hx0).mono ?_;rintro _ h36 ⟨E36,sl,rfl,hso,hel⟩;replace hs:=(hs.join hso).perm (List.perm_append_comm (l₁:=anB ab gb g role ho hfi hli hag how har OU FI LI AG OW AR R) (l₂:=[_]));refine⟨sl,0,rfl,?_⟩;refine⟨fun x h' μ=>∃(l:Nat) (AR:List ArR),x=(l:Int)/\μ=sl.n-l/\l<=sl.n/\St h0 h' (.sl sl 265 2 ((earS g k).map Ms.cs)::anB ab gb g role ho hfi hli hag how har OU FI LI AG OW AR R)/\ArI g role (fun t=>if t<s then arrS g role t else if t=s then ((outG g.es (s:Nat)).take j).flatMap (arr1 g role)++arM g k ((earS g k).take l) else []) AR/\(∀q∈AR,q.2.length<=160000)/\(arM g k ((earS g k).take l)).length<=l,⟨_,0,AR,rfl,rfl,Nat.zero_le _,hs,?_,hAl,Nat.zero_le _⟩,?_⟩
    .have:arM g k ((earS g k).take 0)=[]:=rfl;rw[this,Yw];exact hAR
    clear hs hAR hAl hrw;rintro-_ h41 μ ⟨l,AR,rfl,rfl,hl,hs,hAR,hAl,hml⟩;have hsl:=(hs.len 0 (s:=sl) (e:=265) (n:=2) (rows:=(earS g k).map Ms.cs) rfl (by omega)).1;rw[Yc] at hsl;refine sBi (fun c4=>?_) (fun c4=>?_)
    .refine (hs.rows 0 rfl (by omega)).nbI (by omega) (by omega) fun b42 o43 m gm u4=>?_;replace gm:(earS g k)[l]?=some m:=gm;have hmm:=Yb gm;refine⟨m.p,m.l,u4,?_⟩;refine hs.newput (vs:=m.cs) rfl rfl fun h47 hs=>?_;refine⟨m.p,hs.rd 0 rfl (i:=0) rfl,g.he,hs.rd 2 rfl (i:=6) rfl,?_⟩;refine (hg.e.rw.ext hs.ext).nbI (by omega) (by omega) fun b50 o51 x gx u5=>?_;replace gx:g.es[k]?=some x:=gx;rw[hx0] at gx;cases gx;refine⟨x0.a,u5.nth 1 rfl,sBe (fun c5=>?_) (fun c5=>?_)⟩
     .have e2:arM g k ((earS g k).take (l+1))=arM g k ((earS g k).take l):=by rw[arM_snoc gm,if_neg (by rw[hxe];exact fun h9=>h9 c5),Yw]
      refine⟨_,?_,l+1,AR,by rw[w64 (by omega) (by omega)];omega,rfl,by omega,hs.drop 1,by rw[e2];exact hAR,hAl,by rw[e2];omega⟩;omega
     .have e2:arM g k ((earS g k).take (l+1))=arM g k ((earS g k).take l)++[arv1 g k m]:=by rw[arM_snoc gm,if_pos (by rw[hxe];exact c5)]
      refine⟨_,_,_,_,_,_,_,_,hs.at 2 rfl (o:=0) (n:=8) rfl,m.p,m.l,hs.at 0 rfl (o:=0) (n:=2) rfl,?_⟩;refine (path163 g k x0 m h47 (hg.ext hs.ext) (hx.ext hs.ext) hV hx0 hmm).mono ?_;rintro _ h67 ⟨E67,sp,rfl,hsp,hpl⟩;replace hs:=hs.step E67;have hspn:=(hsp.len 0 (s:=sp) (e:=53) (n:=3) rfl (by omega)).1;rw[Yc] at hspn;have hARl:=hAR.len;obtain⟨q,hq⟩:=get_some (l:=AR) (i:=s) (by omega);have hq2:q.2=((outG g.es (s:Nat)).take j).flatMap (arr1 g role)++arM g k ((earS g k).take l):=by
       have h1:=map_range_get hAR.l (s:=s) (by omega);rw[Yd,hq,if_neg (by omega),if_pos rfl] at h1;exact Yyp h1
      have hql:q.2.length<=400*j+l:=by rw[hq2,Yh];omega
      have hharn:=(hs.len 8 (s:=har) (e:=268) (n:=1) (rows:=(AR.map Prod.fst).map slC) rfl (by omega)).1;rw[Yc,Yc] at hharn;refine⟨sp,0,rfl,har,hs.rd 2 rfl (i:=14) rfl,har,hs.rd 2 rfl (i:=14) rfl,?_⟩;refine (hs.rows 8 rfl (by omega)).nbI (by omega) (by omega) fun b70 o71 d gd u6=>?_;replace gd:(AR.map Prod.fst)[s]?=some d:=gd;rw[Yd,hq] at gd;cases gd;refine⟨q.1,u6.hd,m.p,m.l,hs.at 0 rfl (o:=0) (n:=2) rfl,?_⟩;have hw:IntKind.wrap .i64 (1+(sp.n:Int))=1+((pthS g k m).length:Int):=by rw[w64 (by omega) (by omega),hspn]
      rw[hw];refine hs.newbE fun h75 E75 hs=>⟨E75.sm,?_⟩;have hs:St h0 h75 ((.blk h67.size (arv1 g k m).cs 270 :: .blk h41.size m.cs 265 :: .sl sl 265 2 ((earS g k).map Ms.cs)::([.blk ab (anC g role ho hfi hli hag how har) 250,.sl ho 42 1 ((OU.map Prod.fst).map slC),.sl hfi 259 2 (FI.map Fs.cs),.sl hli 256 4 (LI.map Lm.cs),.sl hag 4 1 (AG.map bC),.sl how 4 1 (OW.map bC),.sl har 268 1 ((AR.map Prod.fst).map slC),.blk gb g.cs 27]++OU.map (nest 3 1 inC)++FI.map fIt))++AR.map (nest 270 4 Arv.cs)++R):=hs;have hqn:=(hs.nestLn hq (by omega)).ln;refine hs.nestAt hq app268 (arv1 g k m) (hs.at 0 rfl (o:=0) (n:=4) rfl) rfl rfl (by omega) (by simp only[maxLen];omega) fun r h77 hr hs3=>⟨?_,?_⟩
      .exact sm_cons (hs.same hs3 3 3 rfl rfl) sm_nil
      .refine hs3.set 9 rfl (by omega) (x:=(s:Int)) (by omega) (by omega) r rfl rfl (fun b78 o79 h80 hs=>?_) rfl;refine⟨_,?_,l+1,AR.set s (r,q.2++[arv1 g k m]),by rw[w64 (by omega) (by omega)];omega,rfl,by omega,?_,⟨?_,fun q' hq' x hx'=>?_⟩,fun q' hq'=>?_,by rw[e2,Yh,Yv];omega⟩
       .omega
       .have hs:=hs.drop 2;unfold anB;rw[List.map_set (f:=Prod.fst)];exact hs
       .rw[List.map_set,hAR.l];refine range_set (by omega) ?_ fun t ht=>?_
        .simp only[Nat.lt_irrefl,if_false,if_true];rw[e2,hq2,Yz]
        .show (if t<s then arrS g role t else if t=s then _ else _)=(if t<s then arrS g role t else if t=s then _ else _);by_cases e3:t<s
         .rw[if_pos e3,if_pos e3]
         .rw[if_neg e3,if_neg e3,if_neg ht,if_neg ht]
       .rcases List.mem_or_eq_of_mem_set hq' with hq' | rfl
        .exact hAR.b q' hq' x hx'
        .rcases Yk.1 hx' with hx' | hx'
         .exact hAR.b q (Yb hq) x hx'
         .rw[Ye] at hx';subst hx';show 0<1+((pthS g k m).length:Int)/\1+((pthS g k m).length:Int)<=1048577;omega
       .rcases List.mem_or_eq_of_mem_set hq' with hq' | rfl
        .exact hAl q' hq'
        .show (q.2++[arv1 g k m]).length<=160000;rw[Yh,Yv];omega
    .rw[Yj (l:=earS g k) (by omega)] at hAR hml;refine⟨_,?_,j+1,AR,by rw[w64 (by omega) (by omega)];omega,rfl,by omega,hs.drop 1,step1 (by rw[e1];exact hAR),hAl,?_⟩
     .omega
     .rw[take_snoc hk,List.flatMap_append,List.flatMap_singleton,Yh,e1];omega
  .rw[Yj (by omega)] at hAR;refine⟨_,?_,s+1,AR,by rw[w64 (by omega) (by omega)];omega,rfl,by omega,hs,⟨?_,hAR.b⟩,hAl⟩
   .omega
   .rw[hAR.l];apply List.map_congr_left;intro t _;by_cases e1:t<s
    .rw[if_pos e1,if_pos (by omega)]
    .rw[if_neg e1];by_cases e2:t=s
     .subst e2;rw[if_pos rfl,if_pos (by omega)];rfl
     .rw[if_neg e2,if_neg (by omega)]
 .refine⟨rfl,AR,hs,⟨?_,hAR.b⟩,hAl⟩;rw[hAR.l];apply List.map_congr_left;intro t ht;rw[List.mem_range] at ht;rw[if_pos (by omega)]
def farI:Int:=1073741824
def dO (O:List (Pr × Nat)) (p:Pr):Int:=(mget O p).elim farI fun k=>(k:Int)
theorem at166 (ob:Nat) (O:List (Pr × Nat)) (p:Pr) (h:Heap) (hm:It.ok h (.mp ob (O.map fun q=>(pV q.1,natV q.2)))) (hk:∀q∈O,kokP q.1) (hn:(O.map Prod.fst).Nodup) (hp:kokP p) :
  Fn Pz 166 #[.map (some ob),.agg ⟨pC p⟩] h fun v h'=>v=.int .i64 (dO O p)/\Ext h h':=by
 apply vc166 (some ob) (p.1:Nat) (p.2:Nat);unfold W166;refine (St.refl h).newb fun h3 hs=>?_;refine⟨_,_,hs.at 0 rfl (o:=0) (n:=2) rfl,?_⟩;refine mlookI (a:=p) M278 (hm.keep fun b hb=>hs.ext.2 b (hm.lt hb)) hk hn hp true ?_;unfold dO;generalize mget O p=o;cases o with
 | none=>exact⟨0,false,rfl,rfl,hs.ext⟩
 | some k=>exact⟨(k:Int),true,rfl,rfl,hs.ext⟩
def okM (D:Pr->Int) (p:Pr) (m:Pmv):Bool:=decide ((plen m:Int)+D (pto m)=D p)
theorem clo169 (ob:Nat) (O:List (Pr × Nat)) (m:Pmv) (p:Pr) (c0 c1:Addr) (h:Heap) (hc0:hc h c0=some (.map (some ob))) (hc1:atC h c1 (pC p)) (hm:It.ok h (.mp ob (O.map fun q=>(pV q.1,natV q.2)))) (hk:∀q∈O,kokP q.1) (hn:(O.map Prod.fst).Nodup) (hp:kokP p) (hq:kokP (pto m)) (e1:((pto m).1:Int)=m.s) (e2:((pto m).2:Int)=m.t) (hb:0<=dO O (pto m)/\dO O (pto m)<=farI) :
  Fn Pz 169 #[.agg ⟨m.cs⟩,.pointer (some c0),.pointer (some c1)] h fun v h'=>v=.bool (okM (dO O) p m)/\Ext h h':=by
 apply vc169 m.x m.y m.s m.t c0 c1;unfold W169;have hpc:pC (pto m)=[.int .i64 m.s,.int .i64 m.t]:=by unfold pC;rw[e1,e2]
 have hpl:=plen_pos m;unfold farI at hb;refine (St.refl h).newb fun h5 hs=>?_;refine⟨_,_,_,_,hs.at 0 rfl (o:=0) (n:=4) rfl,some ob,hc_ext hs.ext hc0,_,_,hs.at 0 rfl (o:=2) (n:=2) rfl,some ob,hc_ext hs.ext hc0,_,_,atC_ext hs.ext hc1,?_⟩;refine (moveLen170 m.x m.y m.s m.t h5).mono ?_;rintro _ h18 ⟨rfl,E1⟩;replace hs:=hs.step E1;refine⟨_,rfl,E1.sm,?_⟩;have h166:=at166 ob O (pto m) h18 (hm.keep fun b hb=>hs.ext.2 b (hm.lt hb)) hk hn hq;rw[hpc] at h166;refine h166.mono ?_;rintro _ h21 ⟨rfl,E2⟩;replace hs:=hs.step E2;refine⟨_,rfl,E2.sm,?_⟩;refine (at166 ob O p h21 (hm.keep fun b hb=>hs.ext.2 b (hm.lt hb)) hk hn hp).mono ?_;rintro _ h24 ⟨rfl,E3⟩;replace hs:=hs.step E3;refine⟨_,rfl,E3.sm,?_,hs.ext⟩;have hw:(if 0<=m.x/\0<=m.y then (2:Int) else 1)=(plen m:Int):=by unfold plen;split<;>rfl
 rw[hw,w64 (by omega) (by omega)];unfold okM;congr 1
theorem cal169:callable Pz 169=true:=by kernel_rfl
theorem index168 (ob:Nat) (O:List (Pr × Nat)) (L:List Pmv) (p:Pr) (c0 c1:Addr) (s:Sl) (h:Heap) (hr:Rw h 4 s (L.map Pmv.cs)) (hl:L.length<=16777216) (hc0:hc h c0=some (.map (some ob))) (hc1:atC h c1 (pC p)) (hm:It.ok h (.mp ob (O.map fun q=>(pV q.1,natV q.2)))) (hk:∀q∈O,kokP q.1) (hn:(O.map Prod.fst).Nodup) (hp:kokP p)
  (hL:∀m∈L,kokP (pto m)/\((pto m).1:Int)=m.s/\((pto m).2:Int)=m.t/\0<=dO O (pto m)/\dO O (pto m)<=farI) :
  Fn Pz 168 #[.slice s.a s.n s.c,.func (.func 169) #[] #[.pointer (some c0),.pointer (some c1)]] h fun v h'=>v=.int .i64 (ixI (okM (dO O) p) L)/\Ext h h':=by
 apply vc168;unfold W168;have hn9:=hr.1;rw[Yc] at hn9;refine⟨fun x h' μ=>∃i:Nat,x=i/\μ=s.n-i/\i<=s.n/\Ext h h'/\∀(j:Nat) (y:Pmv),j<i->L[j]?=some y->okM (dO O) p y=false,⟨_,0,rfl,rfl,Nat.zero_le _,.rfl',fun j y hj=>by omega⟩,?_⟩;rintro-_ h5 μ ⟨i,rfl,rfl,hi,E,hd⟩;refine sBi (fun c=>?_) (fun c=>?_)
 .refine (hr.ext E).nbI (by omega) (by omega) fun b6 o7 q g t=>?_;replace g:L[i]?=some q:=g;obtain⟨q1,q2,q3,q4⟩:=hL q (Yb g);refine⟨q.x,q.y,q.s,q.t,t,?_⟩;show cond (callable Pz 169) _ _;rw[cal169,cond_true];refine (clo169 ob O q p c0 c1 h5 (hc_ext E hc0) (atC_ext E hc1) (hm.keep fun b hb=>E.2 b (hm.lt hb)) hk hn hp q1 q2 q3 q4).mono ?_;rintro _ h16 ⟨rfl,E2⟩;refine⟨_,rfl,sB_intro (fun c1=>⟨?_,E.trans E2⟩) (fun c1=>⟨_,by omega,i+1,by rw[w64 (by omega) (by omega)];omega,rfl,by omega,E.trans E2,fun j y hj hy=>?_⟩)⟩
  .unfold ixI;rw[ix_hit hd g c1]
  .by_cases e1:j=i
   .subst e1;rw[g] at hy;cases hy;exact c1
   .exact hd j y (by omega) hy
 .refine⟨?_,E⟩;unfold ixI;rw[ix_no fun j y hj=>hd j y (by have:=(Ya.1 hj).1;omega) hj]
structure Evn where
 r:Int
 s:Bool
 p:Int
 l:Int
 deriving DecidableEq
def Evn.cs (x:Evn):List Value:=[.int .i64 x.r,.bool x.s,.int .i64 x.p,.int .i64 x.l,.slice none 0 0]
def evn0:Evn:=⟨0,false,0,0⟩
structure Wt where
 k:Int
 r:Int
 f:Sl
 s:Sl
 e:Evn
 o:Evn
def Wt.cs (w:Wt):List Value:=[.int .i64 w.k,.int .i64 w.r,.slice w.f.a w.f.n w.f.c,.slice w.s.a w.s.n w.s.c,.int .i64 w.e.r,.bool w.e.s,.int .i64 w.e.p,.int .i64 w.e.l,.slice none 0 0,.int .i64 w.o.r,.bool w.o.s,.int .i64 w.o.p,.int .i64 w.o.l,.slice none 0 0]
def wt0:Wt:=⟨0,0,nilS,nilS,evn0,evn0⟩
def fullE (role:Int) (x:Ev):Evn:=⟨role,x.send,x.peer,x.label⟩
theorem full172 (b:Nat) (role:Int) (x:Ev) (h:Heap) (hro:hc h ⟨b,8,none⟩=some (.int .i64 role)):Fn Pz 172 #[.pointer (some ⟨b,0,none⟩),.agg ⟨x.cs⟩] h fun v h'=>Ext h h'/\v=.agg ⟨(fullE role x).cs⟩:=by
 apply vc172 ⟨b,0,none⟩ x.send x.peer x.label;unfold W172;refine (St.refl h).newb fun h4 hs=>?_;refine hs.newb fun h5 hs=>?_;refine⟨role,hc_ext hs.ext hro,x.send,hs.rd 1 rfl (i:=0) rfl,x.peer,hs.rd 1 rfl (i:=1) rfl,x.label,hs.rd 1 rfl (i:=2) rfl,?_⟩;refine hs.put 0 rfl (o:=0) (vs:=(fullE role x).cs) rfl (Yyt 5) fun h10 hs=>?_;exact⟨_,_,_,_,nilS,hs.at 0 rfl (o:=0) (n:=5) rfl,hs.ext,rfl⟩
inductive GTo (mv:Pr->List Pmv) (cst:Pr->Option Int) (D:Pr->Int) (p0:Pr):List Pmv->Pr->Prop
 | nil:GTo mv cst D p0 [] p0
 | snoc {ms:List Pmv} {p:Pr} {m:Pmv} {k:Nat}:GTo mv cst D p0 ms p->cst p≠some (D p)->(mv p).findIdx? (okM D p)=some k->(mv p)[k]?=some m->GTo mv cst D p0 (ms++[m]) (pto m)
def facts (g:Gl) (ms:List Pmv):List Ac:=ms.flatMap fun m=>if 0<=m.x then [(eA g.es m.x.toNat).act] else []
def sacts (g:Gl) (ms:List Pmv):List Ac:=ms.flatMap fun m=>if 0<=m.y then [(eA g.es m.y.toNat).act] else []
theorem facts_snoc (g:Gl) (ms:List Pmv) (m:Pmv):facts g (ms++[m])=facts g ms++if 0<=m.x then [(eA g.es m.x.toNat).act] else []:=by
 unfold facts;rw[List.flatMap_append,List.flatMap_singleton]
theorem sacts_snoc (g:Gl) (ms:List Pmv) (m:Pmv):sacts g (ms++[m])=sacts g ms++if 0<=m.y then [(eA g.es m.y.toNat).act] else []:=by
 unfold sacts;rw[List.flatMap_append,List.flatMap_singleton]
theorem facts_len (g:Gl) (ms:List Pmv):(facts g ms).length<=ms.length:=by
 induction ms with
 | nil=>exact Nat.zero_le _
 | cons a l ih=>
  unfold facts at *;rw[List.flatMap_cons,Yh,Yyj];split<;>simp only[Yv,List.length_nil]<;>omega
theorem sacts_len (g:Gl) (ms:List Pmv):(sacts g ms).length<=ms.length:=by
 induction ms with
 | nil=>exact Nat.zero_le _
 | cons a l ih=>
  unfold sacts at *;rw[List.flatMap_cons,Yh,Yyj];split<;>simp only[Yv,List.length_nil]<;>omega
theorem movL_ed {g:Gl} {role:Int} {s t:Nat} {m:Pmv} (hm:m∈movL g.es role s t):(0<=m.x->m.x.toNat<g.es.length)/\(0<=m.y->m.y.toNat<g.es.length):=by
 have hE:∀ {k:Nat} {s:Int},k∈outG g.es s->k<g.es.length:=fun {k s} hk=>by
  obtain⟨x,hx,_⟩:=outG_mem.1 hk;exact (Ya.1 hx).1
 unfold movL at hm;rcases Yk.1 hm with hm | hm
 .rcases Yk.1 hm with hm | hm
  .obtain⟨k,hk,rfl⟩:=Yp.1 hm;have:=hE (List.mem_filter.1 hk).1;exact⟨fun _=>this,fun h9=>absurd h9 (by show ¬(0:Int) <= -1;decide)⟩
  .obtain⟨k,hk,rfl⟩:=Yp.1 hm;have:=hE (List.mem_filter.1 hk).1;exact⟨fun h9=>absurd h9 (by show ¬(0:Int) <= -1;decide),fun _=>this⟩
 .unfold mbL at hm;obtain⟨i,hi,hm⟩:=List.mem_flatMap.1 hm;unfold mb1 at hm;split at hm
  .cases hm
  .obtain⟨k,hk,rfl⟩:=Yp.1 hm;exact⟨fun _=>hE hi,fun _=>hE (List.mem_filter.1 hk).1⟩
theorem St.appgB {h0 h h2:Heap} {L:List It} (hs:St h0 h L) (kb ks:Nat) {cb:Nat} {xs:List Value} {e0 t e:TypeId} {n bytes:Nat} {α:Type} {cs:α->List Value} {so:Sl} {X:List α} {x:α} (hkb:L[kb]?=some (.blk cb xs e0)) (hks:L[ks]?=some (.sl so e n (X.map cs)))
  (hT:appB Pz t e n bytes=true) (e2:h2=h.push (.cells ⟨cs x⟩ e)) (hc:(cs x).length=n) (ho:(cs x).all oneB=true) (hn:X.length<=16777216) (hnb:0<n/\bytes<=128) (f:Nat) (hf:f<xs.length) (hne:ks≠kb) {K:Heap->Prop}
  (hK:∀(s':Sl) (h':Heap),St h0 h' ((L.set ks (.sl s' e n ((X++[x]).map cs))).set kb (.blk cb (splice xs f [.slice s'.a s'.n s'.c]) e0))->K h') :
  App Pz t t (.slice so.a so.n so.c) (.slice (some ⟨h.size,0,none⟩) 1 1) h2 fun s55 h56=>okAt h56 ⟨cb,f,none⟩ 1/\∀h57:Heap,h57=hputs h56 ⟨cb,f,none⟩ 0 [.slice s55.a s55.n s55.c]->K h57:=by
 have hs2:St h0 h2 (.blk h.size (cs x) e::L):=hs.newb (K:=fun h2=>St h0 h2 (.blk h.size (cs x) e::L)) (fun _ h=>h) h2 e2;have hl:=(hs.len ks (s:=so) hks hnb.1).1;rw[Yc] at hl;have hb1:(so.n+1)*bytes<=16777217*128:=Nat.mul_le_mul (by omega) hnb.2;refine hs2.appended (ks+1) (s:=so) hks hT (x:=⟨h.size,0,none⟩) (m:=1) (c:=1) (news:=[cs x]) (hs2.at 0 rfl (o:=0) (n:=n) (by rw[List.drop_zero,<-hc,Yye];simp)) rfl (by intro r hr;rw[Ye.1 hr];exact hc) (by simpa using ho) (by omega) (by simp only[maxLen];omega) fun s55 h56 n55 hs3=>?_;have hs3:St h0 h56 (L.set ks (.sl s55 e n (X.map cs++[cs x]))):=hs3.drop 1;refine hs3.put kb (by rw[Yy hne];exact hkb) (o:=f) (vs:=[.slice s55.a s55.n s55.c]) rfl (by show f+1<=xs.length;omega) fun h57 hs4=>hK s55 h57 ?_;rw[Ym];exact hs4
def bpL (wb pb lb ob:Nat) (kind role:Int) (wf ws:Sl) (p:Pr) (F S:List Ac):List It:=
 [.blk wb (Wt.cs ⟨kind,role,wf,ws,evn0,evn0⟩) 78,.blk pb (pC p) 272,.blk lb [.map (some ob)] 278,.sl wf 53 3 (F.map Ac.cs),.sl ws 53 3 (S.map Ac.cs)]
def fa1 (g:Gl) (x:Int):List Ac:=if 0<=x then [(eA g.es x.toNat).act] else []
theorem step121 {hb h50 h4 h6 h16:Heap} {b ob mb:Nat} {kind role:Int} {wf ws all:Sl} {p:Pr} {F S:List Ac} {g:Gl} {X:An} {A:List Pr} {l:List (Pr × Sl)} {O:List (Pr × Nat)} {k:Nat} {m:Pmv} {m37:Nat} {I35:Heap->Nat->Prop}
  (hs:St hb h50 (bpL h16.size h6.size h4.size ob kind role wf ws p F S)) (hA:AnF hb b g role X) (hV:ValidS g) (hM:PrM hb g role all mb A l) (hmp:It.ok hb (.mp ob (O.map fun q=>(pV q.1,natV q.2)))) (hk:∀q∈O,kokP q.1) (hn:(O.map Prod.fst).Nodup) (hp:p∈A)
  (hix:(mvP g role p).findIdx? (okM (dO O) p)=some k) (gm:(mvP g role p)[k]?=some m) (hF:F.length<=8388608) (hS:S.length<=8388608) (hbd:∀q∈A,0<=dO O q/\dO O q<=farI)
  (hI:∀(h':Heap) (wf' ws':Sl),St hb h' (bpL h16.size h6.size h4.size ob kind role wf' ws' (pto m) (F++fa1 g m.x) (S++fa1 g m.y))->∃m9,m9<m37/\I35 h' m9):V121a h50 h6 (some mb) h4 h16 ⟨b,0,none⟩ m37 I35:=by
 unfold V121a;have hN:=hV.num.n;have hE:=hV.num.m;have hg:=hA.gg.gi;have hen:=hg.e.ln;have hpA:∀p∈A,(p.1:Int)<g.n/\(p.2:Int)<g.n:=fun p hp=>((hM.pr p).1 hp).lt hV;have hkA:∀p∈A,kokP p:=fun p hp=>by have:=hpA p hp;exact⟨by omega,by omega⟩
 have hcl:∀m∈mvP g role p,pto m∈A:=fun m hm=>(hM.pr _).2 (.step ((hM.pr p).1 hp) hm);have hmm:=Yb gm;have hml:=(Ya.1 gm).1;have hlen:(mvP g role p).length<=160800:=movL_len (by omega);have hpt:=pto_lt hV (hpA p hp) hmm;obtain⟨edx,edy⟩:=movL_ed hmm;obtain⟨r,hr1,hr2⟩:=hM.mv p hp;have hrn:r.n=(mvP g role p).length:=hr2.ln;refine⟨_,_,hs.at 1 rfl (o:=0) (n:=2) rfl,?_⟩;refine mlookI (a:=p) (cv:=slV) M202 (hM.mp.keep fun b hb=>hs.ext.2 b (hM.mp.lt hb)) hM.lk hM.ln (hkA p hp) false ?_;rw[hr1];refine⟨r,rfl,?_⟩;refine (index168 ob O (mvP g role p) p ⟨h4.size,0,none⟩ ⟨h6.size,0,none⟩ r h50 (hr2.ext hs.ext).rw (by omega) (hs.rd 2 rfl (i:=0) rfl) (hs.at 1 rfl (o:=0) (n:=2) rfl) (hmp.keep fun b hb=>hs.ext.2 b (hmp.lt hb)) hk hn (hkA p hp) fun m hm=>?_).mono ?_
 .have h1:=pto_lt hV (hpA p hp) hm;have h2:=hbd _ (hcl m hm);exact⟨hkA _ (hcl m hm),h1.2.2.1,h1.2.2.2,h2.1,h2.2⟩
 rintro _ h231 ⟨rfl,E⟩;replace hs:=hs.step E;refine⟨_,rfl,?_⟩;have hk9:ixI (okM (dO O) p) (mvP g role p)=(k:Int):=by unfold ixI;rw[hix]
 rw[hk9];refine (hr2.ext hs.ext).rw.nbI (by omega) (by omega) fun b232 o233 m' gm' t=>?_;replace gm':(mvP g role p)[k]?=some m':=gm';rw[gm] at gm';cases gm';refine⟨m.x,m.y,m.s,m.t,t,?_⟩;refine hs.newput (vs:=m.cs) rfl rfl fun h239 hs=>?_;refine⟨fun h'=>∃wf',St hb h' (.blk h231.size m.cs 276::bpL h16.size h6.size h4.size ob kind role wf' ws p (F++fa1 g m.x) S),?_,?_⟩
 .refine⟨m.x,hs.rd 0 rfl (i:=0) rfl,sBi (fun c=>?_) (fun c=>?_)⟩
  .have hxl:=edx c;refine⟨wf,hs.rd 1 rfl (i:=2) rfl,g.he,hc_ext hs.ext (hA.gg.at_.nth 6 rfl),m.x,hs.rd 0 rfl (i:=0) rfl,?_⟩;refine (hg.e.rw.ext hs.ext).nbI (by omega) (by omega) fun b245 o246 x gx u=>?_;replace gx:g.es[m.x.toNat]?=some x:=gx;have hfe:fa1 g m.x=[x.act]:=by unfold fa1;rw[if_pos c,eA_get gx]
   refine⟨x.a,x.b,x.l,u.sub 1 3 rfl,fun h250 e2=>⟨?_,?_⟩⟩
   .exact (show Ext h239 h250 by rw[e2];exact Ext.push _ _).sm
   .refine hs.appgB 1 4 rfl rfl app48 (x:=x.act) e2 rfl rfl (by omega) (by decide) 2 (by show 2<14;decide) (by decide) fun s' h' hs=>?_;refine⟨s',?_⟩;rw[hfe];exact hs
  .have hfe:fa1 g m.x=[]:=by unfold fa1;rw[if_neg c]
   refine⟨wf,?_⟩;rw[hfe,Yw];exact hs
 .clear hs t;rintro-h254 ⟨wf',hs⟩;have hpc:pC (pto m)=[.int .i64 m.s,.int .i64 m.t]:=by unfold pC;rw[hpt.2.2.1,hpt.2.2.2]
  refine⟨m.y,hs.rd 0 rfl (i:=1) rfl,sBi (fun c=>?_) (fun c=>?_)⟩
  .have hyl:=edy c;refine⟨ws,hs.rd 1 rfl (i:=3) rfl,g.he,hc_ext hs.ext (hA.gg.at_.nth 6 rfl),m.y,hs.rd 0 rfl (i:=1) rfl,?_⟩;refine (hg.e.rw.ext hs.ext).nbI (by omega) (by omega) fun b245 o246 x gx u=>?_;replace gx:g.es[m.y.toNat]?=some x:=gx;have hfe:fa1 g m.y=[x.act]:=by unfold fa1;rw[if_pos c,eA_get gx]
   refine⟨x.a,x.b,x.l,u.sub 1 3 rfl,fun h250 e2=>⟨?_,?_⟩⟩
   .exact (show Ext h254 h250 by rw[e2];exact Ext.push _ _).sm
   .refine hs.appgB 1 5 rfl rfl app48 (x:=x.act) e2 rfl rfl (by omega) (by decide) 3 (by show 3<14;decide) (by decide) fun s' h' hs=>?_;refine⟨m.s,m.t,hs.at 0 rfl (o:=2) (n:=2) rfl,?_⟩;refine hs.put 2 rfl (o:=0) (vs:=[.int .i64 m.s,.int .i64 m.t]) rfl (Yyt 2) fun h' hs=>hI h' wf' s' ?_;have hs:=hs.drop 1;unfold bpL;rw[hfe,hpc];exact hs
  .have hfe:fa1 g m.y=[]:=by unfold fa1;rw[if_neg c]
   refine⟨m.s,m.t,hs.at 0 rfl (o:=2) (n:=2) rfl,?_⟩;refine hs.put 2 rfl (o:=0) (vs:=[.int .i64 m.s,.int .i64 m.t]) rfl (Yyt 2) fun h' hs=>hI h' wf' ws ?_;have hs:=hs.drop 1;unfold bpL;rw[hfe,Yw,hpc];exact hs
theorem step121b {h44 h6 h4 h16:Heap} {mp:Option Nat} {p0:Addr} {m37:Nat} {I35:Heap->Nat->Prop} (h:V121a h44 h6 mp h4 h16 p0 m37 I35):V121b h44 h6 mp h4 h16 p0 m37 I35:=h
theorem rdW {h:Heap} {b:Nat} {w:Wt} (ha:atC h ⟨b,0,none⟩ w.cs) {Q:List Value->Prop} (hq:Q w.cs) :
  ∃x72:Int,∃x73:Int,∃x74:Sl,∃x75:Sl,∃x76:Int,∃x77:Bool,∃x78:Int,∃x79:Int,∃x80:Sl,∃x81:Int,∃x82:Bool,∃x83:Int,∃x84:Int,∃x85:Sl,atC h ⟨b,0,none⟩ [.int .i64 x72,.int .i64 x73,.slice x74.a x74.n x74.c,.slice x75.a x75.n x75.c,.int .i64 x76,.bool x77,.int .i64 x78,.int .i64 x79,.slice x80.a x80.n x80.c,.int .i64 x81,.bool x82,.int .i64 x83,.int .i64 x84,.slice x85.a x85.n x85.c] /\
   Q [.int .i64 x72,.int .i64 x73,.slice x74.a x74.n x74.c,.slice x75.a x75.n x75.c,.int .i64 x76,.bool x77,.int .i64 x78,.int .i64 x79,.slice x80.a x80.n x80.c,.int .i64 x81,.bool x82,.int .i64 x83,.int .i64 x84,.slice x85.a x85.n x85.c]:=
 ⟨w.k,w.r,w.f,w.s,w.e.r,w.e.s,w.e.p,w.e.l,nilS,w.o.r,w.o.s,w.o.p,w.o.l,nilS,ha,hq⟩
theorem cpW {h0 h:Heap} {L:List It} (hs:St h0 h L) (i j:Nat) {wb rb:Nat} {w w0:Wt} {e1 e2:TypeId} (hi:L[i]?=some (.blk wb w.cs e1)) (hj:L[j]?=some (.blk rb w0.cs e2)) {K:Heap->Prop} (hK:∀h',St h0 h' (L.set j (.blk rb w.cs e2))->K h') :
  ∃x72:Int,∃x73:Int,∃x74:Sl,∃x75:Sl,∃x76:Int,∃x77:Bool,∃x78:Int,∃x79:Int,∃x80:Sl,∃x81:Int,∃x82:Bool,∃x83:Int,∃x84:Int,∃x85:Sl,atC h ⟨wb,0,none⟩ [.int .i64 x72,.int .i64 x73,.slice x74.a x74.n x74.c,.slice x75.a x75.n x75.c,.int .i64 x76,.bool x77,.int .i64 x78,.int .i64 x79,.slice x80.a x80.n x80.c,.int .i64 x81,.bool x82,.int .i64 x83,.int .i64 x84,.slice x85.a x85.n x85.c] /\
   (okAt h ⟨rb,0,none⟩ 14/\∀h86:Heap,h86=hputs h ⟨rb,0,none⟩ 0 [.int .i64 x72,.int .i64 x73,.slice x74.a x74.n x74.c,.slice x75.a x75.n x75.c,.int .i64 x76,.bool x77,.int .i64 x78,.int .i64 x79,.slice x80.a x80.n x80.c,.int .i64 x81,.bool x82,.int .i64 x83,.int .i64 x84,.slice x85.a x85.n x85.c]->K h86):=by
 refine⟨w.k,w.r,w.f,w.s,w.e.r,w.e.s,w.e.p,w.e.l,nilS,w.o.r,w.o.s,w.o.p,w.o.l,nilS,hs.at i hi (o:=0) (n:=14) rfl,?_⟩;refine hs.put j hj (o:=0) (vs:=w.cs) rfl (Yyt 14) fun h' hs=>hK h' ?_;exact hs
theorem arvF_mem {K:List Ev}:∀ {L:List Arv} {x:Arv},arvF K L=some x->x∈L/\x.m.ev∈K:=by
 intro L x;unfold arvF
 suffices h:∀(l:List Arv) (b:Option Arv),(∀y,b=some y->y∈L/\y.m.ev∈K)->(∀y∈l,y∈L)->l.foldl (arvS K) b=some x->x∈L/\x.m.ev∈K from h L none (fun y hy=>by cases hy) (fun y hy=>hy)
 intro l
 induction l with
 | nil=>intro b hb _ hx;exact hb x hx
 | cons a l ih=>
  intro b hb hl hx;refine ih (arvS K b a) (fun y hy=>?_) (fun y hy=>hl y (Yn _ hy)) hx;unfold arvS at hy;by_cases hin:a.m.ev∈K
  .rw[if_pos hin] at hy;cases b with
   | none=>cases hy;exact⟨hl _ Yx,hin⟩
   | some z=>
    simp only at hy;split at hy
    .cases hy;exact⟨hl _ Yx,hin⟩
    .exact hb y hy
  .rw[if_neg hin] at hy;exact hb y hy
def ArOk (g:Gl) (X:An):Prop:=∀q∈X.ar,∀y∈q.2,∃(i:Nat) (m:Ms),y=arv1 g i m/\i<g.es.length/\m∈earS g i
def exW (g:Gl) (role kind:Int) (X:An) (F:List Ac) (p:Pr):List Ac × Evn × Evn:=
 if kind=1 then (F,(match X.fi[p.1]?,X.fi[p.2]? with | some fs,some ft=>fullE role ((fs.l.find? (difP ft.l)).getD ⟨false,0,0⟩) | _,_=>evn0),evn0)
 else if kind=4 then (match X.fi[p.2]?,X.ar[p.1]? with | some ft,some q=>(F++[(eA g.es ((arvF ft.l q.2).getD arv0).e.toNat).act]++pthS g ((arvF ft.l q.2).getD arv0).e.toNat ((arvF ft.l q.2).getD arv0).m,fullE role ((arvF ft.l q.2).getD arv0).m.ev,fullE role ⟨false,(eA g.es ((arvF ft.l q.2).getD arv0).e.toNat).a,(eA g.es ((arvF ft.l q.2).getD arv0).e.toNat).l⟩) | _,_=>(F,evn0,evn0))
 else (F,evn0,evn0)
theorem acrows (l:List Ac):∀r∈l.map Ac.cs,r.length=3:=fun r hr=>by obtain⟨x,_,rfl⟩:=Yp.1 hr;rfl
theorem exit121 {h0 h50 h6 h16 h:Heap} {b ob lb:Nat} {kind role:Int} {wf ws:Sl} {p:Pr} {F S:List Ac} {g:Gl} {X:An} {x15:Int} {R:Value->Heap->Prop}
  (hs:St h0 h50 (bpL h16.size h6.size lb ob kind role wf ws p F S++[.blk h.size wt0.cs 78])) (hA:AnF h0 b g role X) (hx:Gx h0) (hV:ValidS g) (hp:(p.1:Int)<g.n/\(p.2:Int)<g.n) (hq0:∀q∈X.ar,∀x∈q.2,0<x.n) (hAr:ArOk g X) (hco:kind=4->(cstS X kind p).isSome=true) (hF:F.length<=8388608)
  (hK:∀(h':Heap) (w:Wt) (L:List It),w.k=kind->w.r=role->w.e=(exW g role kind X F p).2.1->w.o=(exW g role kind X F p).2.2->St h0 h' (.sl w.f 53 3 ((exW g role kind X F p).1.map Ac.cs) :: .sl w.s 53 3 (S.map Ac.cs)::L)->R (.tuple ⟨[.agg ⟨w.cs⟩,.int .i64 x15]⟩) h') :
  V121c kind h50 h6 ⟨b,0,none⟩ h16 h R x15:=by
 unfold V121c;obtain⟨fs,gs⟩:=get_some (l:=X.fi) (i:=p.1) (by rw[hA.nf];omega);obtain⟨ft,gt⟩:=get_some (l:=X.fi) (i:=p.2) (by rw[hA.nf];omega);obtain⟨q,gq⟩:=get_some (l:=X.ar) (i:=p.1) (by rw[hA.nr];omega);have hN:=hV.num.n;have hM:=hV.num.m;have hg:=hA.gg.gi;have hen:=hg.e.ln;have hro:hc h0 ⟨b,8,none⟩=some (Value.int .i64 role):=hA.r.ro;refine sBe (fun c=>?_) (fun c=>sBe (fun c2=>?_) (fun c2=>?_))
 .refine⟨(p.1:Nat),(p.2:Nat),hs.at 1 rfl (o:=0) (n:=2) rfl,?_⟩;refine (differR171 ⟨b,0,none⟩ role X.hfi X.hli X.hag X.how X.fi X.li X.ag X.ow p.1 p.2 fs ft h50 (hA.ext hs.ext).r gs gt).mono ?_;rintro v58 h58 ⟨E,hv⟩;replace hs:=hs.step E;have hex:exW g role kind X F p=(F,fullE role ((fs.l.find? (difP ft.l)).getD ⟨false,0,0⟩),evn0):=by unfold exW;rw[if_pos c,gs,gt]
  rw[hex] at hK;have hv2:v58=Value.tuple ⟨[Value.agg ⟨((fs.l.find? (difP ft.l)).getD ⟨false,0,0⟩).cs⟩,Value.bool (fs.l.find? (difP ft.l)).isSome]⟩:=by rw[hv];cases fs.l.find? (difP ft.l)<;>rfl
  clear hv;subst hv2;generalize (fs.l.find? (difP ft.l)).getD ⟨false,0,0⟩=x at *;refine⟨x.send,x.peer,x.label,_,rfl,?_⟩;refine hs.newput (vs:=x.cs) rfl rfl fun h60 hs=>?_;refine⟨x.send,x.peer,x.label,hs.at 0 rfl (o:=0) (n:=3) rfl,?_⟩;refine (full172 b role x h60 (hc_ext hs.ext hro)).mono ?_;rintro _ h70 ⟨E3,rfl⟩;replace hs:=hs.step E3;refine⟨role,x.send,x.peer,x.label,nilS,rfl,?_⟩;refine hs.put 1 rfl (o:=4) (vs:=(fullE role x).cs) rfl (by show 4+5<=14;decide) fun h71 hs=>?_;refine cpW hs 1 6 (w:=⟨kind,role,wf,ws,fullE role x,evn0⟩) (w0:=wt0) rfl rfl fun h86 hs=>?_;refine rdW (w:=⟨kind,role,wf,ws,fullE role x,evn0⟩) (Q:=fun cs=>R (.tuple ⟨[.agg ⟨cs⟩,.int .i64 x15]⟩) h86) (hs.at 6 rfl (o:=0) (n:=14) rfl) ?_;exact hK h86 ⟨kind,role,wf,ws,fullE role x,evn0⟩ _ rfl rfl rfl rfl (hs.drop 4)
 .refine⟨(p.1:Nat),(p.2:Nat),hs.at 1 rfl (o:=0) (n:=2) rfl,?_⟩;refine (arrives173 b g role X p.1 p.2 ft q h50 (hA.ext hs.ext) gt gq (hq0 q (Yb gq))).mono ?_;rintro _ h109 ⟨E,rfl⟩;replace hs:=hs.step E;obtain⟨y,hy⟩:∃y,arvF ft.l q.2=some y:=by
   have h9:=hco c2;unfold cstS at h9;rw[if_neg c,if_neg (by omega),gt,gq] at h9;simp only[Option.isSome_map] at h9;exact Option.isSome_iff_exists.1 h9
  obtain⟨i,m,rfl,hil,him⟩:=hAr q (Yb gq) y (arvF_mem hy).1;obtain⟨x0,hx0⟩:=get_some hil;have hxe:=eA_get hx0;have hex:exW g role kind X F p=(F++[x0.act]++pthS g i m,fullE role m.ev,fullE role ⟨false,x0.a,x0.l⟩):=by
   have h8:exW g role kind X F p=(F++[(eA g.es ((arvF ft.l q.2).getD arv0).e.toNat).act]++pthS g ((arvF ft.l q.2).getD arv0).e.toNat ((arvF ft.l q.2).getD arv0).m,fullE role ((arvF ft.l q.2).getD arv0).m.ev,fullE role ⟨false,(eA g.es ((arvF ft.l q.2).getD arv0).e.toNat).a,(eA g.es ((arvF ft.l q.2).getD arv0).e.toNat).l⟩):=by
    unfold exW;rw[if_neg c,if_pos c2,gt,gq]
   rw[h8,hy];show (F++[(eA g.es i).act]++pthS g i m,fullE role m.ev,fullE role ⟨false,(eA g.es i).a,(eA g.es i).l⟩)=_;rw[hxe]
  rw[hex] at hK;rw[hy];refine⟨(i:Int),(arv1 g i m).n,m.p,m.l,_,rfl,?_⟩;refine hs.newput (vs:=(arv1 g i m).cs) rfl rfl fun h111 hs=>?_;refine⟨bs g.nm,g.hr,g.hd,g.n,g.s,g.e,g.he,g.ht,(atC_ext hs.ext hA.gg.at_).sub0 8 rfl,?_⟩;refine⟨(i:Int),hs.rd 0 rfl (i:=0) rfl,m.p,m.l,hs.at 0 rfl (o:=2) (n:=2) rfl,?_⟩;refine (path163 g i x0 m h111 (hg.ext hs.ext) (hx.ext hs.ext) hV hx0 him).mono ?_;rintro _ h126 ⟨E3,sp,rfl,hsp,hpl⟩;replace hs:=hs.join hsp;have hspn:=hs.len 7 (s:=sp) (e:=53) (n:=3) rfl (by omega);rw[Yc] at hspn;refine⟨sp,0,rfl,g.he,hc_ext hs.ext (hA.gg.at_.nth 6 rfl),(i:Int),hs.rd 0 rfl (i:=0) rfl,?_⟩;refine (hg.e.rw.ext hs.ext).nbI (by omega) (by omega) fun b20 o21 x gx u3=>?_;replace gx:g.es[i]?=some x:=gx;rw[hx0] at gx;cases gx;refine⟨x0.a,x0.b,x0.l,u3.sub 1 3 rfl,?_⟩;refine hs.newbE fun h134 E4 hs=>⟨E4.sm,?_⟩;refine hs.put 0 rfl (o:=0) (vs:=x0.act.cs) rfl (Yyt 3) fun h135 hs=>?_;refine⟨wf,hs.rd 2 rfl (i:=2) rfl,x0.a,x0.b,x0.l,hs.at 0 rfl (o:=0) (n:=3) rfl,?_⟩;have hwfn:=(hs.len 5 (s:=wf) (e:=53) (n:=3) rfl (by omega)).1;rw[Yc] at hwfn;refine hs.app 5 rfl app48 (m:=1) [x0.act.cs] rfl rfl (fun r hr=>by rw[Ye] at hr;rw[hr];rfl) rfl (by omega) (by simp only[maxLen];omega) fun s141 h142 n141 hs=>?_;refine hs.appRw 5 rfl app48 (hs.rows 8 rfl (by omega)) (acrows _) hspn.2.2 (one_of (fun _=>rfl) _) (by omega) (by simp only[maxLen];omega) fun s143 h144 n143 hs=>?_;refine hs.put 2 rfl (o:=2) (vs:=[.slice s143.a s143.n s143.c]) rfl (by show 2+1<=14;decide) fun h145 hs=>?_;refine⟨m.p,hs.rd 1 rfl (i:=2) rfl,m.l,hs.rd 1 rfl (i:=3) rfl,?_⟩;refine (full172 b role m.ev h145 (hc_ext hs.ext hro)).mono ?_;rintro _ h154 ⟨E5,rfl⟩;replace hs:=hs.step E5;refine⟨role,false,m.p,m.l,nilS,rfl,?_⟩;refine hs.put 2 rfl (o:=4) (vs:=(fullE role m.ev).cs) rfl (by show 4+5<=14;decide) fun h155 hs=>?_;refine⟨x0.a,hs.rd 0 rfl (i:=0) rfl,x0.l,hs.rd 0 rfl (i:=2) rfl,?_⟩;refine (full172 b role ⟨false,x0.a,x0.l⟩ h155 (hc_ext hs.ext hro)).mono ?_;rintro _ h164 ⟨E6,rfl⟩;replace hs:=hs.step E6;refine⟨role,false,x0.a,x0.l,nilS,rfl,?_⟩;refine hs.put 2 rfl (o:=9) (vs:=(fullE role ⟨false,x0.a,x0.l⟩).cs) rfl (by show 9+5<=14;decide) fun h165 hs=>?_;refine cpW hs 2 7 (w:=⟨kind,role,s143,ws,fullE role m.ev,fullE role ⟨false,x0.a,x0.l⟩⟩) (w0:=wt0) rfl rfl fun h86 hs=>?_;refine rdW (w:=⟨kind,role,s143,ws,fullE role m.ev,fullE role ⟨false,x0.a,x0.l⟩⟩) (Q:=fun cs=>R (.tuple ⟨[.agg ⟨cs⟩,.int .i64 x15]⟩) h86) (hs.at 7 rfl (o:=0) (n:=14) rfl) ?_;refine hK h86 ⟨kind,role,s143,ws,fullE role m.ev,fullE role ⟨false,x0.a,x0.l⟩⟩ [.blk h.size (Wt.cs ⟨kind,role,s143,ws,fullE role m.ev,fullE role ⟨false,x0.a,x0.l⟩⟩) 78,.sl sp 53 3 ((pthS g i m).map Ac.cs)] rfl rfl rfl rfl ?_;have hs:=hs.drop 5;simp only[Ym];exact hs
 .refine cpW hs 0 5 (w:=⟨kind,role,wf,ws,evn0,evn0⟩) (w0:=wt0) rfl rfl fun h86 hs=>?_;refine rdW (w:=⟨kind,role,wf,ws,evn0,evn0⟩) (Q:=fun cs=>R (.tuple ⟨[.agg ⟨cs⟩,.int .i64 x15]⟩) h86) (hs.at 5 rfl (o:=0) (n:=14) rfl) ?_;have hex:exW g role kind X F p=(F,evn0,evn0):=by unfold exW;rw[if_neg c,if_neg c2]
  rw[hex] at hK;exact hK h86 ⟨kind,role,wf,ws,evn0,evn0⟩ _ rfl rfl rfl rfl (hs.drop 3)
theorem Dn.lst {mv:Pr->List Pmv} {cst:Pr->Option Nat} {p:Pr} {k:Nat} (hL:Lst mv cst p k) (hne:cst p≠some k):∃m∈mv p,∃n,Lst mv cst (pto m) n/\n+plen m=k:=by
 obtain⟨hd,hl⟩:=hL;cases hd with
 | base h=>exact absurd h hne
 | step hm hn=>exact⟨_,hm,_,⟨hn,fun j hj=>by have:=hl _ (.step hm hj);omega⟩,rfl⟩
theorem Lst.uniq {mv:Pr->List Pmv} {cst:Pr->Option Nat} {p:Pr} {k n:Nat} (h1:Lst mv cst p k) (h2:Lst mv cst p n):k=n:=Nat.le_antisymm (h1.2 n h2.1) (h2.2 k h1.1)
theorem Dn.least {mv:Pr->List Pmv} {cst:Pr->Option Nat} {p:Pr}:∀ {n:Nat},Dn mv cst p n->∃k,Lst mv cst p k:=by
 intro n
 induction n using Nat.strongRecOn with
 | _ n ih=>
  intro hd;by_cases h:∃k,k<n/\Dn mv cst p k
  .obtain⟨k,hk,hd⟩:=h;exact ih k hk hd
  .exact⟨n,hd,fun k hk=>by rcases Nat.lt_or_ge k n with h9 | h9;exact absurd ⟨k,h9,hk⟩ h;exact h9⟩
noncomputable def dL (mv:Pr->List Pmv) (cst:Pr->Option Nat) (p:Pr):Int:=by
 classical exact if h:∃n,Lst mv cst p n then (Classical.choose h:Nat) else farI
theorem dL_of {mv:Pr->List Pmv} {cst:Pr->Option Nat} {p:Pr} {n:Nat} (h:Lst mv cst p n):dL mv cst p=n:=by
 unfold dL;rw[dif_pos ⟨n,h⟩];have:=Lst.uniq (Classical.choose_spec (⟨n,h⟩:∃n,Lst mv cst p n)) h;omega
theorem dL_no {mv:Pr->List Pmv} {cst:Pr->Option Nat} {p:Pr} (h:∀n,¬Lst mv cst p n):dL mv cst p=farI:=by
 unfold dL;rw[dif_neg (fun ⟨n,h9⟩=>h n h9)]
def p00 (g:Gl):Pr:=(g.s.toNat,g.s.toNat)
inductive BpR (g:Gl) (role kind:Int) (X:An) (h h':Heap):Value->Prop
 | far (hn:∀n,¬Lst (mvP g role) (cstN X kind) (p00 g) n) (E:Ext h h'):BpR g role kind X h h' (.tuple ⟨[.agg ⟨wt0.cs⟩,.int .i64 farI]⟩)
 | hit {n:Nat} {D:Pr->Int} {ms:List Pmv} {p:Pr} {w:Wt} {L:List It} (hl:Lst (mvP g role) (cstN X kind) (p00 g) n) (hn:n<=8388608) (hD:∀q,Prr g role q->D q=dL (mvP g role) (cstN X kind) q) (hG:GTo (mvP g role) (cstS X kind) D (p00 g) ms p) (hc:cstS X kind p=some (D p))
   (hk:w.k=kind) (hr:w.r=role) (he:w.e=(exW g role kind X (facts g ms) p).2.1) (ho:w.o=(exW g role kind X (facts g ms) p).2.2)
   (hs:St h h' (.sl w.f 53 3 ((exW g role kind X (facts g ms) p).1.map Ac.cs) :: .sl w.s 53 3 ((sacts g ms).map Ac.cs)::L)):BpR g role kind X h h' (.tuple ⟨[.agg ⟨w.cs⟩,.int .i64 (n:Nat)]⟩)
theorem byPairs121 (b:Nat) (g:Gl) (role:Int) (X:An) (kind:Int) (all:Sl) (mb:Nat) (A:List Pr) (l:List (Pr × Sl)) (CB:Nat) (h:Heap) (hA:AnF h b g role X) (hx:Gx h) (hV:ValidS g) (hM:PrM h g role all mb A l) (hC:CkB X kind A CB) (hAr:ArOk g X) :
  Fn Pz 121 #[.pointer (some ⟨b,0,none⟩),.int .i64 kind,.slice all.a all.n all.c,.map (some mb)] h fun v h'=>BpR g role kind X h h' v:=by
 apply vc121 ⟨b,0,none⟩ kind all (some mb);unfold W121;have hN:=hV.num.n;have hE:=hV.num.m;have hpA:∀p∈A,(p.1:Int)<g.n/\(p.2:Int)<g.n:=fun p hp=>((hM.pr p).1 hp).lt hV;have hkA:∀p∈A,kokP p:=fun p hp=>by have:=hpA p hp;exact⟨by omega,by omega⟩
 have hcl:∀p∈A,∀m∈mvP g role p,pto m∈A:=fun p hp m hm=>(hM.pr _).2 (.step ((hM.pr p).1 hp) hm);have h00:p00 g∈A:=(hM.pr _).2 .start;have hpc0:pC (p00 g)=[.int .i64 g.s,.int .i64 g.s]:=by unfold pC p00;simp only;rw[Int.toNat_of_nonneg (by omega)]
 have hA4:A.length<=40000:=by
  have h1:=grid_le (n:=g.n.toNat) hM.nd fun p hp=>by have:=hpA p hp;exact⟨by omega,by omega⟩
  have h2:g.n.toNat*g.n.toNat<=200*200:=Nat.mul_le_mul (by omega) (by omega);omega
 have hCb:=hC.b;refine (St.refl h).newb fun h1 hs1=>?_;refine (left165 b g role X kind all mb A l CB h1 (hA.ext hs1.ext) hV (hM.ext hs1.ext) hC).mono ?_;rintro _ h4 ⟨E4,ob,O,rfl,hmp,hk,hn,hO⟩;refine⟨some ob,rfl,?_⟩;have hs4:=hs1.step E4;have hX4:=hs4.ext;have hA4':=hA.ext hX4;have hM4:=hM.ext hX4;have hbd:∀q∈A,0<=dO O q/\dO O q<=farI:=fun q hq=>by
  have h9:=fun k=>(hO q hq k).2;unfold dO farI;cases hg:mget O q with
  | none=>exact⟨by decide,by decide⟩
  | some k=>have:=h9 k hg;simp only[Option.elim];omega
 have hdL:∀q,Prr g role q->dO O q=dL (mvP g role) (cstN X kind) q:=fun q hq=>by
  have hqA:=(hM.pr q).2 hq;unfold dO;cases hg:mget O q with
  | none=>exact (dL_no fun n hn=>by rw[((hO q hqA n).1).2 hn] at hg;cases hg).symm
  | some k=>exact (dL_of (((hO q hqA k).1).1 hg)).symm
 refine (St.refl h4).newput (vs:=[.map (some ob)]) rfl rfl fun h6 hs=>?_;refine⟨g.s,hc_ext hs.ext (hA4'.gg.at_.nth 4 rfl),g.s,hc_ext hs.ext (hA4'.gg.at_.nth 4 rfl),?_⟩;refine hs.newbE fun h9 E9 hs=>⟨E9.sm,?_⟩;refine hs.put 0 rfl (o:=0) (vs:=[.int .i64 g.s,.int .i64 g.s]) rfl (Yyt 2) fun h10 hs=>?_;refine⟨some ob,hs.rd 1 rfl (i:=0) rfl,g.s,g.s,hs.at 0 rfl (o:=0) (n:=2) rfl,?_⟩;have h166:=at166 ob O (p00 g) h10 (hmp.keep fun b hb=>hs.ext.2 b (hmp.lt hb)) hk hn (hkA _ h00);rw[hpc0] at h166;refine h166.mono ?_;rintro _ h16 ⟨rfl,E16⟩;replace hs:=hs.step E16;refine⟨_,rfl,sBe (fun c=>?_) (fun c=>?_)⟩
 .have hs:=hs4.join hs;refine hs.put 0 rfl (o:=0) (vs:=wt0.cs) rfl (Yyt 14) fun h17 hs=>?_;refine rdW (w:=wt0) (Q:=fun cs=>BpR g role kind X h h17 (.tuple ⟨[.agg ⟨cs⟩,.int .i64 1073741824]⟩)) (hs.at 0 rfl (o:=0) (n:=14) rfl) ?_;refine .far (fun n hl=>?_) hs.ext;have h9:=(hO _ h00 n).1.2 hl;have h10:=(hO _ h00 n).2 h9;unfold dO at c;rw[h9] at c;simp only[Option.elim] at c;omega
 .obtain⟨k0,hk0⟩:∃k0,mget O (p00 g)=some k0:=by
   cases hg:mget O (p00 g) with
   | none=>unfold dO at c;rw[hg] at c;exact absurd rfl c
   | some k=>exact⟨k,rfl⟩
  have hd0:dO O (p00 g)=(k0:Int):=by unfold dO;rw[hk0];rfl
  have hk0b:=(hO _ h00 k0).2 hk0;refine⟨role,hc_ext hs.ext hA4'.r.ro,?_⟩;refine hs.newput (vs:=(Wt.cs ⟨kind,role,nilS,nilS,evn0,evn0⟩)) rfl rfl fun h34 hs=>?_;have hs:=((hs.nil_ 53 3).nil_ 53 3).perm (List.perm_append_comm (l₁:=[_,_]) (l₂:=[_,_,_]));refine⟨fun h' μ=>∃(ms:List Pmv) (p:Pr) (wf ws:Sl) (k:Nat),μ=k/\mget O p=some k/\p∈A/\St h4 h' (bpL h16.size h6.size h4.size ob kind role wf ws p (facts g ms) (sacts g ms))/\GTo (mvP g role) (cstS X kind) (dO O) (p00 g) ms p/\ms.length+k<=8388608,⟨_,[],p00 g,nilS,nilS,k0,rfl,hk0,h00,?_,.nil,?_⟩,?_⟩
  .unfold bpL;rw[hpc0];exact hs
  .simp only[List.length_nil];omega
  clear hs;rintro-h38 k ⟨ms,p,wf,ws,k9,rfl,hkp,hpm,hs,hG,hml⟩;have hdp:dO O p=(k:Int):=by unfold dO;rw[hkp];rfl
  have hkb:=(hO p hpm k).2 hkp;have hLp:=(hO p hpm k).1.1 hkp;have hfl:=facts_len g ms;have hsl:=sacts_len g ms
  have stp:∀(h50:Heap),St h4 h50 (bpL h16.size h6.size h4.size ob kind role wf ws p (facts g ms) (sacts g ms))->cstS X kind p≠some (dO O p) ->
    V121a h50 h6 (some mb) h4 h16 ⟨b,0,none⟩ k (fun h' μ=>∃(ms:List Pmv) (p:Pr) (wf ws:Sl) (k:Nat),μ=k/\mget O p=some k/\p∈A/\St h4 h' (bpL h16.size h6.size h4.size ob kind role wf ws p (facts g ms) (sacts g ms))/\GTo (mvP g role) (cstS X kind) (dO O) (p00 g) ms p/\ms.length+k<=8388608):=by
   intro h50 hs hne;have hne2:cstN X kind p≠some k:=fun e=>by
    unfold cstN at e;cases hcs:cstS X kind p with
    | none=>rw[hcs] at e;cases e
    | some c=>
     have h1:=hC.c p hpm c hcs;rw[hcs] at e;simp only[Option.map_some,Option.some.injEq] at e;exact hne (by rw[hcs,hdp];congr 1;omega)
   obtain⟨m,hm,n,hn9,hnk⟩:=Dn.lst hLp hne2;have hmA:=hcl p hpm m hm;have hgn:=(hO _ hmA n).1.2 hn9;have hok:okM (dO O) p m=true:=by
    unfold okM;refine decide_eq_true ?_;rw[hdp];have:dO O (pto m)=(n:Int):=by unfold dO;rw[hgn];rfl
    omega
   cases hix:(mvP g role p).findIdx? (okM (dO O) p) with
   | none=>
    rw[List.findIdx?_eq_none_iff] at hix;rw[hix m hm] at hok;cases hok
   | some k2=>
    obtain⟨h1,h2,_⟩:=List.findIdx?_eq_some_iff_getElem.1 hix;have gm2:(mvP g role p)[k2]?=some (mvP g role p)[k2]:=Yi h1;generalize hm2:(mvP g role p)[k2]=m2 at *;have h3:(plen m2:Int)+dO O (pto m2)=dO O p:=Yyn h2;have hm2A:=hcl p hpm m2 (Yb gm2);have hpl:=plen_pos m2;obtain⟨k',hk'⟩:∃k',mget O (pto m2)=some k':=by
     cases hg:mget O (pto m2) with
     | none=>unfold dO at h3;rw[hg,hkp] at h3;simp only[Option.elim,farI] at h3;omega
     | some k'=>exact⟨k',rfl⟩
    have hd':dO O (pto m2)=(k':Int):=by unfold dO;rw[hk'];rfl
    refine step121 hs hA4' hV hM4 hmp hk hn hpm hix gm2 (by omega) (by omega) hbd fun h' wf' ws' hs=>⟨k',by omega,ms++[m2],pto m2,wf',ws',k',rfl,hk',hm2A,?_,.snoc hG hne hix gm2,by rw[Yh,Yv];omega⟩;rw[facts_snoc,sacts_snoc];exact hs
  refine⟨(p.1:Nat),(p.2:Nat),hs.at 1 rfl (o:=0) (n:=2) rfl,?_⟩;refine (costs167 b g role X kind p h38 (hA4'.ext hs.ext) (hpA p hpm) hC.a).mono ?_;rintro _ h44 ⟨E,rfl⟩;replace hs:=hs.step E;refine⟨_,_,rfl,sB_intro (fun c1=>?_) (fun c1=>?_)⟩
  .obtain⟨n1,hn1⟩:=Option.isSome_iff_exists.1 c1;refine⟨some ob,hs.rd 2 rfl (i:=0) rfl,(p.1:Nat),(p.2:Nat),hs.at 1 rfl (o:=0) (n:=2) rfl,?_⟩;refine (at166 ob O p h44 (hmp.keep fun b hb=>hs.ext.2 b (hmp.lt hb)) hk hn (hkA p hpm)).mono ?_;rintro _ h50 ⟨rfl,E50⟩;replace hs:=hs.step E50;refine⟨_,rfl,sBe (fun c2=>?_) (fun c2=>?_)⟩
   .have hcp:cstS X kind p=some (dO O p):=by rw[hn1] at c2 ⊢;exact congrArg some c2
    have hs:=(hs4.join hs).perm (List.perm_append_comm (l₁:=[_]) (l₂:=bpL h16.size h6.size h4.size ob kind role wf ws p (facts g ms) (sacts g ms)));refine exit121 hs hA hx hV (hpA p hpm) hC.a hAr (fun _=>c1) (by omega) fun h' w L h1 h2 h3 h4 hs=>?_;rw[hd0];exact .hit ((hO _ h00 k0).1.1 hk0) (by omega) hdL hG hcp h1 h2 h3 h4 hs
   .exact stp h50 hs fun e=>c2 (by rw[e];rfl)
  .exact step121b (stp h44 hs fun e=>by rw[e] at c1;cases c1)
end Go.VC
end

section
namespace Go.VC
inductive DnS (es:List Ed) (MX:Nat->Prop):Nat->Nat->Prop
 | base {s:Nat}:MX s->DnS es MX s 0
 | step {s:Nat} {e:Ed} {n:Nat}:e∈es->e.f=(s:Int)->DnS es MX e.t.toNat n->DnS es MX s (n+1)
def LstS (es:List Ed) (MX:Nat->Prop) (s n:Nat):Prop:=DnS es MX s n/\∀k,DnS es MX s k->n<=k
def farN:Int:=1073741824
structure BfQ (g:Gl) (MX:Nat->Prop) (LF:List Int) (Q:List Nat) (hd c:Nat):Prop where
 ln:LF.length=g.n.toNat
 d:∀(s:Nat) x,LF[s]?=some x->x=farN\/(∃k:Nat,x=(k:Int)/\DnS g.es MX s k/\k<=c)
 q:∀s:Nat,s∈Q ↔ ∃x,LF[s]?=some x/\x≠farN
 nd:Q.Nodup
 m:∀s:Nat,s<g.n.toNat->MX s->LF[s]?=some 0
 so:∀(i j s t:Nat) x y,i<=j->Q[i]?=some s->Q[j]?=some t->LF[s]?=some x->LF[t]?=some y->x<=y
 hi:∀(s t:Nat) x y,Q[hd]?=some s->t∈Q->LF[s]?=some x->LF[t]?=some y->y<=x+1
 cl:∀(i t:Nat) x,i<hd->Q[i]?=some t->LF[t]?=some x->∀e∈g.es,e.t=(t:Int)->∃y,LF[e.f.toNat]?=some y/\y<=x+1
theorem BfQ.lt {g:Gl} {MX:Nat->Prop} {LF:List Int} {Q:List Nat} {hd c:Nat} (h:BfQ g MX LF Q hd c) {s:Nat} (hs:s∈Q):s<g.n.toNat:=by
 obtain⟨x,hx,_⟩:=(h.q s).1 hs;have:=(Ya.1 hx).1;rw[h.ln] at this;exact this
theorem BfQ.len {g:Gl} {MX:Nat->Prop} {LF:List Int} {Q:List Nat} {hd c:Nat} (h:BfQ g MX LF Q hd c):Q.length<=g.n.toNat:=by
 have:=List.Nodup.length_le_of_subset h.nd (l₂:=List.range g.n.toNat) fun s hs=>List.mem_range.2 (h.lt hs)
 rwa [Yyd] at this
theorem BfQ.val {g:Gl} {MX:Nat->Prop} {LF:List Int} {Q:List Nat} {hd c:Nat} (h:BfQ g MX LF Q hd c) {s:Nat} (hs:s∈Q):∃k:Nat,LF[s]?=some (k:Int)/\DnS g.es MX s k/\k<=c:=by
 obtain⟨x,hx,hf⟩:=(h.q s).1 hs;rcases h.d s x hx with rfl | ⟨k,rfl,hk⟩
 .exact absurd rfl hf
 .exact⟨k,hx,hk⟩
theorem BfQ.weak {g:Gl} {MX:Nat->Prop} {LF:List Int} {Q:List Nat} {hd c c':Nat} (h:BfQ g MX LF Q hd c) (hc:c<=c'):BfQ g MX LF Q hd c':=
 { h with d:=fun s x hx=>(h.d s x hx).imp id fun ⟨k,h1,h2,h3⟩=>⟨k,h1,h2,by omega⟩ }
theorem BfQ.put {g:Gl} {MX:Nat->Prop} {LF:List Int} {Q:List Nat} {hd c:Nat} (h:BfQ g MX LF Q hd c) {t s:Nat} {e:Ed} {x:Nat} (ht:Q[hd]?=some t) (hx:LF[t]?=some (x:Int)) (hxc:x+1<=c) (hc:c<=100000) (he:e∈g.es) (h1:e.t=(t:Int)) (h2:e.f=(s:Int)) (hs:LF[s]?=some farN) :
  BfQ g MX (LF.set s ((x:Int)+1)) (Q++[s]) hd c:=by
 have hsl:=(Ya.1 hs).1;have hno:s∉Q:=fun hm=>by
  obtain⟨y,hy,hf⟩:=(h.q s).1 hm;rw[hs] at hy;cases hy;exact hf rfl
 have hdt:DnS g.es MX t x:=by
  rcases h.d t _ hx with h9 | ⟨k,h9,h10,_⟩
  .exact absurd h9 (by unfold farN;omega)
  .have:k=x:=by omega
   subst this;exact h10
 have old:∀ {u:Nat},u∈Q->(LF.set s ((x:Int)+1))[u]?=LF[u]?:=fun {u} hu=>Yy (fun e=>hno (by rw[e];exact hu));have hdl:=(Ya.1 ht).1;refine⟨by rw[Yyh];exact h.ln,fun u y hu=>?_,fun u=>?_,?_,fun u hu hm=>?_,fun i j a b y z hij ha hb hy hz=>?_,fun a b y z ha hb hy hz=>?_,fun i a y hi ha hy e' he' ht'=>?_⟩
 .by_cases e1:s=u
  .subst e1;rw[Yq hsl] at hu;cases hu;refine .inr ⟨x+1,by omega,.step he h2 ?_,hxc⟩;rw[h1,Ys];exact hdt
  .rw[Yy e1] at hu;exact h.d u y hu
 .rw[Yk,Ye];by_cases e1:s=u
  .subst e1;rw[Yq hsl];exact iff_of_true (.inr rfl) ⟨_,rfl,by unfold farN;omega⟩
  .rw[Yy e1,<-h.q u];exact⟨fun h9=>h9.elim id fun e=>absurd e.symm e1,.inl⟩
 .rw[List.nodup_append];exact⟨h.nd,by simp,fun a ha b hb e=>by rw[Ye] at hb;subst hb;subst e;exact hno ha⟩
 .have h9:=h.m u hu hm;rw[Yy (fun e=>by subst e;rw[hs] at h9;exact absurd (Yyp h9) (by unfold farN;decide))];exact h9
 .rcases Nat.lt_or_ge j Q.length with hj | hj
  .rw[Yyi hj] at hb;rw[Yyi (by omega)] at ha;rw[old (Yb ha)] at hy;rw[old (Yb hb)] at hz;exact h.so i j a b y z hij ha hb hy hz
  .have hjl:=(Ya.1 hb).1;rw[Yh,Yv] at hjl;rw[Yyc hj,show j-Q.length=0 by omega] at hb;cases hb;rw[Yq hsl] at hz;cases hz;rcases Nat.lt_or_ge i Q.length with hi | hi
   .rw[Yyi hi] at ha;rw[old (Yb ha)] at hy;exact h.hi t a _ y ht (Yb ha) hx hy
   .rw[Yyc hi,show i-Q.length=0 by omega] at ha;cases ha;rw[Yq hsl] at hy;cases hy;omega
 .rw[Yyi hdl,ht] at ha;cases ha;rw[old (Yb ht),hx] at hy;cases hy;rcases Yk.1 hb with hb | hb
  .rw[old hb] at hz;exact h.hi t b _ z ht hb hx hz
  .rw[Ye] at hb;subst hb;rw[Yq hsl] at hz;cases hz;omega
 .rw[Yyi (by omega)] at ha;rw[old (Yb ha)] at hy;obtain⟨z,h3,h4⟩:=h.cl i a y hi ha hy e' he' ht';have hyb:y<=c:=by
   obtain⟨k,h5,_,h6⟩:=h.val (Yb ha);rw[h5] at hy;cases hy;omega
  refine⟨z,?_,h4⟩;rw[Yy (fun e=>by rw[<-e,hs] at h3;cases h3;unfold farN at h4;omega)];exact h3
theorem BfQ.next {g:Gl} {MX:Nat->Prop} {LF:List Int} {Q:List Nat} {hd c:Nat} (h:BfQ g MX LF Q hd c) {t x:Nat} (ht:Q[hd]?=some t) (hx:LF[t]?=some (x:Int)) (hcl:∀e∈g.es,e.t=(t:Int)->∃y,LF[e.f.toNat]?=some y/\y<=x+1):BfQ g MX LF Q (hd+1) c:=by
 refine⟨h.ln,h.d,h.q,h.nd,h.m,h.so,fun s u y z hs hu hy hz=>?_,fun i a y hi ha hy e he het=>?_⟩
 .have h1:=h.hi t u _ z ht hu hx hz;have h2:=h.so hd (hd+1) t s _ y (by omega) ht hs hx hy;omega
 .by_cases e1:i=hd
  .subst e1;rw[ht] at ha;cases ha;rw[hx] at hy;cases hy;exact hcl e he het
  .exact h.cl i a y (by omega) ha hy e he het
theorem BfQ.fin {g:Gl} {MX:Nat->Prop} {LF:List Int} {Q:List Nat} {c:Nat} (h:BfQ g MX LF Q Q.length c) (hc:c<=100000) (hE:∀e∈g.es,0<=e.f/\0<=e.t/\e.t<g.n) {s k:Nat} (hd:DnS g.es MX s k):s<g.n.toNat->∃y:Nat,LF[s]?=some (y:Int)/\y<=k/\y<=c/\DnS g.es MX s y:=by
 induction hd with
 | base hm=>exact fun hs=>⟨0,h.m _ hs hm,Yyt _,Nat.zero_le _,.base hm⟩
 | @step s e k he hf hd ih=>
  intro hs;have hE1:=hE e he;obtain⟨y,h1,h2,h2',h3⟩:=ih (by omega);have hq:e.t.toNat∈Q:=(h.q _).2 ⟨_,h1,fun e9=>by unfold farN at e9;omega⟩;obtain⟨i,hi⟩:=Yf.1 hq;obtain⟨z,h4,h5⟩:=h.cl i e.t.toNat _ (Ya.1 hi).1 hi h1 e he (by omega);have hfs:e.f.toNat=s:=by omega
  rw[hfs] at h4;rcases h.d s z h4 with rfl | ⟨k',rfl,h6,h7⟩
  .unfold farN at h5;omega
  .exact⟨k',h4,by omega,h7,h6⟩
theorem BfQ.lst {g:Gl} {MX:Nat->Prop} {LF:List Int} {Q:List Nat} {c:Nat} (h:BfQ g MX LF Q Q.length c) (hc:c<=100000) (hE:∀e∈g.es,0<=e.f/\0<=e.t/\e.t<g.n) {s:Nat} (hs:s<g.n.toNat) :
  (LF[s]?=some farN/\∀k,¬DnS g.es MX s k)\/∃k:Nat,LF[s]?=some (k:Int)/\LstS g.es MX s k/\k<=c:=by
 obtain⟨x,hx⟩:=get_some (l:=LF) (i:=s) (by rw[h.ln];exact hs);rcases h.d s x hx with rfl | ⟨k,rfl,h1,h2⟩
 .refine .inl ⟨hx,fun k hk=>?_⟩;obtain⟨y,h3,_,h4,_⟩:=h.fin hc hE hk hs;rw[hx] at h3;have:=Yyp h3;unfold farN at this;omega
 .refine .inr ⟨k,hx,⟨h1,fun j hj=>?_⟩,h2⟩;obtain⟨y,h3,h4,_⟩:=h.fin hc hE hj hs;rw[hx] at h3;have:=Yyp h3;omega
theorem LstS.next {es:List Ed} {MX:Nat->Prop} {s k:Nat} (h:LstS es MX s (k+1)):∃e∈es,e.f=(s:Int)/\LstS es MX e.t.toNat k:=by
 obtain⟨hd,hl⟩:=h;cases hd with
 | step he hf hn=>exact⟨_,he,hf,hn,fun j hj=>by have:=hl _ (.step he hf hj);omega⟩
theorem LstS.uniq {es:List Ed} {MX:Nat->Prop} {s k n:Nat} (h1:LstS es MX s k) (h2:LstS es MX s n):k=n:=Nat.le_antisymm (h1.2 n h2.1) (h2.2 k h1.1)
theorem BfQ.init {g:Gl} {MX:Nat->Prop} {LF:List Int} {Q:List Nat} {c:Nat} (ln:LF.length=g.n.toNat) (h:∀s:Nat,s<g.n.toNat->(MX s/\LF[s]?=some 0/\s∈Q)\/(¬MX s/\LF[s]?=some farN/\s∉Q)) (hq:∀s∈Q,s<g.n.toNat) (nd:Q.Nodup):BfQ g MX LF Q 0 c:=by
 have hv:∀ {s:Nat} {x:Int},s∈Q->LF[s]?=some x->x=0:=fun {s x} hs hx=>by
  rcases h s (hq s hs) with ⟨_,h2,_⟩ | ⟨_,_,h2⟩
  .rw[hx] at h2;exact Yyp h2
  .exact absurd hs h2
 refine⟨ln,fun s x hx=>?_,fun s=>?_,nd,fun s hs hm=>?_,fun i j s t x y _ hs ht hx hy=>?_,fun s t x y hs ht hx hy=>?_,fun i t x hi=>by omega⟩
 .have hs:s<g.n.toNat:=by rw[<-ln];exact (Ya.1 hx).1
  rcases h s hs with ⟨h1,h2,_⟩ | ⟨_,h2,_⟩
  .rw[hx] at h2;exact .inr ⟨0,Yyp h2,.base h1,Nat.zero_le _⟩
  .rw[hx] at h2;exact .inl (Yyp h2)
 .constructor
  .intro hs;rcases h s (hq s hs) with ⟨_,h2,_⟩ | ⟨_,_,h2⟩
   .exact⟨0,h2,by unfold farN;decide⟩
   .exact absurd hs h2
  .rintro⟨x,hx,hf⟩;have hs:s<g.n.toNat:=by rw[<-ln];exact (Ya.1 hx).1
   rcases h s hs with ⟨_,_,h2⟩ | ⟨_,h2,_⟩
   .exact h2
   .rw[hx] at h2;exact absurd (Yyp h2) hf
 .rcases h s hs with ⟨_,h2,_⟩ | ⟨h2,_,_⟩
  .exact h2
  .exact absurd hm h2
 .rw[hv (Yb hs) hx,hv (Yb ht) hy];exact Int.le_refl _
 .rw[hv (Yb hs) hx,hv ht hy];omega
end Go.VC
end

section
namespace Go.VC
open Go.Proofs Go.LexS
theorem clo176 (b:Nat) (g:Gl) (k:Nat) (x:Ed) (LF:List Int) (lf:Sl) (s:Nat) (x10 x15:Int) (c0 c1 c2:Addr) (h:Heap) (h0:hc h c0=some (Value.slice lf.a lf.n lf.c)) (h1:hc h c1=some (Value.pointer (some ⟨b,0,none⟩))) (h2:hc h c2=some (Value.int .i64 (s:Nat)))
  (hro:hc h ⟨b,6,none⟩=some (Value.slice g.he.a g.he.n g.he.c)) (hg:GI h g) (hr:Rw h 1 lf (LF.map inC)) (hk:g.es[k]?=some x) (ht:0<=x.t) (hx:LF[x.t.toNat]?=some x10) (hs:LF[s]?=some x15) (hb:0<=x15/\x15<=farN) :
  Fn Pz 176 #[.int .i64 (k:Nat),.pointer (some c0),.pointer (some c1),.pointer (some c2)] h fun v h'=>v=.bool (decide (x10=x15-1))/\Ext h h':=by
 apply vc176 (k:Nat) c0 c1 c2;unfold W176;have hkl:=(Ya.1 hk).1;have hxl:=(Ya.1 hx).1;have hsl:=(Ya.1 hs).1;have hen:=hg.e.ln;have hln:=hr.ln;unfold farN at hb;refine⟨lf,h0,some ⟨b,0,none⟩,h1,?_⟩;show ∃x4:Sl,hc h ⟨b,0+6,none⟩=some (.slice x4.a x4.n x4.c)/\_;refine⟨g.he,hro,?_⟩;refine hg.e.rw.nbI (by omega) (by omega) fun b5 o6 x' gx u=>?_;replace gx:g.es[k]?=some x':=gx;rw[hk] at gx;cases gx;refine⟨x.t,u.nth 4 rfl,?_⟩;refine hr.nbI (by omega) (by omega) fun b8 o9 d gd u2=>?_;rw[hx] at gd;cases gd;refine⟨x10,u2.hd,lf,h0,(s:Nat),h2,?_⟩;refine hr.nbI (by omega) (by omega) fun b13 o14 d gd u3=>?_;replace gd:LF[s]?=some d:=gd;rw[hs] at gd;cases gd;refine⟨x15,u3.hd,?_,.rfl'⟩;rw[w64 (by omega) (by omega)];congr 1
theorem cal176:callable Pz 176=true:=by kernel_rfl
def okE (LF:List Int) (es:List Ed) (x15:Int) (k:Nat):Bool:=decide (LF.getD (eA es k).t.toNat 0=x15-1)
theorem index175 (b:Nat) (g:Gl) (L:List Nat) (LF:List Int) (lf:Sl) (s:Nat) (x15:Int) (c0 c1 c2:Addr) (sl:Sl) (h:Heap) (hL:Rw h 1 sl ((natI L).map inC)) (hl:L.length<=1048576) (h0:hc h c0=some (Value.slice lf.a lf.n lf.c)) (h1:hc h c1=some (Value.pointer (some ⟨b,0,none⟩))) (h2:hc h c2=some (Value.int .i64 (s:Nat)))
  (hro:hc h ⟨b,6,none⟩=some (Value.slice g.he.a g.he.n g.he.c)) (hg:GI h g) (hr:Rw h 1 lf (LF.map inC)) (hk:∀k∈L,k<g.es.length) (hE:∀x∈g.es,0<=x.t/\x.t.toNat<LF.length) (hs:LF[s]?=some x15) (hb:0<=x15/\x15<=farN) :
  Fn Pz 175 #[.slice sl.a sl.n sl.c,.func (.func 176) #[] #[.pointer (some c0),.pointer (some c1),.pointer (some c2)]] h fun v h'=>v=.int .i64 (ixI (okE LF g.es x15) L)/\Ext h h':=by
 apply vc175;unfold W175;have hn9:sl.n=L.length:=by have:=hL.ln;unfold natI at this;rwa [Yc] at this
 refine⟨fun x h' μ=>∃i:Nat,x=i/\μ=sl.n-i/\i<=sl.n/\Ext h h'/\∀(j:Nat) (y:Nat),j<i->L[j]?=some y->okE LF g.es x15 y=false,⟨_,0,rfl,rfl,Nat.zero_le _,.rfl',fun j y hj=>by omega⟩,?_⟩;rintro-_ h5 μ ⟨i,rfl,rfl,hi,E,hd⟩;refine sBi (fun c=>?_) (fun c=>?_)
 .refine (hL.ext E).nbI (by omega) (by omega) fun b6 o7 d gd t=>?_;obtain⟨k,gk,rfl⟩:=natI_get gd;replace gk:L[i]?=some k:=gk;obtain⟨x,hx⟩:=get_some (hk k (Yb gk));have hxE:=hE x (Yb hx);obtain⟨x10,hx10⟩:=get_some hxE.2;refine⟨(k:Int),t.hd,?_⟩;show cond (callable Pz 176) _ _;rw[cal176,cond_true];refine (clo176 b g k x LF lf s x10 x15 c0 c1 c2 h5 (hc_ext E h0) (hc_ext E h1) (hc_ext E h2) (hc_ext E hro) (hg.ext E) (hr.ext E) hx hxE.1 hx10 hs hb).mono ?_;rintro _ h16 ⟨rfl,E2⟩;have hok:okE LF g.es x15 k=decide (x10=x15-1):=by
   unfold okE;rw[eA_get hx,Yo,hx10];rfl
  refine⟨_,rfl,sB_intro (fun c1=>⟨?_,E.trans E2⟩) (fun c1=>⟨_,by omega,i+1,by rw[w64 (by omega) (by omega)];omega,rfl,by omega,E.trans E2,fun j y hj hy=>?_⟩)⟩
  .unfold ixI;rw[ix_hit hd gk (by rw[hok];exact c1)]
  .by_cases e1:j=i
   .subst e1;rw[gk] at hy;cases hy;rw[hok];exact c1
   .exact hd j y (by omega) hy
 .refine⟨?_,E⟩;unfold ixI;rw[ix_no fun j y hj=>hd j y (by have:=(Ya.1 hj).1;omega) hj]
theorem cal178:callable Pz 178=true:=by kernel_rfl
theorem index177 (L:List Ev) (s:Sl) (h:Heap) (hr:Rw h 3 s (L.map Ev.cs)) (hl:L.length<=1048576) :
  Fn Pz 177 #[.slice s.a s.n s.c,.func (.func 178) #[] #[]] h fun v h'=>v=.int .i64 (ixI (fun x=>!x.send) L)/\Ext h h':=by
 apply vc177;unfold W177;have hn:=hr.ln;refine⟨fun x h' μ=>∃i:Nat,x=i/\μ=s.n-i/\i<=s.n/\Ext h h'/\∀(j:Nat) (y:Ev),j<i->L[j]?=some y->(!y.send)=false,⟨_,0,rfl,rfl,Nat.zero_le _,.rfl',fun j y hj=>by omega⟩,?_⟩;rintro-_ h5 μ ⟨i,rfl,rfl,hi,E,hd⟩;refine sBi (fun c=>?_) (fun c=>?_)
 .refine (hr.ext E).nbI (by omega) (by omega) fun b6 o7 q g t=>?_;replace g:L[i]?=some q:=g;refine⟨q.send,q.peer,q.label,t,?_⟩;show cond (callable Pz 178) _ _;rw[cal178,cond_true];show Fn Pz 178 #[.agg ⟨q.cs⟩] h5 _;apply vc178 q.send q.peer q.label;unfold W178;refine (St.refl h5).newb fun h4 hs=>?_;refine⟨q.send,hs.rd 0 rfl (i:=0) rfl,?_⟩;refine⟨_,rfl,sB_intro (fun c1=>⟨?_,E.trans hs.ext⟩) (fun c1=>⟨_,by omega,i+1,by rw[w64 (by omega) (by omega)];omega,rfl,by omega,E.trans hs.ext,fun j y hj hy=>?_⟩)⟩
  .unfold ixI;rw[ix_hit hd g c1]
  .by_cases e1:j=i
   .subst e1;rw[g] at hy;cases hy;exact c1
   .exact hd j y (by omega) hy
 .refine⟨?_,E⟩;unfold ixI;rw[ix_no fun j y hj=>hd j y (by have:=(Ya.1 hj).1;omega) hj]
abbrev InR:=Sl × List Int
def mxL (ib lb h1b hb b:Nat) (IN:List InR) (lf:Sl) (LF:List Int) (q:Sl) (Q:List Nat):List It:=
 [.sl q 3 1 ((natI Q).map inC),.blk lb [.slice lf.a lf.n lf.c] 42,.sl lf 3 1 (LF.map inC),.blk ib ((IN.map Prod.fst).map slV) 42,.blk h1b wt0.cs 78,.blk hb [.pointer (some ⟨b,0,none⟩)] 198]++IN.map (nest 3 1 inC)++[]
def mxB (f:Fs):Bool:=sndAt f.l 0&&(f.b || !sndAt f.l (f.l.length-1))
def MXx (X:An) (s:Nat):Prop:=∃f,X.fi[s]?=some f/\mxB f=true
def inJ (es:List Ed) (t:Nat):List Int:=(es.filter fun e=>decide (e.t=(t:Int))).map (·.f)
theorem inJ_mem {es:List Ed} {t:Nat} {p:Int}:p∈inJ es t ↔ ∃e∈es,e.t=(t:Int)/\e.f=p:=by
 unfold inJ;rw[Yp];constructor
 .rintro⟨e,he,rfl⟩;rw[List.mem_filter,decide_eq_true_eq] at he;exact⟨e,he.1,he.2,rfl⟩
 .rintro⟨e,he,h1,rfl⟩;exact⟨e,List.mem_filter.2 ⟨he,decide_eq_true h1⟩,rfl⟩
theorem inJ_len (es:List Ed) (t:Nat):(inJ es t).length<=es.length:=by unfold inJ;rw[Yc];exact List.length_filter_le _ _
theorem made3c (n:Nat):madeL Pz 3 n=((List.replicate n (0:Int)).map inC).flatten:=by
 rw[made3,List.map_replicate]
 induction n with
 | zero=>rfl
 | succ n ih=>rw[List.replicate_succ,List.replicate_succ,Yyu,<-ih];rfl
theorem made42v (n:Nat):madeL Pz 42 n=(List.replicate n nilS).map slV:=by
 rw[made42s,List.map_replicate,List.map_replicate]
 induction n with
 | zero=>rfl
 | succ n ih=>rw[List.replicate_succ,List.replicate_succ,Yyu,ih];rfl
theorem inC_rows (L:List Int):∀r∈L.map inC,r.length=1:=fun r hr=>by obtain⟨x,_,rfl⟩:=Yp.1 hr;rfl
structure IN_ (g:Gl) (IN:List InR):Prop where
 e:IN.map Prod.snd=(List.range g.n.toNat).map (inJ g.es)
theorem IN_.len {g:Gl} {IN:List InR} (h:IN_ g IN):IN.length=g.n.toNat:=by have:=congrArg List.length h.e;simpa using this
theorem IN_.at {g:Gl} {IN:List InR} (h:IN_ g IN) {t:Nat} (ht:t<g.n.toNat):∃q,IN[t]?=some q/\q.2=inJ g.es t:=by
 obtain⟨q,hq⟩:=get_some (l:=IN) (i:=t) (by rw[h.len];exact ht);have h1:=map_range_get h.e ht;rw[Yd,hq] at h1;exact⟨q,hq,Yyp h1⟩
theorem bfs122 {h h46 h2 h10 h1:Heap} {b:Nat} {g:Gl} {X:An} {IN:List InR} {lf q0:Sl} {LF0:List Int} {Q0:List Nat} {R:Value->Heap->Prop}
  (hs:St h h46 (mxL h2.size h10.size h1.size h.size b IN lf LF0 q0 Q0)) (hV:ValidS g) (hI:IN_ g IN) (hB:BfQ g (MXx X) LF0 Q0 0 0)
  (hK:∀(h75:Heap) (q:Sl) (LF:List Int) (Q:List Nat),St h h75 (mxL h2.size h10.size h1.size h.size b IN lf LF q Q)->BfQ g (MXx X) LF Q Q.length 1000->V122b h75 h h10 h1 R) :
  V122p q0 h46 g.n h2 h10 h h1 R:=by
 unfold V122p;have hN:=hV.num.n;have hM:=hV.num.m;have hE:=hV.num.e;refine⟨fun q x h' μ=>∃(hd:Nat) (LF:List Int) (Q:List Nat),x=(hd:Int)/\μ=g.n.toNat-hd/\hd<=Q.length/\St h h' (mxL h2.size h10.size h1.size h.size b IN lf LF q Q)/\BfQ g (MXx X) LF Q hd hd,⟨_,0,LF0,Q0,rfl,rfl,Nat.zero_le _,hs,hB⟩,?_⟩;clear hs hB;rintro-q _ h75 μ ⟨hd,LF,Q,rfl,rfl,hhd,hs,hB⟩;have hQl:=hB.len;have hqn:=(hs.len 0 (s:=q) (e:=3) (n:=1) (rows:=(natI Q).map inC) rfl (by omega)).1;rw[Yc] at hqn;have hqn2:q.n=Q.length:=by unfold natI at hqn;rwa [Yc] at hqn
 refine sBi (fun c=>?_) (fun c=>?_)
 .refine (hs.rows 0 rfl (by omega)).nbI (by omega) (by omega) fun b76 o77 d gd u=>?_;obtain⟨t,ht,rfl⟩:=natI_get gd;replace ht:Q[hd]?=some t:=ht;have htm:=Yb ht;have htn:=hB.lt htm;obtain⟨xx,hxx,_,hxc⟩:=hB.val htm;obtain⟨qi,hqi,hqi2⟩:=hI.at htn;refine⟨(t:Int),u.hd,⟨by omega,by omega⟩,?_⟩;rw[show 0+Int.toNat ((t:Nat):Int)*1=t by omega];refine⟨qi.1,hs.rd 3 rfl (by rw[Yd,Yd,hqi];rfl),?_⟩;have hmem:∀ {LF:List Int} {q:Sl} {Q:List Nat},.sl qi.1 3 1 (qi.2.map inC)∈mxL h2.size h10.size h1.size h.size b IN lf LF q Q:=fun {LF q Q}=>by
   unfold mxL;exact List.mem_append_left _ (List.mem_append_right _ (Yp.2 ⟨qi,Yb hqi,rfl⟩))
  have hin:qi.1.n=(inJ g.es t).length:=by
   have:=(hs.rwm hmem (by omega)).1
   rwa [Yc,hqi2] at this
  have hil:=inJ_len g.es t;unfold V122q;refine⟨fun q x h' μ=>∃(j:Nat) (LF:List Int) (Q:List Nat),x=(j:Int)/\μ=qi.1.n-j/\j<=qi.1.n/\St h h' (mxL h2.size h10.size h1.size h.size b IN lf LF q Q)/\BfQ g (MXx X) LF Q hd (hd+1)/\Q[hd]?=some t/\LF[t]?=some (xx:Int)/\∀(i:Nat) p,i<j->(inJ g.es t)[i]?=some p->∃y,LF[p.toNat]?=some y/\y<=xx+1,⟨_,0,LF,Q,rfl,rfl,Nat.zero_le _,hs,hB.weak (by omega),ht,hxx,fun i p hi=>by omega⟩,?_⟩;clear hs hB hQl hqn hqn2 hhd hxx ht htm gd u c;rintro-q h85 h85' μ ⟨j,LF,Q,rfl,rfl,hj,hs,hB,ht,hxx,hpr⟩;have hQl:=hB.len;have hdl:=(Ya.1 ht).1;have hqn:=(hs.len 0 (s:=q) (e:=3) (n:=1) (rows:=(natI Q).map inC) rfl (by omega)).1;rw[Yc] at hqn;have hqn2:q.n=Q.length:=by unfold natI at hqn;rwa [Yc] at hqn
  have hlfn:=(hs.len 2 (s:=lf) (e:=3) (n:=1) (rows:=LF.map inC) rfl (by omega)).1;rw[Yc,hB.ln] at hlfn;refine sBi (fun c=>?_) (fun c=>?_)
  .refine (hs.rwm hmem (by omega)).nbI (by omega) (by omega) fun b86 o87 p gp u=>?_;rw[hqi2] at gp;replace gp:(inJ g.es t)[j]?=some p:=gp;obtain⟨e,he,het,hef⟩:=inJ_mem.1 (Yb gp);have hxe:=hE e he;unfold EdS at hxe;obtain⟨p',hp'⟩:∃p':Nat,p=(p':Int):=⟨p.toNat,by omega⟩;subst hp';refine⟨(p':Int),u.hd,lf,hs.rd 1 rfl (i:=0) rfl,?_⟩;refine (hs.rows 2 rfl (by omega)).nbI (by omega) (by omega) fun b90 o91 v gv u2=>?_;replace gv:LF[p']?=some v:=gv;refine⟨v,u2.hd,sBe (fun c2=>?_) (fun c2=>?_)⟩
   .have hvf:LF[p']?=some farN:=by rw[gv,c2];rfl
    refine⟨lf,hs.rd 1 rfl (i:=0) rfl,lf,hs.rd 1 rfl (i:=0) rfl,?_⟩;refine (hs.rows 0 rfl (by omega)).nbI (by omega) (by omega) fun b95 o96 d gd u3=>?_;obtain⟨t',ht',rfl⟩:=natI_get gd;replace ht':Q[hd]?=some t':=ht';rw[ht] at ht';cases ht';refine⟨(t:Int),u3.hd,?_⟩;refine (hs.rows 2 rfl (by omega)).nbI (by omega) (by omega) fun b98 o99 w gw u4=>?_;replace gw:LF[t]?=some w:=gw;rw[hxx] at gw;cases gw;refine⟨(xx:Int),u4.hd,?_⟩;rw[w64 (by omega) (by omega)];refine hs.set 2 rfl (by omega) (x:=(p':Int)) (by omega) (by omega) ((xx:Int)+1) rfl rfl (fun b17 o18 h103 hs=>?_) rfl;have hs:St h h103 (mxL h2.size h10.size h1.size h.size b IN lf (LF.set p' ((xx:Int)+1)) q Q):=hs;refine hs.app 0 rfl app42 (m:=1) [inC (p':Int)] rfl rfl (fun r hr=>by rw[Ye] at hr;rw[hr];rfl) rfl (by omega) (by simp only[maxLen];omega) fun s105 h106 n105 hs=>?_;have hB':=hB.put ht hxx (by omega) (by omega) he het (s:=p') hef hvf;refine⟨_,?_,j+1,_,Q++[p'],by rw[w64 (by omega) (by omega)];omega,rfl,by omega,?_,hB',by rw[Yyi hdl];exact ht,?_,fun i r hi gr=>?_⟩
    .omega
    .have e9:(natI (Q++[p'])).map inC=(natI Q).map inC++[inC (p':Int)]:=by rw[natI_snoc,Ym];rfl
     unfold mxL;rw[e9];exact hs
    .rw[Yy (fun e9=>by subst e9;rw[hvf] at hxx;have:=Yyp hxx;unfold farN at this;omega)];exact hxx
    .by_cases e9:i=j
     .subst e9;rw[gp] at gr;cases gr;refine⟨(xx:Int)+1,?_,Int.le_refl _⟩;rw[Ys];exact Yq (by rw[hB.ln];omega)
     .obtain⟨y,h5,h6⟩:=hpr i r (by omega) gr;by_cases e10:p'=r.toNat
      .rw[<-e10,hvf] at h5;have:=Yyp h5;unfold farN at this;omega
      .exact⟨y,by rw[Yy e10];exact h5,h6⟩
   .refine⟨_,?_,j+1,LF,Q,by rw[w64 (by omega) (by omega)];omega,rfl,by omega,hs,hB,ht,hxx,fun i r hi gr=>?_⟩
    .omega
    .by_cases e9:i=j
     .subst e9;rw[gp] at gr;cases gr;refine⟨v,gv,hB.hi t p' _ v ht ((hB.q p').2 ⟨v,gv,c2⟩) hxx gv⟩
     .exact hpr i r (by omega) gr
  .refine⟨_,?_,hd+1,LF,Q,by rw[w64 (by omega) (by omega)];omega,rfl,by omega,hs,hB.next ht hxx fun e he het=>?_⟩
   .omega
   .obtain⟨i,hi⟩:=Yf.1 (inJ_mem.2 ⟨e,he,het,rfl⟩);have:=(Ya.1 hi).1;exact hpr i e.f (by omega) hi
 .have:hd=Q.length:=by omega
  subst this;exact hK h75 q LF Q hs (hB.weak (by omega))
theorem NC_i {a:Addr} {F:Addr->Prop} (h:F a):NC (some a) F:=h
theorem lop122 {h h20 h2 h10 h1:Heap} {b:Nat} {g:Gl} {role:Int} {X:An} {IN:List InR} {lf:Sl} {R:Value->Heap->Prop}
  (hs:St h h20 (mxL h2.size h10.size h1.size h.size b IN lf (List.replicate g.n.toNat 0) nilS [])) (hA:AnF h b g role X) (hV:ValidS g) (hI:IN_ g IN)
  (hK:∀(h75:Heap) (q:Sl) (LF:List Int) (Q:List Nat),St h h75 (mxL h2.size h10.size h1.size h.size b IN lf LF q Q)->BfQ g (MXx X) LF Q Q.length 1000->V122b h75 h h10 h1 R) :
  V122l h20 h10 h g.n h2 h1 R:=by
 unfold V122l;have hN:=hV.num.n;have hlfn:=(hs.len 2 (s:=lf) (e:=3) (n:=1) (rows:=(List.replicate g.n.toNat 0).map inC) rfl (by omega)).1;rw[Yc,Yg] at hlfn;refine⟨lf,hs.rd 1 rfl (i:=0) rfl,?_⟩;refine⟨fun q x h' μ=>∃(s:Nat) (LF:List Int) (Q:List Nat),x=(s:Int)/\μ=g.n.toNat-s/\s<=g.n.toNat/\St h h' (mxL h2.size h10.size h1.size h.size b IN lf LF q Q)/\LF.length=g.n.toNat/\(∀t:Nat,t<s->(MXx X t/\LF[t]?=some 0/\t∈Q)\/(¬MXx X t/\LF[t]?=some farN/\t∉Q))/\(∀t∈Q,t<s)/\Q.Nodup/\Q.length<=s,
  ⟨_,0,_,[],rfl,rfl,Nat.zero_le _,hs,by rw[Yg],fun t ht=>by omega,fun t ht=>(by cases ht),.nil,Yyt _⟩,?_⟩
 clear hs;rintro-q _ h46 μ ⟨s,LF,Q,rfl,rfl,hsn,hs,hLl,hall,hQs,hnd,hQl⟩;refine sBi (fun c=>?_) (fun c=>?_)
 .refine⟨lf,hs.rd 1 rfl (i:=0) rfl,?_⟩;refine hs.set 2 rfl (by omega) (x:=(s:Int)) (by omega) (by omega) farN rfl rfl (fun b17 o18 h50 hs=>?_) rfl;have hs:St h h50 (mxL h2.size h10.size h1.size h.size b IN lf (LF.set s farN) q Q):=hs;refine⟨some ⟨b,0,none⟩,hs.rd 5 rfl (i:=0) rfl,NC_i ⟨X.hfi,hc_ext hs.ext hA.r.f,?_⟩⟩;have hfn:=hA.r.rf.ln;have hnf:=hA.nf;refine (hA.r.rf.ext hs.ext).rw.nbI (by omega) (by omega) fun b54 o55 f gf u=>?_;replace gf:X.fi[s]?=some f:=gf;have hfl:=hA.r.re f (Yb gf);refine⟨f.s,f.b,u,?_⟩;refine (mixed174 f.l f.b f.s h50 (hfl.ext hs.ext).rw hfl.sm).mono ?_;rintro _ h60 ⟨rfl,E⟩;replace hs:=hs.step E;have hmx:MXx X s ↔ mxB f=true:=⟨fun ⟨f',h1,h2⟩=>by rw[gf] at h1;cases h1;exact h2,fun h9=>⟨f,gf,h9⟩⟩;have hall':∀(v:Int) (t:Nat),t<s->((LF.set s farN).set s v)[t]?=LF[t]?:=fun v t ht=>by rw[Yy (by omega),Yy (by omega)]
  refine⟨_,rfl,sB_intro (fun c2=>?_) (fun c2=>?_)⟩
  .refine⟨lf,hs.rd 1 rfl (i:=0) rfl,?_⟩;refine hs.set 2 rfl (by omega) (x:=(s:Int)) (by omega) (by omega) (0:Int) rfl rfl (fun b17 o18 h64 hs=>?_) rfl;have hs:St h h64 (mxL h2.size h10.size h1.size h.size b IN lf ((LF.set s farN).set s 0) q Q):=hs;have hqn:=(hs.len 0 (s:=q) (e:=3) (n:=1) (rows:=(natI Q).map inC) rfl (by omega)).1;rw[Yc] at hqn;have hqn2:q.n=Q.length:=by unfold natI at hqn;rwa [Yc] at hqn
   refine hs.app 0 rfl app42 (m:=1) [inC (s:Int)] rfl rfl (fun r hr=>by rw[Ye] at hr;rw[hr];rfl) rfl (by omega) (by simp only[maxLen];omega) fun s66 h67 n66 hs=>?_;refine⟨_,?_,s+1,(LF.set s farN).set s 0,Q++[s],by rw[w64 (by omega) (by omega)];omega,rfl,by omega,?_,by rw[Yyh,Yyh];exact hLl,fun t ht=>?_,fun t ht=>?_,?_,by rw[Yh,Yv];omega⟩
   .omega
   .have e9:(natI (Q++[s])).map inC=(natI Q).map inC++[inC (s:Int)]:=by rw[natI_snoc,Ym];rfl
    unfold mxL;rw[e9];exact hs
   .by_cases e:t=s
    .subst e;exact .inl ⟨hmx.2 c2,Yq (by rw[Yyh];omega),by simp⟩
    .rw[hall' 0 t (by omega),Yk,Ye];exact (hall t (by omega)).imp (fun ⟨h1,h2,h3⟩=>⟨h1,h2,.inl h3⟩) (fun ⟨h1,h2,h3⟩=>⟨h1,h2,fun h9=>h9.elim h3 e⟩)
   .rcases Yk.1 ht with ht | ht
    .have:=hQs t ht;omega
    .rw[Ye] at ht;omega
   .rw[List.nodup_append];exact⟨hnd,by simp,fun a ha b hb e=>by rw[Ye] at hb;have:=hQs a ha;omega⟩
  .refine⟨_,?_,s+1,LF.set s farN,Q,by rw[w64 (by omega) (by omega)];omega,rfl,by omega,hs,by rw[Yyh];exact hLl,fun t ht=>?_,fun t ht=>?_,hnd,by omega⟩
   .omega
   .by_cases e:t=s
    .subst e;exact .inr ⟨fun h9=>(by rw[hmx] at h9;unfold mxB at h9;rw[h9] at c2;cases c2),Yq (by omega),fun h9=>by have:=hQs t h9;omega⟩
    .rw[Yy (by omega)];exact hall t (by omega)
   .have:=hQs t ht;omega
 .have:s=g.n.toNat:=by omega
  subst this;exact bfs122 hs hV hI (.init hLl hall hQs hnd) hK
theorem mixed122a {b:Nat} {g:Gl} {role:Int} {X:An} {h:Heap} {R:Value->Heap->Prop} (hA:AnF h b g role X) (hV:ValidS g)
  (hK:∀(h75 h10 h1 h2:Heap) (IN:List InR) (lf q:Sl) (LF:List Int) (Q:List Nat),St h h75 (mxL h2.size h10.size h1.size h.size b IN lf LF q Q)->BfQ g (MXx X) LF Q Q.length 1000->V122b h75 h h10 h1 R) :
  Fn Pz 122 #[.pointer (some ⟨b,0,none⟩)] h R:=by
 apply vc122 ⟨b,0,none⟩;unfold W122;have hN:=hV.num.n;have hM:=hV.num.m;have hE:=hV.num.e;have hg:=hA.gg.gi;have hen:=hg.e.ln;have hmx:g.n.toNat<=9223372036854775807:=by omega
 refine (St.refl h).newb fun h1 hs=>?_;refine hs.newb fun h2 hs=>?_;refine⟨some ⟨b,0,none⟩,hs.rd 1 rfl (i:=0) rfl,NC_i ⟨g.n,hc_ext hs.ext (hA.gg.at_.nth 3 rfl),⟨by omega,by omega,by omega⟩,?_⟩⟩;refine hs.newb fun h6 hs=>?_;refine⟨some ⟨b,0,none⟩,hs.rd 2 rfl (i:=0) rfl,NC_i ⟨g.n,hc_ext hs.ext (hA.gg.at_.nth 3 rfl),⟨by omega,by omega,by omega⟩,?_⟩⟩;refine hs.newb fun h10 hs=>?_;refine hs.newput (vs:=[.slice (some ⟨h6.size,0,none⟩) g.n.toNat g.n.toNat]) rfl rfl fun h12 hs=>?_;have hs:=hs.blkAt 1 rfl g.n.toNat 1 ((List.replicate g.n.toNat (0:Int)).map inC) (made3c _) (inC_rows _) (by rw[Yc,Yg]) hmx;have hs:=hs.nil_ 3 1;have hs:=hs.nests (α:=Int) (e:=3) (k:=1) (cs:=inC) (A:=[_,_,_,_,_,_]) (B:=[]) g.n.toNat;generalize hlf:(⟨some ⟨h6.size,0,none⟩,g.n.toNat,g.n.toNat⟩:Sl)=lf at *;have hs:St h h12 (mxL h2.size h10.size h1.size h.size b (List.replicate g.n.toNat (nilS,[])) lf (List.replicate g.n.toNat 0) nilS []):=by
  subst hlf;unfold mxL;rw[List.map_replicate (f:=Prod.fst),<-made42v];exact hs
 clear hlf;refine⟨some ⟨b,0,none⟩,hs.rd 5 rfl (i:=0) rfl,NC_i ⟨g.he,hc_ext hs.ext (hA.gg.at_.nth 6 rfl),?_⟩⟩;refine⟨fun x h' μ=>∃(j:Nat) (IN:List InR),x=(j:Int)/\μ=g.es.length-j/\j<=g.es.length/\IN.map Prod.snd=((List.range g.n.toNat).map (inJ (g.es.take j)))/\St h h' (mxL h2.size h10.size h1.size h.size b IN lf (List.replicate g.n.toNat 0) nilS []),
  ⟨_,0,_,rfl,rfl,Nat.zero_le _,?_,hs⟩,?_⟩
 .rw[List.map_replicate];apply Yyr;intro s;rw[List.getElem?_replicate,Yd];by_cases hs:s<g.n.toNat
  .rw[if_pos hs,Yyb hs];rfl
  .rw[if_neg hs,Yl (by rw[Yyd];omega)];rfl
 clear hs;rintro-_ h20 μ ⟨j,IN,rfl,rfl,hj,hIN,hs⟩;have hIl:IN.length=g.n.toNat:=by have:=congrArg List.length hIN;simpa using this
 refine sBi (fun c=>?_) (fun c=>?_)
 .refine (hg.e.rw.ext hs.ext).nbI (by omega) (by omega) fun b21 o22 x gx u=>?_;replace gx:g.es[j]?=some x:=gx;have hxe:=hE x (Yb gx);unfold EdS at hxe;obtain⟨q,hq⟩:=get_some (l:=IN) (i:=x.t.toNat) (by omega);refine⟨_,_,_,_,_,_,u,?_⟩;refine hs.newput (vs:=x.cs) rfl rfl fun h30 hs=>?_;refine⟨x.t,hs.rd 0 rfl (i:=4) rfl,x.t,hs.rd 0 rfl (i:=4) rfl,⟨by omega,by omega⟩,?_⟩;rw[show 0+Int.toNat x.t*1=x.t.toNat by omega];refine⟨q.1,hs.rd 4 rfl (by rw[Yd,Yd,hq];rfl),x.f,hs.rd 0 rfl (i:=0) rfl,?_⟩;refine hs.newbE fun h35 E35 hs=>⟨E35.sm,?_⟩;have hs:St h h35 ((.blk h30.size [.int .i64 x.f] 3 :: .blk h20.size x.cs 55::[.sl nilS 3 1 ((natI []).map inC),.blk h10.size [.slice lf.a lf.n lf.c] 42,.sl lf 3 1 ((List.replicate g.n.toNat 0).map inC),.blk h2.size ((IN.map Prod.fst).map slV) 42,.blk h1.size wt0.cs 78,.blk h.size [.pointer (some ⟨b,0,none⟩)] 198])++IN.map (nest 3 1 inC)++[]):=hs;have hqn:=(hs.nestLn hq (by omega)).ln;have hq2:q.2=inJ (g.es.take j) x.t.toNat:=by
   have h1:=map_range_get hIN (s:=x.t.toNat) (by omega);rw[Yd,hq] at h1;exact Yyp h1
  have hql:q.2.length<=400:=by rw[hq2];refine Yys (inJ_len _ _) ?_;rw[Yu];omega
  refine hs.nestAt hq app42 x.f (hs.at 0 rfl (o:=0) (n:=1) rfl) rfl rfl (by omega) (by simp only[maxLen];omega) fun r h37 hr hs3=>?_;refine⟨sm_cons (hs.same hs3 1 1 rfl rfl) sm_nil,⟨by omega,by omega⟩,?_⟩;refine hs3.put 5 rfl (o:=x.t.toNat) (vs:=[slV r]) rfl (by rw[Yc,Yc,Yv];omega) fun h38 hs=>?_;rw[map_splice slV (by rw[Yc];omega)] at hs;refine⟨_,by omega,j+1,IN.set x.t.toNat (r,q.2++[x.f]),by rw[w64 (by omega) (by omega)];omega,rfl,by omega,?_,?_⟩
  .rw[List.map_set,hIN];refine range_set (by omega) ?_ fun t ht=>?_
   .unfold inJ;rw[take_snoc gx,List.filter_append,Ym,hq2];unfold inJ;rw[List.filter_cons_of_pos (by rw[decide_eq_true_eq];omega)];rfl
   .unfold inJ;rw[take_snoc gx,List.filter_append,Ym,List.filter_cons_of_neg (by rw[decide_eq_true_eq];omega)];exact Yw _
  .have hs:=hs.drop 2;unfold mxL;rw[List.map_set (f:=Prod.fst)];exact hs
 .rw[Yj (by omega)] at hIN;exact lop122 hs hA hV ⟨hIN⟩ fun h75 q LF Q hs hB=>hK h75 h10 h1 h2 IN lf q LF Q hs hB
inductive GS (es:List Ed) (LF:List Int) (s0:Nat):List Nat->Nat->Prop
 | nil:GS es LF s0 [] s0
 | snoc {ks:List Nat} {s:Nat} {x:Int} {j i:Nat}:GS es LF s0 ks s->LF[s]?=some x->0<x->(outG es (s:Nat)).findIdx? (okE LF es x)=some j->(outG es (s:Nat))[j]?=some i->GS es LF s0 (ks++[i]) (eA es i).t.toNat
def eacts (es:List Ed) (ks:List Nat):List Ac:=ks.map fun i=>(eA es i).act
def otE (role:Int) (l:List Ev):Evn:=(l.find? fun x=>!x.send).elim ⟨-1,false,0,0⟩ (fullE role)
def mgL (wb sb:Nat) (role:Int) (wf:Sl) (s:Nat) (F:List Ac) (R:List It):List It:=
 .sl wf 53 3 (F.map Ac.cs) :: .blk wb (Wt.cs ⟨2,role,wf,nilS,evn0,evn0⟩) 78 :: .blk sb [.int .i64 (s:Nat)] 3::R
theorem exit122 {h148 h h75 h114 h1 h2 h10:Heap} {b:Nat} {g:Gl} {role:Int} {X:An} {wf lf q:Sl} {s:Nat} {F:List Ac} {IN:List InR} {LF:List Int} {Q:List Nat} {f:Fs} {x139:Int} {R:Value->Heap->Prop}
  (hs:St h h148 (mgL h114.size h75.size role wf s F (mxL h2.size h10.size h1.size h.size b IN lf LF q Q))) (hA:AnF h b g role X) (hf:X.fi[s]?=some f) (hm:mxB f=true)
  (hK:∀(h':Heap) (w:Wt) (e0:Ev) (L:List It),w.k=2->w.r=role->f.l[0]?=some e0->w.e=fullE role e0->w.o=otE role f.l->St h h' (.sl w.f 53 3 (F.map Ac.cs) :: .sl w.s 53 3 (([]:List Ac).map Ac.cs)::L)->R (.tuple ⟨[.agg ⟨w.cs⟩,.int .i64 (IntKind.wrap .i64 (2*x139))]⟩) h') :
  V122c h148 h h75 h114 h1 R x139:=by
 unfold V122c;have hro:hc h ⟨b,8,none⟩=some (Value.int .i64 role):=hA.r.ro;have hfn:=hA.r.rf.ln;have hsl:=(Ya.1 hf).1;have hfl:=hA.r.re f (Yb hf);have hfln:=hfl.ln;have hl0:0<f.l.length:=by
  rcases Nat.eq_zero_or_pos f.l.length with h9 | h9
  .rw[List.length_eq_zero_iff] at h9;unfold mxB sndAt at hm;simp[h9] at hm
  .exact h9
 refine⟨some ⟨b,0,none⟩,hs.rd 8 rfl (i:=0) rfl,NC_i ⟨X.hfi,hc_ext hs.ext hA.r.f,(s:Nat),hs.rd 2 rfl (i:=0) rfl,?_⟩⟩;refine (hA.r.rf.ext hs.ext).rw.nbI (by omega) (by omega) fun b54 o55 f' gf u=>?_;replace gf:X.fi[s]?=some f':=gf;rw[hf] at gf;cases gf;refine⟨f.s,f.b,u,?_⟩;refine hs.newbE fun h233 E hs=>⟨E.sm,?_⟩;refine hs.put 0 rfl (o:=0) (vs:=f.cs) rfl (Yyt 2) fun h234 hs=>?_;refine⟨some ⟨b,0,none⟩,hs.rd 9 rfl (i:=0) rfl,f.s,hs.rd 0 rfl (i:=0) rfl,?_⟩;refine (hfl.ext hs.ext).rw.nbI (by omega) (by omega) fun b237 o238 e0 ge u2=>?_;replace ge:f.l[0]?=some e0:=ge;refine⟨e0.send,e0.peer,e0.label,u2,?_⟩;refine (full172 b role e0 h234 (hc_ext hs.ext hro)).mono ?_;rintro _ h248 ⟨E2,rfl⟩;replace hs:=hs.step E2;refine⟨role,e0.send,e0.peer,e0.label,nilS,rfl,?_⟩;refine hs.put 2 rfl (o:=4) (vs:=(fullE role e0).cs) rfl (by show 4+5<=14;decide) fun h249 hs=>?_;refine hs.put 2 rfl (o:=9) (vs:=Evn.cs ⟨-1,false,0,0⟩) rfl (by show 9+5<=14;decide) fun h250 hs=>?_;refine⟨f.s,hs.rd 0 rfl (i:=0) rfl,?_⟩;refine (index177 f.l f.s h250 (hfl.ext hs.ext).rw hfl.sm).mono ?_;rintro _ h254 ⟨rfl,E3⟩;replace hs:=hs.step E3;refine⟨_,rfl,?_⟩;unfold ixI;cases hix:f.l.findIdx? fun x=>!x.send with
 | none=>
  have hot:otE role f.l=⟨-1,false,0,0⟩:=by
   unfold otE;rw[List.findIdx?_eq_none_iff] at hix;rw[find_no fun j y hj=>hix y (Yb hj)];rfl
  refine sBi (fun c=>absurd c (by show ¬(-1:Int)>=0;decide)) (fun _=>?_);refine cpW hs 2 8 (w:=⟨2,role,wf,nilS,fullE role e0,⟨-1,false,0,0⟩⟩) (w0:=wt0) rfl rfl fun h86 hs=>?_;refine rdW (w:=⟨2,role,wf,nilS,fullE role e0,⟨-1,false,0,0⟩⟩) (Q:=fun cs=>R (.tuple ⟨[.agg ⟨cs⟩,.int .i64 (IntKind.wrap .i64 (2*x139))]⟩) h86) (hs.at 8 rfl (o:=0) (n:=14) rfl) ?_;have hs:=(hs.drop 1).nil_ 53 3;exact hK h86 ⟨2,role,wf,nilS,fullE role e0,⟨-1,false,0,0⟩⟩ e0 _ rfl rfl ge rfl hot.symm (hs.perm (List.Perm.swap _ _ _))
 | some i=>
  obtain⟨h1i,h2i,h3i⟩:=List.findIdx?_eq_some_iff_getElem.1 hix;obtain⟨e1,he1⟩:=get_some h1i;have he1':=(Ya.1 he1).2;have hot:otE role f.l=fullE role e1:=by
   unfold otE;rw[find_at f.l i e1 (fun j y hj hy=>?_) he1 (by rw[<-he1'];exact h2i)]
   .rfl
   .have h9:=h3i j hj;rw[(Ya.1 hy).2] at h9;simpa using h9
  refine sBi (fun c=>?_) (fun c=>absurd (Int.natCast_nonneg i) c);refine⟨some ⟨b,0,none⟩,hs.rd 9 rfl (i:=0) rfl,f.s,hs.rd 0 rfl (i:=0) rfl,?_⟩;refine (hfl.ext hs.ext).rw.nbI (x:=(i:Int)) (by omega) (by omega) fun b257 o258 e1' ge1 u3=>?_;replace ge1:f.l[i]?=some e1':=ge1;rw[he1] at ge1;cases ge1;refine⟨e1.send,e1.peer,e1.label,u3,?_⟩;refine (full172 b role e1 h254 (hc_ext hs.ext hro)).mono ?_;rintro _ h268 ⟨E4,rfl⟩;replace hs:=hs.step E4;refine⟨role,e1.send,e1.peer,e1.label,nilS,rfl,?_⟩;refine hs.put 2 rfl (o:=9) (vs:=(fullE role e1).cs) rfl (by show 9+5<=14;decide) fun h269 hs=>?_;refine cpW hs 2 8 (w:=⟨2,role,wf,nilS,fullE role e0,fullE role e1⟩) (w0:=wt0) rfl rfl fun h86 hs=>?_;refine rdW (w:=⟨2,role,wf,nilS,fullE role e0,fullE role e1⟩) (Q:=fun cs=>R (.tuple ⟨[.agg ⟨cs⟩,.int .i64 (IntKind.wrap .i64 (2*x139))]⟩) h86) (hs.at 8 rfl (o:=0) (n:=14) rfl) ?_;have hs:=(hs.drop 1).nil_ 53 3;exact hK h86 ⟨2,role,wf,nilS,fullE role e0,fullE role e1⟩ e0 _ rfl rfl ge rfl hot.symm (hs.perm (List.Perm.swap _ _ _))
theorem step122 {h148 h h75 h114 h1 h2 h10:Heap} {b:Nat} {g:Gl} {role:Int} {X:An} {wf lf q:Sl} {s j i:Nat} {x15:Int} {F:List Ac} {IN:List InR} {LF:List Int} {Q:List Nat} {m147:Nat} {I145:Heap->Nat->Prop}
  (hs:St h h148 (mgL h114.size h75.size role wf s F (mxL h2.size h10.size h1.size h.size b IN lf LF q Q))) (hA:AnF h b g role X) (hV:ValidS g) (hL:LF.length=g.n.toNat) (hsn:s<g.n.toNat) (hx:LF[s]?=some x15) (hxb:0<=x15/\x15<=farN)
  (hix:(outG g.es (s:Nat)).findIdx? (okE LF g.es x15)=some j) (gi:(outG g.es (s:Nat))[j]?=some i) (hF:F.length<=8388608)
  (hI:∀(h':Heap) (wf':Sl),St h h' (mgL h114.size h75.size role wf' (eA g.es i).t.toNat (F++[(eA g.es i).act]) (mxL h2.size h10.size h1.size h.size b IN lf LF q Q))->∃m9,m9<m147/\I145 h' m9):V122s h148 h h75 h10 h114 m147 I145:=by
 unfold V122s;have hN:=hV.num.n;have hE:=hV.num.e;have hg:=hA.gg.gi;have hen:=hg.e.ln;have hol:=outG_len g.es (s:Nat);have hM:=hV.num.m;have hros:Rw h 1 (X.os s) ((natI (outG g.es (s:Nat))).map inC):=hA.gg.rs s hsn;have hron:=hros.ln;have hron2:(X.os s).n=(outG g.es (s:Nat)).length:=by rw[hron];exact Yc _
 have hhon:=hA.gg.ro.ln;rw[Yyd] at hhon;have hjl:=(Ya.1 gi).1;obtain⟨x,hxi,hxf⟩:=outG_mem.1 (Yb gi);have hil:=(Ya.1 hxi).1;have hxe:=eA_get hxi;have hxE:=hE x (Yb hxi);unfold EdS at hxE;rw[hxe] at hI;have htt:((x.t.toNat:Nat):Int)=x.t:=by omega
 have hk9:ixI (okE LF g.es x15) (outG g.es (s:Nat))=(j:Int):=by unfold ixI;rw[hix]
 have hkl:∀k∈outG g.es (s:Nat),k<g.es.length:=fun k hk=>by
  obtain⟨y,hy,_⟩:=outG_mem.1 hk;exact (Ya.1 hy).1
 have hEt:∀y∈g.es,0<=y.t/\y.t.toNat<LF.length:=fun y hy=>by have:=hE y hy;unfold EdS at this;rw[hL];omega
 have hrow:∀ {hX:Heap},Ext h hX->∀ {F:Nat->Nat->Prop},(∀bb o,hc hX ⟨bb,o+Int.toNat ((s:Nat):Int)*1,none⟩=some (slV (X.os s))->F bb o)->NB X.ho.a fun bb o=>(0<=((s:Nat):Int)/\((s:Nat):Int)<(X.ho.n:Nat))/\F bb o:=fun {hX} E {F} hF=>by
  refine (hA.gg.ro.ext E).nbI (by omega) (by omega) fun bb o d gd u=>hF bb o ?_;replace gd:(List.range g.n.toNat)[s]?=some d:=gd;rw[Yyb hsn] at gd;cases gd;exact u.hd
 refine⟨some ⟨b,0,none⟩,hs.rd 8 rfl (i:=0) rfl,NC_i ⟨g.he,hc_ext hs.ext (hA.gg.at_.nth 6 rfl),?_⟩⟩;refine⟨some ⟨b,0,none⟩,hs.rd 8 rfl (i:=0) rfl,NC_i ⟨X.ho,hc_ext hs.ext (hA.gg.at_.nth 9 rfl),?_⟩⟩;refine⟨(s:Nat),hs.rd 2 rfl (i:=0) rfl,hrow hs.ext fun b161 o162 hr1=>⟨X.os s,hr1,?_⟩⟩;refine⟨some ⟨b,0,none⟩,hs.rd 8 rfl (i:=0) rfl,NC_i ⟨X.ho,hc_ext hs.ext (hA.gg.at_.nth 9 rfl),?_⟩⟩;refine⟨(s:Nat),hs.rd 2 rfl (i:=0) rfl,hrow hs.ext fun b168 o169 hr2=>⟨X.os s,hr2,?_⟩⟩;have hlfn:(0:Nat)<1:=by decide
 refine⟨?_,?_⟩;refine (index175 b g (outG g.es (s:Nat)) LF lf s x15 ⟨h10.size,0,none⟩ ⟨h.size,0,none⟩ ⟨h75.size,0,none⟩ (X.os s) h148 (hros.ext hs.ext) (by omega) (hs.rd 4 rfl (i:=0) rfl) (hs.rd 8 rfl (i:=0) rfl) (hs.rd 2 rfl (i:=0) rfl) (hc_ext hs.ext (hA.gg.at_.nth 6 rfl)) (hg.ext hs.ext) (hs.rows 5 rfl (by omega)) hkl hEt hx hxb).mono ?_;rintro _ h173 ⟨rfl,E⟩;replace hs:=hs.step E;rw[hk9];refine⟨_,rfl,E.sm,?_⟩;refine (hros.ext hs.ext).nbI (by omega) (by omega) fun b174 o175 d gd u=>?_;obtain⟨i',gi',rfl⟩:=natI_get gd;replace gi':(outG g.es (s:Nat))[j]?=some i':=gi';rw[gi] at gi';cases gi';refine⟨(i:Int),u.hd,?_⟩;refine (hg.e.rw.ext hs.ext).nbI (by omega) (by omega) fun b177 o178 x' gx u2=>?_;replace gx:g.es[i]?=some x':=gx;rw[hxi] at gx;cases gx;refine⟨_,_,_,_,_,_,u2,?_⟩;refine hs.newbE fun h185 E185 hs=>⟨E185.sm,?_⟩;rotate_left;refine hs.newbE fun h198 E198 hs=>⟨E198.sm,?_⟩;refine (index175 b g (outG g.es (s:Nat)) LF lf s x15 ⟨h10.size,0,none⟩ ⟨h.size,0,none⟩ ⟨h75.size,0,none⟩ (X.os s) h198 (hros.ext hs.ext) (by omega) (hs.rd 5 rfl (i:=0) rfl) (hs.rd 9 rfl (i:=0) rfl) (hs.rd 3 rfl (i:=0) rfl) (hc_ext hs.ext (hA.gg.at_.nth 6 rfl)) (hg.ext hs.ext) (hs.rows 6 rfl (by omega)) hkl hEt hx hxb).mono ?_;rintro _ h173 ⟨rfl,E⟩;replace hs:=hs.step E;rw[hk9];refine⟨_,rfl,E.sm,?_⟩;refine (hros.ext hs.ext).nbI (by omega) (by omega) fun b174 o175 d gd u=>?_;obtain⟨i',gi',rfl⟩:=natI_get gd;replace gi':(outG g.es (s:Nat))[j]?=some i':=gi';rw[gi] at gi';cases gi';refine⟨(i:Int),u.hd,?_⟩;refine (hg.e.rw.ext hs.ext).nbI (by omega) (by omega) fun b177 o178 x' gx u2=>?_;replace gx:g.es[i]?=some x':=gx;rw[hxi] at gx;cases gx;refine⟨_,_,_,_,_,_,u2,?_⟩;all_goals
  refine hs.put 0 rfl (o:=0) (vs:=x.cs) rfl (Yyt 6) fun h186 hs=>?_;refine⟨wf,hs.rd 2 rfl (i:=2) rfl,x.a,x.b,x.l,hs.at 0 rfl (o:=1) (n:=3) rfl,fun h191 e2=>?_⟩;refine hs.appgB 2 1 rfl rfl app48 (x:=x.act) e2 rfl rfl (by omega) (by decide) 2 (by show 2<14;decide) (by decide) fun s' h194 hs=>?_;refine⟨x.t,hs.rd 0 rfl (i:=4) rfl,?_⟩;refine hs.put 3 rfl (o:=0) (vs:=[.int .i64 x.t]) rfl (Yyt 1) fun h196 hs=>hI h196 s' ?_;have hs:=hs.drop 1;unfold mgL;rw[htt];exact hs
def LFok (g:Gl) (MX:Nat->Prop) (LF:List Int):Prop:=∀s:Nat,s<g.n.toNat->(LF[s]?=some farN/\∀k,¬DnS g.es MX s k)\/∃k:Nat,LF[s]?=some (k:Int)/\LstS g.es MX s k/\k<=1000
inductive MxR (g:Gl) (role:Int) (X:An) (h h':Heap):Value->Prop
 | far (hn:∀n,¬DnS g.es (MXx X) g.s.toNat n) (E:Ext h h'):MxR g role X h h' (.tuple ⟨[.agg ⟨wt0.cs⟩,.int .i64 farI]⟩)
 | hit {n:Nat} {LF:List Int} {ks:List Nat} {s:Nat} {f:Fs} {e0:Ev} {w:Wt} {L:List It} (hl:LstS g.es (MXx X) g.s.toNat n) (hn:n<=1000) (hF:LFok g (MXx X) LF) (hG:GS g.es LF g.s.toNat ks s) (h0:LF[s]?=some 0) (hf:X.fi[s]?=some f) (hm:mxB f=true)
   (hk:w.k=2) (hr:w.r=role) (hf0:f.l[0]?=some e0) (he:w.e=fullE role e0) (ho:w.o=otE role f.l)
   (hs:St h h' (.sl w.f 53 3 ((eacts g.es ks).map Ac.cs) :: .sl w.s 53 3 (([]:List Ac).map Ac.cs)::L)):MxR g role X h h' (.tuple ⟨[.agg ⟨w.cs⟩,.int .i64 ((2*n:Nat):Int)]⟩)
theorem mixed122 (b:Nat) (g:Gl) (role:Int) (X:An) (h:Heap) (hA:AnF h b g role X) (hV:ValidS g):Fn Pz 122 #[.pointer (some ⟨b,0,none⟩)] h fun v h'=>MxR g role X h h' v:=by
 refine mixed122a hA hV fun h75 h10 h1 h2 IN lf q LF Q hs hB=>?_;unfold V122b;have hN:=hV.num.n;have hE:=hV.num.e;have hE2:∀e∈g.es,0<=e.f/\0<=e.t/\e.t<g.n:=fun e he=>by have:=hE e he;unfold EdS at this;omega
 have hLF:LFok g (MXx X) LF:=fun s hs=>hB.lst (by decide) hE2 hs;have hLl:=hB.ln;have hlfn:=(hs.len 2 (s:=lf) (e:=3) (n:=1) (rows:=LF.map inC) rfl (by omega)).1;rw[Yc,hLl] at hlfn;have hss:((g.s.toNat:Nat):Int)=g.s:=Int.toNat_of_nonneg (by omega);refine⟨some ⟨b,0,none⟩,hs.rd 5 rfl (i:=0) rfl,NC_i ⟨g.s,hc_ext hs.ext (hA.gg.at_.nth 4 rfl),?_⟩⟩;refine hs.newput (vs:=[.int .i64 g.s]) rfl rfl fun h114 hs=>?_;refine⟨lf,hs.rd 2 rfl (i:=0) rfl,g.s,hs.rd 0 rfl (i:=0) rfl,?_⟩;refine (hs.rows 3 rfl (by omega)).nbI (by omega) (by omega) fun b117 o118 d gd u=>?_;replace gd:LF[g.s.toNat]?=some d:=gd;refine⟨d,u.hd,sBe (fun c=>?_) (fun c=>?_)⟩
 .subst c;have hno:∀n,¬DnS g.es (MXx X) g.s.toNat n:=by
   rcases hLF g.s.toNat (by omega) with ⟨_,h9⟩ | ⟨k,h9,_,hk⟩
   .exact h9
   .rw[gd] at h9;have:=Yyp h9;omega
  refine hs.put 5 rfl (o:=0) (vs:=wt0.cs) rfl (Yyt 14) fun h17 hs=>?_;refine rdW (w:=wt0) (Q:=fun cs=>MxR g role X h h17 (.tuple ⟨[.agg ⟨cs⟩,.int .i64 1073741824]⟩)) (hs.at 5 rfl (o:=0) (n:=14) rfl) ?_;exact .far hno hs.ext
 .obtain⟨n,hn0,hnl,hn1⟩:∃k:Nat,LF[g.s.toNat]?=some (k:Int)/\LstS g.es (MXx X) g.s.toNat k/\k<=1000:=by
   rcases hLF g.s.toNat (by omega) with ⟨h9,_⟩ | h9
   .rw[gd] at h9;exact absurd (Yyp h9) c
   .exact h9
  refine⟨lf,hs.rd 2 rfl (i:=0) rfl,g.s,hs.rd 0 rfl (i:=0) rfl,?_⟩;refine (hs.rows 3 rfl (by omega)).nbI (by omega) (by omega) fun b117 o118 d' gd' u=>?_;replace gd':LF[g.s.toNat]?=some d':=gd';rw[hn0] at gd';cases gd';refine⟨(n:Int),u.hd,some ⟨b,0,none⟩,hs.rd 6 rfl (i:=0) rfl,NC_i ⟨role,hc_ext hs.ext hA.r.ro,?_⟩⟩;refine hs.newput (vs:=Wt.cs ⟨2,role,nilS,nilS,evn0,evn0⟩) rfl rfl fun h144 hs=>?_;have hs:=hs.nil_ 53 3;refine⟨fun h' μ=>∃(ks:List Nat) (s k:Nat) (wf:Sl),k=μ/\s<g.n.toNat/\LF[s]?=some (k:Int)/\St h h' (mgL h114.size h75.size role wf s (eacts g.es ks) (mxL h2.size h10.size h1.size h.size b IN lf LF q Q))/\GS g.es LF g.s.toNat ks s/\ks.length+k<=1000,⟨_,[],g.s.toNat,n,nilS,rfl,by omega,hn0,?_,.nil,by simp only[List.length_nil];omega⟩,?_⟩
  .unfold mgL;rw[hss];exact hs
  clear hs u c gd;rintro-h148 μ ⟨ks,s,k,wf,rfl,hsn,hsk,hs,hG,hkl⟩;have hel:(eacts g.es ks).length=ks.length:=Yc _;refine⟨lf,hs.rd 4 rfl (i:=0) rfl,(s:Nat),hs.rd 2 rfl (i:=0) rfl,?_⟩;refine (hs.rows 5 rfl (by omega)).nbI (by omega) (by omega) fun b151 o152 v gv u=>?_;replace gv:LF[s]?=some v:=gv;rw[hsk] at gv;cases gv;have hLs:LstS g.es (MXx X) s k:=by
   rcases hLF s hsn with ⟨h9,_⟩ | ⟨k',h9,h10,_⟩
   .rw[hsk] at h9;have:=Yyp h9;unfold farN at this;omega
   .rw[hsk] at h9;have:=Yyp h9;have:k=k':=by omega
    subst this;exact h10
  refine⟨(k:Int),u.hd,sBi (fun c=>?_) (fun c=>?_)⟩
  .obtain⟨k',rfl⟩:∃k',k=k'+1:=⟨k-1,by omega⟩;obtain⟨e,he,hef,hel9⟩:=hLs.next;have hxe:=hE e he;unfold EdS at hxe;have hLe:LF[e.t.toNat]?=some (k':Int):=by
    rcases hLF e.t.toNat (by omega) with ⟨_,h9⟩ | ⟨k2,h9,h10,_⟩
    .exact absurd hel9.1 (h9 _)
    .rw[hel9.uniq h10];exact h9
   obtain⟨i0,hi0⟩:=Yf.1 he;have hmo:i0∈outG g.es (s:Nat):=outG_mem.2 ⟨e,hi0,hef⟩;have hok:okE LF g.es ((k'+1:Nat):Int) i0=true:=by
    unfold okE;rw[eA_get hi0,Yo,hLe];exact decide_eq_true (by simp only[Option.getD_some];omega)
   cases hix:(outG g.es (s:Nat)).findIdx? (okE LF g.es ((k'+1:Nat):Int)) with
   | none=>
    rw[List.findIdx?_eq_none_iff] at hix;rw[hix i0 hmo] at hok;cases hok
   | some j=>
    obtain⟨h1j,h2j,_⟩:=List.findIdx?_eq_some_iff_getElem.1 hix;obtain⟨i,gi⟩:=get_some h1j;have hi2:=(Ya.1 gi).2;rw[hi2] at h2j;obtain⟨x,hxi,hxf⟩:=outG_mem.1 (Yb gi);have hxE:=hE x (Yb hxi);unfold EdS at hxE;have hLx:LF[(eA g.es i).t.toNat]?=some (k':Int):=by
     have h3:LF.getD (eA g.es i).t.toNat 0=((k'+1:Nat):Int)-1:=Yyn h2j;rw[eA_get hxi] at h3 ⊢;obtain⟨y,hy⟩:=get_some (l:=LF) (i:=x.t.toNat) (by omega);rw[Yo,hy] at h3;simp only[Option.getD_some] at h3;rw[hy];congr 1;omega
    refine step122 hs hA hV hLl hsn hsk ⟨by omega,by unfold farN;omega⟩ hix gi (by omega) fun h' wf' hs=>⟨k',by omega,ks++[i],(eA g.es i).t.toNat,k',wf',rfl,by rw[eA_get hxi];omega,hLx,?_,.snoc hG hsk (by omega) hix gi,by rw[Yh,Yv];omega⟩;have e9:eacts g.es (ks++[i])=eacts g.es ks++[(eA g.es i).act]:=by unfold eacts;rw[Ym];rfl
    rw[e9];exact hs
  .have hk0:k=0:=by omega
   subst hk0;obtain⟨f,hf,hm⟩:MXx X s:=by
    have h9:=hLs.1;cases h9 with
    | base hm=>exact hm
   refine exit122 hs hA hf hm fun h' w e0 L h1 h2 h3 h4 h5 hs=>?_;have hw:IntKind.wrap .i64 (2*(n:Int))=((2*n:Nat):Int):=by rw[w64 (by omega) (by omega)];omega
   rw[hw];exact .hit hnl hn1 hLF hG hsk hf hm h1 h2 h3 h4 h5 hs
theorem St.subp {h0 h:Heap} {L L' R:List It} (hs:St h0 h L) (hp:L.Perm (L'++R)):St h0 h L':=by
 have h1:=(hs.perm (hp.trans List.perm_append_comm)).drop R.length
 rwa [List.drop_left] at h1
structure WS where
 k:Int
 r:Int
 F:List Ac
 S:List Ac
 e:Evn
 o:Evn
def ws0:WS:=⟨0,0,[],[],evn0,evn0⟩
inductive BpP (g:Gl) (role kind:Int) (X:An):WS->Int->Prop
 | far (hn:∀n,¬Lst (mvP g role) (cstN X kind) (p00 g) n):BpP g role kind X ws0 farI
 | hit {n:Nat} {D:Pr->Int} {ms:List Pmv} {p:Pr} (hl:Lst (mvP g role) (cstN X kind) (p00 g) n) (hn:n<=8388608) (hD:∀q,Prr g role q->D q=dL (mvP g role) (cstN X kind) q) (hG:GTo (mvP g role) (cstS X kind) D (p00 g) ms p) (hc:cstS X kind p=some (D p)) :
   BpP g role kind X ⟨kind,role,(exW g role kind X (facts g ms) p).1,sacts g ms,(exW g role kind X (facts g ms) p).2.1,(exW g role kind X (facts g ms) p).2.2⟩ (n:Int)
inductive MxP (g:Gl) (role:Int) (X:An):WS->Int->Prop
 | far (hn:∀n,¬DnS g.es (MXx X) g.s.toNat n):MxP g role X ws0 farI
 | hit {n:Nat} {LF:List Int} {ks:List Nat} {s:Nat} {f:Fs} {e0:Ev} (hl:LstS g.es (MXx X) g.s.toNat n) (hn:n<=1000) (hF:LFok g (MXx X) LF) (hG:GS g.es LF g.s.toNat ks s) (h0:LF[s]?=some 0) (hf:X.fi[s]?=some f) (hm:mxB f=true) (hf0:f.l[0]?=some e0) :
   MxP g role X ⟨2,role,eacts g.es ks,[],fullE role e0,otE role f.l⟩ ((2*n:Nat):Int)
def WOut (h h':Heap) (W:WS) (n:Int) (v:Value):Prop:=∃w:Wt,w.k=W.k/\w.r=W.r/\w.e=W.e/\w.o=W.o/\v=.tuple ⟨[.agg ⟨w.cs⟩,.int .i64 n]⟩/\∃L,St h h' (.sl w.f 53 3 (W.F.map Ac.cs) :: .sl w.s 53 3 (W.S.map Ac.cs)::L)
theorem WOut.zero {h h':Heap} (E:Ext h h') (n:Int):WOut h h' ws0 n (.tuple ⟨[.agg ⟨wt0.cs⟩,.int .i64 n]⟩):=
 ⟨wt0,rfl,rfl,rfl,rfl,rfl,[],((((St.refl h).step E).nil_ 53 3).nil_ 53 3)⟩
theorem BpR.out {g:Gl} {role kind:Int} {X:An} {h h':Heap} {v:Value} (hr:BpR g role kind X h h' v):∃W n,BpP g role kind X W n/\WOut h h' W n v:=by
 cases hr with
 | far hn E=>exact⟨_,_,.far hn,.zero E _⟩
 | hit hl hn hD hG hc hk hr he ho hs=>exact⟨_,_,.hit hl hn hD hG hc,_,hk,hr,he,ho,rfl,_,hs⟩
theorem MxR.out {g:Gl} {role:Int} {X:An} {h h':Heap} {v:Value} (hr:MxR g role X h h' v):∃W n,MxP g role X W n/\WOut h h' W n v:=by
 cases hr with
 | far hn E=>exact⟨_,_,.far hn,.zero E _⟩
 | hit hl hn hF hG h0 hf hm hk hr hf0 he ho hs=>exact⟨_,_,.hit hl hn hF hG h0 hf hm hf0,_,hk,hr,he,ho,rfl,_,hs⟩
theorem clo120 (b:Nat) (g:Gl) (role:Int) (X:An) (all:Sl) (mb:Nat) (A:List Pr) (l:List (Pr × Sl)) (CB:Nat) (c0 c1 c2:Addr) (h:Heap) (h0:hc h c0=some (Value.pointer (some ⟨b,0,none⟩))) (h1:hc h c1=some (Value.slice all.a all.n all.c)) (h2:hc h c2=some (Value.map (some mb))) (hA:AnF h b g role X) (hx:Gx h) (hV:ValidS g) (hM:PrM h g role all mb A l) (hC:CkB X 1 A CB) (hAr:ArOk g X) :
  Fn Pz 120 #[.pointer (some c0),.pointer (some c1),.pointer (some c2)] h fun v h'=>∃W n,BpP g role 1 X W n/\WOut h h' W n v:=by
 apply vc120 c0 c1 c2;unfold W120;refine (St.refl h).newb fun h3 hs=>?_;refine⟨some ⟨b,0,none⟩,hc_ext hs.ext h0,all,hc_ext hs.ext h1,some mb,hc_ext hs.ext h2,?_⟩;refine (byPairs121 b g role X 1 all mb A l CB h3 (hA.ext hs.ext) (hx.ext hs.ext) hV (hM.ext hs.ext) hC hAr).mono ?_;intro v h21 hr;obtain⟨W,n,hP,w,e1,e2,e3,e4,rfl,L,hs2⟩:=hr.out;refine⟨w.k,w.r,w.f,w.s,w.e.r,w.e.s,w.e.p,w.e.l,nilS,w.o.r,w.o.s,w.o.p,w.o.l,nilS,n,rfl,?_⟩;replace hs:=hs.join hs2;refine hs.put 0 rfl (o:=0) (vs:=w.cs) rfl (Yyt 14) fun h22 hs=>?_;refine rdW (w:=w) (Q:=fun cs=>∃W n',BpP g role 1 X W n'/\WOut h h22 W n' (.tuple ⟨[.agg ⟨cs⟩,.int .i64 n]⟩)) (hs.at 0 rfl (o:=0) (n:=14) rfl) ?_;exact⟨W,n,hP,w,e1,e2,e3,e4,rfl,L,hs.drop 1⟩
theorem clo123 (b:Nat) (g:Gl) (role:Int) (X:An) (all:Sl) (mb:Nat) (A:List Pr) (l:List (Pr × Sl)) (CB:Nat) (c0 c1 c2:Addr) (h:Heap) (h0:hc h c0=some (Value.pointer (some ⟨b,0,none⟩))) (h1:hc h c1=some (Value.slice all.a all.n all.c)) (h2:hc h c2=some (Value.map (some mb))) (hA:AnF h b g role X) (hx:Gx h) (hV:ValidS g) (hM:PrM h g role all mb A l) (hC:CkB X 3 A CB) (hAr:ArOk g X) :
  Fn Pz 123 #[.pointer (some c0),.pointer (some c1),.pointer (some c2)] h fun v h'=>∃W n,BpP g role 3 X W n/\WOut h h' W n v:=by
 apply vc123 c0 c1 c2;unfold W123;refine (St.refl h).newb fun h3 hs=>?_;refine⟨some ⟨b,0,none⟩,hc_ext hs.ext h0,all,hc_ext hs.ext h1,some mb,hc_ext hs.ext h2,?_⟩;refine (byPairs121 b g role X 3 all mb A l CB h3 (hA.ext hs.ext) (hx.ext hs.ext) hV (hM.ext hs.ext) hC hAr).mono ?_;intro v h21 hr;obtain⟨W,n,hP,w,e1,e2,e3,e4,rfl,L,hs2⟩:=hr.out;refine⟨w.k,w.r,w.f,w.s,w.e.r,w.e.s,w.e.p,w.e.l,nilS,w.o.r,w.o.s,w.o.p,w.o.l,nilS,n,rfl,?_⟩;replace hs:=hs.join hs2;refine hs.put 0 rfl (o:=0) (vs:=w.cs) rfl (Yyt 14) fun h22 hs=>?_;refine rdW (w:=w) (Q:=fun cs=>∃W n',BpP g role 3 X W n'/\WOut h h22 W n' (.tuple ⟨[.agg ⟨cs⟩,.int .i64 n]⟩)) (hs.at 0 rfl (o:=0) (n:=14) rfl) ?_;exact⟨W,n,hP,w,e1,e2,e3,e4,rfl,L,hs.drop 1⟩
theorem clo124 (b:Nat) (g:Gl) (role:Int) (X:An) (all:Sl) (mb:Nat) (A:List Pr) (l:List (Pr × Sl)) (CB:Nat) (c0 c1 c2:Addr) (h:Heap) (h0:hc h c0=some (Value.pointer (some ⟨b,0,none⟩))) (h1:hc h c1=some (Value.slice all.a all.n all.c)) (h2:hc h c2=some (Value.map (some mb))) (hA:AnF h b g role X) (hx:Gx h) (hV:ValidS g) (hM:PrM h g role all mb A l) (hC:CkB X 4 A CB) (hAr:ArOk g X) :
  Fn Pz 124 #[.pointer (some c0),.pointer (some c1),.pointer (some c2)] h fun v h'=>∃W n,BpP g role 4 X W n/\WOut h h' W n v:=by
 apply vc124 c0 c1 c2;unfold W124;refine (St.refl h).newb fun h3 hs=>?_;refine⟨some ⟨b,0,none⟩,hc_ext hs.ext h0,all,hc_ext hs.ext h1,some mb,hc_ext hs.ext h2,?_⟩;refine (byPairs121 b g role X 4 all mb A l CB h3 (hA.ext hs.ext) (hx.ext hs.ext) hV (hM.ext hs.ext) hC hAr).mono ?_;intro v h21 hr;obtain⟨W,n,hP,w,e1,e2,e3,e4,rfl,L,hs2⟩:=hr.out;refine⟨w.k,w.r,w.f,w.s,w.e.r,w.e.s,w.e.p,w.e.l,nilS,w.o.r,w.o.s,w.o.p,w.o.l,nilS,n,rfl,?_⟩;replace hs:=hs.join hs2;refine hs.put 0 rfl (o:=0) (vs:=w.cs) rfl (Yyt 14) fun h22 hs=>?_;refine rdW (w:=w) (Q:=fun cs=>∃W n',BpP g role 4 X W n'/\WOut h h22 W n' (.tuple ⟨[.agg ⟨cs⟩,.int .i64 n]⟩)) (hs.at 0 rfl (o:=0) (n:=14) rfl) ?_;exact⟨W,n,hP,w,e1,e2,e3,e4,rfl,L,hs.drop 1⟩
theorem St.rlm2 {α:Type} {h0 h:Heap} {L:List It} (hs:St h0 h L) {s:Sl} {e:TypeId} {n:Nat} {cs:α->List Value} {X:List α} (hi:.sl s e n (X.map cs)∈L) (hn:0<n) (hl:X.length<=1048576):RL h n s cs X:=by
 obtain⟨k,hk⟩:=Yf.1 hi;have h1:=hs.len k hk hn;exact⟨hs.rwm hi hn,h1.2.1,h1.2.2,hl⟩
structure XOk (g:Gl) (role:Int) (X:An):Prop where
 fi:X.fi.map (fun f=>(f.l,f.b))=(List.range g.n.toNat).map fun s=>(firstE g role (s:Nat),firstB g role (s:Nat))
 li:X.li=(List.range g.n.toNat).map (limFo g role g.ts)
 ag:X.ag=(List.range g.n.toNat).map (agFo g.es)
 ow:X.ow=(List.range g.n.toNat).map (owFo g.es role)
 ar:X.ar.map Prod.snd=(List.range g.n.toNat).map (arrS g role)
 an:∀q∈X.ar,∀x∈q.2,0<x.n/\x.n<=1048577
theorem XOk.arOk {g:Gl} {role:Int} {X:An} (h:XOk g role X):ArOk g X:=fun q hq y hy=>by
 have h1:q.2∈X.ar.map Prod.snd:=Yp.2 ⟨q,hq,rfl⟩;rw[h.ar] at h1;obtain⟨s,_,h2⟩:=Yp.1 h1;rw[<-h2] at hy;unfold arrS at hy;obtain⟨i,hi,hy⟩:=List.mem_flatMap.1 hy;unfold arr1 at hy;obtain⟨x,hx,_⟩:=outG_mem.1 hi;split at hy
 .unfold arM at hy;obtain⟨m,hm,rfl⟩:=Yp.1 hy;exact⟨i,m,rfl,(Ya.1 hx).1,(List.mem_filter.1 hm).1⟩
 .cases hy
theorem XOk.ckB {g:Gl} {role:Int} {X:An} (h:XOk g role X) (kind:Int) (A:List Pr):CkB X kind A 1048578:=by
 refine⟨fun q hq x hx=>(h.an q hq x hx).1,fun p _ c hc=>?_,by decide⟩;unfold cstS at hc;split at hc
 .split at hc
  .split at hc
   .cases hc;exact⟨by decide,by decide⟩
   .cases hc
  .cases hc
 .split at hc
  .split at hc
   .cases hc;exact⟨by decide,by decide⟩
   .cases hc
  .split at hc
   .rename_i ft q _ gq;obtain⟨y,hy,rfl⟩:=Yya.1 hc;have:=h.an q (Yb gq) y (arvF_mem hy).1;omega
   .cases hc
def anX (ho hfi hli hag how har:Sl) (OU:List OuR) (FI:List Fs) (LI:List Lm) (AG OW:List Bool) (AR:List ArR):An:=⟨ho,fun i=>((OU[i]?).map Prod.fst).getD ⟨none,0,0⟩,hfi,FI,hli,LI,hag,AG,how,OW,har,AR⟩
theorem anF_of {h0 h:Heap} {ab gb:Nat} {g:Gl} {role:Int} {ho hfi hli hag how har:Sl} {OU:List OuR} {FI:List Fs} {LI:List Lm} {AG OW:List Bool} {AR:List ArR} {R:List It} (hs:St h0 h (anB ab gb g role ho hfi hli hag how har OU FI LI AG OW AR R)) (hg:GI h0 g) (hV:ValidS g) (hS:AnSpec g role OU FI LI AG OW) (hAR:ArI g role (arrS g role) AR) (hAl:∀q∈AR,q.2.length<=160000) :
  AnF h ab g role (anX ho hfi hli hag how har OU FI LI AG OW AR)/\XOk g role (anX ho hfi hli hag how har OU FI LI AG OW AR):=by
 obtain⟨hO,hF,hL,hAg,hOw⟩:=hS;have hN:=hV.num.n;have hFl:FI.length=g.n.toNat:=by have:=congrArg List.length hF;simpa using this
 have hLl:LI.length=g.n.toNat:=by rw[hL];simp
 have hAgl:AG.length=g.n.toNat:=by rw[hAg];simp
 have hOwl:OW.length=g.n.toNat:=by rw[hOw];simp
 have hARl:=hAR.len;have hOl:OU.length=g.n.toNat:=by have:=congrArg List.length hO;simpa using this
 have hG:AnG h ab g role ho (fun i=>((OU[i]?).map Prod.fst).getD ⟨none,0,0⟩):=anA_G (by rw[<-anB_eq];exact hs) hg hO;have m8:∀ {x:It},x∈[.blk ab (anC g role ho hfi hli hag how har) 250,.sl ho 42 1 ((OU.map Prod.fst).map slC),.sl hfi 259 2 (FI.map Fs.cs),.sl hli 256 4 (LI.map Lm.cs),.sl hag 4 1 (AG.map bC),.sl how 4 1 (OW.map bC),.sl har 268 1 ((AR.map Prod.fst).map slC),.blk gb g.cs 27]->x∈anB ab gb g role ho hfi hli hag how har OU FI LI AG OW AR R:=fun hx=>by
  unfold anB;exact List.mem_append_left _ (List.mem_append_left _ (List.mem_append_left _ (List.mem_append_left _ hx)))
 have mf:∀f∈FI,fIt f∈anB ab gb g role ho hfi hli hag how har OU FI LI AG OW AR R:=fun f hf=>by
  unfold anB;exact List.mem_append_left _ (List.mem_append_left _ (List.mem_append_right _ (Yp.2 ⟨f,hf,rfl⟩)))
 have ma:∀q∈AR,nest 270 4 Arv.cs q∈anB ab gb g role ho hfi hli hag how har OU FI LI AG OW AR R:=fun q hq=>by
  unfold anB;exact List.mem_append_left _ (List.mem_append_right _ (Yp.2 ⟨q,hq,rfl⟩))
 have hfe:∀f∈FI,f.l.length<=1048576:=fun f hf=>by
  have h1:(f.l,f.b)∈FI.map (fun f=>(f.l,f.b)):=Yp.2 ⟨f,hf,rfl⟩;rw[hF] at h1;obtain⟨s,_,h2⟩:=Yp.1 h1;have h3:firstE g role (s:Nat)=f.l:=congrArg Prod.fst h2;have h4:(firstE g role (s:Nat)).length<=400:=evs_len hV;rw[<-h3];omega
 refine⟨⟨hG,⟨?_,?_,?_,?_,?_,?_,fun f hf=>?_,?_,?_,?_⟩,?_,?_,fun q hq=>?_,hFl,hLl,hAgl,hOwl,hARl⟩,⟨hF,hL,hAg,hOw,hAR.l,hAR.b⟩⟩
 .exact hs.rd 0 rfl (i:=8) rfl
 .exact hs.rd 0 rfl (i:=10) rfl
 .exact hs.rd 0 rfl (i:=11) rfl
 .exact hs.rd 0 rfl (i:=12) rfl
 .exact hs.rd 0 rfl (i:=13) rfl
 .exact hs.rlm2 (X:=FI) (cs:=Fs.cs) (s:=hfi) (e:=259) (m8 (Yb (i:=2) rfl)) (by decide) (by show FI.length<=_;omega)
 .exact hs.rlm2 (e:=252) (mf f hf) (by decide) (hfe f hf)
 .exact hs.rlm2 (X:=LI) (cs:=Lm.cs) (s:=hli) (e:=256) (m8 (Yb (i:=3) rfl)) (by decide) (by show LI.length<=_;omega)
 .exact hs.rlm2 (X:=AG) (cs:=bC) (s:=hag) (e:=4) (m8 (Yb (i:=4) rfl)) (by decide) (by show AG.length<=_;omega)
 .exact hs.rlm2 (X:=OW) (cs:=bC) (s:=how) (e:=4) (m8 (Yb (i:=5) rfl)) (by decide) (by show OW.length<=_;omega)
 .exact hs.rd 0 rfl (i:=14) rfl
 .exact hs.rlm2 (X:=AR.map Prod.fst) (cs:=slC) (s:=har) (e:=268) (m8 (Yb (i:=6) rfl)) (by decide) (by show (AR.map Prod.fst).length<=_;rw[Yc];omega)
 .exact hs.rlm2 (e:=270) (ma q hq) (by decide) (by have:=hAl q hq;omega)
def kindP (g:Gl) (role:Int) (X:An) (i:Nat) (W:WS) (n:Int):Prop:=
 match i with
 | 0=>BpP g role 1 X W n
 | 1=>MxP g role X W n
 | 2=>BpP g role 3 X W n
 | _=>BpP g role 4 X W n
inductive FindI (g:Gl) (role:Int) (X:An):Nat->WS->Int->Prop
 | zero:FindI g role X 0 ws0 farI
 | take {i:Nat} {W W':WS} {n n':Int}:FindI g role X i W n->kindP g role X i W' n'->n'<n->FindI g role X (i+1) W' n'
 | keep {i:Nat} {W W':WS} {n n':Int}:FindI g role X i W n->kindP g role X i W' n'->¬n'<n->FindI g role X (i+1) W n
def FindP (g:Gl) (role:Int) (W:WS) (n:Int):Prop:=∃X:An,XOk g role X/\FindI g role X 4 W n
theorem cal120:callable Pz 120=true:=by kernel_rfl
theorem cal122:callable Pz 122=true:=by kernel_rfl
theorem cal123:callable Pz 123=true:=by kernel_rfl
theorem cal124:callable Pz 124=true:=by kernel_rfl
def fdL (bb ab mb:Nat) (w:Wt) (F S:List Ac) (all:Sl) (m:Nat):List It:=
 [.blk bb w.cs 78,.sl w.f 53 3 (F.map Ac.cs),.sl w.s 53 3 (S.map Ac.cs),.blk mb [.map (some m)] 202,.blk ab [.slice all.a all.n all.c] 201]
def FOut (h h':Heap) (W:WS) (n:Int) (v:Value):Prop:=∃w:Wt,w.k=W.k/\w.r=W.r/\w.e=W.e/\w.o=W.o/\v=.tuple ⟨[.agg ⟨w.cs⟩,.int .i64 n,.int .i64 0]⟩/\∃L,St h h' (.sl w.f 53 3 (W.F.map Ac.cs) :: .sl w.s 53 3 (W.S.map Ac.cs)::L)
theorem perm9 {α:Type} (a b c d e f x y:α) (L:List α):List.Perm (a::b::c::d::e::f::x::y::L) (b::x::y::e::f::a::c::d::L):=by
 have h1:List.Perm (a::b::c::d::e::f::x::y::L) (b::a::c::d::e::f::x::y::L):=List.Perm.swap _ _ _;refine h1.trans (List.Perm.cons _ ?_);have h2:List.Perm ([a,c,d,e,f]++([x,y]++L)) ([x,y]++([a,c,d,e,f]++L)):=by
  rw[<-Yz,<-Yz];exact List.Perm.append_right _ List.perm_append_comm
 refine h2.trans (List.Perm.cons _ (List.Perm.cons _ ?_));have h3:List.Perm ([a,c,d]++([e,f]++L)) ([e,f]++([a,c,d]++L)):=by
  rw[<-Yz,<-Yz];exact List.Perm.append_right _ List.perm_append_comm
 exact h3
theorem find69 (g:Gl) (role:Int) (h:Heap) (hg:GI h g) (hx:Gx h) (hV:ValidS g) (hr:0<=role/\role<g.rs.length) :
  Fn Pz 69 #[g.v,.int .i64 role] h fun v h'=>∃W n,FindP g role W n/\FOut h h' W n v:=by
 apply vc69 (bs g.nm) g.hr g.hd g.n g.s g.e g.he g.ht role;unfold W69;refine (St.refl h).newb fun h9 hs=>?_;refine hs.newb fun h10 hs=>?_;refine⟨_,_,_,_,_,_,_,_,hs.at 1 rfl (o:=0) (n:=8) rfl,?_⟩;refine (analyse117 g role h10 (hg.ext hs.ext) (hx.ext hs.ext)).mono ?_;rintro _ h22 (⟨hno,_⟩ | ⟨_,ab,ho,hfi,hli,hag,how,har,OU,FI,LI,AG,OW,rfl,hsA,hSp⟩)
 .exact absurd ⟨hV,hr.1,hr.2⟩ hno
 have hEA:=hs.ext;replace hs:=(hs.join hsA).perm List.perm_append_comm;refine⟨some ⟨ab,0,none⟩,0,rfl,?_⟩;refine hs.newput (vs:=[.pointer (some ⟨ab,0,none⟩)]) rfl rfl fun h24 hs=>?_;refine sBn (fun c=>absurd rfl c) (fun _=>?_);refine⟨some ⟨ab,0,none⟩,hs.rd 0 rfl (i:=0) rfl,?_⟩;have hs0:St h h24 (anB ab h10.size g role ho hfi hli hag how har OU FI LI AG OW (List.replicate g.n.toNat (nilS,[])) [.blk h9.size wt0.cs 78,.blk h.size g.cs 27,.blk h22.size [.pointer (some ⟨ab,0,none⟩)] 198]):=by
  rw[anB_eq];have hs:=hs.perm (List.perm_append_comm (l₁:=[_]) (l₂:=anA ab h10.size g role ho hfi hli hag how har OU FI LI AG OW (List.replicate g.n.toNat (nilS,[]))++[_,_]));rw[Yz] at hs;exact hs
 refine (early118 hs0 hg hx hV hSp.1).mono ?_;rintro _ h42 ⟨rfl,AR,hs1,hAR,hAl⟩;refine⟨rfl,?_⟩;obtain⟨hA,hX⟩:=anF_of hs1 hg hV hSp hAR hAl;generalize anX ho hfi hli hag how har OU FI LI AG OW AR=X at hA hX;have hs1:St h h42 [.blk h9.size wt0.cs 78,.blk h.size g.cs 27,.blk h22.size [.pointer (some ⟨ab,0,none⟩)] 198]:=hs1.subp (by unfold anB;exact List.perm_append_comm);refine⟨some ⟨ab,0,none⟩,hs1.rd 2 rfl (i:=0) rfl,?_⟩;refine (reached119 ab g role X.ho X.os h42 hA.gg hV).mono ?_;rintro _ h47 ⟨E47,all,mb,A,l,rfl,hM⟩;have hs2:=hs1.step E47;have hA2:=hA.ext E47;have hx2:=hx.ext hs2.ext;have hp0:hc h47 ⟨h22.size,0,none⟩=some (Value.pointer (some ⟨ab,0,none⟩)):=hs2.rd 2 rfl (i:=0) rfl;refine⟨all,some mb,rfl,?_⟩;refine (St.refl h47).newb fun h48 hs=>?_;refine hs.newb fun h49 hs=>?_;refine hs.put 1 rfl (o:=0) (vs:=[.slice all.a all.n all.c]) rfl (Yyt 1) fun h50 hs=>?_;refine hs.put 0 rfl (o:=0) (vs:=[.map (some mb)]) rfl (Yyt 1) fun h51 hs=>?_;refine hs.newput (vs:=wt0.cs) rfl rfl fun h53 hs=>?_;have hs:St h47 h53 (fdL h51.size h47.size h48.size wt0 [] [] all mb):=(((hs.nil_ 53 3).nil_ 53 3).perm (List.perm_append_comm (l₁:=[_,_]) (l₂:=[_,_,_]))).subp (R:=[]) (by
  rw[Yw];exact List.Perm.cons _ (List.perm_append_comm (l₁:=[_,_]) (l₂:=[_,_])))
 refine⟨some ⟨ab,0,none⟩,hc_ext hs.ext hp0,?_⟩;refine hs.newput (vs:=[.func (.func 120) #[] #[.pointer (some ⟨h22.size,0,none⟩),.pointer (some ⟨h47.size,0,none⟩),.pointer (some ⟨h48.size,0,none⟩)],.func (.func 122) #[.pointer (some ⟨ab,0,none⟩)] #[],.func (.func 123) #[] #[.pointer (some ⟨h22.size,0,none⟩),.pointer (some ⟨h47.size,0,none⟩),.pointer (some ⟨h48.size,0,none⟩)],.func (.func 124) #[] #[.pointer (some ⟨h22.size,0,none⟩),.pointer (some ⟨h47.size,0,none⟩),.pointer (some ⟨h48.size,0,none⟩)]]) rfl rfl fun h56 hs=>?_;refine⟨_,_,_,_,hs.at 0 rfl (o:=0) (n:=4) rfl,?_⟩;refine⟨fun len x h' μ=>∃(i:Nat) (W:WS) (w:Wt),x=(i:Int)/\4-i=μ/\i<=4/\FindI g role X i W len/\w.k=W.k/\w.r=W.r/\w.e=W.e/\w.o=W.o/\St h47 h' (fdL h51.size h47.size h48.size w W.F W.S all mb),⟨_,0,ws0,wt0,rfl,rfl,by decide,.zero,rfl,rfl,rfl,rfl,hs.drop 1⟩,?_⟩;clear hs;rintro-len _ h66 μ ⟨i,W,w,rfl,rfl,hi,hF,e1,e2,e3,e4,hs⟩;have fin:∀(v:Value) (h87:Heap),(∃W' n',kindP g role X i W' n'/\WOut h66 h87 W' n' v)->i<4->∃x72:Int,∃x73:Int,∃x74:Sl,∃x75:Sl,∃x76:Int,∃x77:Bool,∃x78:Int,∃x79:Int,∃x80:Sl,∃x81:Int,∃x82:Bool,∃x83:Int,∃x84:Int,∃x85:Sl,∃x86:Int,v=.tuple ⟨[.agg ⟨[.int .i64 x72,.int .i64 x73,.slice x74.a x74.n x74.c,.slice x75.a x75.n x75.c,.int .i64 x76,.bool x77,.int .i64 x78,.int .i64 x79,.slice x80.a x80.n x80.c,.int .i64 x81,.bool x82,.int .i64 x83,.int .i64 x84,.slice x85.a x85.n x85.c]⟩,.int .i64 x86]⟩ /\
   V69k h87 x72 x73 x74 x75 x76 x77 x78 x79 x80 x81 x82 x83 x84 x85 x86 len h51 (4-i) (fun len x h' μ=>∃(i:Nat) (W:WS) (w:Wt),x=(i:Int)/\4-i=μ/\i<=4/\FindI g role X i W len/\w.k=W.k/\w.r=W.r/\w.e=W.e/\w.o=W.o/\St h47 h' (fdL h51.size h47.size h48.size w W.F W.S all mb)) (i:Int):=by
  rintro _ h87 ⟨W',n',hkp,w',f1,f2,f3,f4,rfl,L,hs'⟩ hi4;refine⟨w'.k,w'.r,w'.f,w'.s,w'.e.r,w'.e.s,w'.e.p,w'.e.l,nilS,w'.o.r,w'.o.s,w'.o.p,w'.o.l,nilS,n',rfl,?_⟩;unfold V69k;have hs:=hs.join hs';refine hs.newput (vs:=w'.cs) rfl rfl fun h89 hs=>?_;refine sBi (fun c=>?_) (fun c=>?_)
  .refine cpW hs 0 1 (w:=w') (w0:=w) rfl rfl fun h104 hs=>?_;refine⟨_,?_,i+1,W',w',by rw[w64 (by omega) (by omega)];omega,rfl,by omega,.take hF hkp c,f1,f2,f3,f4,?_⟩
   .omega
   .refine hs.subp (R:=.blk h87.size w'.cs 78 :: .sl w.f 53 3 (W.F.map Ac.cs) :: .sl w.s 53 3 (W.S.map Ac.cs)::L) ?_;show List.Perm (.blk h87.size w'.cs 78 :: .blk h51.size w'.cs 78 :: .sl w.f 53 3 (W.F.map Ac.cs) :: .sl w.s 53 3 (W.S.map Ac.cs) :: .blk h48.size [.map (some mb)] 202 :: .blk h47.size [.slice all.a all.n all.c] 201 :: .sl w'.f 53 3 (W'.F.map Ac.cs) :: .sl w'.s 53 3 (W'.S.map Ac.cs)::L) (.blk h51.size w'.cs 78 :: .sl w'.f 53 3 (W'.F.map Ac.cs) :: .sl w'.s 53 3 (W'.S.map Ac.cs) :: .blk h48.size [.map (some mb)] 202 :: .blk h47.size [.slice all.a all.n all.c] 201 :: .blk h87.size w'.cs 78 :: .sl w.f 53 3 (W.F.map Ac.cs) :: .sl w.s 53 3 (W.S.map Ac.cs)::L);exact perm9 _ _ _ _ _ _ _ _ L
  .refine⟨_,?_,i+1,W,w,by rw[w64 (by omega) (by omega)];omega,rfl,by omega,.keep hF hkp c,e1,e2,e3,e4,?_⟩
   .omega
   .exact (hs.drop 1).subp (List.Perm.refl _)
 refine sBi (fun c=>?_) (fun c=>?_)
 .refine⟨⟨by omega,by omega⟩,?_⟩;have hP:=hp0;have hMx:=(hM.ext hs.ext);have hAx:=(hA2.ext hs.ext);have hxx:=(hx2.ext hs.ext);have hc0:=hc_ext hs.ext hp0;have hc1:hc h66 ⟨h47.size,0,none⟩=some (Value.slice all.a all.n all.c):=hs.rd 4 rfl (i:=0) rfl;have hc2:hc h66 ⟨h48.size,0,none⟩=some (Value.map (some mb)):=hs.rd 3 rfl (i:=0) rfl;have hi4:i<4:=by omega
  match i,hi4,fin with
  | 0,hi4,fin=>
   refine⟨_,rfl,?_⟩;show cond (callable Pz 120) _ _;rw[cal120,cond_true];exact (clo120 ab g role X all mb A l 1048578 _ _ _ h66 hc0 hc1 hc2 hAx hxx hV hMx (hX.ckB 1 A) hX.arOk).mono fun v h87 hr=>fin v h87 hr hi4
  | 1,hi4,fin=>
   refine⟨_,rfl,?_⟩;show cond (callable Pz 122) _ _;rw[cal122,cond_true];exact (mixed122 ab g role X h66 hAx hV).mono fun v h87 hr=>fin v h87 hr.out hi4
  | 2,hi4,fin=>
   refine⟨_,rfl,?_⟩;show cond (callable Pz 123) _ _;rw[cal123,cond_true];exact (clo123 ab g role X all mb A l 1048578 _ _ _ h66 hc0 hc1 hc2 hAx hxx hV hMx (hX.ckB 3 A) hX.arOk).mono fun v h87 hr=>fin v h87 hr hi4
  | 3,hi4,fin=>
   refine⟨_,rfl,?_⟩;show cond (callable Pz 124) _ _;rw[cal124,cond_true];exact (clo124 ab g role X all mb A l 1048578 _ _ _ h66 hc0 hc1 hc2 hAx hxx hV hMx (hX.ckB 4 A) hX.arOk).mono fun v h87 hr=>fin v h87 hr hi4
 .have:i=4:=by omega
  subst this;have hs:=hs2.join hs;refine cpW hs 3 0 (w:=w) (w0:=wt0) rfl rfl fun h121 hs=>?_;refine rdW (w:=w) (Q:=fun cs=>∃W n,FindP g role W n/\FOut h h121 W n (.tuple ⟨[.agg ⟨cs⟩,.int .i64 len,.int .i64 0]⟩)) (hs.at 0 rfl (o:=0) (n:=14) rfl) ?_;exact⟨W,len,⟨X,hX,hF⟩,w,e1,e2,e3,e4,rfl,_,hs.drop 4⟩
inductive ChkI (g:Gl):Nat->WS->Int->Prop
 | zero:ChkI g 0 ws0 farI
 | take {i:Nat} {W W':WS} {n n':Int}:ChkI g i W n->FindP g (i:Int) W' n'->(n'<n\/n'=n/\n'<farI/\W'.k<W.k)->ChkI g (i+1) W' n'
 | keep {i:Nat} {W W':WS} {n n':Int}:ChkI g i W n->FindP g (i:Int) W' n'->¬(n'<n\/n'=n/\n'<farI/\W'.k<W.k)->ChkI g (i+1) W n
inductive ChkR (g:Gl) (h h':Heap):Value->Prop
 | bad (hV:¬ValidS g) (E:Ext h h'):ChkR g h h' (.tuple ⟨[.agg ⟨wt0.cs⟩,.int .i64 1]⟩)
 | ok {W:WS} (hV:ValidS g) (hC:ChkI g g.rs.length W farI) (E:Ext h h'):ChkR g h h' (.tuple ⟨[.agg ⟨wt0.cs⟩,.int .i64 0]⟩)
 | err {v:Value} {W:WS} {n:Int} (hV:ValidS g) (hC:ChkI g g.rs.length W n) (hn:n≠farI) (hw:WOut h h' W 18 v):ChkR g h h' v
def ckL (bb zb gb:Nat) (g:Gl) (w:Wt) (F S:List Ac):List It:=
 [.blk bb w.cs 78,.sl w.f 53 3 (F.map Ac.cs),.sl w.s 53 3 (S.map Ac.cs),.blk zb wt0.cs 78,.blk gb g.cs 27]
theorem check33 (g:Gl) (h:Heap) (hg:GI h g) (hx:Gx h):Fn Pz 33 #[g.v] h fun v h'=>ChkR g h h' v:=by
 apply vc33 (bs g.nm) g.hr g.hd g.n g.s g.e g.he g.ht;unfold W33 V33a;have hrn:=hg.r.ln;refine (St.refl h).newb fun h9 hs=>?_;refine hs.newb fun h10 hs=>?_;refine⟨_,_,_,_,_,_,_,_,hs.at 1 rfl (o:=0) (n:=8) rfl,?_⟩;refine (valid38 g h10 (hg.ext hs.ext) (hx.ext hs.ext)).mono ?_;rintro _ h21 ⟨rfl,E⟩;replace hs:=hs.step E;refine⟨_,rfl,sB_intro (fun c=>?_) (fun c=>?_)⟩
 .refine hs.put 0 rfl (o:=0) (vs:=wt0.cs) rfl (Yyt 14) fun h22 hs=>?_;refine rdW (w:=wt0) (Q:=fun cs=>ChkR g h h22 (.tuple ⟨[.agg ⟨cs⟩,.int .i64 1]⟩)) (hs.at 0 rfl (o:=0) (n:=14) rfl) ?_;exact .bad (Yyo (bF c)) hs.ext
 have hV:=Yyn (bT c);have hr6:=hV.nam.n6;refine hs.newput (vs:=wt0.cs) rfl rfl fun h38 hs=>?_;have hs:St h h38 (ckL h21.size h9.size h.size g wt0 [] []):=((hs.nil_ 53 3).nil_ 53 3).perm (by
  show List.Perm ([_,_]++([_]++[_,_])) ([_]++([_,_]++[_,_]));rw[<-Yz,<-Yz];exact List.Perm.append_right _ List.perm_append_comm)
 refine⟨g.hr,hs.rd 4 rfl (i:=1) rfl,?_⟩;refine⟨fun len x h' μ=>∃(i:Nat) (W:WS) (w:Wt),x=(i:Int)/\g.hr.n-i=μ/\i<=g.hr.n/\ChkI g i W len/\w.k=W.k/\w.r=W.r/\w.e=W.e/\w.o=W.o/\St h h' (ckL h21.size h9.size h.size g w W.F W.S),⟨_,0,ws0,wt0,rfl,rfl,Nat.zero_le _,.zero,rfl,rfl,rfl,rfl,hs⟩,?_⟩;clear hs;rintro-len _ h45 μ ⟨i,W,w,rfl,rfl,hi,hF,e1,e2,e3,e4,hs⟩;refine sBi (fun c=>?_) (fun c=>?_)
 .refine⟨_,_,_,_,_,_,_,_,hs.at 4 rfl (o:=0) (n:=8) rfl,?_⟩;refine (find69 g (i:Int) h45 (hg.ext hs.ext) (hx.ext hs.ext) hV ⟨by omega,by omega⟩).mono ?_;rintro _ h71 ⟨W',n',hP,w',f1,f2,f3,f4,rfl,L,hs'⟩;refine⟨w'.k,w'.r,w'.f,w'.s,w'.e.r,w'.e.s,w'.e.p,w'.e.l,nilS,w'.o.r,w'.o.s,w'.o.p,w'.o.l,nilS,n',0,rfl,?_⟩;have hs:=hs.join hs';refine hs.newput (vs:=w'.cs) rfl rfl fun h73 hs=>?_;have tk:∀ {hZ:Heap},(n'<len\/n'=len/\n'<farI/\W'.k<W.k)->St h hZ ((It.blk h71.size w'.cs 78::(ckL h21.size h9.size h.size g w W.F W.S ++ .sl w'.f 53 3 (W'.F.map Ac.cs) :: .sl w'.s 53 3 (W'.S.map Ac.cs)::L)).set 1 (.blk h21.size w'.cs 78)) ->
    ∃m,m<g.hr.n-i/\∃(i':Nat) (W:WS) (w:Wt),IntKind.wrap .i64 ((i:Int)+1)=(i':Int)/\g.hr.n-i'=m/\i'<=g.hr.n/\ChkI g i' W n'/\w.k=W.k/\w.r=W.r/\w.e=W.e/\w.o=W.o/\St h hZ (ckL h21.size h9.size h.size g w W.F W.S):=fun {hZ} hc hs=>by
   refine⟨_,?_,i+1,W',w',by rw[w64 (by omega) (by omega)];omega,rfl,by omega,.take hF hP hc,f1,f2,f3,f4,?_⟩
   .omega
   .refine hs.subp (R:=.blk h71.size w'.cs 78 :: .sl w.f 53 3 (W.F.map Ac.cs) :: .sl w.s 53 3 (W.S.map Ac.cs)::L) ?_;show List.Perm (.blk h71.size w'.cs 78 :: .blk h21.size w'.cs 78 :: .sl w.f 53 3 (W.F.map Ac.cs) :: .sl w.s 53 3 (W.S.map Ac.cs) :: .blk h9.size wt0.cs 78 :: .blk h.size g.cs 27 :: .sl w'.f 53 3 (W'.F.map Ac.cs) :: .sl w'.s 53 3 (W'.S.map Ac.cs)::L) (.blk h21.size w'.cs 78 :: .sl w'.f 53 3 (W'.F.map Ac.cs) :: .sl w'.s 53 3 (W'.S.map Ac.cs) :: .blk h9.size wt0.cs 78 :: .blk h.size g.cs 27 :: .blk h71.size w'.cs 78 :: .sl w.f 53 3 (W.F.map Ac.cs) :: .sl w.s 53 3 (W.S.map Ac.cs)::L);exact perm9 _ _ _ _ _ _ _ _ L
  have kp:∀ {hZ:Heap},¬(n'<len\/n'=len/\n'<farI/\W'.k<W.k)->St h hZ (It.blk h71.size w'.cs 78::(ckL h21.size h9.size h.size g w W.F W.S ++ .sl w'.f 53 3 (W'.F.map Ac.cs) :: .sl w'.s 53 3 (W'.S.map Ac.cs)::L)) ->
    ∃m,m<g.hr.n-i/\∃(i':Nat) (W:WS) (w:Wt),IntKind.wrap .i64 ((i:Int)+1)=(i':Int)/\g.hr.n-i'=m/\i'<=g.hr.n/\ChkI g i' W len/\w.k=W.k/\w.r=W.r/\w.e=W.e/\w.o=W.o/\St h hZ (ckL h21.size h9.size h.size g w W.F W.S):=fun {hZ} hc hs=>by
   refine⟨_,?_,i+1,W,w,by rw[w64 (by omega) (by omega)];omega,rfl,by omega,.keep hF hP hc,e1,e2,e3,e4,(hs.drop 1).subp (List.Perm.refl _)⟩;omega
  refine sBi (fun c1=>?_) (fun c1=>?_)
  .exact cpW hs 0 1 (w:=w') (w0:=w) rfl rfl fun h88 hs=>tk (.inl c1) hs
  .refine sBe (fun c2=>?_) (fun c2=>?_)
   .refine sBi (fun c3=>?_) (fun c3=>?_)
    .refine⟨w'.k,hs.rd 0 rfl (i:=0) rfl,w.k,hs.rd 1 rfl (i:=0) rfl,sBi (fun c4=>?_) (fun c4=>?_)⟩
     .exact cpW hs 0 1 (w:=w') (w0:=w) rfl rfl fun h106 hs=>tk (.inr ⟨c2,c3,by rw[<-e1,<-f1];exact c4⟩) hs
     .exact kp (fun h9=>h9.elim c1 fun h9=>c4 (by rw[e1,f1];exact h9.2.2)) hs
    .exact kp (fun h9=>h9.elim c1 fun h9=>c3 h9.2.1) hs
   .exact kp (fun h9=>h9.elim c1 fun h9=>c2 h9.1) hs
 .have:i=g.rs.length:=by omega
  subst this;refine sBe (fun c1=>?_) (fun c1=>?_)
  .refine hs.put 3 rfl (o:=0) (vs:=wt0.cs) rfl (Yyt 14) fun h111 hs=>?_;refine rdW (w:=wt0) (Q:=fun cs=>ChkR g h h111 (.tuple ⟨[.agg ⟨cs⟩,.int .i64 0]⟩)) (hs.at 3 rfl (o:=0) (n:=14) rfl) ?_;exact .ok hV (by rw[<-show len=farI from c1];exact hF) hs.ext
  .refine cpW hs 0 3 (w:=w) (w0:=wt0) rfl rfl fun h140 hs=>?_;refine rdW (w:=w) (Q:=fun cs=>ChkR g h h140 (.tuple ⟨[.agg ⟨cs⟩,.int .i64 18]⟩)) (hs.at 3 rfl (o:=0) (n:=14) rfl) ?_;exact .err hV hF c1 ⟨w,e1,e2,e3,e4,rfl,_,hs.drop 1⟩
/-! ### moves of pairs, and views -/
theorem mov_q {g:Gl} {role:Int} {s t:Nat} {x:Ed} (hx:x∈g.es) (hv:vis1 role x=none) (hf:x.f=(s:Int)):∃m∈movL g.es role s t,pto m=(x.t.toNat,t):=by
 obtain⟨i,hi⟩:=Yf.1 hx;refine⟨⟨(i:Int),-1,(eA g.es i).t,(t:Nat)⟩,?_,by unfold pto;rw[eA_get hi];rfl⟩;unfold movL mqL;refine List.mem_append_left _ (List.mem_append_left _ (Yp.2 ⟨i,List.mem_filter.2 ⟨outG_mem.2 ⟨x,hi,hf⟩,?_⟩,rfl⟩));unfold qtB;rw[eA_get hi,hv];rfl
theorem mov_o {g:Gl} {role:Int} {s t:Nat} {x:Ed} (hx:x∈g.es) (hv:vis1 role x=none) (hf:x.f=(t:Int)):∃m∈movL g.es role s t,pto m=(s,x.t.toNat):=by
 obtain⟨i,hi⟩:=Yf.1 hx;refine⟨⟨-1,(i:Int),(s:Nat),(eA g.es i).t⟩,?_,by unfold pto;rw[eA_get hi];rfl⟩;unfold movL moL;refine List.mem_append_left _ (List.mem_append_right _ (Yp.2 ⟨i,List.mem_filter.2 ⟨outG_mem.2 ⟨x,hi,hf⟩,?_⟩,rfl⟩));unfold qtB;rw[eA_get hi,hv];rfl
theorem mov_b {g:Gl} {role:Int} {s t:Nat} {x y:Ed} {e:Ev} (hx:x∈g.es) (hy:y∈g.es) (hvx:vis1 role x=some e) (hvy:vis1 role y=some e) (hf:x.f=(s:Int)) (hg:y.f=(t:Int)):∃m∈movL g.es role s t,pto m=(x.t.toNat,y.t.toNat):=by
 obtain⟨i,hi⟩:=Yf.1 hx;obtain⟨k,hk⟩:=Yf.1 hy;refine⟨⟨(i:Int),(k:Int),(eA g.es i).t,(eA g.es k).t⟩,?_,by unfold pto;rw[eA_get hi,eA_get hk]⟩;unfold movL mbL;refine List.mem_append_right _ (List.mem_flatMap.2 ⟨i,outG_mem.2 ⟨x,hi,hf⟩,?_⟩);unfold mb1;rw[eA_get hi,hvx];refine Yp.2 ⟨k,List.mem_filter.2 ⟨outG_mem.2 ⟨y,hk,hg⟩,decide_eq_true ?_⟩,rfl⟩;rw[eA_get hk,hvy]
theorem Prr.q1 {g:Gl} {role:Int} {l:List Int} {t:Nat} {a:Int} (hn:∀x∈g.es,0<=x.f/\0<=x.t) (hl:∀b∈l,0<=b/\Prr g role (b.toNat,t)) (h:Qr g.es role l a):0<=a/\Prr g role (a.toNat,t):=by
 induction h with
 | base hm=>exact hl _ hm
 | @step a b _ hx ih=>
  obtain⟨x,hx,hv,hf,rfl⟩:=hx;obtain⟨m,hm,he⟩:=mov_q (t:=t) (s:=a.toNat) hx hv (by omega);refine⟨(hn x hx).2,?_⟩;have:=Prr.step ih.2 hm
  rwa [he] at this
theorem Prr.q2 {g:Gl} {role:Int} {l:List Int} {s:Nat} {a:Int} (hn:∀x∈g.es,0<=x.f/\0<=x.t) (hl:∀b∈l,0<=b/\Prr g role (s,b.toNat)) (h:Qr g.es role l a):0<=a/\Prr g role (s,a.toNat):=by
 induction h with
 | base hm=>exact hl _ hm
 | @step a b _ hx ih=>
  obtain⟨x,hx,hv,hf,rfl⟩:=hx;obtain⟨m,hm,he⟩:=mov_o (s:=s) (t:=a.toNat) hx hv (by omega);refine⟨(hn x hx).2,?_⟩;have:=Prr.step ih.2 hm
  rwa [he] at this
def PrP (g:Gl) (role:Int) (p:PSet):Prop:=∀s t:Nat,p s=true->p t=true->Prr g role (s,t)
theorem clo_prp {g:Gl} {role:Int} {l:List Int} (hn:∀x∈g.es,0<=x.f/\0<=x.t) (h0:∀a∈l,0<=a) (hl:∀a∈l,∀b∈l,Prr g role (a.toNat,b.toNat)):PrP g role (clo g.es role l):=fun s t hs ht=>by
 have h1:=clo_iff.1 hs;have h2:=clo_iff.1 ht;have h3:∀b∈l,Prr g role (s,b.toNat):=fun b hb=>by
  have:=(Prr.q1 (t:=b.toNat) hn (fun a ha=>⟨h0 a ha,hl a ha b hb⟩) h1).2
  rwa [Ys] at this
 have:=(Prr.q2 (s:=s) hn (fun b hb=>⟨h0 b hb,h3 b hb⟩) h2).2
 rwa [Ys] at this
theorem toL_mem2 {es:List Ed} {role:Int} {p:PSet} {e:Ev} {a:Int} (h:a∈toL es role p e):∃x∈es,vis1 role x=some e/\x.t=a/\∃n:Nat,x.f=(n:Int)/\p n=true:=by
 unfold toL at h;obtain⟨n,hn,h⟩:=List.mem_flatMap.1 h;obtain⟨y,hy,h⟩:=Yym.1 h;unfold visL at hy;obtain⟨x,hx,hy⟩:=Yym.1 hy;split at hy
 .rename_i hf;obtain⟨e',he',rfl⟩:=Yya.1 hy;split at h
  .rename_i h9;cases h;simp only at h9;subst h9;exact⟨x,hx,he',rfl,n,hf,(elems_mem.1 hn).2⟩
  .cases h
 .cases hy
theorem arcsF_prp {es:List Ed} {role:Int} {i:Nat} {p:PSet} {P:PSet->Prop} (hc:∀x,P (clo es role (toL es role p x))):∀(l:List Ev) (S:List PSet) (M:List Mv),(∀s∈S,P s)->∀s∈(arcsF es role i p l S M).1,P s
 | [],S,M,h=>h
 | x::r,S,M,h=>by
  rw[arcsF];refine arcsF_prp hc r _ _ fun s hs=>?_;unfold rowS at hs;split at hs
  .exact h s hs
  .rcases Yk.1 hs with hs | hs
   .exact h s hs
   .rw[Ye.1 hs];exact hc x
theorem viewsF_prp {es:List Ed} {role:Int} {P:PSet->Prop} (hc:∀p x,P p->P (clo es role (toL es role p x))):∀(f i:Nat) (S:List PSet) (M:List Mv) {S':List PSet} {M':List Mv},(∀s∈S,P s)->viewsF es role f i S M=some (S',M')->∀s∈S',P s
 | 0,i,S,M,S',M',_,h=>by cases h
 | f+1,i,S,M,S',M',h1,h=>by
  rw[viewsF] at h;split at h
  .cases h;exact h1
  .rename_i p hp;split at h
   .cases h
   .exact viewsF_prp hc f (i+1) _ _ (arcsF_prp (fun x=>hc p x (h1 p (Yb hp))) _ _ _ h1) h
theorem views_prp {g:Gl} {role:Int} (hV:ValidS g) {S:List PSet} {M:List Mv} (h:views g role=some (S,M)):∀p∈S,PrP g role p:=by
 have hN:=hV.num.n;have hn:∀x∈g.es,0<=x.f/\0<=x.t:=fun x hx=>by have:=hV.num.e x hx;unfold EdS at this;omega
 unfold views at h;refine viewsF_prp (P:=PrP g role) (fun p x hp=>clo_prp hn (fun a ha=>?_) fun a ha b hb=>?_) 202 0 _ [] (fun s hs=>?_) h
 .obtain⟨y,hy,_,rfl,_⟩:=toL_mem2 ha;exact (hn y hy).2
 .obtain⟨y,hy,hvy,rfl,s,hs,hps⟩:=toL_mem2 ha;obtain⟨z,hz,hvz,rfl,t,ht,hpt⟩:=toL_mem2 hb;obtain⟨m,hm,he⟩:=mov_b hy hz hvy hvz hs ht;have:=Prr.step (hp s t hps hpt) hm
  rwa [he] at this
 .rw[Ye.1 hs];refine clo_prp hn (fun a ha=>by rw[Ye] at ha;omega) fun a ha b hb=>?_;rw[Ye] at ha hb;rw[ha,hb];exact .start
/-! ### nothing is found: no reached pair and no reached state fails -/
theorem Dn.back {g:Gl} {role:Int} {cst:Pr->Option Nat} {p:Pr} (h:Prr g role p):∀ {n:Nat},Dn (mvP g role) cst p n->∃k,Dn (mvP g role) cst (p00 g) k:=by
 induction h with
 | start=>exact fun hd=>⟨_,hd⟩
 | step _ hm ih=>exact fun hd=>ih (.step hm hd)
theorem DnS.back {g:Gl} {role:Int} {MX:Nat->Prop} (hV:ValidS g) {p:Pr} (h:Prr g role p):(∀ {n:Nat},DnS g.es MX p.1 n->∃k,DnS g.es MX g.s.toNat k):=by
 induction h with
 | start=>exact fun hd=>⟨_,hd⟩
 | @step p m _ hm ih=>
  intro n hd;have key:(pto m).1=p.1\/∃x∈g.es,x.f=(p.1:Int)/\x.t.toNat=(pto m).1:=by
   unfold movL at hm;rcases Yk.1 hm with hm | hm
   .rcases Yk.1 hm with hm | hm
    .obtain⟨k,hk,rfl⟩:=Yp.1 hm;obtain⟨x,hx,hf⟩:=outG_mem.1 (List.mem_filter.1 hk).1;exact .inr ⟨x,Yb hx,hf,by unfold pto;rw[eA_get hx]⟩
    .obtain⟨k,hk,rfl⟩:=Yp.1 hm;exact .inl (by unfold pto;exact Ys _)
   .unfold mbL at hm;obtain⟨i,hi,hm⟩:=List.mem_flatMap.1 hm;unfold mb1 at hm;split at hm
    .cases hm
    .obtain⟨k,hk,rfl⟩:=Yp.1 hm;obtain⟨x,hx,hf⟩:=outG_mem.1 hi;exact .inr ⟨x,Yb hx,hf,by unfold pto;rw[eA_get hx]⟩
  rcases key with e | ⟨x,hx,hf,ht⟩
  .rw[e] at hd;exact ih hd
  .exact ih (.step hx hf (by rw[ht];exact hd))
theorem BpP.far_of {g:Gl} {role kind:Int} {X:An} {W:WS} {n:Int} (h:BpP g role kind X W n) (hn:farI<=n) {p:Pr} (hp:Prr g role p):cstS X kind p=none:=by
 cases h with
 | far hno=>
  cases hc:cstS X kind p with
  | none=>rfl
  | some c=>
   have hd:Dn (mvP g role) (cstN X kind) p c.toNat:=.base (by unfold cstN;rw[hc];rfl);obtain⟨k,hk⟩:=Dn.back hp hd;obtain⟨j,hj⟩:=Dn.least hk;exact absurd hj (hno j)
 | hit _ hb=>unfold farI at hn;omega
theorem MxP.far_of {g:Gl} {role:Int} {X:An} {W:WS} {n:Int} (h:MxP g role X W n) (hV:ValidS g) (hn:farI<=n) {p:Pr} (hp:Prr g role p):¬MXx X p.1:=by
 cases h with
 | far hno=>exact fun hm=>by obtain⟨k,hk⟩:=DnS.back hV hp (.base hm);exact hno k hk
 | hit _ hb=>unfold farI at hn;omega
theorem FindI.all {g:Gl} {role:Int} {X:An} {i:Nat} {W:WS} {n:Int} (h:FindI g role X i W n):∀j,j<i->∃W' n',kindP g role X j W' n'/\n<=n':=by
 induction h with
 | zero=>intro j hj;omega
 | @take i W W' n n' _ hk hlt ih=>
  intro j hj;by_cases e:j=i
  .subst e;exact⟨_,_,hk,Int.le_refl _⟩
  .obtain⟨W2,n2,h1,h2⟩:=ih j (by omega);exact⟨W2,n2,h1,by omega⟩
 | @keep i W W' n n' _ hk hlt ih=>
  intro j hj;by_cases e:j=i
  .subst e;exact⟨_,_,hk,by omega⟩
  .exact ih j (by omega)
theorem ChkI.all {g:Gl} {i:Nat} {W:WS} {n:Int} (h:ChkI g i W n):∀j:Nat,j<i->∃W' n',FindP g (j:Int) W' n'/\n<=n':=by
 induction h with
 | zero=>intro j hj;omega
 | @take i W W' n n' _ hk hlt ih=>
  intro j hj;by_cases e:j=i
  .subst e;exact⟨_,_,hk,Int.le_refl _⟩
  .obtain⟨W2,n2,h1,h2⟩:=ih j (by omega);exact⟨W2,n2,h1,by omega⟩
 | @keep i W W' n n' _ hk hlt ih=>
  intro j hj;by_cases e:j=i
  .subst e;exact⟨_,_,hk,by omega⟩
  .exact ih j (by omega)
structure Fine (g:Gl) (role:Int) (X:An):Prop where
 x:XOk g role X
 d:∀p,Prr g role p->cstS X 1 p=none
 m:∀p,Prr g role p->¬MXx X p.1
 c:∀p,Prr g role p->¬ClA X.li X.ag X.ow p.1 p.2
 a:∀p,Prr g role p->cstS X 4 p=none
theorem fine_of {g:Gl} (hV:ValidS g) {W:WS} {n:Int} (h:ChkI g g.rs.length W n) (hn:farI<=n) {i:Nat} (hi:i<g.rs.length):∃X,Fine g (i:Int) X:=by
 obtain⟨W1,n1,⟨X,hX,hF⟩,h1⟩:=h.all i hi;obtain⟨_,k0,p0,q0⟩:=hF.all 0 (by decide);obtain⟨_,k1,p1,q1⟩:=hF.all 1 (by decide);obtain⟨_,k2,p2,q2⟩:=hF.all 2 (by decide);obtain⟨_,k3,p3,q3⟩:=hF.all 3 (by decide);refine⟨X,hX,fun p hp=>BpP.far_of p0 (by omega) hp,fun p hp=>MxP.far_of p1 hV (by omega) hp,fun p hp hc=>?_,fun p hp=>BpP.far_of p3 (by omega) hp⟩;have h9:=BpP.far_of p2 (by omega) hp;unfold cstS at h9;rw[if_neg (by decide),if_pos rfl,if_pos hc] at h9;cases h9
end Go.VC
end

section
namespace Go.VC
/-! ### two blocks change places; a part is turned round -/
/-! ### order -/
end Go.VC
end

section
namespace Go.VC
open Go.Proofs Go.LexS



def o8 (g:Gl) (r hd:Sl):List Value:=[.string (bs g.nm),.slice r.a r.n r.c,.slice hd.a hd.n hd.c,.int .i64 0,.int .i64 0,.int .i64 0,.slice none 0 0,.slice none 0 0]
end Go.VC
end

section
namespace Go.VC
open Go.LexS

end Go.VC
end

section
namespace Go.VC
open Go.Proofs Go.LexS


end Go.VC
end

section
namespace Go.VC
open Go.LexS
def renI (σ:Nat->Nat) (v:Int):Int:=((σ v.toNat:Nat):Int)
def renE (σ:Nat->Nat) (y:Ed):Ed:=⟨renI σ y.f,y.a,y.b,y.l,renI σ y.t,y.ag⟩
structure Ren (g c:Gl) (σ:Nat->Nat):Prop where
 n:c.n=g.n
 r:∀i,i<g.n.toNat->σ i<g.n.toNat
 inj:∀i j,i<g.n.toNat->j<g.n.toNat->σ i=σ j->i=j
 s:c.s=renI σ g.s
 e:c.e=renI σ g.e
 ed:∀x,x∈c.es ↔ ∃y∈g.es,x=renE σ y
 ti:∀t∈c.ts,∃u∈g.ts,t.s=renI σ u.s/\t.k=u.k/\∃z,g.es[u.e.toNat]?=some z/\c.es[t.e.toNat]?=some (renE σ z)
 tj:∀u∈g.ts,∃t∈c.ts,t.s=renI σ u.s/\t.k=u.k/\∃z,g.es[u.e.toNat]?=some z/\c.es[t.e.toNat]?=some (renE σ z)
 rs:c.rs=g.rs
theorem tmR_uniq {g:Gl} (hV:ValidS g) {x:Ed} {t u:Ti} (h:TmR g x t) (k:TmR g x u):t=u:=by
 rcases h with ⟨a,ha,has,z,hz,rfl⟩ | ⟨hno,rfl⟩
 .rcases k with ⟨b,hb,hbs,z',hz',rfl⟩ | ⟨hno,_⟩
  .have e:=tim_uniq hV.tim ha hb (by omega);subst e;rw[hz] at hz';cases hz';rfl
  .exact absurd has (hno a ha)
 .rcases k with ⟨b,hb,hbs,_⟩ | ⟨_,rfl⟩
  .exact absurd hbs (hno b hb)
  .rfl
end Go.VC
end

section
namespace Go.VC
open Go.Proofs Go.LexS
theorem foldl_last {α β:Type} (f:α->β) (P:α->Prop) [DecidablePred P]:∀(l:List α) (b:β),(l.foldl (fun b t=>if P t then f t else b) b=b/\∀u∈l,¬P u)\/∃u∈l,P u/\l.foldl (fun b t=>if P t then f t else b) b=f u
 | [],b=>.inl ⟨rfl,fun u hu=>by cases hu⟩
 | a::l,b=>by
  rw[List.foldl_cons];by_cases h:P a
  .rw[if_pos h];rcases foldl_last f P l (f a) with ⟨h1,h2⟩ | ⟨u,hu,h1,h2⟩
   .exact .inr ⟨a,Yx,h,h1⟩
   .exact .inr ⟨u,Yn _ hu,h1,h2⟩
  .rw[if_neg h];rcases foldl_last f P l b with ⟨h1,h2⟩ | ⟨u,hu,h1,h2⟩
   .refine .inl ⟨h1,fun u hu=>?_⟩;rcases Yr.1 hu with rfl | hu
    .exact h
    .exact h2 u hu
   .exact .inr ⟨u,Yn _ hu,h1,h2⟩
theorem agFo_eq {g:Gl} (hV:ValidS g) {x:Ed} (hx:x∈g.es) {s:Nat} (hf:x.f=(s:Int)):agFo g.es s=x.ag:=by
 unfold agFo;cases h:x.ag with
 | true=>exact List.any_eq_true.2 ⟨x,hx,by rw[decide_eq_true hf,h];rfl⟩
 | false=>
  refine List.any_eq_false.2 fun y hy h9=>?_;rw[Yt,decide_eq_true_eq] at h9;have:=(row_same hV hx hy (by rw[hf,h9.1])).2;rw[h,h9.2] at this;cases this
theorem owFo_of {es:List Ed} {role:Int} {x:Ed} (hx:x∈es) {s:Nat} (hf:x.f=(s:Int)) (ha:x.a=role):owFo es role s=true:=by
 unfold owFo;exact List.any_eq_true.2 ⟨x,hx,by rw[decide_eq_true hf,decide_eq_true ha];rfl⟩
theorem lim_tmr {g:Gl} (hV:ValidS g) {role:Int} {x:Ed} (hx:x∈g.es) (ha:x.a=role) {s:Nat} (hf:x.f=(s:Int)):TmR g x ⟨agFo g.es s,(limFo g role g.ts s).k,(limFo g role g.ts s).x⟩:=by
 rw[agFo_eq hV hx hf];unfold limFo;rcases foldl_last (limTo g role) (fun t:To=>t.s=(s:Int)) g.ts lm0 with ⟨h1,h2⟩ | ⟨u,hu,h1,h2⟩
 .rw[h1];exact .inr ⟨fun u hu=>by rw[hf];exact h2 u hu,rfl⟩
 .rw[h2];obtain⟨_,_,_,z,hz,hzf⟩:=tim_ex hV hu;refine .inl ⟨u,hu,by rw[hf];exact h1,z,hz,?_⟩;have hza:z.a=role:=by rw[<-ha];exact (row_same hV (Yb hz) hx (by rw[hzf,h1,hf])).1
  have hv:vis1 role z=some ⟨true,z.b,z.l⟩:=by unfold vis1;rw[if_pos hza.symm]
  unfold limTo;rw[eA_get hz,hv];rfl
/-! ### lists of events in order -/
theorem snd_last {L:List Ev} (hp:L.Pairwise evLt) (h:sndAt L (L.length-1)=true) {e:Ev} (he:e∈L):e.send=true:=by
 obtain⟨i,hi⟩:=Yf.1 he;have hil:=(Ya.1 hi).1;obtain⟨y,hy⟩:=get_some (l:=L) (i:=L.length-1) (by omega);unfold sndAt at h;rw[hy] at h;simp only at h;by_cases e1:i=L.length-1
 .rw[e1,hy] at hi;cases hi;exact h
 .have h9:=List.pairwise_iff_getElem.1 hp i (L.length-1) hil (by omega) (by omega);rw[(Ya.1 hi).2,(Ya.1 hy).2] at h9;unfold evLt at h9;rcases h9 with ⟨h9,_⟩ | ⟨h9,_⟩
  .exact h9
  .rw[h9];exact h
theorem snd_first {L:List Ev} (hp:L.Pairwise evLt) {e:Ev} (he:e∈L) (hs:e.send=true):sndAt L 0=true:=by
 obtain⟨i,hi⟩:=Yf.1 he;have hil:=(Ya.1 hi).1;obtain⟨y,hy⟩:=get_some (l:=L) (i:=0) (by omega);unfold sndAt;rw[hy];by_cases e1:i=0
 .rw[e1,hy] at hi;cases hi;exact hs
 .have h9:=List.pairwise_iff_getElem.1 hp 0 i (by omega) hil (by omega);rw[(Ya.1 hi).2,(Ya.1 hy).2] at h9;unfold evLt at h9;rcases h9 with ⟨h9,_⟩ | ⟨h9,_⟩
  .exact h9
  .show y.send=true;rw[h9];exact hs
theorem XOk.at {g:Gl} {role:Int} {X:An} (h:XOk g role X) {s:Nat} (hs:(s:Int)<g.n):∃f,X.fi[s]?=some f/\f.l=firstE g role (s:Nat)/\f.b=firstB g role (s:Nat):=by
 have hl:X.fi.length=g.n.toNat:=by have:=congrArg List.length h.fi;simpa using this
 obtain⟨f,hf⟩:=get_some (l:=X.fi) (i:=s) (by omega);have h1:=map_range_get h.fi (s:=s) (by omega);rw[Yd,hf] at h1;have h2:=Yyp h1;exact⟨f,hf,congrArg Prod.fst h2,congrArg Prod.snd h2⟩
theorem Fine.snd {g:Gl} {role:Int} {X:An} (hF:Fine g role X) {n k:Nat} (hn:(n:Int)<g.n) (hk:(k:Int)<g.n) (h1:Prr g role (n,k)) {e:Ev} (he:e∈firstE g role (n:Nat)) (hs:e.send=true):e∈firstE g role (k:Nat):=by
 obtain⟨f,hf,fl,_⟩:=hF.x.at hn;obtain⟨f',hf',fl',_⟩:=hF.x.at hk;have h9:=hF.d _ h1;unfold cstS at h9;rw[if_pos rfl,hf,hf'] at h9;simp only at h9;cases hfi:f.l.find? (difP f'.l) with
 | some x=>rw[hfi] at h9;cases h9
 | none=>
  rw[List.find?_eq_none] at hfi;have:=hfi e (by rw[fl];exact he);unfold difP at this;rw[hs,fl'] at this;exact Classical.byContradiction fun hno=>this (by rw[decide_eq_false hno];rfl)
theorem Fine.mx {g:Gl} {role:Int} {X:An} (hF:Fine g role X) {n k:Nat} (hn:(n:Int)<g.n) (h1:Prr g role (n,k)) (hs:sndAt (firstE g role (n:Nat)) 0=true):firstB g role (n:Nat)=false/\sndAt (firstE g role (n:Nat)) ((firstE g role (n:Nat)).length-1)=true:=by
 obtain⟨f,hf,fl,fb⟩:=hF.x.at hn;have h9:=hF.m _ h1;have h10:mxB f=false:=by
  cases h:mxB f with
  | false=>rfl
  | true=>exact absurd ⟨f,hf,h⟩ h9
 unfold mxB at h10;rw[fl,fb,hs,Bool.true_and,Bool.or_eq_false_iff] at h10;exact⟨h10.1,by simpa using h10.2⟩
theorem fine_vw {g:Gl} (hV:ValidS g) {role:Int} {X:An} (hF:Fine g role X) {p:PSet} (hp:PrP g role p) (hlt:∀j,p j=true->(j:Int)<g.n):∃o,vwG g role (elems p)=some o:=by
 unfold vwG;rw[vw_iff];have hm:∀ {n:Nat},n∈elems p->p n=true:=fun hn=>(elems_mem.1 hn).2;have hsr:∀n:Nat,(firstE g role (n:Nat)).Pairwise evLt:=fun n=>sortE_sorted _;refine⟨fun n hn=>?_,fun n hn k hk t u a1 a2 b1 b2=>?_⟩
 .cases hs:sndAt (firstE g role (n:Nat)) 0 with
  | false=>unfold badV;simp only[hs,Bool.false_and]
  | true=>
   have hnl:=hlt n (hm hn);obtain⟨e1,e2⟩:=hF.mx hnl (hp n n (hm hn) (hm hn)) hs;unfold badV;simp only;rw[hs,Bool.true_and,Bool.or_eq_false_iff,Bool.or_eq_false_iff];refine⟨⟨e1,by rw[e2];rfl⟩,List.any_eq_false.2 fun k hk=>?_⟩;simp only[Bool.or_eq_true,decide_eq_true_eq,not_or,Bool.not_eq_true,Classical.not_not];have hkl:=hlt k (hm hk);have pnk:=hp n k (hm hn) (hm hk);have pkn:=hp k n (hm hk) (hm hn);obtain⟨y,hy⟩:∃y,(firstE g role (n:Nat))[0]?=some y:=by
    cases h:(firstE g role (n:Nat))[0]? with
    | some y=>exact⟨y,rfl⟩
    | none=>unfold sndAt at hs;rw[h] at hs;cases hs
   have hym:=Yb hy;have hys:=snd_last (hsr n) e2 hym;have hk0:=snd_first (hsr k) (hF.snd hnl hkl pnk hym hys) hys;obtain⟨f1,f2⟩:=hF.mx hkl (hp k k (hm hk) (hm hk)) hk0;refine⟨f1,sorted_ext _ _ (hsr n) (hsr k) fun x=>⟨fun hx=>hF.snd hnl hkl pnk hx (snd_last (hsr n) e2 hx),fun hx=>hF.snd hkl hnl pkn hx (snd_last (hsr k) f2 hx)⟩⟩
 .have hnl:=hlt n (hm hn);have hkl:=hlt k (hm hk);obtain⟨x,hx,hxf,hxa⟩:=(own_iff hV hnl).1 a1;obtain⟨y,hy,hyf,hya⟩:=(own_iff hV hkl).1 b1;obtain⟨_,t',ht',hT⟩:=own_row2 hV hx hxa;obtain⟨_,u',hu',hU⟩:=own_row2 hV hy hya;rw[hxf,Ys,a2] at ht';rw[hyf,Ys,b2] at hu';cases ht';cases hu';have e1:=tmR_uniq hV hT (lim_tmr hV hx hxa hxf);have e2:=tmR_uniq hV hU (lim_tmr hV hy hya hyf);have hno:=hF.c _ (hp n k (hm hn) (hm hk));have g1:∀ {α:Type} {L:List α} {f:Nat->α} {s:Nat},L=(List.range g.n.toNat).map f->(s:Int)<g.n->L[s]?=some (f s):=fun h hs=>map_range_get h (by omega);have h3:¬(X.li[n]?≠X.li[k]?\/X.ag[n]?≠X.ag[k]?):=fun h9=>hno ⟨by rw[g1 hF.x.ow hnl,owFo_of hx hxf hxa],by rw[g1 hF.x.ow hkl,owFo_of hy hyf hya],h9⟩;rw[g1 hF.x.li hnl,g1 hF.x.li hkl,g1 hF.x.ag hnl,g1 hF.x.ag hkl] at h3;have h4:limFo g role g.ts n=limFo g role g.ts k:=Classical.byContradiction fun h9=>h3 (.inl fun e=>h9 (Yyp e));have h5:agFo g.es n=agFo g.es k:=Classical.byContradiction fun h9=>h3 (.inr fun e=>h9 (Yyp e));rw[e1,e2,h4,h5]
theorem rawL_none {vw:List Nat->Option Ti}:∀(n:Nat) (S:List PSet) (M:List Mv) (L:List To),rawL vw n S M L=none->∃p∈S,vw (elems p)=none
 | _,[],M,L,h=>by cases h
 | n,p::S,M,L,h=>by
  rw[rawL] at h;split at h
  .rename_i h9;exact⟨p,Yx,h9⟩
  .obtain⟨q,hq,h1⟩:=rawL_none (n+1) S _ _ h;exact⟨q,Yn _ hq,h1⟩
theorem views_lt2 {g:Gl} {role:Int} (hV:ValidS g) {S:List PSet} {M:List Mv} (h:views g role=some (S,M)):∀p∈S,PrP g role p->∀j,p j=true->(j:Int)<g.n:=fun p _ hp j hj=>(Prr.lt hV (hp j j hj hj)).1
theorem fine_proj {g:Gl} (hV:ValidS g) {role:Int} {X:An} (hF:Fine g role X):(proj g role).2≠18:=by
 intro h;unfold proj raw at h;by_cases h1:¬(ValidS g/\0<=role/\role<g.rs.length)
 .rw[if_pos h1] at h;exact absurd h (by decide)
 .rw[if_neg h1] at h;cases hv:views g role with
  | none=>rw[hv] at h;exact absurd h (by show ¬((6:Int)=18);decide)
  | some q=>
   obtain⟨S,M⟩:=q;rw[hv] at h;simp only at h;by_cases h2:M.length>400
   .rw[if_pos h2] at h;exact absurd h (by decide)
   .rw[if_neg h2] at h;cases hr:rawL (vwG g role) 0 S M [] with
    | some r=>obtain⟨M',L'⟩:=r;rw[hr] at h;exact absurd h (by show ¬((0:Int)=18);decide)
    | none=>
     obtain⟨p,hp,hn⟩:=rawL_none _ _ _ _ hr;have hpp:=views_prp hV hv p hp;obtain⟨o,ho⟩:=fine_vw hV hF hpp (views_lt2 hV hv p hp hpp);rw[ho] at hn;cases hn
theorem chk_e {g:Gl} (hV:ValidS g) {h h':Heap} {v:Value} (hr:ChkR g h h' v):∃(w:Wt) (e:Int),v=.tuple ⟨[.agg ⟨w.cs⟩,.int .i64 e]⟩/\Ext h h'/\(e=0->∀i:Nat,i<g.rs.length->(proj g (i:Int)).2≠18):=by
 cases hr with
 | bad h1=>exact absurd hV h1
 | ok _ hC E=>
  refine⟨wt0,0,rfl,E,fun _ i hi=>?_⟩;obtain⟨X,hX⟩:=fine_of hV hC (Int.le_refl _) hi;exact fine_proj hV hX
 | err _ _ _ hw=>
  obtain⟨w,_,_,_,_,rfl,L,hs⟩:=hw;exact⟨w,18,rfl,hs.ext,fun e=>absurd e (by decide)⟩
theorem all_e {g:Gl} (hV:ValidS g) {h h':Heap} {v:Value} (hr:AllR g h h' v):∃(s:Sl) (e:Int) (P:List PM) (L:List It),v=.tuple ⟨[.slice s.a s.n s.c,.int .i64 e]⟩/\St h h' L /\
  ((e≠0/\s.n=0/\∃i:Nat,i<g.rs.length/\(∀j:Nat,j<i->∃m,proj g j=(some m,0))/\proj g i=(none,e)) \/
   (e=0 /\ .sl s 33 6 (P.map PM.cs)∈L/\P.length=g.rs.length/\∀(j:Nat) p,P[j]?=some p->proj g j=(some p.m,0)/\∀x∈mL p.m p.f p.v p.l,x∈L)):=by
 cases hr with
 | bad h1=>exact absurd hV h1
 | @err i e _ hi hq he h0 E=>exact⟨⟨none,0,0⟩,e,[],[],rfl,(St.refl h).step E,.inl ⟨h0,rfl,i,hi,hq,he⟩⟩
 | @ok s P A _ hs hP hq=>exact⟨s,0,P,_,rfl,hs,.inr ⟨rfl,Yx,hP,fun j p hp=>⟨(hq j p hp).1,fun x hx=>Yn _ ((hq j p hp).2 x hx)⟩⟩⟩
theorem mi_mem {h0 h:Heap} {L:List It} (hs:St h0 h L) {m:Mch} {sf sm sl:Sl} (hm:∀x∈mL m sf sm sl,x∈L) (hb:McS m):MI h m sf sm sl:=by
 unfold McS at hb;unfold mL at hm;exact⟨hs.rlm2 (e:=4) (hm _ (Yb (i:=0) rfl)) (by decide) (by omega),hs.rlm2 (e:=45) (hm _ (Yb (i:=1) rfl)) (by decide) (by omega),hs.rlm2 (e:=63) (hm _ (Yb (i:=2) rfl)) (by decide) (by omega)⟩
theorem projectAll (g:Gl) (h:Heap) (hg:GI h g) (hx:Gx h) (hM:GNm g.ds):Fn Pz 9 #[g.v] h fun v h'=>v=.bool true/\Ext h h':=by
 apply vc9 (bs g.nm) g.hr g.hd g.n g.s g.e g.he g.ht;unfold W9 V9a;have hrn:=hg.r.ln;refine (St.refl h).newb fun h9 hs=>?_;refine (awake10 h9 (hx.ext hs.ext)).mono ?_;rintro _ h12 ⟨rfl,E⟩;have hs:=hs.step E;refine⟨true,rfl,sB_f rfl ?_⟩;refine⟨_,_,_,_,_,_,_,_,hs.at 0 rfl (o:=0) (n:=8) rfl,?_⟩;refine (few11 g h12 (hg.ext hs.ext)).mono ?_;rintro _ h23 ⟨rfl,E⟩;have hs:=hs.step E;refine⟨_,rfl,sB_intro (fun _=>⟨rfl,hs.ext⟩) (fun _=>?_)⟩;refine⟨_,_,_,_,_,_,_,_,hs.at 0 rfl (o:=0) (n:=8) rfl,?_⟩;refine (refValid31 g h23 (hg.ext hs.ext) hM).mono ?_;rintro _ h34 ⟨⟨bv,rfl,hbv⟩,E⟩;have hs:=hs.step E;refine⟨_,rfl,sB_intro (fun _=>⟨rfl,hs.ext⟩) (fun c=>?_)⟩;have hV:ValidS g:=hbv.1 (by simpa using c);have hr6:=hV.nam.n6;refine⟨_,_,_,_,_,_,_,_,hs.at 0 rfl (o:=0) (n:=8) rfl,?_⟩;refine (all32 g h34 (hg.ext hs.ext) (hx.ext hs.ext)).mono ?_;intro v h46 hr;obtain⟨s,e,P,LA,rfl,hsA,hAll⟩:=all_e hV hr;have hs:=hs.join hsA;have mA:∀ {x:It} {B:List It},x∈LA->x∈[.blk h.size g.cs 27]++LA++B:=fun hx=>List.mem_append_left _ (List.mem_append_right _ hx);refine⟨s,e,rfl,?_⟩;refine⟨_,_,_,_,_,_,_,_,hs.at 0 rfl (o:=0) (n:=8) rfl,?_⟩;refine (check33 g h46 (hg.ext hs.ext) (hx.ext hs.ext)).mono ?_;intro v h71 hr;obtain⟨w,ec,rfl,E,hchk⟩:=chk_e hV hr;have hs:=hs.step E;refine⟨w.k,w.r,w.f,w.s,w.e.r,w.e.s,w.e.p,w.e.l,nilS,w.o.r,w.o.s,w.o.p,w.o.l,nilS,ec,rfl,?_⟩;refine hs.newput (vs:=w.cs) rfl rfl fun h73 hs=>?_;have hs:St h h73 ([.blk h.size g.cs 27]++LA):=hs.drop 1;refine⟨g.hr,hs.rd 0 rfl (i:=1) rfl,?_⟩;refine⟨fun x h' μ=>∃i:Nat,x=(i:Int)/\g.hr.n-i=μ/\i<=g.hr.n/\St h h' ([.blk h.size g.cs 27]++LA)/\∀j:Nat,j<i->∃m,proj g j=(some m,0),⟨_,0,rfl,rfl,Nat.zero_le _,hs,fun j hj=>by omega⟩,?_⟩;clear hs;rintro-_ h79 μ ⟨i,rfl,rfl,hi,hs,hj⟩;refine sBi (fun c1=>?_) (fun c1=>?_)
 .refine⟨_,_,_,_,_,_,_,_,hs.at 0 rfl (o:=0) (n:=8) rfl,?_⟩;refine (project12 g (i:Int) h79 (hg.ext hs.ext) (hx.ext hs.ext)).mono ?_;rintro _ h96 ⟨E,hr⟩;have pb:=proj_s (g:=g) (role:=(i:Int)) hg.r.sm hg.d.r.sm;have hir:i<g.rs.length:=by omega
  have hmm:(proj g (i:Int)).2=0->proj g (i:Int)=(some (maM (proj g (i:Int))),0):=fun h0=>by
   cases hr with
   | err he h9=>rw[he] at h0;exact absurd h0 h9
   | ok he _=>rw[he];rfl
  have hne:(proj g (i:Int)).2≠0->(e=(proj g (i:Int)).2/\s.n=0):=fun h0=>by
   rcases hAll with ⟨h1,h2,i0,h3,h4,h5⟩ | ⟨_,_,h2,h3⟩
   .rcases Nat.lt_trichotomy i i0 with h9 | h9 | h9
    .obtain⟨m,hm⟩:=h4 i h9;rw[hm] at h0;exact absurd rfl h0
    .subst h9;rw[h5];exact⟨rfl,h2⟩
    .obtain⟨m,hm⟩:=hj i0 h9;rw[h5] at hm;cases hm
   .obtain⟨p,hp⟩:=get_some (l:=P) (i:=i) (by omega);rw[(h3 i p hp).1] at h0;exact absurd rfl h0
  obtain⟨f1,m1,l1,rfl,hs1⟩:=hr.u E;have hs2:=hs.join hs1;refine⟨_,_,_,f1,m1,l1,_,rfl,?_⟩;refine hs2.newput (vs:=mC (maM (proj g (i:Int))) f1 m1 l1) rfl rfl fun h98 hs2=>?_;have hsd:St h h98 ([.blk h.size g.cs 27]++LA):=(hs2.drop 1).subp (List.Perm.refl _);have nxt:∀ {hZ:Heap},Ext h98 hZ->(proj g (i:Int)).2=0->∃m,m<g.hr.n-i/\∃i':Nat,IntKind.wrap .i64 ((i:Int)+1)=(i':Int)/\g.hr.n-i'=m/\i'<=g.hr.n/\St h hZ ([.blk h.size g.cs 27]++LA)/\∀j:Nat,j<i'->∃m,proj g j=(some m,0):=fun {hZ} E h0=>by
   refine⟨_,?_,i+1,by rw[w64 (by omega) (by omega)];omega,rfl,by omega,hsd.step E,fun j hj9=>?_⟩
   .omega
   .by_cases e9:j=i
    .subst e9;exact⟨_,hmm h0⟩
    .exact hj j (by omega)
  have bad:∀ {hZ:Heap},Ext h98 hZ->(proj g (i:Int)).2≠0->sB (e==(proj g (i:Int)).2) (Value.bool ((s.n:Int)==0)=.bool true/\Ext h hZ) (Value.bool false=.bool true/\Ext h hZ):=fun {hZ} E h0=>by
   obtain⟨h1,h2⟩:=hne h0;refine sBe (fun _=>⟨by rw[h2];rfl,hs2.ext.trans E⟩) (fun c9=>absurd h1 c9)
  have good:(proj g (i:Int)).2=0->sB (e==0) (sB (decide ((i:Int)>=(s.n:Int))) (Value.bool false=.bool true/\Ext h h98)
    (NB s.a fun b99 o100=>((0<=(i:Int)/\(i:Int)<(s.n:Nat)) /\
      (∃x101:Int,∃x102:Int,∃x103:Int,∃x104:Sl,∃x105:Sl,∃x106:Sl,atC h98 ⟨b99,o100+Int.toNat (i:Int)*6,none⟩ [.int .i64 x101,.int .i64 x102,.int .i64 x103,.slice x104.a x104.n x104.c,.slice x105.a x105.n x105.c,.slice x106.a x106.n x106.c] /\
      (∃x107:Int,∃x108:Int,∃x109:Int,∃x110:Sl,∃x111:Sl,∃x112:Sl,atC h98 ⟨h96.size,0,none⟩ [.int .i64 x107,.int .i64 x108,.int .i64 x109,.slice x110.a x110.n x110.c,.slice x111.a x111.n x111.c,.slice x112.a x112.n x112.c] /\
      (Fn Pz 16 #[.agg ⟨[.int .i64 x101,.int .i64 x102,.int .i64 x103,.slice x104.a x104.n x104.c,.slice x105.a x105.n x105.c,.slice x106.a x106.n x106.c]⟩,.agg ⟨[.int .i64 x107,.int .i64 x108,.int .i64 x109,.slice x110.a x110.n x110.c,.slice x111.a x111.n x111.c,.slice x112.a x112.n x112.c]⟩] h98
      (fun v113 h115=>∃x114:Bool,v113=.bool x114 /\
      (sB (!x114) (Value.bool false=.bool true/\Ext h h115)
       (∃m116,m116<g.hr.n-i/\∃i':Nat,IntKind.wrap .i64 ((i:Int)+1)=(i':Int)/\g.hr.n-i'=m116/\i'<=g.hr.n/\St h h115 ([.blk h.size g.cs 27]++LA)/\∀j:Nat,j<i'->∃m,proj g j=(some m,0))))))))))
    (∃m117,m117<g.hr.n-i/\∃i':Nat,IntKind.wrap .i64 ((i:Int)+1)=(i':Int)/\g.hr.n-i'=m117/\i'<=g.hr.n/\St h h98 ([.blk h.size g.cs 27]++LA)/\∀j:Nat,j<i'->∃m,proj g j=(some m,0)):=fun h0=>by
   refine sBe (fun c2=>?_) (fun _=>nxt .rfl' h0);rcases hAll with ⟨h1,_⟩ | ⟨_,hin,hPl,hq⟩
   .exact absurd c2 h1
   have hrw:=hs2.rwm (Yn _ (mA hin)) (by decide);have hsn:=hrw.ln;refine sBi (fun c3=>by omega) (fun c3=>?_);refine hrw.nbI (by omega) (by omega) fun b99 o100 p gp u=>?_;replace gp:P[i]?=some p:=gp;obtain⟨hp1,hp2⟩:=hq i p gp;have hpm:maM (proj g (i:Int))=p.m:=by rw[hp1];rfl
   refine⟨_,_,_,p.f,p.v,p.l,u,_,_,_,f1,m1,l1,hs2.at 0 rfl (o:=0) (n:=6) rfl,?_⟩;have hM1:MI h98 (maM (proj g (i:Int))) f1 m1 l1:=mi_mem hs2 (fun x hx=>Yn _ (List.mem_append_right _ hx)) pb;have hM2:MI h98 p.m p.f p.v p.l:=mi_mem hs2 (fun x hx=>Yn _ (mA (hp2 x hx))) (by rw[<-hpm];exact pb);refine (same17 p.m (maM (proj g (i:Int))) p.f p.v p.l f1 m1 l1 h98 hM2 hM1).mono ?_;rintro _ h115 ⟨⟨b,rfl,hb⟩,E⟩;obtain rfl:b=true:=hb.2 hpm.symm;exact⟨true,rfl,sB_f rfl (nxt E h0)⟩
  refine sBe (fun c2=>?_) (fun c2=>?_)
  .have h0:(proj g (i:Int)).2≠0:=by rw[c2];decide
   refine sBe (fun c3=>absurd c2 (hchk c3 i hir)) (fun _=>?_);exact sBn (fun _=>bad .rfl' h0) (fun c4=>absurd c4 h0)
  .exact sBn (fun c4=>bad .rfl' c4) (fun c4=>good c4)
 .have hin:i=g.rs.length:=by omega
  rcases hAll with ⟨h1,_,i0,h3,_,h5⟩ | ⟨h1,hin2,h2,_⟩
  .obtain⟨m,hm⟩:=hj i0 (by omega);rw[h5] at hm;cases hm
  .refine sBe (fun _=>?_) (fun c9=>absurd h1 c9);refine⟨g.hr,hs.rd 0 rfl (i:=1) rfl,?_,hs.ext⟩;have hsn:=(hs.rwm (List.mem_append_right _ hin2) (by decide)).ln;have:(s.n:Int)=(g.hr.n:Int):=by omega
   rw[this];congr 1;exact beq_self_eq_true _
end Go.VC
end

section
namespace Go.VC
open Go.Proofs Go.LexS Go.RowKit Go.ChangeShapes Go.WideShapes Go.Proofs.YtfdhgcladnbdeaaGreatDoor
theorem bulk_pos {H:Type} (d:DataW H):1<=Rows.uptoBulk d:=by
 cases d with
 | lit l=>cases l<;>simp[Rows.uptoBulk]
 | _=>simp[Rows.uptoBulk]
theorem bulk_part {H:Type}:∀ {l:List (DataW H)} {d:DataW H},d∈l->Rows.uptoBulk d<=Rows.uptoBulkAll l
 | [],_,h=>by cases h
 | x::r,d,h=>by
  rw[Rows.uptoBulkAll];rcases Yr.1 h with rfl | h
  .omega
  .have:=bulk_part h;omega
theorem bulk_len {H:Type}:∀l:List (DataW H),l.length<=Rows.uptoBulkAll l
 | []=>by simp
 | x::r=>by
  have h1:=bulk_pos x;have h2:=bulk_len r;rw[Rows.uptoBulkAll,Yyj];omega
def Rdb (P:Program) (W:World) (t:TypeId) (cs:List Value):Prop:=
 ∃(H:Type) (enc:TypeId × Value->H) (n:Nat) (x:DataW H × List MemPlace),DataW.trod enc P W 0 (fun _=>true) true n t cs=some x/\Rows.uptoBulk x.1<=1048576
theorem Rdb.rdt {P:Program} {W:World} {t:TypeId} {cs:List Value} (h:Rdb P W t cs):Rdt P W t cs:=by
 obtain⟨H,enc,n,x,h1,_⟩:=h;exact⟨H,enc,n,x,h1⟩
theorem rdb_of_trod {H:Type} {enc:TypeId × Value->H} {P:Program} {W:World} {t:TypeId} {v:Value} {d:DataW H} {p:List MemPlace} (h:DataW.Trod enc P W 0 (fun _=>true) true t v d p) (hw:Rows.uptoBulk d<=1048576):Rdb P W t v.cells.toList:=by
 obtain⟨n,h⟩:=h;exact⟨H,enc,n,_,h,hw⟩
theorem Rdb.field {P:Program} {W:World} {t ft:TypeId} {cs:List Value} {i off:Nat} (h:Rdb P W t cs) (hf:fieldAt P t i=some (ft,off)):Rdb P W ft ((cs.drop off).take (P.cellsOf ft)):=by
 unfold fieldAt at hf;split at hf
 .rename_i fs hu;obtain⟨f,h1,h2⟩:=Yya.1 hf;cases h2;obtain⟨H,enc,n,x,h,hw⟩:=h;obtain⟨xs,m,_,hx,hl,hxl,hfi⟩:=DataW.trod_struct hu h;have hlt:i<xs.length:=by rw[hxl];exact (Yyg.1 h1).1
  refine⟨H,enc,m,xs[i],by rw[hfi i f h1,Yi hlt],?_⟩;rw[hx,Rows.uptoBulk] at hw;have:=bulk_part (l:=xs.map (·.1)) (d:=xs[i].1) (Yp.2 ⟨xs[i],List.getElem_mem hlt,rfl⟩);omega
 .cases hf
theorem Rdb.rows {P:Program} {W:World} {t e:TypeId} {cs:List Value} (ht:P.underlying t=some (.slice e)) (h:Rdb P W t cs) (hpos:0<P.cellsOf e) :
  ∃(s:Sl) (rows:List (List Value)),cs=[.slice s.a s.n s.c]/\s.n<=s.c/\s.n<=1048576/\(s.a=none->s.n=0/\s.c=0)/\Rw W.heap (P.cellsOf e) s rows/\∀r∈rows,r.length=P.cellsOf e/\Rdb P W e r:=by
 obtain⟨H,enc,n,x,h,hw⟩:=h;rcases DataW.trod_slice ht h with ⟨rfl,_⟩ | ⟨a,len,cap,elems,rest,m,_,rfl,hx,_,hlc,hcm,hel,helem,_,_⟩
 .exact⟨⟨none,0,0⟩,[],rfl,Yyt _,Nat.zero_le _,fun _=>⟨rfl,rfl⟩,Rw.nil,fun r hr=>by cases hr⟩
 .rw[hx,Rows.uptoBulk] at hw;have hle:len<=1048576:=by
   have:=bulk_len (elems.map (·.1));rw[Yc] at this;omega
  have hwe:∀(i:Nat) (hi:i<elems.length),Rows.uptoBulk elems[i].1<=1048576:=fun i hi=>by
   have:=bulk_part (l:=elems.map (·.1)) (d:=elems[i].1) (Yp.2 ⟨elems[i],List.getElem_mem hi,rfl⟩);omega
  by_cases h0:len=0
  .subst h0;exact⟨⟨some a,0,cap⟩,[],rfl,hlc,hle,fun e=>(by cases e),Rw.empty rfl,fun r hr=>by cases hr⟩
  .have hrow:∀i,i<len->∃r,W.cells? 0 (a.add (i*P.cellsOf e)) (P.cellsOf e)=some r/\Rdb P W e r:=by
    intro i hi;have h1:=helem i hi;rw[Yi (by omega)] at h1;obtain⟨r,hr,hx2⟩:=Option.bind_eq_some_iff.1 h1;exact⟨r,hr,H,enc,m,_,hx2,hwe i (by omega)⟩
   let row:Nat->List Value:=fun i=>(W.cells? 0 (a.add (i*P.cellsOf e)) (P.cellsOf e)).getD []
   have hrow':∀i,i<len->W.cells? 0 (a.add (i*P.cellsOf e)) (P.cellsOf e)=some (row i)/\Rdb P W e (row i):=fun i hi=>by
    obtain⟨r,hr,hx⟩:=hrow i hi;have:row i=r:=by show (W.cells? 0 _ _).getD []=r;rw[hr];rfl
    rw[this];exact⟨hr,hx⟩
   have hget:∀i,i<len->((List.range len).map row)[i]?=some (row i):=fun i hi=>by
    rw[Yd,Yyb hi];rfl
   have hspot:a=⟨a.block,a.off,none⟩:=by
    have hc:=(cells_at (hrow' 0 (by omega)).1);have hl0:0<(row 0).length:=by rw[hc.1];exact hpos
    have:=hc.2 0 _ (Yi hl0);rw[Nat.zero_mul,show (a.add 0).add 0=a from rfl] at this;unfold World.cell? at this;split at this
    .split at this
     .cases this
     .rename_i hs;cases a with
      | mk b o s=>
       cases s with
       | none=>rfl
       | some s=>exact absurd rfl hs
    .cases this
   refine⟨⟨some a,len,cap⟩,(List.range len).map row,rfl,hlc,hle,fun e=>(by cases e),⟨by simp,fun _=>⟨a.block,a.off,by rw[<-hspot],fun i r hi j v hj=>?_⟩⟩,fun r hr=>?_⟩
   .have hil:i<len:=by have:=(Ya.1 hi).1;simpa using this
    rw[hget i hil] at hi;cases hi;have h4:=(cells_at (hrow' i hil).1).2 _ _ hj;rw[hspot] at h4;have e:((⟨a.block,a.off,none⟩:Addr).add (i*P.cellsOf e)).add j=addk ⟨a.block,a.off+i*P.cellsOf e,none⟩ j:=by
     rw[addk_at,add_n,add_n]
    rw[e] at h4;exact h4
   .obtain⟨i,hi,rfl⟩:=Yp.1 hr;have:=hrow' i (List.mem_range.1 hi);exact⟨(cells_at this.1).1,this.2⟩
theorem Rdb.list {α:Type} {P:Program} {W:World} {t e:TypeId} {k:Nat} {v:Value} {cs:α->List Value} {Q:α->Prop} (ht:P.underlying t=some (.slice e)) (hk:P.cellsOf e=k) (hpos:0<k)
  (ho:∀r,Rdb P W e r->∃x,r=cs x/\Q x) (h:Rdb P W t [v]):∃(s:Sl) (L:List α),v=.slice s.a s.n s.c/\RL W.heap k s cs L/\∀x∈L,Q x:=by
 subst hk;obtain⟨s,rows,e1,hc,hm,hna,hrw,hr⟩:=h.rows ht hpos;have key:∀rows:List (List Value),(∀r∈rows,r.length=P.cellsOf e/\Rdb P W e r)->∃L:List α,rows=L.map cs/\∀x∈L,Q x:=by
  intro rows
  induction rows with
  | nil=>intro _;exact⟨[],rfl,fun x hx=>by cases hx⟩
  | cons r rows ih=>
   intro h;obtain⟨x,hx,hq⟩:=ho r (h r (by simp)).2;obtain⟨L,hL,hQ⟩:=ih fun y hy=>h y (Yn _ hy);exact⟨x::L,by rw[hx,hL];rfl,fun y hy=>by rcases Yr.1 hy with rfl | hy;exact hq;exact hQ y hy⟩
 obtain⟨L,rfl,hQ⟩:=key rows hr;have hn:=hrw.ln;exact⟨s,L,by simpa using e1,⟨hrw,hc,hna,by omega⟩,hQ⟩
theorem v3:Pz.underlying 3=some (.int .i64):=by kernel_rfl
theorem v4b:Pz.underlying 4=some .bool:=by kernel_rfl
theorem v9:Pz.underlying 9=some .string:=by kernel_rfl
theorem cz3:Pz.cellsOf 3=1:=by kernel_rfl
theorem cz4:Pz.cellsOf 4=1:=by kernel_rfl
theorem cz9:Pz.cellsOf 9=1:=by kernel_rfl
theorem cz22:Pz.cellsOf 22=1:=by kernel_rfl
theorem cz23:Pz.cellsOf 23=1:=by kernel_rfl
theorem cz24:Pz.cellsOf 24=1:=by kernel_rfl
theorem cz25:Pz.cellsOf 25=1:=by kernel_rfl
theorem cz27:Pz.cellsOf 27=8:=by kernel_rfl
theorem cz53:Pz.cellsOf 53=3:=by kernel_rfl
theorem cz55:Pz.cellsOf 55=6:=by kernel_rfl
theorem cz63:Pz.cellsOf 63=3:=by kernel_rfl
theorem cz130:Pz.cellsOf 130=1:=by kernel_rfl
theorem cz131:Pz.cellsOf 131=1:=by kernel_rfl
theorem cz132:Pz.cellsOf 132=1:=by kernel_rfl
theorem cz134:Pz.cellsOf 134=2:=by kernel_rfl
theorem cz136:Pz.cellsOf 136=5:=by kernel_rfl
theorem cz182:Pz.cellsOf 182=3:=by kernel_rfl
theorem cz184:Pz.cellsOf 184=4:=by kernel_rfl
theorem cz187:Pz.cellsOf 187=3:=by kernel_rfl
theorem cz189:Pz.cellsOf 189=2:=by kernel_rfl
theorem vs22:Pz.underlying 22=some (.slice 9):=by kernel_rfl
theorem vs23:Pz.underlying 23=some (.slice 136):=by kernel_rfl
theorem vs24:Pz.underlying 24=some (.slice 55):=by kernel_rfl
theorem vs25:Pz.underlying 25=some (.slice 63):=by kernel_rfl
theorem vs130:Pz.underlying 130=some (.slice 184):=by kernel_rfl
theorem vs131:Pz.underlying 131=some (.slice 187):=by kernel_rfl
theorem vs132:Pz.underlying 132=some (.slice 189):=by kernel_rfl
theorem va189:Pz.underlying 189=some (.array 2 3):=by kernel_rfl
theorem Rdb.str {P:Program} {W:World} {t:TypeId} {cs:List Value} (ht:P.underlying t=some .string) (h:Rdb P W t cs):∃s:ByteArray,cs=[.string s]/\s.size<=1048576:=by
 obtain⟨H,enc,n,x,h,hw⟩:=h;obtain⟨m,h1,hx,_⟩:=DataW.trod_string ht h;refine⟨m,h1,?_⟩;rw[hx,Rows.uptoBulk] at hw;have e:m.data.toList.length=m.size:=rfl;omega
theorem open_name {W:World} {r:List Value} (h:Rdb Pz W 9 r):∃x:Nm,r=nmC x/\True:=by
 obtain⟨s,e,_⟩:=h.rdt.str v9;exact⟨s.data.toList,by rw[e];rfl,trivial⟩
theorem open_field {W:World} {r:List Value} (h:Rdb Pz W 184 r):∃x:Fld,r=x.cs/\True:=by
 have hl:=h.rdt.flen (i:=0) (ft:=9) (off:=0) (by kernel_rfl);rw[cz184] at hl
 match r,hl with
 | [x0,x1,x2,x3],_=>
  have f0:=h.rdt.field (i:=0) (ft:=9) (off:=0) (by kernel_rfl);have f1:=h.rdt.field (i:=1) (ft:=182) (off:=1) (by kernel_rfl);rw[cz9] at f0;rw[cz182] at f1;have g0:=f1.field (i:=0) (ft:=3) (off:=0) (by kernel_rfl);have g1:=f1.field (i:=1) (ft:=3) (off:=1) (by kernel_rfl);have g2:=f1.field (i:=2) (ft:=3) (off:=2) (by kernel_rfl);rw[cz3] at g0 g1 g2;obtain⟨s,e0,_⟩:=f0.str v9;obtain⟨k1,e1,_⟩:=g0.int v3;obtain⟨k2,e2,_⟩:=g1.int v3;obtain⟨k3,e3,_⟩:=g2.int v3;simp only[List.drop_zero,List.take_succ_cons,Yyk,List.drop_succ_cons,List.cons.injEq,and_true] at e0 e1 e2 e3;subst e0 e1 e2 e3;exact⟨⟨s.data.toList,k1,k2,k3⟩,rfl,trivial⟩
theorem open_three {W:World} {t:TypeId} {r:List Value} (hc:Pz.cellsOf t=3) (h0:fieldAt Pz t 0=some (3,0)) (h1:fieldAt Pz t 1=some (3,1)) (h2:fieldAt Pz t 2=some (3,2)) (h:Rdt Pz W t r) :
  ∃a b c:Int,r=[.int .i64 a,.int .i64 b,.int .i64 c]:=by
 have hl:=h.flen h0;rw[hc] at hl
 match r,hl with
 | [x0,x1,x2],_=>
  have f0:=h.field h0;have f1:=h.field h1;have f2:=h.field h2;rw[cz3] at f0 f1 f2;obtain⟨k0,e0,_⟩:=f0.int v3;obtain⟨k1,e1,_⟩:=f1.int v3;obtain⟨k2,e2,_⟩:=f2.int v3;simp only[List.drop_zero,List.take_succ_cons,Yyk,List.drop_succ_cons,List.cons.injEq,and_true] at e0 e1 e2;subst e0 e1 e2;exact⟨k0,k1,k2,rfl⟩
theorem open_diff {W:World} {r:List Value} (h:Rdb Pz W 187 r):∃x:Df,r=x.cs/\True:=by
 obtain⟨a,b,c,e⟩:=open_three cz187 (by kernel_rfl) (by kernel_rfl) (by kernel_rfl) h.rdt;exact⟨⟨a,b,c⟩,e,trivial⟩
theorem open_timeout {W:World} {r:List Value} (h:Rdb Pz W 63 r):∃x:To,r=x.cs/\True:=by
 obtain⟨a,b,c,e⟩:=open_three cz63 (by kernel_rfl) (by kernel_rfl) (by kernel_rfl) h.rdt;exact⟨⟨a,b,c⟩,e,trivial⟩
theorem open_pair {W:World} {r:List Value} (h:Rdb Pz W 189 r):∃x:Eqs,r=x.cs/\True:=by
 obtain⟨hl,ha⟩:=h.rdt.array va189;rw[cz189] at hl;rw[cz3] at ha
 match r,hl with
 | [x0,x1],_=>
  obtain⟨k0,e0,_⟩:=(ha 0 (by omega)).int v3;obtain⟨k1,e1,_⟩:=(ha 1 (by omega)).int v3;simp only[Nat.zero_mul,Nat.one_mul,List.drop_zero,List.take_succ_cons,Yyk,List.drop_succ_cons,List.cons.injEq,and_true] at e0 e1;subst e0 e1;exact⟨⟨k0,k1⟩,rfl,trivial⟩
theorem open_edge {W:World} {r:List Value} (h:Rdb Pz W 55 r):∃x:Ed,r=x.cs/\True:=by
 have hl:=h.rdt.flen (i:=0) (ft:=3) (off:=0) (by kernel_rfl);rw[cz55] at hl
 match r,hl with
 | [x0,x1,x2,x3,x4,x5],_=>
  have f0:=h.rdt.field (i:=0) (ft:=3) (off:=0) (by kernel_rfl);have f1:=h.rdt.field (i:=1) (ft:=53) (off:=1) (by kernel_rfl);have f2:=h.rdt.field (i:=2) (ft:=3) (off:=4) (by kernel_rfl);have f3:=h.rdt.field (i:=3) (ft:=4) (off:=5) (by kernel_rfl);rw[cz3] at f0 f2;rw[cz53] at f1;rw[cz4] at f3;obtain⟨a,b,c,e1⟩:=open_three cz53 (by kernel_rfl) (by kernel_rfl) (by kernel_rfl) f1;obtain⟨k0,e0,_⟩:=f0.int v3;obtain⟨k2,e2,_⟩:=f2.int v3;obtain⟨k3,e3⟩:=f3.bool v4b;simp only[List.drop_zero,List.take_succ_cons,Yyk,List.drop_succ_cons,List.cons.injEq,and_true] at e0 e1 e2 e3;obtain⟨e1a,e1b,e1c⟩:=e1;subst e0 e1a e1b e1c e2 e3;exact⟨⟨k0,a,b,c,k2,k3⟩,rfl,trivial⟩
theorem open_decl {W:World} {r:List Value} (h:Rdb Pz W 136 r):∃x:Dc,r=x.cs/\DI W.heap x/\x.nm.length<=1048576:=by
 have hl:=h.rdt.flen (i:=0) (ft:=9) (off:=0) (by kernel_rfl);rw[cz136] at hl
 match r,hl with
 | [x0,x1,x2,x3,x4],_=>
  have f0:=h.field (i:=0) (ft:=9) (off:=0) (by kernel_rfl);have f1:=h.field (i:=1) (ft:=130) (off:=1) (by kernel_rfl);have f2:=h.rdt.field (i:=2) (ft:=3) (off:=2) (by kernel_rfl);have f3:=h.field (i:=3) (ft:=134) (off:=3) (by kernel_rfl);rw[cz9] at f0;rw[cz130] at f1;rw[cz3] at f2;rw[cz134] at f3;have g0:=f3.field (i:=0) (ft:=131) (off:=0) (by kernel_rfl);have g1:=f3.field (i:=1) (ft:=132) (off:=1) (by kernel_rfl);rw[cz131] at g0;rw[cz132] at g1;obtain⟨s,e0,hs0⟩:=f0.str v9;obtain⟨sf,fs,e1,hf,_⟩:=Rdb.list vs130 cz184 (by omega) (fun r hr=>open_field hr) f1;obtain⟨k,e2,_⟩:=f2.int v3;obtain⟨sd,ds,e3,hd,_⟩:=Rdb.list vs131 cz187 (by omega) (fun r hr=>open_diff hr) g0;obtain⟨se,es,e4,he,_⟩:=Rdb.list vs132 cz189 (by omega) (fun r hr=>open_pair hr) g1;simp only[List.drop_zero,List.take_succ_cons,Yyk,List.drop_succ_cons,List.cons.injEq,and_true] at e0 e2;subst e0 e1 e2 e3 e4;exact⟨⟨s.data.toList,sf,k,sd,se,fs,ds,es⟩,rfl,⟨hf,hd,he⟩,hs0⟩
theorem open_global {W:World} {cs:List Value} (h:Rdb Pz W 27 cs):∃g:Gl,cs=g.cs/\GI W.heap g/\∀d∈g.ds,d.nm.length<=1048576:=by
 have hl:=h.rdt.flen (i:=0) (ft:=9) (off:=0) (by kernel_rfl);rw[cz27] at hl
 match cs,hl with
 | [x0,x1,x2,x3,x4,x5,x6,x7],_=>
  have f0:=h.rdt.field (i:=0) (ft:=9) (off:=0) (by kernel_rfl);have f1:=h.field (i:=1) (ft:=22) (off:=1) (by kernel_rfl);have f2:=h.field (i:=2) (ft:=23) (off:=2) (by kernel_rfl);have f3:=h.rdt.field (i:=3) (ft:=3) (off:=3) (by kernel_rfl);have f4:=h.rdt.field (i:=4) (ft:=3) (off:=4) (by kernel_rfl);have f5:=h.rdt.field (i:=5) (ft:=3) (off:=5) (by kernel_rfl);have f6:=h.field (i:=6) (ft:=24) (off:=6) (by kernel_rfl);have f7:=h.field (i:=7) (ft:=25) (off:=7) (by kernel_rfl);rw[cz9] at f0;rw[cz22] at f1;rw[cz23] at f2;rw[cz3] at f3 f4 f5;rw[cz24] at f6;rw[cz25] at f7;obtain⟨s,e0,_⟩:=f0.str v9;obtain⟨sr,rs,e1,hr,_⟩:=Rdb.list vs22 cz9 (by omega) (fun r hr=>open_name hr) f1;obtain⟨sd,ds,e2,hd,hdi⟩:=Rdb.list vs23 cz136 (by omega) (fun r hr=>open_decl hr) f2;obtain⟨k3,e3,_⟩:=f3.int v3;obtain⟨k4,e4,_⟩:=f4.int v3;obtain⟨k5,e5,_⟩:=f5.int v3;obtain⟨se,es,e6,he,_⟩:=Rdb.list vs24 cz55 (by omega) (fun r hr=>open_edge hr) f6;obtain⟨st,ts,e7,ht,_⟩:=Rdb.list vs25 cz63 (by omega) (fun r hr=>open_timeout hr) f7;simp only[List.drop_zero,List.take_succ_cons,Yyk,List.drop_succ_cons,List.cons.injEq,and_true] at e0 e3 e4 e5;subst e0 e1 e2 e3 e4 e5 e6 e7;exact⟨⟨s.data.toList,sr,sd,k3,k4,k5,se,st,rs,ds,es,ts⟩,rfl,⟨hr,⟨hd,fun d hm=>(hdi d hm).1⟩,he,ht⟩,fun d hm=>(hdi d hm).2⟩
end Go.VC
end
