/- KtJ KtK KtL KtM KtN KtO KtP KtVcE. -/
import Derived.Test.YtknallccojglcaaGreatDoorM15
set_option linter.unusedVariables false
set_option linter.unusedSimpArgs false
set_option maxRecDepth 100000

section
namespace Go.VC
open Go.Proofs Go.LexS
theorem made42 (n:Nat):madeL Pz 25 n=((List.replicate n (⟨none,0,0⟩:Sl)).map slC).flatten:=by
 have e:zeroC Pz 25=[.slice none 0 0]:=by kernel_rfl
 unfold madeL;rw[e,List.map_replicate];rfl
theorem made173 (n:Nat):madeL Pz 396 n=((List.replicate n (⟨none,0,0⟩:Sl)).map slC).flatten:=by
 have e:zeroC Pz 396=[.slice none 0 0]:=by kernel_rfl
 unfold madeL;rw[e,List.map_replicate];rfl
theorem slrows (L:List Sl):∀r∈L.map slC,r.length=1:=fun r hr=>by obtain⟨x,_,rfl⟩:=Yp.1 hr;rfl
theorem app173:appB Pz 396 398 4 32=true:=by kernel_rfl
structure LkL (g:Gl) (role:Int) (i:Nat) (qs:List (Sl × List Int)) (vs:List (Sl × List Ar)):Prop where
 ql:qs.length=g.n.toNat
 vl:vs.length=g.n.toNat
 q:∀(n:Nat) q,qs[n]?=some q->q.2=quietL (g.es.take i) role n
 v:∀(n:Nat) q,vs[n]?=some q->q.2=visL (g.es.take i) role n
def lkA (g:Gl) (role:Int) (b bg:Nat) (hq hv:Sl) (qs:List (Sl × List Int)) (vs:List (Sl × List Ar)):List It:=
 [.blk b (g.cs++[.int .i64 role,.slice hq.a hq.n hq.c,.slice hv.a hv.n hv.c]) 395,.sl hq 25 1 ((qs.map Prod.fst).map slC),.sl hv 396 1 ((vs.map Prod.fst).map slC),.blk bg g.cs 77]
theorem LkL.len {g:Gl} {role:Int} {i n:Nat} {qs:List (Sl × List Int)} {vs:List (Sl × List Ar)} (h:LkL g role i qs vs) {q:Sl × List Int} (hq:qs[n]?=some q):q.2.length<=g.es.length:=by
 rw[h.q n q hq];exact Yys (List.length_filterMap_le _ _) (by rw[Yu];omega)
theorem LkL.lenv {g:Gl} {role:Int} {i n:Nat} {qs:List (Sl × List Int)} {vs:List (Sl × List Ar)} (h:LkL g role i qs vs) {q:Sl × List Ar} (hq:vs[n]?=some q):q.2.length<=g.es.length:=by
 rw[h.v n q hq];exact Yys (List.length_filterMap_le _ _) (by rw[Yu];omega)
theorem LkL.nextQ {g:Gl} {role:Int} {i m:Nat} {qs:List (Sl × List Int)} {vs:List (Sl × List Ar)} {x:Ed} {q:Sl × List Int} {r:Sl} (h:LkL g role i qs vs) (hx:g.es[i]?=some x) (hn:vis1 role x=none) (hm:x.f=(m:Int)) (hq:qs[m]?=some q):LkL g role (i+1) (qs.set m (r,q.2++[x.t])) vs:=by
 refine⟨by rw[Yyh];exact h.ql,h.vl,fun n q' hq'=>?_,fun n q' hq'=>?_⟩
 ·rw[take_snoc hx,quietL_snoc];by_cases e:n=m
  ·subst e;rw[Yq (Ya.1 hq).1] at hq';cases hq';rw[if_pos hm,hn];show q.2++[x.t]=_;rw[h.q n q hq]
  ·rw[Yy (fun h=>e h.symm)] at hq';rw[if_neg (by omega),Yw];exact h.q n q' hq'
 ·rw[take_snoc hx,visL_snoc,hn];rw[show (if x.f=(n:Int) then [] else []:List Ar)=[] by split<;>rfl,Yw];exact h.v n q' hq'
theorem LkL.nextV {g:Gl} {role:Int} {i m:Nat} {qs:List (Sl × List Int)} {vs:List (Sl × List Ar)} {x:Ed} {q:Sl × List Ar} {r:Sl} {e:Ev} (h:LkL g role i qs vs) (hx:g.es[i]?=some x) (hn:vis1 role x=some e) (hm:x.f=(m:Int)) (hq:vs[m]?=some q):LkL g role (i+1) qs (vs.set m (r,q.2++[⟨e,x.t⟩])):=by
 refine⟨h.ql,by rw[Yyh];exact h.vl,fun n q' hq'=>?_,fun n q' hq'=>?_⟩
 ·rw[take_snoc hx,quietL_snoc,hn];rw[show (if x.f=(n:Int) then [] else []:List Int)=[] by split<;>rfl,Yw];exact h.q n q' hq'
 ·rw[take_snoc hx,visL_snoc];by_cases e:n=m
  ·subst e;rw[Yq (Ya.1 hq).1] at hq';cases hq';rw[if_pos hm,hn];show q.2++[_]=_;rw[h.v n q hq]
  ·rw[Yy (fun h=>e h.symm)] at hq';rw[if_neg (by omega),Yw];exact h.v n q' hq'
theorem LkL.start (g:Gl) (role:Int):LkL g role 0 (List.replicate g.n.toNat (⟨none,0,0⟩,[])) (List.replicate g.n.toNat (⟨none,0,0⟩,[])):=
 ⟨by rw[Yg],by rw[Yg],fun n q hq=>by rw[List.eq_of_mem_replicate (Yb hq)];rfl,fun n q hq=>by rw[List.eq_of_mem_replicate (Yb hq)];rfl⟩
theorem fst_set {α β:Type} (Q:List (α × β)) (i:Nat) (r:α) (d:β):(Q.set i (r,d)).map Prod.fst=(Q.map Prod.fst).set i r:=List.map_set
theorem map_range {α β:Type} [Inhabited α] (Q:List α) (f:α->β):Q.map f=(List.range Q.length).map fun i=>f (Q.getD i default):=by
 apply Yyr;intro i;rw[Yd,Yd];by_cases h:i<Q.length
 ·rw[Yyb h,Yi h];simp[Yo,Yi h]
 ·rw[Yl (by omega),Yl (by rw[Yyd];omega)];rfl
instance {α:Type}:Inhabited (Sl × List α):=⟨⟨⟨none,0,0⟩,[]⟩⟩
theorem LkL.fin {g:Gl} {role:Int} {i:Nat} {h0 h:Heap} {b bg:Nat} {hq hv:Sl} {qs:List (Sl × List Int)} {vs:List (Sl × List Ar)} (hL:LkL g role i qs vs) (hi:g.es.length<=i)
  (hs:St h0 h (lkA g role b bg hq hv qs vs++qs.map (nest 3 1 inC)++vs.map (nest 398 4 Ar.cs))) (hqn:hq.n=g.n.toNat) (hvn:hv.n=g.n.toNat):LkI h ⟨b,0,none⟩ g role:=by
 have key:∀ {α:Type} (Q:List (Sl × List α)),(Q.map Prod.fst).map slC=(List.range Q.length).map fun i=>slC ((Q.getD i default).1):=fun Q=>by rw[List.map_map,map_range];rfl
 refine⟨hq,hv,fun i=>(qs.getD i default).1,fun i=>(vs.getD i default).1,rfl,hs.at 0 rfl (n:=11) rfl,hqn,hvn,?_,?_,fun i hi'=>?_,fun i hi'=>?_⟩
 ·have:=hs.rw 1 rfl (by omega);rw[key,hL.ql] at this;exact this
 ·have:=hs.rw 2 rfl (by omega);rw[key,hL.vl] at this;exact this
 ·have hil:i<qs.length:=by rw[hL.ql];exact hi'
  have hg:qs[i]?=some (qs.getD i default):=by rw[Yo,Yi hil];rfl
  have:=hs.rw (4+i) (rows:=(qs.getD i default).2.map inC) (s:=(qs.getD i default).1) (e:=3) (n:=1) (by
   have:=get_mid (P:=lkA g role b bg hq hv qs vs) (Q:=qs.map (nest 3 1 inC)) (R:=vs.map (nest 398 4 Ar.cs)) (i:=i) (by rw[Yc];exact hil);rw[show (lkA g role b bg hq hv qs vs).length=4 from rfl] at this;rw[this,Yd,hg];rfl) (by omega)
  rw[hL.q i _ hg,Yj hi] at this;exact this
 ·have hil:i<vs.length:=by rw[hL.vl];exact hi'
  have hg:vs[i]?=some (vs.getD i default):=by rw[Yo,Yi hil];rfl
  have:=hs.rw ((lkA g role b bg hq hv qs vs++qs.map (nest 3 1 inC)).length+i) (rows:=(vs.getD i default).2.map Ar.cs) (s:=(vs.getD i default).1) (e:=398) (n:=4) (by
   rw[Yyc (by omega),Nat.add_sub_cancel_left,Yd,hg];rfl) (by omega)
  rw[hL.v i _ hg,Yj hi] at this;exact this

theorem look52 (g:Gl) (role:Int) (h:Heap) (hg:GI h g) (hx:Gx h) :
  Fn Pz 210 #[g.v,.int .i64 role] h fun v h'=>Ext h h'/\((¬(ValidS g/\0<=role/\role<g.rs.length)/\v=.tuple ⟨[.pointer none,.int .i64 1]⟩) \/
   ((ValidS g/\0<=role/\role<g.rs.length)/\∃b,h.size<=b/\v=.tuple ⟨[.pointer (some ⟨b,0,none⟩),.int .i64 0]⟩/\LkI h' ⟨b,0,none⟩ g role)):=by
 apply vc210 (bs g.nm) g.hr g.hd g.n g.s g.e g.he g.ht;unfold W210 V210a V210c V210b;have hs:=St.refl h;have hn:=hg.e.ln;have hnr:=hg.r.ln;have hsm:=hg.e.sm;refine hs.newb fun h9 hs=>?_;refine⟨_,_,_,_,_,_,_,_,hs.at 0 rfl (n:=8) rfl,?_⟩;refine (valid38 g _ (hg.ext hs.ext) (hx.ext hs.ext)).mono ?_;rintro _ h20 ⟨rfl,Eh20⟩;replace hs:=hs.step Eh20;refine⟨_,rfl,?_⟩;refine sB_intro (fun c1=>?_) (fun c1=>?_)
 ·exact⟨hs.ext,.inl ⟨fun hG=>Yyo (bF c1) hG.1,rfl⟩⟩
 ·have hV:=Yyn (bT c1);refine sBi (fun c2=>?_) (fun c2=>?_)
  ·exact⟨hs.ext,.inl ⟨fun hG=>by omega,rfl⟩⟩
  ·refine⟨_,hs.rd 0 rfl rfl,?_⟩;refine sBi (fun c3=>?_) (fun c3=>?_)
   ·exact⟨hs.ext,.inl ⟨fun hG=>by omega,rfl⟩⟩
   ·refine⟨_,_,_,_,_,_,_,_,hs.at 0 rfl (n:=8) rfl,?_⟩;refine⟨_,hs.rd 0 rfl rfl,?_⟩;refine⟨_,hs.rd 0 rfl rfl,?_⟩;have hb:=hV.num.n;have hE:=hV.num.e;have hm4:=hV.num.m;have fin:ValidS g/\0<=role/\role<g.rs.length:=⟨hV,by omega,by omega⟩;rw[made42,made173];have hrep:∀ {α:Type},((List.replicate g.n.toNat ((⟨none,0,0⟩,[]):Sl × List α)).map Prod.fst)=List.replicate g.n.toNat (⟨none,0,0⟩:Sl):=List.map_replicate;have hmx:g.n.toNat<=maxLen:=by simp only[maxLen];omega
    refine⟨?_,?_⟩
    ·refine⟨by omega,?_⟩;refine hs.newbE fun h32 E32 hs=>⟨E32.sm,?_⟩;have hs:=hs.blkS g.n.toNat 1 _ rfl (slrows _) (by rw[Yc,Yg]) hmx;refine⟨by omega,?_⟩;refine hs.newbE fun h33 E33 hs=>⟨E33.sm,?_⟩;have hs:=hs.blkS g.n.toNat 1 _ rfl (slrows _) (by rw[Yc,Yg]) hmx;have hle:h.size<=h33.size:=hs.ext.1;refine hs.newb fun h34 hs=>?_;have hs:St h h34 (lkA g role h33.size h.size ⟨some ⟨h20.size,0,none⟩,g.n.toNat,g.n.toNat⟩ ⟨some ⟨h32.size,0,none⟩,g.n.toNat,g.n.toNat⟩ (List.replicate g.n.toNat (⟨none,0,0⟩,[])) (List.replicate g.n.toNat (⟨none,0,0⟩,[]))++(List.replicate g.n.toNat ((⟨none,0,0⟩,[]):Sl × List Int)).map (nest 3 1 inC)++(List.replicate g.n.toNat ((⟨none,0,0⟩,[]):Sl × List Ar)).map (nest 398 4 Ar.cs)):=by
      have h1:St h h34 (lkA g role h33.size h.size ⟨some ⟨h20.size,0,none⟩,g.n.toNat,g.n.toNat⟩ ⟨some ⟨h32.size,0,none⟩,g.n.toNat,g.n.toNat⟩ (List.replicate g.n.toNat (⟨none,0,0⟩,[])) (List.replicate g.n.toNat (⟨none,0,0⟩,[]))++[]):=by
       unfold lkA;rw[hrep,hrep];exact hs.perm (.cons _ (.swap _ _ _))
      have h2:=h1.nests (α:=Ar) (e:=398) (k:=4) (cs:=Ar.cs) g.n.toNat;rw[Yw] at h2;exact h2.nests (α:=Int) (e:=3) (k:=1) (cs:=inC) g.n.toNat
     refine⟨_,hs.rd 3 rfl rfl,?_⟩;refine up_loop (n:=g.he.n) (fun i h'=>∃qs vs,LkL g role i qs vs/\St h h' (lkA g role h33.size h.size ⟨some ⟨h20.size,0,none⟩,g.n.toNat,g.n.toNat⟩ ⟨some ⟨h32.size,0,none⟩,g.n.toNat,g.n.toNat⟩ qs vs++qs.map (nest 3 1 inC)++vs.map (nest 398 4 Ar.cs))) ⟨_,_,LkL.start g role,hs⟩ ?_;rintro-i h40 hi ⟨qs,vs,hL,hs⟩;refine sB_intro (fun l=>?_) (fun l=>?_)
     ·replace l:=lt_t l;refine (hg.e.ext hs.ext).rw.nbI (by omega) (by omega) fun b41 o42 x g41 t41=>?_;replace g41:g.es[i]?=some x:=g41;have hxE:=hE x (Yb g41);unfold EdS at hxE;obtain⟨m,hm⟩:∃m:Nat,x.f=m:=⟨x.f.toNat,by omega⟩;obtain⟨q,hq⟩:=get_some (l:=qs) (i:=m) (by rw[hL.ql];omega);obtain⟨v,hv⟩:=get_some (l:=vs) (i:=m) (by rw[hL.vl];omega);have hql:=hL.len hq;have hvl:=hL.lenv hv;have hqn:q.1.n=q.2.length:=by
       have:=hs.len (4+m) (s:=q.1) (e:=3) (n:=1) (rows:=q.2.map inC) (by
        have:=get_mid (P:=lkA g role h33.size h.size ⟨some ⟨h20.size,0,none⟩,g.n.toNat,g.n.toNat⟩ ⟨some ⟨h32.size,0,none⟩,g.n.toNat,g.n.toNat⟩ qs vs) (Q:=qs.map (nest 3 1 inC)) (R:=vs.map (nest 398 4 Ar.cs)) (i:=m) (by rw[Yc];exact (Ya.1 hq).1);rw[show (lkA g role h33.size h.size ⟨some ⟨h20.size,0,none⟩,g.n.toNat,g.n.toNat⟩ ⟨some ⟨h32.size,0,none⟩,g.n.toNat,g.n.toNat⟩ qs vs).length=4 from rfl] at this;rw[this,Yd,hq];rfl) (by omega)
       rw[this.1,Yc]
      have hvn:v.1.n=v.2.length:=by
       have:=hs.len ((lkA g role h33.size h.size ⟨some ⟨h20.size,0,none⟩,g.n.toNat,g.n.toNat⟩ ⟨some ⟨h32.size,0,none⟩,g.n.toNat,g.n.toNat⟩ qs vs++qs.map (nest 3 1 inC)).length+m) (s:=v.1) (e:=398) (n:=4) (rows:=v.2.map Ar.cs) (by
        rw[Yyc (by omega),Nat.add_sub_cancel_left,Yd,hv];rfl) (by omega)
       rw[this.1,Yc]
      refine⟨_,_,_,_,_,_,t41,?_⟩;refine hs.newput (vs:=x.cs) rfl rfl fun h50 hs=>?_;refine⟨_,hs.rd 0 rfl rfl,?_⟩;refine sBe (fun c4=>?_) (fun c4=>?_)
      ·have hvis:vis1 role x=some ⟨true,x.b,x.l⟩:=by unfold vis1;rw[if_pos c4]
       refine⟨_,hs.rd 1 rfl rfl,?_⟩;refine⟨_,hs.rd 0 rfl rfl,?_⟩;refine⟨_,hs.rd 1 rfl rfl,?_⟩;refine⟨_,hs.rd 0 rfl rfl,?_⟩;refine (hs.rows 3 rfl (by omega)).nbI (cs:=slC) (L:=vs.map Prod.fst) (by omega) (by show x.f<((g.n.toNat:Nat):Int);omega) fun b56 o57 d56 g56 t56=>?_;have ed:d56=v.1:=by
        rw[hm,show ((m:Int)).toNat=m from rfl,Yd,hv] at g56;exact (Yyp g56).symm
       subst ed;refine⟨_,t56.hd,?_⟩;refine⟨_,hs.rd 0 rfl rfl,?_⟩;refine⟨_,hs.rd 0 rfl rfl,?_⟩;refine⟨_,hs.rd 0 rfl rfl,?_⟩;refine hs.newbE fun h62 E62 hs=>⟨E62.sm,?_⟩;have hs':St h h62 ((.blk h50.size (Ar.cs ⟨⟨true,x.b,x.l⟩,x.t⟩) 398 :: .blk h40.size x.cs 135::(lkA g role h33.size h.size ⟨some ⟨h20.size,0,none⟩,g.n.toNat,g.n.toNat⟩ ⟨some ⟨h32.size,0,none⟩,g.n.toNat,g.n.toNat⟩ qs vs++qs.map (nest 3 1 inC)))++vs.map (nest 398 4 Ar.cs)++[]):=by rw[Yw];exact hs
       refine hs'.nestAt hv app173 (⟨⟨true,x.b,x.l⟩,x.t⟩:Ar) (hs'.at 0 rfl (n:=4) rfl) rfl rfl (by omega) (by simp only[maxLen];omega) fun r h64 hr hs3=>?_;rw[Yw] at hs3;refine⟨sm_cons (hs'.same hs3 1 1 rfl rfl) (sm_cons (hs'.same hs3 2 2 rfl rfl) sm_nil),?_⟩;refine hs3.set 4 (cs:=slC) (l:=vs.map Prod.fst) rfl (by omega) (by omega) (by show x.f<((g.n.toNat:Nat):Int);omega) r rfl rfl (fun b o h67 hs4=>?_) rfl;refine Up.next l (by omega) ⟨qs,vs.set m (r,v.2++[⟨⟨true,x.b,x.l⟩,x.t⟩]),hL.nextV g41 hvis hm hv,?_⟩;rw[hm] at hs4;have hs5:=hs4.drop 2;unfold lkA;rw[fst_set];exact hs5
      ·refine⟨_,hs.rd 0 rfl rfl,?_⟩;refine sBe (fun c5=>?_) (fun c5=>?_)
       ·have hvis:vis1 role x=some ⟨false,x.a,x.l⟩:=by unfold vis1;rw[if_neg c4,if_pos c5]
        refine⟨_,hs.rd 1 rfl rfl,?_⟩;refine⟨_,hs.rd 0 rfl rfl,?_⟩;refine⟨_,hs.rd 1 rfl rfl,?_⟩;refine⟨_,hs.rd 0 rfl rfl,?_⟩;refine (hs.rows 3 rfl (by omega)).nbI (cs:=slC) (L:=vs.map Prod.fst) (by omega) (by show x.f<((g.n.toNat:Nat):Int);omega) fun b56 o57 d56 g56 t56=>?_;have ed:d56=v.1:=by
         rw[hm,show ((m:Int)).toNat=m from rfl,Yd,hv] at g56;exact (Yyp g56).symm
        subst ed;refine⟨_,t56.hd,?_⟩;refine⟨_,hs.rd 0 rfl rfl,?_⟩;refine⟨_,hs.rd 0 rfl rfl,?_⟩;refine⟨_,hs.rd 0 rfl rfl,?_⟩;refine hs.newbE fun h62 E62 hs=>⟨E62.sm,?_⟩;have hs':St h h62 ((.blk h50.size (Ar.cs ⟨⟨false,x.a,x.l⟩,x.t⟩) 398 :: .blk h40.size x.cs 135::(lkA g role h33.size h.size ⟨some ⟨h20.size,0,none⟩,g.n.toNat,g.n.toNat⟩ ⟨some ⟨h32.size,0,none⟩,g.n.toNat,g.n.toNat⟩ qs vs++qs.map (nest 3 1 inC)))++vs.map (nest 398 4 Ar.cs)++[]):=by rw[Yw];exact hs
        refine hs'.nestAt hv app173 (⟨⟨false,x.a,x.l⟩,x.t⟩:Ar) (hs'.at 0 rfl (n:=4) rfl) rfl rfl (by omega) (by simp only[maxLen];omega) fun r h64 hr hs3=>?_;rw[Yw] at hs3;refine⟨sm_cons (hs'.same hs3 1 1 rfl rfl) (sm_cons (hs'.same hs3 2 2 rfl rfl) sm_nil),?_⟩;refine hs3.set 4 (cs:=slC) (l:=vs.map Prod.fst) rfl (by omega) (by omega) (by show x.f<((g.n.toNat:Nat):Int);omega) r rfl rfl (fun b o h67 hs4=>?_) rfl;refine Up.next l (by omega) ⟨qs,vs.set m (r,v.2++[⟨⟨false,x.a,x.l⟩,x.t⟩]),hL.nextV g41 hvis hm hv,?_⟩;rw[hm] at hs4;have hs5:=hs4.drop 2;unfold lkA;rw[fst_set];exact hs5
       ·have hvis:vis1 role x=none:=by unfold vis1;rw[if_neg c4,if_neg c5]
        refine⟨_,hs.rd 1 rfl rfl,?_⟩;refine⟨_,hs.rd 0 rfl rfl,?_⟩;refine⟨_,hs.rd 1 rfl rfl,?_⟩;refine⟨_,hs.rd 0 rfl rfl,?_⟩;refine (hs.rows 2 rfl (by omega)).nbI (cs:=slC) (L:=qs.map Prod.fst) (by omega) (by show x.f<((g.n.toNat:Nat):Int);omega) fun b56 o57 d56 g56 t56=>?_;have ed:d56=q.1:=by
         rw[hm,show ((m:Int)).toNat=m from rfl,Yd,hq] at g56;exact (Yyp g56).symm
        subst ed;refine⟨_,t56.hd,?_⟩;refine⟨_,hs.rd 0 rfl rfl,?_⟩;refine hs.newbE fun h62 E62 hs=>⟨E62.sm,?_⟩;have hs':St h h62 ((.blk h50.size (inC x.t) 3 :: .blk h40.size x.cs 135::lkA g role h33.size h.size ⟨some ⟨h20.size,0,none⟩,g.n.toNat,g.n.toNat⟩ ⟨some ⟨h32.size,0,none⟩,g.n.toNat,g.n.toNat⟩ qs vs)++qs.map (nest 3 1 inC)++vs.map (nest 398 4 Ar.cs)):=hs;refine hs'.nestAt hq app42 x.t (hs'.at 0 rfl (n:=1) rfl) rfl rfl (by omega) (by simp only[maxLen];omega) fun r h64 hr hs3=>⟨sm_cons (hs'.same hs3 1 1 rfl rfl) (sm_cons (hs'.same hs3 2 2 rfl rfl) sm_nil),?_⟩;refine hs3.set 3 (cs:=slC) (l:=qs.map Prod.fst) rfl (by omega) (by omega) (by show x.f<((g.n.toNat:Nat):Int);omega) r rfl rfl (fun b o h67 hs4=>?_) rfl;refine Up.next l (by omega) ⟨qs.set m (r,q.2++[x.t]),vs,hL.nextQ g41 hvis hm hq,?_⟩;unfold lkA;rw[fst_set];rw[hm] at hs4;exact hs4.drop 2
     ·replace l:=lt_f l;refine⟨hs.ext,.inr ⟨fin,h33.size,hle,rfl,hL.fin (by omega) hs rfl rfl⟩⟩
    ·refine⟨by omega,?_⟩;refine hs.newbE fun h32 E32 hs=>⟨E32.sm,?_⟩;have hs:=hs.blkS g.n.toNat 1 _ rfl (slrows _) (by rw[Yc,Yg]) hmx;refine⟨by omega,?_⟩;refine hs.newbE fun h33 E33 hs=>⟨E33.sm,?_⟩;have hs:=hs.blkS g.n.toNat 1 _ rfl (slrows _) (by rw[Yc,Yg]) hmx;have hle:h.size<=h33.size:=hs.ext.1;refine hs.newb fun h34 hs=>?_;have hs:St h h34 (lkA g role h33.size h.size ⟨some ⟨h32.size,0,none⟩,g.n.toNat,g.n.toNat⟩ ⟨some ⟨h20.size,0,none⟩,g.n.toNat,g.n.toNat⟩ (List.replicate g.n.toNat (⟨none,0,0⟩,[])) (List.replicate g.n.toNat (⟨none,0,0⟩,[]))++(List.replicate g.n.toNat ((⟨none,0,0⟩,[]):Sl × List Int)).map (nest 3 1 inC)++(List.replicate g.n.toNat ((⟨none,0,0⟩,[]):Sl × List Ar)).map (nest 398 4 Ar.cs)):=by
      have h1:St h h34 (lkA g role h33.size h.size ⟨some ⟨h32.size,0,none⟩,g.n.toNat,g.n.toNat⟩ ⟨some ⟨h20.size,0,none⟩,g.n.toNat,g.n.toNat⟩ (List.replicate g.n.toNat (⟨none,0,0⟩,[])) (List.replicate g.n.toNat (⟨none,0,0⟩,[]))++[]):=by
       unfold lkA;rw[hrep,hrep];exact hs
      have h2:=h1.nests (α:=Ar) (e:=398) (k:=4) (cs:=Ar.cs) g.n.toNat;rw[Yw] at h2;exact h2.nests (α:=Int) (e:=3) (k:=1) (cs:=inC) g.n.toNat
     refine⟨_,hs.rd 3 rfl rfl,?_⟩;refine up_loop (n:=g.he.n) (fun i h'=>∃qs vs,LkL g role i qs vs/\St h h' (lkA g role h33.size h.size ⟨some ⟨h32.size,0,none⟩,g.n.toNat,g.n.toNat⟩ ⟨some ⟨h20.size,0,none⟩,g.n.toNat,g.n.toNat⟩ qs vs++qs.map (nest 3 1 inC)++vs.map (nest 398 4 Ar.cs))) ⟨_,_,LkL.start g role,hs⟩ ?_;rintro-i h40 hi ⟨qs,vs,hL,hs⟩;refine sB_intro (fun l=>?_) (fun l=>?_)
     ·replace l:=lt_t l;refine (hg.e.ext hs.ext).rw.nbI (by omega) (by omega) fun b41 o42 x g41 t41=>?_;replace g41:g.es[i]?=some x:=g41;have hxE:=hE x (Yb g41);unfold EdS at hxE;obtain⟨m,hm⟩:∃m:Nat,x.f=m:=⟨x.f.toNat,by omega⟩;obtain⟨q,hq⟩:=get_some (l:=qs) (i:=m) (by rw[hL.ql];omega);obtain⟨v,hv⟩:=get_some (l:=vs) (i:=m) (by rw[hL.vl];omega);have hql:=hL.len hq;have hvl:=hL.lenv hv;have hqn:q.1.n=q.2.length:=by
       have:=hs.len (4+m) (s:=q.1) (e:=3) (n:=1) (rows:=q.2.map inC) (by
        have:=get_mid (P:=lkA g role h33.size h.size ⟨some ⟨h32.size,0,none⟩,g.n.toNat,g.n.toNat⟩ ⟨some ⟨h20.size,0,none⟩,g.n.toNat,g.n.toNat⟩ qs vs) (Q:=qs.map (nest 3 1 inC)) (R:=vs.map (nest 398 4 Ar.cs)) (i:=m) (by rw[Yc];exact (Ya.1 hq).1);rw[show (lkA g role h33.size h.size ⟨some ⟨h32.size,0,none⟩,g.n.toNat,g.n.toNat⟩ ⟨some ⟨h20.size,0,none⟩,g.n.toNat,g.n.toNat⟩ qs vs).length=4 from rfl] at this;rw[this,Yd,hq];rfl) (by omega)
       rw[this.1,Yc]
      have hvn:v.1.n=v.2.length:=by
       have:=hs.len ((lkA g role h33.size h.size ⟨some ⟨h32.size,0,none⟩,g.n.toNat,g.n.toNat⟩ ⟨some ⟨h20.size,0,none⟩,g.n.toNat,g.n.toNat⟩ qs vs++qs.map (nest 3 1 inC)).length+m) (s:=v.1) (e:=398) (n:=4) (rows:=v.2.map Ar.cs) (by
        rw[Yyc (by omega),Nat.add_sub_cancel_left,Yd,hv];rfl) (by omega)
       rw[this.1,Yc]
      refine⟨_,_,_,_,_,_,t41,?_⟩;refine hs.newput (vs:=x.cs) rfl rfl fun h50 hs=>?_;refine⟨_,hs.rd 0 rfl rfl,?_⟩;refine sBe (fun c4=>?_) (fun c4=>?_)
      ·have hvis:vis1 role x=some ⟨true,x.b,x.l⟩:=by unfold vis1;rw[if_pos c4]
       refine⟨_,hs.rd 1 rfl rfl,?_⟩;refine⟨_,hs.rd 0 rfl rfl,?_⟩;refine⟨_,hs.rd 1 rfl rfl,?_⟩;refine⟨_,hs.rd 0 rfl rfl,?_⟩;refine (hs.rows 3 rfl (by omega)).nbI (cs:=slC) (L:=vs.map Prod.fst) (by omega) (by show x.f<((g.n.toNat:Nat):Int);omega) fun b56 o57 d56 g56 t56=>?_;have ed:d56=v.1:=by
        rw[hm,show ((m:Int)).toNat=m from rfl,Yd,hv] at g56;exact (Yyp g56).symm
       subst ed;refine⟨_,t56.hd,?_⟩;refine⟨_,hs.rd 0 rfl rfl,?_⟩;refine⟨_,hs.rd 0 rfl rfl,?_⟩;refine⟨_,hs.rd 0 rfl rfl,?_⟩;refine hs.newbE fun h62 E62 hs=>⟨E62.sm,?_⟩;have hs':St h h62 ((.blk h50.size (Ar.cs ⟨⟨true,x.b,x.l⟩,x.t⟩) 398 :: .blk h40.size x.cs 135::(lkA g role h33.size h.size ⟨some ⟨h32.size,0,none⟩,g.n.toNat,g.n.toNat⟩ ⟨some ⟨h20.size,0,none⟩,g.n.toNat,g.n.toNat⟩ qs vs++qs.map (nest 3 1 inC)))++vs.map (nest 398 4 Ar.cs)++[]):=by rw[Yw];exact hs
       refine hs'.nestAt hv app173 (⟨⟨true,x.b,x.l⟩,x.t⟩:Ar) (hs'.at 0 rfl (n:=4) rfl) rfl rfl (by omega) (by simp only[maxLen];omega) fun r h64 hr hs3=>?_;rw[Yw] at hs3;refine⟨sm_cons (hs'.same hs3 1 1 rfl rfl) (sm_cons (hs'.same hs3 2 2 rfl rfl) sm_nil),?_⟩;refine hs3.set 4 (cs:=slC) (l:=vs.map Prod.fst) rfl (by omega) (by omega) (by show x.f<((g.n.toNat:Nat):Int);omega) r rfl rfl (fun b o h67 hs4=>?_) rfl;refine Up.next l (by omega) ⟨qs,vs.set m (r,v.2++[⟨⟨true,x.b,x.l⟩,x.t⟩]),hL.nextV g41 hvis hm hv,?_⟩;rw[hm] at hs4;have hs5:=hs4.drop 2;unfold lkA;rw[fst_set];exact hs5
      ·refine⟨_,hs.rd 0 rfl rfl,?_⟩;refine sBe (fun c5=>?_) (fun c5=>?_)
       ·have hvis:vis1 role x=some ⟨false,x.a,x.l⟩:=by unfold vis1;rw[if_neg c4,if_pos c5]
        refine⟨_,hs.rd 1 rfl rfl,?_⟩;refine⟨_,hs.rd 0 rfl rfl,?_⟩;refine⟨_,hs.rd 1 rfl rfl,?_⟩;refine⟨_,hs.rd 0 rfl rfl,?_⟩;refine (hs.rows 3 rfl (by omega)).nbI (cs:=slC) (L:=vs.map Prod.fst) (by omega) (by show x.f<((g.n.toNat:Nat):Int);omega) fun b56 o57 d56 g56 t56=>?_;have ed:d56=v.1:=by
         rw[hm,show ((m:Int)).toNat=m from rfl,Yd,hv] at g56;exact (Yyp g56).symm
        subst ed;refine⟨_,t56.hd,?_⟩;refine⟨_,hs.rd 0 rfl rfl,?_⟩;refine⟨_,hs.rd 0 rfl rfl,?_⟩;refine⟨_,hs.rd 0 rfl rfl,?_⟩;refine hs.newbE fun h62 E62 hs=>⟨E62.sm,?_⟩;have hs':St h h62 ((.blk h50.size (Ar.cs ⟨⟨false,x.a,x.l⟩,x.t⟩) 398 :: .blk h40.size x.cs 135::(lkA g role h33.size h.size ⟨some ⟨h32.size,0,none⟩,g.n.toNat,g.n.toNat⟩ ⟨some ⟨h20.size,0,none⟩,g.n.toNat,g.n.toNat⟩ qs vs++qs.map (nest 3 1 inC)))++vs.map (nest 398 4 Ar.cs)++[]):=by rw[Yw];exact hs
        refine hs'.nestAt hv app173 (⟨⟨false,x.a,x.l⟩,x.t⟩:Ar) (hs'.at 0 rfl (n:=4) rfl) rfl rfl (by omega) (by simp only[maxLen];omega) fun r h64 hr hs3=>?_;rw[Yw] at hs3;refine⟨sm_cons (hs'.same hs3 1 1 rfl rfl) (sm_cons (hs'.same hs3 2 2 rfl rfl) sm_nil),?_⟩;refine hs3.set 4 (cs:=slC) (l:=vs.map Prod.fst) rfl (by omega) (by omega) (by show x.f<((g.n.toNat:Nat):Int);omega) r rfl rfl (fun b o h67 hs4=>?_) rfl;refine Up.next l (by omega) ⟨qs,vs.set m (r,v.2++[⟨⟨false,x.a,x.l⟩,x.t⟩]),hL.nextV g41 hvis hm hv,?_⟩;rw[hm] at hs4;have hs5:=hs4.drop 2;unfold lkA;rw[fst_set];exact hs5
       ·have hvis:vis1 role x=none:=by unfold vis1;rw[if_neg c4,if_neg c5]
        refine⟨_,hs.rd 1 rfl rfl,?_⟩;refine⟨_,hs.rd 0 rfl rfl,?_⟩;refine⟨_,hs.rd 1 rfl rfl,?_⟩;refine⟨_,hs.rd 0 rfl rfl,?_⟩;refine (hs.rows 2 rfl (by omega)).nbI (cs:=slC) (L:=qs.map Prod.fst) (by omega) (by show x.f<((g.n.toNat:Nat):Int);omega) fun b56 o57 d56 g56 t56=>?_;have ed:d56=q.1:=by
         rw[hm,show ((m:Int)).toNat=m from rfl,Yd,hq] at g56;exact (Yyp g56).symm
        subst ed;refine⟨_,t56.hd,?_⟩;refine⟨_,hs.rd 0 rfl rfl,?_⟩;refine hs.newbE fun h62 E62 hs=>⟨E62.sm,?_⟩;have hs':St h h62 ((.blk h50.size (inC x.t) 3 :: .blk h40.size x.cs 135::lkA g role h33.size h.size ⟨some ⟨h32.size,0,none⟩,g.n.toNat,g.n.toNat⟩ ⟨some ⟨h20.size,0,none⟩,g.n.toNat,g.n.toNat⟩ qs vs)++qs.map (nest 3 1 inC)++vs.map (nest 398 4 Ar.cs)):=hs;refine hs'.nestAt hq app42 x.t (hs'.at 0 rfl (n:=1) rfl) rfl rfl (by omega) (by simp only[maxLen];omega) fun r h64 hr hs3=>⟨sm_cons (hs'.same hs3 1 1 rfl rfl) (sm_cons (hs'.same hs3 2 2 rfl rfl) sm_nil),?_⟩;refine hs3.set 3 (cs:=slC) (l:=qs.map Prod.fst) rfl (by omega) (by omega) (by show x.f<((g.n.toNat:Nat):Int);omega) r rfl rfl (fun b o h67 hs4=>?_) rfl;refine Up.next l (by omega) ⟨qs.set m (r,q.2++[x.t]),vs,hL.nextQ g41 hvis hm hq,?_⟩;unfold lkA;rw[fst_set];rw[hm] at hs4;exact hs4.drop 2
     ·replace l:=lt_f l;refine⟨hs.ext,.inr ⟨fin,h33.size,hle,rfl,hL.fin (by omega) hs rfl rfl⟩⟩
theorem made4 (n:Nat):madeL Pz 4 n=(List.replicate n false).map Value.bool:=by
 have e:zeroC Pz 4=[.bool false]:=by kernel_rfl
 unfold madeL;rw[e,List.map_replicate]
 induction n with
 | zero=>rfl
 | succ n ih=>rw[List.replicate_succ,List.replicate_succ,Yyu,ih];rfl
theorem SI.congr {ws:List Nat} {k:Nat} {p q:Nat->Bool} (h:SI ws k p) (e:p=q):SI ws k q:=e ▸ h
set_option maxHeartbeats 1000000 in
theorem closed53 (g:Gl) (role:Int) (b:Nat) (l:List Int) (s:Sl) (h:Heap) (hl:LkI h ⟨b,0,none⟩ g role) (hV:ValidS g) (hr:Rw h 1 s (l.map inC)) (hb:∀x∈l,0<=x/\x<g.n) (hsm:l.length<=1048576) :
  Fn Pz 216 #[.pointer (some ⟨b,0,none⟩),.slice s.a s.n s.c] h fun v h'=>Ext h h'/\∃(c k:Nat) (ws:List Nat),v=.slice (some ⟨c,0,none⟩) k k/\h.size<=c/\Own h' c (ws.map wC).flatten 181/\SI ws k (clo g.es role l):=by
 apply vc216;unfold W216 V216a;have hs:=St.refl h;have hn:=hr.ln;have hN:=hV.num.n;have hE:=hV.num.e;obtain⟨hq,hv,qs,vs,h1,h2,h3,h4,h5,h6,h7,h8⟩:=hl.ex;clear hl;refine⟨_,h2.nth 3 rfl,by omega,?_⟩;rw[made4];refine hs.newb fun h2' hs=>?_;have hs:=hs.nil_ 3 1;refine⟨fun todo x h' m=>∃(i:Nat) (D:List Bool) (T:List Int),x=i/\m=s.n-i/\i<=s.n/\St h h' [.sl todo 3 1 (T.map inC),.blk h.size (D.map Value.bool) 4]/\CL g.es role g.n.toNat l D T/\∀x∈l.take i,x∈T,⟨_,0,_,[],rfl,rfl,by omega,hs,CL.start _ _ _ _,fun x hx=>by rw[Yyk] at hx;cases hx⟩,?_⟩;rintro-todo_6 _ h8' m ⟨i,D,T,rfl,rfl,hi,hs,hC,hT⟩;have htl:=(hs.rows 0 rfl (by omega)).ln;have hle:=hC.le;have hDl:=hC.len;refine sBi (fun c1=>?_) (fun c1=>?_)
 ·refine (hr.ext hs.ext).nbI (by omega) (by omega) fun b9 o10 d9 g9 t9=>?_;replace g9:l[i]?=some d9:=g9;have hd:=hb d9 (Yb g9);refine⟨_,t9.hd,⟨by omega,by omega⟩,?_⟩;obtain⟨y,hy⟩:=get_some (l:=D) (i:=d9.toNat) (by omega);have e0:0+Int.toNat d9*1=d9.toNat:=by omega
  rw[e0];refine⟨_,hs.rd 1 rfl (by rw[map_get,hy];rfl),?_⟩;refine sB_intro (fun c2=>?_) (fun c2=>?_)
  ·have hyf:y=false:=bF c2;subst hyf;refine⟨⟨by omega,by omega⟩,?_⟩;refine hs.put 1 rfl (o:=d9.toNat) (vs:=[.bool true]) rfl (by rw[Yc,Yv];omega) fun h13 hs=>?_;refine hs.app 0 rfl app42 (m:=1) [[.int .i64 d9]] rfl rfl (by simp) rfl (by omega) (by simp only[maxLen];omega) fun s15 h16 ns15 hs=>?_;refine⟨_,by omega,i+1,D.set d9.toNat true,T++[d9],by rw[w64 (by omega) (by omega)];omega,rfl,by omega,?_,hC.push hd.1 hy (.base (Yb g9)),fun x hx=>?_⟩
   ·rw[Ym,<-map_splice _ (by omega)];exact hs
   ·rw[take_snoc g9] at hx;rw[Yk] at hx ⊢;exact hx.imp (hT x) id
  ·have hyt:y=true:=bT c2;subst hyt;refine⟨_,by omega,i+1,D,T,by rw[w64 (by omega) (by omega)];omega,rfl,by omega,hs,hC,fun x hx=>?_⟩;rw[take_snoc g9,Yk,Ye] at hx;rcases hx with hx | rfl
   ·exact hT x hx
   ·exact (hC.mem x).2 ⟨hd.1,hy⟩
 ·have hlT:∀x∈l,x∈T:=fun x hx=>hT x (by rw[Yj (by omega)];exact hx);clear hT;refine⟨fun todo x h' m=>∃(i:Nat) (D:List Bool) (T:List Int),x=i/\m=g.n.toNat-i/\i<=T.length/\St h h' [.sl todo 3 1 (T.map inC),.blk h.size (D.map Value.bool) 4]/\CL g.es role g.n.toNat l D T/\(∀x∈l,x∈T)/\∀v∈T.take i,∀b∈quietL g.es role v.toNat,b∈T,⟨_,0,D,T,rfl,rfl,by omega,hs,hC,hlT,fun v hv=>by rw[Yyk] at hv;cases hv⟩,?_⟩;clear hs hC htl hle hDl hlT;rintro-todo_22 _ h24 m ⟨i,D,T,rfl,rfl,hi,hs,hC,hlT,hcl⟩;have htl:=(hs.rows 0 rfl (by omega)).ln;have hle:=hC.le;refine sBi (fun c2=>?_) (fun c2=>?_)
  ·refine⟨_,(atC_ext hs.ext h2).nth 9 rfl,?_⟩;refine (hs.rows 0 rfl (by omega)).nbI (by omega) (by omega) fun b26 o27 v g26 t26=>?_;replace g26:T[i]?=some v:=g26;have hvm:=(hC.mem v).1 (Yb g26);have hvl:v.toNat<g.n.toNat:=by have:=(Ya.1 hvm.2).1;have:=hC.len;omega
   refine⟨_,t26.hd,?_⟩;refine (h5.ext hs.ext).nbI (by omega) (by omega) fun b29 o30 k g29 t29=>?_;have hk:k=v.toNat:=by rw[Yyb hvl] at g29;exact (Yyp g29).symm
   subst hk;refine⟨_,t29.hd,?_⟩;have hrow:=h7 v.toNat hvl;have hrn:=hrow.ln;have hqb:∀x∈quietL g.es role v.toNat,0<=x/\x<g.n:=fun x hx=>by
    obtain⟨e,he,_,_,rfl⟩:=quietL_mem.1 hx;have:=hE e he;unfold EdS at this;omega
   have hql:(quietL g.es role v.toNat).length<=400:=Yys (List.length_filterMap_le _ _) hV.num.m;refine⟨fun todo x h' m=>∃(j:Nat) (D:List Bool) (T':List Int),x=j/\m=(qs v.toNat).n-j/\j<=(qs v.toNat).n/\St h h' [.sl todo 3 1 (T'.map inC),.blk h.size (D.map Value.bool) 4]/\CL g.es role g.n.toNat l D T'/\(∃R,T'=T++R)/\∀b∈(quietL g.es role v.toNat).take j,b∈T',⟨_,0,D,T,rfl,rfl,by omega,hs,hC,⟨[],by simp⟩,fun v hv=>by rw[Yyk] at hv;cases hv⟩,?_⟩;clear hs hC htl hle;rintro-todo_35 _ h37 m ⟨j,D,T',rfl,rfl,hj,hs,hC,⟨R,rfl⟩,hcl2⟩;have htl:=(hs.rows 0 rfl (by omega)).ln;have hle:=hC.le;have hDl:=hC.len;refine sBi (fun c3=>?_) (fun c3=>?_)
   ·refine (hrow.ext hs.ext).nbI (by omega) (by omega) fun b38 o39 y g38 t38=>?_;replace g38:(quietL g.es role v.toNat)[j]?=some y:=g38;have hy:=hqb y (Yb g38);refine⟨_,t38.hd,⟨by omega,by omega⟩,?_⟩;obtain⟨z,hz⟩:=get_some (l:=D) (i:=y.toNat) (by omega);have e0:0+Int.toNat y*1=y.toNat:=by omega
    rw[e0];refine⟨_,hs.rd 1 rfl (by rw[map_get,hz];rfl),?_⟩;refine sB_intro (fun c4=>?_) (fun c4=>?_)
    ·have hzf:z=false:=bF c4;subst hzf;refine⟨⟨by omega,by omega⟩,?_⟩;refine hs.put 1 rfl (o:=y.toNat) (vs:=[.bool true]) rfl (by rw[Yc,Yv];omega) fun h42 hs=>?_;refine hs.app 0 rfl app42 (m:=1) [[.int .i64 y]] rfl rfl (by simp) rfl (by omega) (by simp only[maxLen];omega) fun s44 h45 ns44 hs=>?_;have hqr:Qr g.es role l y:=by
      obtain⟨e,he,h9,h10,rfl⟩:=quietL_mem.1 (Yb g38);exact .step (hC.r v (by rw[Yk];exact .inl (Yb g26))) ⟨e,he,h9,by omega,rfl⟩
     refine⟨_,by omega,j+1,D.set y.toNat true,T++R++[y],by rw[w64 (by omega) (by omega)];omega,rfl,by omega,?_,hC.push hy.1 hz hqr,⟨R++[y],by rw[Yz]⟩,fun x hx=>?_⟩
     ·rw[Ym,<-map_splice _ (by omega)];exact hs
     ·rw[take_snoc g38] at hx;rw[Yk] at hx ⊢;exact hx.imp (hcl2 x) id
    ·have hzt:z=true:=bT c4;subst hzt;refine⟨_,by omega,j+1,D,T++R,by rw[w64 (by omega) (by omega)];omega,rfl,by omega,hs,hC,⟨R,rfl⟩,fun x hx=>?_⟩;rw[take_snoc g38,Yk,Ye] at hx;rcases hx with hx | rfl
     ·exact hcl2 x hx
     ·exact (hC.mem x).2 ⟨hy.1,hz⟩
   ·rw[Yj (by omega)] at hcl2;have hil:=(Ya.1 g26).1;rw[Yh] at hle;refine⟨_,by omega,i+1,D,T++R,by rw[w64 (by omega) (by omega)];omega,rfl,by rw[Yh];omega,hs,hC,fun x hx=>by rw[Yk];exact .inl (hlT x hx),fun w hw b hb=>?_⟩;rw[Yyq (by omega),take_snoc g26,Yk,Ye] at hw;rcases hw with hw | rfl
    ·rw[Yk];exact .inl (hcl w hw b hb)
    ·exact hcl2 b hb
  ·rw[Yj (by omega)] at hcl;refine (make55 T todo_22 h24 (hs.rows 0 rfl (by omega)) (by omega)).mono ?_;rintro _ h51 ⟨E,c,k,ws,rfl,hc,ho,hS⟩;refine⟨⟨some ⟨c,0,none⟩,k,k⟩,rfl,(hs.step E).ext,c,k,ws,rfl,Yys hs.ext.1 hc,ho,hS.congr ?_⟩
   funext j
   rw[Bool.eq_iff_iff,decide_eq_true_eq,clo_iff,hC.end_ hlT hcl];refine⟨fun h=>h.1,fun h=>⟨h,?_⟩⟩;have:=(hC.mem (j:Int)).1 ((hC.end_ hlT hcl _).2 h);have h9:=(Ya.1 this.2).1;have h10:=hC.len;omega
theorem evrows (L:List Ev):∀r∈L.map Ev.cs,r.length=3:=fun r hr=>by obtain⟨x,_,rfl⟩:=Yp.1 hr;rfl
theorem app151:appB Pz 324 327 3 24=true:=by kernel_rfl
theorem nan151 (x:Int) (h:Heap):Fn Pz 162 #[.int .i64 x] h fun v h'=>v=.bool false/\h'=h:=by
 apply vc162;unfold W162;exact⟨by rw[bne_self_eq_false],rfl⟩
theorem cmp110 (x y:Int) (h:Heap):Fn Pz 110 #[.int .i64 x,.int .i64 y] h fun v h'=>v=.int .i64 (cmpI x y)/\h'=h:=by
 apply vc110;unfold W110;refine (nan151 x h).mono ?_;rintro _ _ ⟨rfl,rfl⟩;refine⟨_,rfl,?_⟩;refine (nan151 y _).mono ?_;rintro _ _ ⟨rfl,rfl⟩;refine⟨_,rfl,?_⟩;refine sB_f rfl (sB_f rfl ?_);unfold cmpI;refine sBi (fun c=>?_) (fun c=>sBi (fun d=>?_) (fun d=>?_))
 ·exact⟨by rw[if_pos c],rfl⟩
 ·exact⟨by rw[if_neg c,if_pos d],rfl⟩
 ·exact⟨by rw[if_neg c,if_neg d],rfl⟩
theorem or109 (l:List Int) (s:Sl) (h:Heap) (hr:Rw h 1 s (l.map inC)) (hm:l.length<=1048576) :
  Fn Pz 109 #[.slice s.a s.n s.c] h fun v h'=>v=.int .i64 (l.foldr orI3 0)/\h'=h:=by
 apply vc109;unfold W109;have hn:=hr.ln;refine up_loop (n:=s.n) (fun i h'=>h'=h/\l.foldr orI3 0=(l.drop i).foldr orI3 0) ⟨rfl,rfl⟩ ?_;rintro-i h5 hi ⟨rfl,hq⟩;refine sB_intro (fun l2=>?_) (fun l2=>?_)
 ·replace l2:=lt_t l2;refine hr.nbI (by omega) (by omega) fun b o d g t=>?_;replace g:l[i]?=some d:=g;have hd:l.drop i=d::l.drop (i+1):=by
   obtain⟨hl,he⟩:=Ya.1 g;rw[List.drop_eq_getElem_cons hl,he]
  rw[hd,List.foldr_cons] at hq;refine⟨_,t.hd,?_⟩;refine sBn (fun c=>?_) (fun c=>?_)
  ·refine⟨?_,rfl⟩;rw[hq];unfold orI3;rw[if_pos c]
  ·refine Up.next l2 (by omega) ⟨rfl,?_⟩;rw[hq];unfold orI3;rw[if_neg (by omega)]
 ·replace l2:=lt_f l2;rw[List.drop_eq_nil_of_le (by omega)] at hq;exact⟨by rw[hq];rfl,rfl⟩
theorem compare138 (x y:Ev) (h:Heap):Fn Pz 271 #[.agg ⟨x.cs⟩,.agg ⟨y.cs⟩] h fun v h'=>v=.int .i64 (cmpE x y)/\Ext h h':=by
 apply vc271 x.send x.peer x.label y.send y.peer y.label;unfold W271;have hs:=St.refl h;refine hs.newb fun h7 hs=>?_;refine hs.newb fun h8 hs=>?_;refine⟨_,hs.rd 1 rfl rfl,?_⟩;refine⟨_,hs.rd 0 rfl rfl,?_⟩;refine sB_intro (fun c=>?_) (fun c=>?_)
 ·have hne:x.send≠y.send:=by simpa using c
  refine⟨_,hs.rd 1 rfl rfl,?_⟩;unfold cmpE;rw[if_pos hne];refine sB_intro (fun d=>?_) (fun d=>?_)
  ·exact⟨by rw[if_pos d],hs.ext⟩
  ·exact⟨by rw[if_neg (by rw[d];simp)],hs.ext⟩
 ·have he:x.send=y.send:=by simpa using c
  refine⟨_,hs.rd 1 rfl rfl,_,hs.rd 0 rfl rfl,_,hs.rd 1 rfl rfl,_,hs.rd 0 rfl rfl,?_⟩;refine (cmp110 _ _ _).mono ?_;rintro _ _ ⟨rfl,rfl⟩;refine⟨_,rfl,fun _ _ _ _ hv=>hv,?_⟩;refine (cmp110 _ _ _).mono ?_;rintro _ _ ⟨rfl,rfl⟩;refine⟨_,rfl,fun _ _ _ _ hv=>hv,?_⟩;refine hs.newb fun h22 hs=>?_;have hs2:=hs.blkS 2 1 ([cmpI x.peer y.peer,cmpI x.label y.label].map inC) rfl (inrows _) rfl (by decide);refine (or109 [cmpI x.peer y.peer,cmpI x.label y.label] _ h22 (hs2.rows 0 rfl (by omega)) (show 2<=1048576 by decide)).mono ?_;rintro _ _ ⟨rfl,rfl⟩;refine⟨_,rfl,?_,hs.ext⟩;unfold cmpE;rw[if_neg (by simpa using he)];show Value.int .i64 (orI3 _ (orI3 _ 0))=_;congr 1;unfold orI3;split
  ·rfl
  ·split<;>omega
theorem elems_snoc {α:Type} {f:Nat->List α} (L:List Nat) {i:Nat} {n:Nat} (h:L[i]?=some n):(L.take (i+1)).flatMap f=(L.take i).flatMap f++f n:=by
 rw[take_snoc h,List.flatMap_append,List.flatMap_singleton]
theorem vis_total (es:List Ed) (role:Int):∀(l:List Nat),l.Nodup->(l.flatMap fun n=>visL es role n).length<=es.length
 | l,hl=>by
  induction es with
  | nil=>
   have key:∀l:List Nat,(l.flatMap fun n=>visL [] role n)=[]:=by
    intro l
    induction l with
    | nil=>rfl
    | cons a l ih=>rw[List.flatMap_cons,ih];rfl
   rw[key];exact Yyt _
  | cons x es ih=>
   have h1:∀n,(visL (x::es) role n).length=(visL es role n).length+(if x.f=(n:Int) then (if (vis1 role x).isSome then 1 else 0) else 0):=fun n=>by
    unfold visL;rw[List.filterMap_cons];by_cases h:x.f=(n:Int)
    ·rw[if_pos h,if_pos h];cases vis1 role x<;>simp
    ·rw[if_neg h,if_neg h];rfl
   have h2:∀l:List Nat,l.Nodup->(l.flatMap fun n=>visL (x::es) role n).length<=(l.flatMap fun n=>visL es role n).length+1:=by
    intro l hl;have h3:∀l:List Nat,l.Nodup->(l.flatMap fun n=>visL (x::es) role n).length<=(l.flatMap fun n=>visL es role n).length+(if x.f.toNat∈l then 1 else 0):=by
     intro l
     induction l with
     | nil=>simp
     | cons a l ihl=>
      intro hnd;obtain⟨hna,hnd⟩:=List.nodup_cons.1 hnd;have h4:=ihl hnd;rw[List.flatMap_cons,List.flatMap_cons,Yh,Yh,h1];by_cases hx:x.f=(a:Int)
      ·have hxa:x.f.toNat=a:=by omega
       rw[hxa,if_neg hna] at h4;rw[if_pos hx,hxa,if_pos (Yx:a∈a::l)];split<;>omega
      ·rw[if_neg hx];have:(if x.f.toNat∈l then 1 else 0)<=(if x.f.toNat∈a::l then 1 else 0):=by
        split
        ·rw[if_pos (by simp_all)];omega
        ·omega
       omega
    have:=h3 l hl;split at this<;>omega
   have:=h2 l hl;rw[Yyj];omega
theorem elems_nodup (p:Nat->Bool):(elems p).Nodup:=List.Nodup.sublist List.filter_sublist List.nodup_range
theorem take_flat_le {es:List Ed} {role:Int} {p:Nat->Bool} (i j n:Nat) (h:(elems p)[i]?=some n):(((elems p).take i).flatMap (visL es role)).length+((visL es role n).take j).length<=es.length:=by
 have h1:=vis_total es role ((elems p).take (i+1)) ((elems_nodup p).sublist (List.take_sublist _ _));rw[elems_snoc (f:=visL es role) _ h,Yh] at h1;rw[Yu];omega
theorem flat_map_len {α β:Type} (L:List Nat) (f:Nat->List α) (g:α->β):(L.flatMap fun n=>(f n).map g).length=(L.flatMap f).length:=by
 induction L with
 | nil=>rfl
 | cons a L ih=>rw[List.flatMap_cons,List.flatMap_cons,Yh,Yh,ih,Yc]
theorem flat_filter_len {α β:Type} (L:List Nat) (f:Nat->List α) (g:α->Option β):(L.flatMap fun n=>(f n).filterMap g).length<=(L.flatMap f).length:=by
 induction L with
 | nil=>simp
 | cons a L ih=>
  rw[List.flatMap_cons,List.flatMap_cons,Yh,Yh];have:=List.length_filterMap_le g (f a);omega
theorem elems_get {p:Nat->Bool} {i:Nat} {d:Int} (g:((elems p).map fun n:Nat=>(n:Int))[i]?=some d):∃n:Nat,(elems p)[i]?=some n/\d=n:=by
 rw[Yd] at g;obtain⟨n,hn,rfl⟩:=Yya.1 g;exact⟨n,hn,rfl⟩
theorem range_get {n k d:Nat} (g:(List.range n)[k]?=some d):d=k:=by
 have hl:=(Ya.1 g).1;rw[Yyd] at hl;rw[Yyb hl] at g;exact (Yyp g).symm
set_option maxHeartbeats 1000000 in
theorem events87 (g:Gl) (role:Int) (b:Nat) (p:Nat->Bool) (s:Sl) (h:Heap) (hl:LkI h ⟨b,0,none⟩ g role) (hV:ValidS g) (hx:Gx h) (hs0:SetV h s p) (hp:∀j,p j=true->(j:Int)<g.n) :
  Fn Pz 217 #[.pointer (some ⟨b,0,none⟩),.slice s.a s.n s.c] h fun v h'=>Ext h h'/\∃r:Sl,v=.slice r.a r.n r.c/\OwnS h' h.size 327 3 r ((evs g.es role p).map Ev.cs).flatten:=by
 apply vc217;unfold W217;have hs:=St.refl h;have hm4:=hV.num.m;obtain⟨hq,hv,qs,vs,h1,h2,h3,h4,h5,h6,h7,h8⟩:=hl.ex;clear hl;refine (list42 p s h hx hs0).mono ?_;rintro _ hA ⟨EA,lst,rfl,ho⟩;replace hs:=hs.gift EA ho (inrows _);refine⟨_,rfl,?_⟩;have hln:=(hs.rows 0 rfl (by omega)).ln;rw[Yc] at hln;have hel:(elems p).length<=4096:=Yys (List.length_filter_le _ _) (by rw[Yyd];omega);have hs:=hs.nil_ 327 3;refine up_loopA (n:=lst.n) hs (fun i rows=>rows=(((elems p).take i).flatMap fun n=>(visL g.es role n).map (·.x)).map Ev.cs) rfl ?_;rintro-i out h9 rows hi hs rfl;refine sB_intro (fun l=>?_) (fun l=>?_)
 ·replace l:=lt_t l;refine (hs.rows 1 rfl (by omega)).nbI (by omega) (by omega) fun b10 o11 d10 g10 t10=>?_;obtain⟨n,hn,rfl⟩:=elems_get (i:=i) g10;refine⟨_,t10.hd,?_⟩;have hpn:=hp n (elems_mem.1 (Yb hn)).2;refine⟨_,(atC_ext hs.ext h2).nth 10 rfl,?_⟩;refine (h6.ext hs.ext).nbI (by omega) (by omega) fun b14 o15 k g14 t14=>?_;have hk:=range_get g14;rw[show ((n:Int)).toNat=n from rfl] at hk;subst hk;refine⟨_,t14.hd,?_⟩;have hrow:=h8 k (by omega);have hrn:=hrow.ln;have hvl:(visL g.es role k).length<=g.es.length:=List.length_filterMap_le _ _;refine up_loopA (n:=(vs k).n) hs (fun j rows=>rows=((((elems p).take i).flatMap fun n=>(visL g.es role n).map (·.x))++((visL g.es role k).take j).map (·.x)).map Ev.cs) (by simp) ?_;rintro-j out2 h22 rows2 hj hs rfl;refine sB_intro (fun l2=>?_) (fun l2=>?_)
  ·replace l2:=lt_t l2;refine (hrow.ext hs.ext).nbI (by omega) (by omega) fun b23 o24 a g23 t23=>?_;replace g23:(visL g.es role k)[j]?=some a:=g23;refine⟨_,_,_,_,t23,?_⟩;refine hs.newput (vs:=a.cs) rfl rfl fun h30 hs=>?_;refine⟨_,_,_,hs.at 0 rfl (n:=3) rfl,?_⟩;have hlen:=(hs.len 1 rfl (by omega)).1;rw[Yc,Yh,Yc,flat_map_len] at hlen;have hle:=take_flat_le (es:=g.es) (role:=role) i j k hn;refine hs.app 1 rfl app151 (m:=1) [a.x.cs] rfl rfl (fun r hr=>by rw[Ye] at hr;rw[hr];rfl) rfl (by omega) (by simp only[maxLen];omega) fun s35 h36 ns35 hs=>?_;refine UpA.next l2 (by omega) ⟨_,hs.drop 1,?_⟩;rw[take_snoc g23,Ym,Ym,Ym,Ym,Yz];rfl
  ·replace l2:=lt_f l2;refine UpA.next l (by omega) ⟨_,hs,?_⟩;rw[Yj (l:=visL g.es role k) (by omega),elems_snoc _ hn]
 ·replace l:=lt_f l;rw[Yj (by omega)] at hs;have hvt:((elems p).flatMap fun n=>(visL g.es role n).map (·.x)).length<=1048576:=by
   rw[flat_map_len];exact Yys (vis_total g.es role (elems p) (elems_nodup p)) (by omega)
  refine (sort137 hs 0 rfl hvt).mono ?_;rintro _ h40 ⟨rfl,l',hperm,hsrt,hs⟩;refine⟨rfl,?_⟩;refine (compact139 hs 0 rfl (by rw[hperm.length_eq];exact hvt)).mono ?_;rintro _ h43 ⟨r,rfl,hs⟩;refine⟨_,rfl,hs.ext,r,rfl,?_⟩;have:=hs.give 0 rfl;rw[compact_sortE hperm hsrt] at this;exact this
set_option maxHeartbeats 1000000 in
theorem after56 (g:Gl) (role:Int) (b:Nat) (p:Nat->Bool) (x:Ev) (s:Sl) (h:Heap) (hl:LkI h ⟨b,0,none⟩ g role) (hV:ValidS g) (hx:Gx h) (hs0:SetV h s p) (hp:∀j,p j=true->(j:Int)<g.n) :
  Fn Pz 218 #[.pointer (some ⟨b,0,none⟩),.slice s.a s.n s.c,.agg ⟨x.cs⟩] h fun v h'=>Ext h h'/\∃(c k:Nat) (ws:List Nat),v=.slice (some ⟨c,0,none⟩) k k/\h.size<=c/\Own h' c (ws.map wC).flatten 181/\SI ws k (clo g.es role (toL g.es role p x)):=by
 apply vc218 ⟨b,0,none⟩ s x.send x.peer x.label;unfold W218;have hs:=St.refl h;have hm4:=hV.num.m;have hE:=hV.num.e;have hl0:=hl;obtain⟨hq,hv,qs,vs,h1,h2,h3,h4,h5,h6,h7,h8⟩:=hl.ex;clear hl;refine hs.newb fun h4' hs=>?_;refine (list42 p s h4' (hx.ext hs.ext) (hs0.ext hs.ext)).mono ?_;rintro _ hA ⟨EA,lst,rfl,ho⟩;replace hs:=hs.gift EA ho (inrows _);refine⟨_,rfl,?_⟩;have hln:=(hs.rows 0 rfl (by omega)).ln;rw[Yc] at hln;have hel:(elems p).length<=4096:=Yys (List.length_filter_le _ _) (by rw[Yyd];omega);have hs:=hs.nil_ 3 1;refine up_loopA (n:=lst.n) hs (fun i rows=>rows=(((elems p).take i).flatMap fun n=>(visL g.es role n).filterMap fun a=>if a.x=x then some a.to else none).map inC) rfl ?_;rintro-i out h13 rows hi hs rfl;refine sB_intro (fun l=>?_) (fun l=>?_)
 ·replace l:=lt_t l;refine (hs.rows 1 rfl (by omega)).nbI (by omega) (by omega) fun b10 o11 d10 g10 t10=>?_;obtain⟨n,hn,rfl⟩:=elems_get (i:=i) g10;refine⟨_,t10.hd,?_⟩;have hpn:=hp n (elems_mem.1 (Yb hn)).2;refine⟨_,(atC_ext hs.ext h2).nth 10 rfl,?_⟩;refine (h6.ext hs.ext).nbI (by omega) (by omega) fun b14 o15 k g14 t14=>?_;have hk:=range_get g14;rw[show ((n:Int)).toNat=n from rfl] at hk;subst hk;refine⟨_,t14.hd,?_⟩;have hrow:=h8 k (by omega);have hrn:=hrow.ln;have hvl:(visL g.es role k).length<=g.es.length:=List.length_filterMap_le _ _;refine up_loopA (n:=(vs k).n) hs (fun j rows=>rows=((((elems p).take i).flatMap fun n=>(visL g.es role n).filterMap fun a=>if a.x=x then some a.to else none)++((visL g.es role k).take j).filterMap fun a=>if a.x=x then some a.to else none).map inC) (by simp) ?_;rintro-j out2 h26 rows2 hj hs rfl;refine sB_intro (fun l2=>?_) (fun l2=>?_)
  ·replace l2:=lt_t l2;refine (hrow.ext hs.ext).nbI (by omega) (by omega) fun b23 o24 a g23 t23=>?_;replace g23:(visL g.es role k)[j]?=some a:=g23;refine⟨_,_,_,_,t23,?_⟩;refine hs.newput (vs:=a.cs) rfl rfl fun h30 hs=>?_;refine⟨_,_,_,hs.at 0 rfl (n:=3) rfl,?_⟩;refine⟨_,_,_,hs.at 3 rfl (n:=3) rfl,?_⟩;have hdec:((a.x.send==x.send)&&((a.x.peer==x.peer)&&((a.x.label==x.label)&&true)))=decide (a.x=x):=by
    rw[Bool.eq_iff_iff,decide_eq_true_eq];simp only[Yt,beq_iff_eq,and_true];exact⟨fun ⟨e1,e2,e3⟩=>ev_ext e1 e2 e3,fun e=>by rw[e];exact⟨rfl,rfl,rfl⟩⟩
   rw[hdec];have hlen:=(hs.len 1 rfl (by omega)).1;rw[Yc,Yh] at hlen;have hf1:=flat_filter_len ((elems p).take i) (visL g.es role) (fun a:Ar=>if a.x=x then some a.to else none);have hf2:=List.length_filterMap_le (fun a:Ar=>if a.x=x then some a.to else none) ((visL g.es role k).take j);have hle:=take_flat_le (es:=g.es) (role:=role) i j k hn;refine sBi (fun c=>?_) (fun c=>?_)
   ·refine⟨_,hs.rd 0 rfl rfl,?_⟩;refine hs.app 1 rfl app42 (m:=1) [inC a.to] rfl rfl (fun r hr=>by rw[Ye] at hr;rw[hr];rfl) rfl (by omega) (by simp only[maxLen];omega) fun s35 h36 ns35 hs=>?_;refine UpA.next l2 (by omega) ⟨_,hs.drop 1,?_⟩;rw[take_snoc g23,List.filterMap_append,Ym,Ym,Ym,Yz];simp[c]
   ·refine UpA.next l2 (by omega) ⟨_,hs.drop 1,?_⟩;rw[take_snoc g23,List.filterMap_append];simp[c]
  ·replace l2:=lt_f l2;refine UpA.next l (by omega) ⟨_,hs,?_⟩;rw[Yj (l:=visL g.es role k) (by omega),elems_snoc _ hn]
 ·replace l:=lt_f l;rw[Yj (by omega)] at hs;have hf1:=flat_filter_len (elems p) (visL g.es role) (fun a:Ar=>if a.x=x then some a.to else none);have hf2:((elems p).flatMap (visL g.es role)).length<=g.es.length:=vis_total g.es role (elems p) (elems_nodup p);refine (closed53 g role b (toL g.es role p x) out h13 (hl0.ext hs.ext) hV (hs.rows 0 rfl (by omega)) (fun y hy=>?_) (by unfold toL;omega)).mono ?_
  ·unfold toL at hy;obtain⟨n,_,hy⟩:=List.mem_flatMap.1 hy;obtain⟨a,ha,hy⟩:=Yym.1 hy;unfold visL at ha;obtain⟨e,he,ha⟩:=Yym.1 ha;have hEe:=hE e he;unfold EdS at hEe;split at ha
   ·obtain⟨ev,_,rfl⟩:=Yya.1 ha;split at hy
    ·have:e.t=y:=Yyp hy;omega
    ·cases hy
   ·cases ha
  ·rintro _ h50 ⟨E,c,k,ws,rfl,hc,ho,hS⟩;exact⟨⟨some ⟨c,0,none⟩,k,k⟩,rfl,(hs.step E).ext,c,k,ws,rfl,Yys hs.ext.1 hc,ho,hS⟩
def aC (role:Int) (x:Ev):List Value:=[.int .i64 role,.bool x.send,.int .i64 x.peer,.int .i64 x.label,.slice none 0 0]
theorem app56:appB Pz 333 125 5 56=true:=by kernel_rfl
theorem full194 (x:Ev) (role:Int) (h:Heap):Fn Pz 306 #[.agg ⟨x.cs⟩,.int .i64 role] h fun v h'=>v=.agg ⟨aC role x⟩/\Ext h h':=by
 apply vc306 x.send x.peer x.label role;unfold W306;have hs:=St.refl h;refine hs.newb fun h4 hs=>?_;refine hs.newb fun h5 hs=>?_;refine⟨_,hs.rd 1 rfl rfl,?_⟩;refine⟨_,hs.rd 1 rfl rfl,?_⟩;refine⟨_,hs.rd 1 rfl rfl,?_⟩;refine hs.put 0 rfl (o:=0) (vs:=aC role x) rfl (show 5<=5 by decide) fun h9 hs=>?_;refine⟨_,_,_,_,⟨none,0,0⟩,hs.at 0 rfl (n:=5) rfl,rfl,hs.ext⟩
theorem full140 (g:Gl) (role:Int) (b:Nat) (l:List Ev) (s:Sl) (h:Heap) (hl:LkI h ⟨b,0,none⟩ g role) (hr:Rw h 3 s (l.map Ev.cs)) (hm:l.length<=1048576) :
  Fn Pz 273 #[.pointer (some ⟨b,0,none⟩),.slice s.a s.n s.c] h fun v h'=>Ext h h'/\∃r:Sl,v=.slice r.a r.n r.c/\OwnS h' h.size 125 5 r ((l.map (aC role)).flatten):=by
 apply vc273;unfold W273;have hs:=(St.refl h).nil_ 125 5;have hn:=hr.ln;obtain⟨hq,hv,qs,vs,h1,h2,_⟩:=hl.ex;refine up_loopA (n:=s.n) hs (fun i rows=>rows=(l.take i).map (aC role)) rfl ?_;rintro-i out h6 rows hi hs rfl;refine sB_intro (fun l2=>?_) (fun l2=>?_)
 ·replace l2:=lt_t l2;refine (hr.ext hs.ext).nbI (by omega) (by omega) fun b7 o8 x g7 t7=>?_;replace g7:l[i]?=some x:=g7;refine⟨_,_,_,t7,?_⟩;refine hs.newput (vs:=x.cs) rfl rfl fun h13 hs=>?_;refine⟨_,_,_,hs.at 0 rfl (n:=3) rfl,?_⟩;refine⟨_,(atC_ext hs.ext h2).nth 8 rfl,?_⟩;refine (full194 x role h13).mono ?_;rintro _ h24 ⟨rfl,E⟩;replace hs:=hs.step E;refine⟨_,_,_,_,⟨none,0,0⟩,rfl,?_⟩;have hlen:=(hs.len 1 rfl (by omega)).1;rw[Yc,Yu] at hlen;refine hs.app 1 rfl app56 (m:=1) [aC role x] rfl rfl (fun r hr=>by rw[Ye] at hr;rw[hr];rfl) rfl (by omega) (by simp only[maxLen];omega) fun s26 h27 ns hs=>?_;refine UpA.next l2 (by omega) ⟨_,hs.drop 1,?_⟩;rw[take_snoc g7,Ym];rfl
 ·replace l2:=lt_f l2;rw[Yj (by omega)] at hs;exact⟨hs.ext,out,rfl,hs.give 0 rfl⟩
theorem Qr.lt {g:Gl} {role:Int} {l:List Int} (hV:ValidS g) (hl:∀x∈l,0<=x/\x<g.n) {a:Int} (h:Qr g.es role l a):0<=a/\a<g.n:=by
 induction h with
 | base hm=>exact hl _ hm
 | step _ hx _=>
  obtain⟨x,hx,_,_,rfl⟩:=hx;have:=hV.num.e x hx;unfold EdS at this;omega
theorem clo_lt {g:Gl} {role:Int} {l:List Int} (hV:ValidS g) (hl:∀x∈l,0<=x/\x<g.n) (j:Nat) (h:clo g.es role l j=true):(j:Int)<g.n:=((clo_iff.1 h).lt hV hl).2
theorem St.giftB {h0 h h':Heap} {L:List It} (hs:St h0 h L) (E:Ext h h') {c:Nat} {ws:List Nat} (hc:h.size<=c) (ho:Own h' c (ws.map wC).flatten 181):St h0 h' (setB c ws::L):=
 hs.more E (i:=setB c ws) ho fun b hb=>by cases hb;exact hc
theorem evs_le (es:List Ed) (role:Int) (p:Nat->Bool):(evL es role p).length<=es.length:=by
 unfold evL;rw[flat_map_len];exact vis_total es role (elems p) (elems_nodup p)
theorem insE_len (x:Ev):∀l:List Ev,(insE x l).length<=l.length+1
 | []=>by simp[insE]
 | y::r=>by
  rw[insE];split
  ·have:=insE_len x r;simp only[Yyj];omega
  ·split<;>simp
theorem sortE_len (l:List Ev):(sortE l).length<=l.length:=by
 unfold sortE
 induction l with
 | nil=>simp
 | cons a l ih=>rw[List.foldr_cons,Yyj];have:=insE_len a (l.foldr insE []);omega
noncomputable def firstE (g:Gl) (role:Int) (st:Int):List Ev:=evs g.es role (clo g.es role [st])
noncomputable def firstB (g:Gl) (role:Int) (st:Int):Bool:=clo g.es role [st] g.e.toNat
theorem first88 (g:Gl) (role st:Int) (h:Heap) (hg:GI h g) (hx:Gx h) (hV:ValidS g) (hr0:0<=role) (hr1:role<g.rs.length) (hs0:0<=st) (hs1:st<g.n) :
  Fn Pz 219 #[g.v,.int .i64 role,.int .i64 st] h fun v h'=>Ext h h'/\∃r:Sl,v=.tuple ⟨[.slice r.a r.n r.c,.bool (firstB g role st),.int .i64 0]⟩/\OwnS h' h.size 125 5 r (((firstE g role st).map (aC role)).flatten):=by
 apply vc219 (bs g.nm) g.hr g.hd g.n g.s g.e g.he g.ht;unfold W219;have hs:=St.refl h;have hN:=hV.num.n;refine hs.newb fun h9 hs=>?_;refine⟨_,_,_,_,_,_,_,_,hs.at 0 rfl (n:=8) rfl,?_⟩;refine (look52 g role h9 (hg.ext hs.ext) (hx.ext hs.ext)).mono ?_;rintro _ h21 ⟨E21,h1 | h1⟩
 ·exact absurd ⟨hV,hr0,hr1⟩ h1.1
 obtain⟨_,b,hb,rfl,hl⟩:=h1;replace hs:=hs.step E21;refine⟨_,_,rfl,?_⟩;refine sBn (fun c1=>absurd rfl c1) (fun _=>?_);refine sBi (fun c2=>by omega) (fun c2=>?_);refine⟨_,hs.rd 0 rfl rfl,?_⟩;refine sBi (fun c3=>by omega) (fun c3=>?_);refine hs.newbE fun h23 E23 hs=>?_;have hl2:∀x∈[st],0<=x/\x<g.n:=fun x hx=>by rw[Ye] at hx;omega
 have hsl:=hs.blkS 1 1 ([st].map inC) rfl (inrows _) rfl (by decide);refine (closed53 g role b [st] _ h23 (hl.ext E23) hV (hsl.rows 0 rfl (by omega)) hl2 (show 1<=1048576 by decide)).mono ?_;rintro _ h26 ⟨E26,c,k,ws,rfl,hc,ho,hS⟩;replace hs:=hs.giftB E26 hc ho;refine⟨⟨some ⟨c,0,none⟩,k,k⟩,rfl,?_⟩;refine⟨_,hs.rd 2 rfl rfl,?_⟩;refine (events87 g role b _ _ h26 (hl.ext (E23.trans E26)) hV (hx.ext hs.ext) (hS.v ho k) (clo_lt hV hl2)).mono ?_;rintro _ h30 ⟨E30,r,rfl,hor⟩;have hs0:=hs;replace hs:=hs.gift E30 hor (evrows _);refine⟨r,rfl,E30.sm,?_⟩;refine (full140 g role b _ r h30 (hl.ext ((E23.trans E26).trans E30)) (hs.rows 0 rfl (by omega)) (by
  have:=sortE_len (evL g.es role (clo g.es role [st]));have:=evs_le g.es role (clo g.es role [st]);have:=hV.num.m;show (sortE _).length<=_;omega)).mono ?_
 rintro _ h33 ⟨E33,r2,rfl,ho2⟩;refine⟨r2,rfl,E33.sm,?_⟩;refine (has29 (clo g.es role [st]) ⟨some ⟨c,0,none⟩,k,k⟩ g.e h33 ((hS.v ho k).ext (E30.trans E33))).mono ?_;rintro _ _ ⟨rfl,rfl⟩;refine⟨_,rfl,(hs.step E33).ext,r2,?_,ho2.mono hs.ext.1⟩;rw[decide_eq_true (by omega),Bool.true_and];rfl
structure SE where
 b:Nat
 k:Nat
 ws:List Nat
 p:PSet
def SE.hd (e:SE):List Value:=[.slice (some ⟨e.b,0,none⟩) e.k e.k]
def SE.s (e:SE):Sl:=⟨some ⟨e.b,0,none⟩,e.k,e.k⟩
def SE.it (e:SE):It:=setB e.b e.ws
def bC (b:Bool):List Value:=[.bool b]
def TL (tb:Nat) (ge:Nat) (ss fs ars:Sl) (E:List SE) (M:List Mv):List It:=
 [.blk tb [.slice ss.a ss.n ss.c,.slice fs.a fs.n fs.c,.slice ars.a ars.n ars.c] 218,.sl ss 224 1 (E.map SE.hd),.sl fs 4 1 ((E.map fun e=>e.p ge).map bC),.sl ars 116 6 (M.map Mv.cs)]++E.map SE.it
theorem cal85:callable Pz 213=true:=by kernel_rfl
theorem eq85 (a b:Sl) (p q:PSet) (c:Addr) (h:Heap) (ha:SetV h a p) (hb:SetV h b q) (hc0:hc h c=some (.slice b.a b.n b.c)) :
  Fn Pz 213 #[.slice a.a a.n a.c,.pointer (some c)] h fun v h'=>(∃r:Bool,v=.bool r/\(r=true ↔ p=q))/\h'=h:=by
 apply vc213;unfold W213;refine⟨b,hc0,?_⟩;refine (equal86 p q a b h ha hb).mono ?_;rintro _ _ ⟨⟨r,rfl,hr⟩,rfl⟩;exact⟨_,rfl,⟨_,rfl,hr⟩,rfl⟩
theorem idx84 (E:List SE) (q:PSet) (s b:Sl) (c:Addr) (h:Heap) (hr:Rw h 1 s (E.map SE.hd)) (hE:∀e∈E,SetV h e.s e.p) (hb:SetV h b q) (hc0:hc h c=some (.slice b.a b.n b.c)) (hm:E.length<=1048576) :
  Fn Pz 212 #[.slice s.a s.n s.c,.func (.func 213) #[] #[.pointer (some c)]] h fun v h'=>(v=.int .i64 (if rowI (E.map (·.p)) q<E.length then ((rowI (E.map (·.p)) q:Nat):Int) else -1))/\h'=h:=by
 apply vc212;unfold W212;have hn:=hr.ln;refine up_loop (n:=s.n) (fun i h'=>h'=h/\∀(j:Nat) (e:SE),j<i->E[j]?=some e->e.p≠q) ⟨rfl,fun j e hj=>by omega⟩ ?_;rintro-i h5 hi ⟨rfl,hd⟩;refine sB_intro (fun l=>?_) (fun l=>?_)
 ·replace l:=lt_t l;refine hr.nbI (by omega) (by omega) fun b6 o7 e g t=>?_;replace g:E[i]?=some e:=g;refine⟨e.s,t.hd,?_⟩;rw[cal85,cond_true];refine (eq85 e.s b e.p q c h5 (hE e (Yb g)) hb hc0).mono ?_;rintro _ _ ⟨⟨r,rfl,hr2⟩,rfl⟩;refine⟨_,rfl,sB_intro (fun c1=>?_) (fun c1=>?_)⟩
  ·have hq:=hr2.1 c1;have:rowI (E.map (·.p)) q=i:=rowI_first (by rw[Yd,g,<-hq];rfl) fun j p' hj hp'=>by
    rw[Yd] at hp';obtain⟨e',he',rfl⟩:=Yya.1 hp';exact hd j e' hj he'
   exact⟨by rw[this,if_pos (by omega)],rfl⟩
  ·refine Up.next l (by omega) ⟨rfl,fun j e' hj he'=>?_⟩;by_cases e1:j=i
   ·subst e1;rw[g] at he';cases he';intro hp;rw[hr2.2 hp] at c1;cases c1
   ·exact hd j e' (by omega) he'
 ·replace l:=lt_f l;have:¬rowI (E.map (·.p)) q<E.length:=by
   have h1:=rowI_lt (S:=E.map (·.p)) (p:=q);rw[Yc] at h1;rw[h1];intro hm;obtain⟨e,he,hp⟩:=Yp.1 hm;obtain⟨j,hj⟩:=Yf.1 he;exact hd j e (by have:=(Ya.1 hj).1;omega) hj hp
  exact⟨by rw[if_neg this],rfl⟩
theorem app83:appB Pz 216 224 1 24=true:=by kernel_rfl
theorem app30:appB Pz 85 4 1 1=true:=by kernel_rfl
theorem St.oldb {h0 h h':Heap} {L L':List It} (hs:St h0 h L) (hs':St h0 h' L') {b:Nat} (hb:b<h0.size):h'[b]?=h[b]?:=(hs'.ext.2 b hb).trans (hs.ext.2 b hb).symm
theorem TL.set {h0 h:Heap} {A X:List It} {tb ge:Nat} {ss fs ars:Sl} {E:List SE} {M:List Mv} (hs:St h0 h (A++(TL tb ge ss fs ars E M++X))) (hE:∀e∈E,SI e.ws e.k e.p):∀e∈E,SetV h e.s e.p:=by
 intro e he;have hm:e.it∈A++(TL tb ge ss fs ars E M++X):=by
  rw[Yk];right;rw[Yk];left;unfold TL;rw[Yk];right;exact List.mem_map_of_mem he
 have:=(hs.ok _ hm).1;exact (hE e he).v this e.k
set_option maxHeartbeats 1000000 in
theorem row83 {H0 h:Heap} {X:List It} {tb bg ge:Nat} {ss fs ars:Sl} {E:List SE} {M:List Mv} {e:SE} (hs:St H0 h (e.it::(TL tb ge ss fs ars E M++X))) (hE:∀e∈E,SI e.ws e.k e.p) (he:SI e.ws e.k e.p) (hbg:bg<H0.size) (hge:hc h ⟨bg,5,none⟩=some (.int .i64 ge)) (hge2:ge<4096) (hm:E.length<=2000) :
  Fn Pz 211 #[.slice (some ⟨e.b,0,none⟩) e.k e.k,.pointer (some ⟨tb,0,none⟩),.pointer (some ⟨bg,0,none⟩)] h fun v h'=>v=.int .i64 (rowI (E.map (·.p)) e.p:Nat) /\
   ∃(E':List SE) (ss' fs':Sl),St H0 h' (TL tb ge ss' fs' ars E' M++X)/\E'.map (·.p)=rowS (E.map (·.p)) e.p/\∀e∈E',SI e.ws e.k e.p:=by
 apply vc211 e.s;unfold W211;have hsl:=hs.len 2 (s:=ss) (e:=224) (n:=1) rfl (by omega);have hfl:=hs.len 3 (s:=fs) (e:=4) (n:=1) rfl (by omega);rw[Yc] at hsl;rw[Yc,Yc] at hfl;have hge':=hge;refine hs.newbE fun h1 E1 hs=>?_;refine⟨ss,hs.rd 2 rfl rfl,?_⟩;refine (idx84 E e.p ss e.s ⟨h.size,0,none⟩ h1 (hs.rw 3 rfl (by omega)) (TL.set (A:=[_,_]) hs hE) (he.v (hs.get (k:=1) rfl) e.k) (hs.rd 0 rfl rfl) (by omega)).mono ?_;rintro _ h5 ⟨rfl,rfl⟩;refine⟨_,rfl,?_⟩;have hlen:(E.map (·.p)).length=E.length:=Yc _;by_cases hmem:rowI (E.map (·.p)) e.p<E.length
 ·rw[if_pos hmem];refine sB_t (decide_eq_true (by omega)) ⟨rfl,E,ss,fs,hs.drop 2,?_,hE⟩;unfold rowS;rw[if_pos (rowI_lt.1 (by rw[hlen];exact hmem))]
 ·rw[if_neg hmem];have hnm:e.p∉E.map (·.p):=fun hm=>hmem (by have:=rowI_lt.2 hm;omega);refine sB_f (decide_eq_false (by omega)) ?_;have hge5:=hc_ext E1 hge;refine⟨ss,hs.rd 2 rfl rfl,e.s,hs.rd 0 rfl rfl,fs,hs.rd 2 rfl rfl,e.s,hs.rd 0 rfl rfl,_,hge5,?_⟩;refine hs.newbE fun h11 E11 hs11=>⟨E11.sm,?_⟩;refine hs11.appended 4 (rows:=E.map SE.hd) rfl app83 (m:=1) (news:=[e.hd]) (hs11.at 0 rfl (n:=1) rfl) rfl (fun r hr=>by rw[Ye] at hr;rw[hr];rfl) rfl (by omega) (by simp only[maxLen];omega) fun s12 h13 n12 hs13=>?_;refine⟨sm_cons (hs11.oldb hs13 hbg) (sm_cons (hs11.same hs13 1 1 rfl rfl) (sm_cons (hs11.same hs13 3 3 rfl rfl) sm_nil)),?_⟩;refine (has29 e.p e.s ge h13 (he.v (hs13.get (k:=2) rfl) e.k)).mono ?_;rintro _ h16 ⟨rfl,rfl⟩;refine⟨_,rfl,fun _ _ _ _ hv=>hv,?_⟩;have hbb:(decide (0<=((ge:Nat):Int)/\((ge:Nat):Int)<4096)&&e.p ((ge:Nat):Int).toNat)=e.p ge:=by
   rw[decide_eq_true (by omega),Bool.true_and];rfl
  rw[hbb];refine hs13.newbE fun h17 E17 hs17=>⟨E17.sm,?_⟩;refine hs17.appended 6 (rows:=(E.map fun e=>e.p ge).map bC) rfl app30 (m:=1) (news:=[bC (e.p ge)]) (hs17.at 0 rfl (n:=1) rfl) rfl (fun r hr=>by rw[Ye] at hr;rw[hr];rfl) rfl (by omega) (by simp only[maxLen];omega) fun s18 h19 n18 hs19=>?_;refine⟨sm_cons (hs17.same hs19 2 2 rfl rfl) (sm_cons (hs17.same hs19 4 4 rfl rfl) sm_nil),?_⟩;refine hs19.put 4 rfl (o:=0) (vs:=[.slice s12.a s12.n s12.c]) rfl (show 1<=3 by decide) fun h20 hs20=>?_;refine⟨sm_cons (hs19.oldb hs20 hbg) (sm_cons (hs19.same hs20 2 2 rfl rfl) sm_nil),?_⟩;refine hs20.put 4 rfl (o:=1) (vs:=[.slice s18.a s18.n s18.c]) rfl (show 2<=3 by decide) fun h21 hs21=>?_;refine⟨s12,hs21.rd 4 rfl rfl,?_⟩;refine⟨?_,E++[e],s12,s18,?_,?_,fun x hx=>?_⟩
  ·rw[n12,hsl.1,w64 (by omega) (by omega),rowI_of_not hnm,hlen];congr 1;omega
  ·have e1:(E++[e]).map SE.hd=E.map SE.hd++[e.hd]:=by rw[Ym];rfl
   have e2:((E++[e]).map fun e=>e.p ge).map bC=(E.map fun e=>e.p ge).map bC++[bC (e.p ge)]:=by rw[Ym,Ym];rfl
   unfold TL;rw[e1,e2,Ym];have h4:=hs21.drop 3;have h5:St H0 h21 (e.it::([.blk tb [.slice s12.a s12.n s12.c,.slice s18.a s18.n s18.c,.slice ars.a ars.n ars.c] 218,.sl s12 224 1 (E.map SE.hd++[e.hd]),.sl s18 4 1 ((E.map fun e=>e.p ge).map bC++[bC (e.p ge)]),.sl ars 116 6 (M.map Mv.cs)]++E.map SE.it++X)):=h4;refine h5.perm ?_;rw[<-Yz];rw[<-List.cons_append];exact (List.Perm.append_right X (List.perm_append_singleton _ _)).symm
  ·unfold rowS;rw[if_neg hnm,Ym];rfl
  ·rcases Yk.1 hx with hx | hx
   ·exact hE x hx
   ·rw[Ye] at hx;rw[hx];exact he
theorem app31:appB Pz 86 116 6 48=true:=by kernel_rfl
theorem St.join {h0 h1 h:Heap} {L1 L2:List It} (hs1:St h0 h1 L1) (hs2:St h1 h L2):St h0 h (L1++L2):=by
 have h3:=hs1.step hs2.ext;refine⟨h3.ext,fun i hi=>?_,List.pairwise_append.2 ⟨h3.ap,hs2.ap,fun i hi j hj b hb hc=>?_⟩⟩
 ·rcases Yk.1 hi with hi | hi
  ·exact h3.ok i hi
  ·exact⟨(hs2.ok i hi).1,fun b hb=>Yys hs1.ext.1 ((hs2.ok i hi).2 b hb)⟩
 ·have h4:=(hs1.ok i hi).1.lt hb;have h5:=(hs2.ok j hj).2 b hc;omega
theorem rowS_mem {S:List PSet} {p q:PSet}:q∈rowS S p ↔ q∈S\/q=p:=by
 unfold rowS;split
 ·rename_i h;constructor
  ·exact .inl
  ·rintro (h1 | rfl)
   ·exact h1
   ·exact h
 ·rw[Yk,Ye]
theorem rowS_len {S:List PSet} {p:PSet}:(rowS S p).length<=S.length+1/\S.length<=(rowS S p).length:=by
 unfold rowS;split
 ·omega
 ·rw[Yh,Yv];omega
theorem rowS_get {S:List PSet} {p q:PSet} {i:Nat} (h:S[i]?=some q):(rowS S p)[i]?=some q:=by
 unfold rowS;split
 ·exact h
 ·rw[Yyi (Ya.1 h).1];exact h
theorem toL_lt {g:Gl} {role:Int} {p:PSet} {x:Ev} (hV:ValidS g):∀y∈toL g.es role p x,0<=y/\y<g.n:=by
 intro y hy;unfold toL at hy;obtain⟨n,_,h2⟩:=List.mem_flatMap.1 hy;obtain⟨a,ha,h3⟩:=Yym.1 h2;unfold visL at ha;obtain⟨e,he,h4⟩:=Yym.1 ha;have:=hV.num.e e he;unfold EdS at this;split at h4
 ·rw[Yya] at h4;obtain⟨_,_,rfl⟩:=h4;split at h3
  ·cases h3;show 0<=e.t/\e.t<g.n;omega
  ·cases h3
 ·cases h4
def TR (ge:Nat) (ss fs ars:Sl) (E:List SE) (M:List Mv):List It:=
 [.sl ss 224 1 (E.map SE.hd),.sl fs 4 1 ((E.map fun e=>e.p ge).map bC),.sl ars 116 6 (M.map Mv.cs)]++E.map SE.it
def sl0:List Value:=[.slice none 0 0,.slice none 0 0,.slice none 0 0]
theorem drop_get {α:Type} {l:List α} {j:Nat} {x:α} (h:l[j]?=some x):l.drop j=x::l.drop (j+1):=by
 obtain⟨h1,h2⟩:=Ya.1 h;rw[<-h2];exact List.drop_eq_getElem_cons h1
theorem evs_len {g:Gl} {role:Int} {p:PSet} (hV:ValidS g):(evs g.es role p).length<=400:=by
 have h1:=sortE_len (evL g.es role p);have h2:=evs_le g.es role p;have h3:=hV.num.m;show (sortE _).length<=400;omega
inductive ViR (g:Gl) (role:Int) (h h':Heap):Value->Prop
 | bad (hn:¬(ValidS g/\0<=role/\role<g.rs.length)):ViR g role h h' (.tuple ⟨[.agg ⟨sl0⟩,.int .i64 1]⟩)
 | limit (hv:ValidS g/\0<=role/\role<g.rs.length) (hn:views g role=none):ViR g role h h' (.tuple ⟨[.agg ⟨sl0⟩,.int .i64 6]⟩)
 | good (hv:ValidS g/\0<=role/\role<g.rs.length) {ss fs ars:Sl} {E:List SE} {M:List Mv} (hn:views g role=some (E.map (·.p),M)) (hs:St h h' (TR g.e.toNat ss fs ars E M)) (hE:∀e∈E,SI e.ws e.k e.p) (hl:E.length<=200) (hp:∀p∈E.map (·.p),∀j:Nat,p j=true->(j:Int)<g.n) (hm:M.length<=80000) :
   ViR g role h h' (.tuple ⟨[.agg ⟨[.slice ss.a ss.n ss.c,.slice fs.a fs.n fs.c,.slice ars.a ars.n ars.c]⟩,.int .i64 0]⟩)
set_option maxHeartbeats 2000000 in
theorem views39 (g:Gl) (role:Int) (h:Heap) (hg:GI h g) (hx:Gx h) :
  Fn Pz 145 #[g.v,.int .i64 role] h fun v h'=>Ext h h'/\ViR g role h h' v:=by
 apply vc145 (bs g.nm) g.hr g.hd g.n g.s g.e g.he g.ht;unfold W145;have hs:=St.refl h;refine hs.newb fun h9 hs=>?_;refine hs.newb fun h10 hs=>?_;refine⟨_,_,_,_,_,_,_,_,hs.at 1 rfl (n:=8) rfl,?_⟩;refine (look52 g role h10 (hg.ext hs.ext) (hx.ext hs.ext)).mono ?_;rintro _ h22 ⟨Eh22,h1 | h1⟩
 ·obtain⟨hn,rfl⟩:=h1;replace hs:=hs.step Eh22;refine⟨_,_,rfl,?_⟩;refine sBn (fun c1=>?_) (fun c1=>by omega);refine hs.put 0 rfl (o:=0) (vs:=sl0) rfl (by decide) fun h23 hs=>?_;refine⟨⟨none,0,0⟩,⟨none,0,0⟩,⟨none,0,0⟩,hs.at 0 rfl (n:=3) rfl,?_⟩;exact⟨hs.ext,.bad hn⟩
 obtain⟨hv,bl,hbl,rfl,hl⟩:=h1;obtain⟨hV,hr0,hr1⟩:=hv;have hs1:=hs.step Eh22;clear hs;have hN:=hV.num.n;have hb9:h.size<h22.size:=hs1.get (k:=1) rfl |>.lt rfl
 refine⟨_,_,rfl,?_⟩;refine sBn (fun c1=>absurd rfl c1) (fun _=>?_);have hs:=St.refl h22;refine hs.newb fun h27 hs=>?_;refine⟨_,(hs1.step hs.ext).rd 1 rfl rfl,?_⟩;refine hs.newb fun h29 hs=>?_;have hl2:∀x∈[g.s],0<=x/\x<g.n:=fun x hx=>by rw[Ye] at hx;omega
 have hsl:=hs.blkS 1 1 ([g.s].map inC) rfl (inrows _) rfl (by decide);refine (closed53 g role bl [g.s] _ h29 (hl.ext hs.ext) hV (hsl.rows 0 rfl (by omega)) hl2 (show 1<=1048576 by decide)).mono ?_;clear hsl;rintro _ h32 ⟨E32,c,k,ws,rfl,hcc,ho,hS⟩;replace hs:=hs.giftB E32 hcc ho;refine⟨⟨some ⟨c,0,none⟩,k,k⟩,rfl,?_⟩;have hs:=(((hs.eras 1).nil_ 116 6).nil_ 4 1).nil_ 224 1;have hge:(g.e:Int)=((g.e.toNat:Nat):Int):=by omega
 have he5:∀ {h':Heap},Ext h22 h'->hc h' ⟨h.size,5,none⟩=some (.int .i64 ((g.e.toNat:Nat):Int)):=fun E=>by rw[<-hge];exact (hs1.step E).rd 1 rfl rfl
 have hs:St h22 h32 ((⟨c,k,ws,clo g.es role [g.s]⟩:SE).it::(TL h22.size g.e.toNat ⟨none,0,0⟩ ⟨none,0,0⟩ ⟨none,0,0⟩ [] []++[])):=
  hs.perm (List.perm_append_comm (l₁:=[_,_,_]) (l₂:=[_,_]))
 refine (row83 (bg:=h.size) hs (fun e he=>by cases he) hS hb9 (he5 hs.ext) (by omega) (by decide)).mono ?_;rintro _ h35 ⟨rfl,E',ss',fs',hs,hE',hSI'⟩;refine⟨_,rfl,?_⟩;have hE1:E'.map (·.p)=[clo g.es role [g.s]]:=by rw[hE'];rw[List.map_nil];unfold rowS;rw[if_neg (by simp)];rfl
 refine⟨fun x h' m=>∃(i:Nat) (ss fs ars:Sl) (E:List SE) (M:List Mv),x=i/\m=201-i/\i<=E.length/\St h22 h' (TL h22.size g.e.toNat ss fs ars E M++[])/\(∀e∈E,SI e.ws e.k e.p) /\
  (∀p∈E.map (·.p),∀j:Nat,p j=true->(j:Int)<g.n)/\E.length<=200/\M.length<=i*400/\views g role=viewsF g.es role (202-i) i (E.map (·.p)) M,⟨_,0,_,_,_,E',[],rfl,rfl,by omega,hs,hSI',?_,?_,by simp,?_⟩,?_⟩
 ·intro p hp j hj;rw[hE1,Ye] at hp;subst hp;exact clo_lt hV hl2 j hj
 ·have:=congrArg List.length hE1;rw[Yc] at this;rw[this];show 1<=200;decide
 ·rw[hE1];rfl
 clear hs hE1 hSI' hE' E' ss' fs';rintro-_ h40 m ⟨i,ss,fs,ars,E,M,rfl,rfl,hi,hs,hSI,hlt,hEl,hM,hvw⟩;have hsl:=hs.len 1 (s:=ss) (e:=224) (n:=1) rfl (by omega);rw[Yc] at hsl;refine⟨ss,hs.rd 0 rfl rfl,?_⟩;refine sBi (fun c2=>?_) (fun c2=>?_)
 ·have hiE:i<E.length:=by omega
  refine⟨ss,hs.rd 0 rfl rfl,?_⟩;refine (hs.rows 1 (cs:=SE.hd) rfl (by omega)).nbI (by omega) (by omega) fun b43 o44 e g43 t43=>?_;replace g43:E[i]?=some e:=g43;have heE:=Yb g43;have hEget:(E.map (·.p))[i]?=some e.p:=by rw[Yd,g43];rfl
  have hep:∀j:Nat,e.p j=true->(j:Int)<g.n:=hlt e.p (Yp.2 ⟨e,heE,rfl⟩);refine⟨e.s,t43.hd,?_⟩;refine (events87 g role bl e.p e.s h40 (hl.ext hs.ext) hV ((hx.ext (hs1.ext.trans hs.ext))) (TL.set (A:=[]) hs hSI e heE) hep).mono ?_;rintro _ h48 ⟨E48,x47,rfl,ho47⟩;replace hs:=hs.gift E48 ho47 (evrows _);refine⟨x47,rfl,?_⟩;have hln:=(hs.rows 0 (cs:=Ev.cs) rfl (by omega)).ln;have hev:=evs_len (g:=g) (role:=role) (p:=e.p) hV;generalize hL:evs g.es role e.p=L at *;refine⟨fun x h' m=>∃(j:Nat) (ss2 fs2 ars2:Sl) (E2:List SE) (M2:List Mv),x=j/\m=x47.n-j/\j<=L.length/\St h22 h' (.sl x47 327 3 (L.map Ev.cs)::(TL h22.size g.e.toNat ss2 fs2 ars2 E2 M2++[]))/\(∀e∈E2,SI e.ws e.k e.p) /\
   (∀p∈E2.map (·.p),∀j:Nat,p j=true->(j:Int)<g.n)/\E2.length<=E.length+j/\M2.length<=M.length+j/\(E2.map (·.p))[i]?=some e.p /\
   arcsF g.es role i e.p L (E.map (·.p)) M=arcsF g.es role i e.p (L.drop j) (E2.map (·.p)) M2,⟨_,0,_,_,_,E,M,rfl,rfl,by omega,hs,hSI,hlt,by omega,by omega,by rw[Yd,g43];rfl,by rw[List.drop_zero]⟩,?_⟩
  clear hs hSI hlt hsl heE g43 t43 c2 ho47 E48 hi;rintro-_ h53 m ⟨j,ss2,fs2,ars2,E2,M2,rfl,rfl,hj,hs,hSI,hlt,hE2l,hM2,hget,harc⟩;have hsl2:=hs.len 2 (s:=ss2) (e:=224) (n:=1) rfl (by omega);rw[Yc] at hsl2;have hEi:i<E2.length:=by have:=(Ya.1 hget).1;rwa [Yc] at this
  refine sBi (fun c3=>?_) (fun c3=>?_)
  ·refine (hs.rows 0 (cs:=Ev.cs) rfl (by omega)).nbI (by omega) (by omega) fun b54 o55 y g54 t54=>?_;replace g54:L[j]?=some y:=g54;refine⟨_,_,_,t54,?_⟩;refine hs.newput (vs:=y.cs) rfl rfl fun h60 hs=>?_;refine⟨ss2,hs.rd 2 rfl rfl,?_⟩;refine (hs.rows 3 (cs:=SE.hd) rfl (by omega)).nbI (by omega) (by omega) fun b62 o63 e2 g62 t62=>?_;replace g62:E2[i]?=some e2:=g62;have he2E:=Yb g62;have hpe:e2.p=e.p:=by rw[Yd,g62] at hget;exact Yyp hget
   refine⟨e2.s,t62.hd,?_⟩;refine⟨_,_,_,hs.at 0 rfl (n:=3) rfl,?_⟩;refine (after56 g role bl e2.p y e2.s h60 (hl.ext hs.ext) hV ((hx.ext (hs1.ext.trans hs.ext))) (TL.set (A:=[_,_]) hs hSI e2 he2E) (hlt e2.p (Yp.2 ⟨e2,he2E,rfl⟩))).mono ?_;rintro _ h70 ⟨E70,c4,k4,ws4,rfl,hc4,ho4,hS4⟩;replace hs:=hs.giftB E70 hc4 ho4;refine⟨⟨some ⟨c4,0,none⟩,k4,k4⟩,rfl,?_⟩;rw[hpe] at hS4;have hs:St h22 h70 ((⟨c4,k4,ws4,clo g.es role (toL g.es role e.p y)⟩:SE).it::(TL h22.size g.e.toNat ss2 fs2 ars2 E2 M2++[.blk h53.size y.cs 327,.sl x47 327 3 (L.map Ev.cs)])):=by
    rw[Yw] at hs;exact hs.perm (List.Perm.cons _ (List.perm_append_comm (l₁:=[_,_])))
   refine (row83 (bg:=h.size) hs hSI hS4 hb9 (he5 hs.ext) (by omega) (by omega)).mono ?_;rintro _ h73 ⟨rfl,E3,ss3,fs3,hs,hE3,hSI3⟩;refine⟨_,rfl,?_⟩;have hs:St h22 h73 (.blk h53.size y.cs 327 :: .sl x47 327 3 (L.map Ev.cs)::TL h22.size g.e.toNat ss3 fs3 ars2 E3 M2):=
    hs.perm (List.perm_append_comm (l₂:=[_,_]))
   refine⟨ars2,hs.rd 2 rfl rfl,?_⟩;refine⟨_,hs.rd 0 rfl rfl,?_⟩;refine⟨_,hs.rd 0 rfl rfl,?_⟩;refine⟨_,hs.rd 0 rfl rfl,?_⟩;have har:=(hs.rows 5 (s:=ars2) (cs:=Mv.cs) rfl (by omega)).ln;refine hs.app 5 rfl app31 (m:=1) [Mv.cs ⟨i,y.send,y.peer,y.label,rowI (E2.map (·.p)) (clo g.es role (toL g.es role e.p y)),false⟩] rfl rfl (fun r hr=>by rw[Ye] at hr;rw[hr];rfl) rfl (by omega) (by simp only[maxLen];omega) fun s79 h80 ns79 hs=>?_;refine hs.put 2 rfl (o:=2) (vs:=[.slice s79.a s79.n s79.c]) rfl (show 3<=3 by decide) fun h81 hs=>?_;have hrl:=rowS_len (S:=E2.map (·.p)) (p:=clo g.es role (toL g.es role e.p y));rw[<-hE3,Yc,Yc] at hrl;refine⟨_,by omega,j+1,ss3,fs3,s79,E3,M2++[⟨i,y.send,y.peer,y.label,rowI (E2.map (·.p)) (clo g.es role (toL g.es role e.p y)),false⟩],by rw[w64 (by omega) (by omega)];omega,rfl,by omega,?_,hSI3,?_,by omega,by rw[Yh,Yv];omega,by rw[hE3];exact rowS_get hget,?_⟩
   ·rw[Yw];unfold TL;rw[Ym];exact hs.drop 1
   ·intro p hp;rw[hE3,rowS_mem] at hp;rcases hp with hp | rfl
    ·exact hlt p hp
    ·exact clo_lt hV (toL_lt hV)
   ·rw[harc,drop_get g54,hE3];rfl
  ·have hjL:L.length<=j:=by omega
   rw[List.drop_eq_nil_of_le hjL] at harc;have harc:arcsF g.es role i e.p L (E.map (·.p)) M=(E2.map (·.p),M2):=harc;have hstep:views g role=if E2.length>200 then none else viewsF g.es role (202-(i+1)) (i+1) (E2.map (·.p)) M2:=by
    rw[hvw,show 202-i=(202-(i+1))+1 by omega,viewsF,hEget];show (if (arcsF g.es role i e.p (evs g.es role e.p) (E.map (·.p)) M).1.length>200 then none else _)=_;rw[hL,harc,Yc]
   refine⟨ss2,hs.rd 1 rfl rfl,?_⟩;refine sBi (fun c4=>?_) (fun c4=>?_)
   ·rw[if_pos (by omega)] at hstep;have hsA:=hs1.step hs.ext;refine hsA.put 0 rfl (o:=0) (vs:=sl0) rfl (by decide) fun h84 hs=>?_;refine⟨⟨none,0,0⟩,⟨none,0,0⟩,⟨none,0,0⟩,hs.at 0 rfl (n:=3) rfl,?_⟩;exact⟨hs.ext,.limit ⟨hV,hr0,hr1⟩ hstep⟩
   ·rw[if_neg (by omega)] at hstep;refine⟨_,by omega,i+1,ss2,fs2,ars2,E2,M2,by rw[w64 (by omega) (by omega)];omega,rfl,by omega,hs.drop 1,hSI,hlt,by omega,by omega,hstep⟩
 ·have hiE:E.length<=i:=by omega
  have hfin:views g role=some (E.map (·.p),M):=by
   rw[hvw,show 202-i=(201-i)+1 by omega,viewsF,Yl (by rw[Yc];exact hiE)]
  refine⟨ss,fs,ars,hs.at 0 rfl (n:=3) rfl,?_⟩;have hsJ:=hs1.join (hs.drop 1);refine hsJ.put 0 rfl (o:=0) (vs:=[.slice ss.a ss.n ss.c,.slice fs.a fs.n fs.c,.slice ars.a ars.n ars.c]) rfl (show 3<=3 by decide) fun h92 hs=>?_;refine⟨ss,fs,ars,hs.at 0 rfl (n:=3) rfl,?_⟩;have hs:=hs.drop 2;rw[show TL h22.size g.e.toNat ss fs ars E M++[]=_ from Yw _] at hs;exact⟨hs.ext,.good ⟨hV,hr0,hr1⟩ hfin hs hSI hEl hlt (by omega)⟩
end Go.VC
end

section
namespace Go.VC
open Go.Proofs
variable {h:Heap} {R:Value->Heap->Prop}

def V146b (x57:Sl) (h60 h61 h13:Heap) (s59:Sl) (m18:Nat) (I16:Int->Heap->Nat->Prop) (x_19:Int):Prop:=
 App Pz 85 85 (vS x57) (.slice (some (aS h60 0)) 1 1) h61 fun s62 h63=>Sm [(aS h13 0)] h61 h63/\Wp h63 (aS h13 0) 1 [vS s59] fun h64=>Wp h64 (aS h13 1) 1 [vS s62] fun h65=>∃m66,m66<m18/\I16 (IntKind.wrap .i64 (x_19+1)) h65 m66
def V146a (h13 h9:Heap) (x10:Int) (h12:Heap) (x11:Int) (h:Heap) (p1:Int) (R:Value->Heap->Prop):Prop:=
 Wn h13 [.slice none 0 0,.slice none 0 0,.slice (some (aS h9 0)) (Int.toNat x10) (Int.toNat x10),.slice (some (aS h12 0)) (Int.toNat x11) (Int.toNat x11)] 332 fun h14=>∃x15,rI h14 (aS h 3) x15/\QI 0 h14 fun I16 x_19 h20 m18=>sB (decide (x_19<x15)) (∃x21 x22 x23 x24 x25 x26 x27 x28,aL2 h20 (aS h 0) x21 x22 x23 x24 x25 x26 x27 x28/\Fn Pz 219 #[.agg ⟨(L2 x21 x22 x23 x24 x25 x26 x27 x28)⟩,vI p1,vI x_19] h20 (fun v29 h33=>∃(x30:Sl) (x31:Bool) (x32:Int),v29=.tuple ⟨[vS x30,.bool x31,vI x32]⟩/\QSI ⟨none,0,0⟩ 0 h33 fun I34 out_37 x_38 h39 m36=>sB (decide (x_38<(x30.n:Int))) (NB x30.a fun b40 o41=>Ib x_38 x30.n/\∃x42 x43 x44 x45 x46,aL12 h39 ⟨b40,o41+Int.toNat x_38*5,none⟩ x42 x43 x44 x45 x46/\Wn h39 [vI 0,.bool false,vI 0,vI 0,.slice none 0 0] 125 fun h47=>Wp h47 (aS h39 0) 5 (L12 x42 x43 x44 x45 x46) fun h48=>∃x49,rB h48 (aS h39 1) x49/\∃x50,rI h48 (aS h39 2) x50/\∃x51,rI h48 (aS h39 3) x51/\Wn h48 (L3 x49 x50 x51) 226 fun h52=>App Pz 336 336 (vS out_37) (.slice (some (aS h48 0)) 1 1) h52 fun s53 h54=>∃m55,m55<m36/\I34 s53 (IntKind.wrap .i64 (x_38+1)) h54 m55) (∃x56,rS h39 (aS h13 0) x56/\∃x57,rS h39 (aS h13 1) x57/\(Wn h39 [vS out_37] 336 fun h58=>Sm [(aS h13 1),(aS h13 0)] h39 h58/\(App Pz 330 330 (vS x56) (.slice (some (aS h39 0)) 1 1) h58 fun s59 h60=>Sm [(aS h13 1)] h58 h60/\Wn h60 [.bool x31] 4 fun h61=>Sm [(aS h13 1),(aS h13 0)] h60 h61/\V146b x57 h60 h61 h13 s59 m18 I16 x_19)/\Wn h58 [.bool x31] 4 fun h67=>Sm [(aS h13 1),(aS h13 0)] h58 h67/\App Pz 330 330 (vS x56) (.slice (some (aS h39 0)) 1 1) h67 fun s68 h69=>Sm [(aS h13 1)] h67 h69/\V146b x57 h58 h69 h13 s68 m18 I16 x_19)/\Wn h39 [.bool x31] 4 fun h75=>Sm [(aS h13 1),(aS h13 0)] h39 h75/\Wn h75 [vS out_37] 336 fun h76=>Sm [(aS h13 1),(aS h13 0)] h75 h76/\App Pz 330 330 (vS x56) (.slice (some (aS h75 0)) 1 1) h76 fun s77 h78=>Sm [(aS h13 1)] h76 h78/\V146b x57 h39 h78 h13 s77 m18 I16 x_19))) (∃x84,rS h20 (aS h 6) x84/\QI 0 h20 fun I85 x_88 h89 m87=>sB (decide (x_88<(x84.n:Int))) (NB x84.a fun b90 o91=>Ib x_88 x84.n/\∃x92 x93 x94 x95 x96 x97,aL6 h89 ⟨b90,o91+Int.toNat x_88*6,none⟩ x92 x93 x94 x95 x96 x97/\Wn h89 [vI 0,vI 0,vI 0,vI 0,vI 0,.bool false] 135 fun h98=>Wp h98 (aS h89 0) 6 (L6 x92 x93 x94 x95 x96 x97) fun h99=>∃x100,rI h99 (aS h89 1) x100/\sB (x100==p1) (∃x101,rS h99 (aS h13 2) x101/\∃x102,rI h99 (aS h89 0) x102/\∃x103,rS h99 (aS h13 3) x103/\∃x104,rI h99 (aS h89 0) x104/\∃x105,rB h99 (aS h89 5) x105/\NB x101.a fun b106 o107=>Ib x102 x101.n/\Wp h99 ⟨b106,o107+Int.toNat x102*1,none⟩ 1 [.bool true] fun h108=>Sm [(aS h89 5),(aS h89 0)] h99 h108/\NB x103.a fun b109 o110=>Ib x104 x103.n/\Wp h108 ⟨b109,o110+Int.toNat x104*5,none⟩ 1 [.bool x105] fun h111=>∃m112,m112<m87/\I85 (IntKind.wrap .i64 (x_88+1)) h111 m112) (∃m113,m113<m87/\I85 (IntKind.wrap .i64 (x_88+1)) h99 m113)) (∃x114,rS h89 (aS h 7) x114/\QI 0 h89 fun I115 x_118 h119 m117=>sB (decide (x_118<(x114.n:Int))) (NB x114.a fun b120 o121=>Ib x_118 x114.n/\∃x122 x123 x124,aL4 h119 ⟨b120,o121+Int.toNat x_118*3,none⟩ x122 x123 x124/\Wn h119 [vI 0,vI 0,vI 0] 199 fun h125=>Wp h125 (aS h119 0) 3 (L4 x122 x123 x124) fun h126=>∃x127,rS h126 (aS h13 2) x127/\∃x128,rI h126 (aS h119 0) x128/\NB x127.a fun b129 o130=>Ib x128 x127.n/\∃x131,rB h126 ⟨b129,o130+Int.toNat x128*1,none⟩ x131/\sB x131 (∃x132,rS h126 (aS h 6) x132/\∃x133,rI h126 (aS h119 2) x133/\NB x132.a fun b134 o135=>Ib x133 x132.n/\∃x136 x137 x138,aL4 h126 ⟨b134,o135+Int.toNat x133*6+1,none⟩ x136 x137 x138/\Wn h126 [vI 0,vI 0,vI 0] 133 fun h139=>Wp h139 (aS h126 0) 3 (L4 x136 x137 x138) fun h140=>∃x141,rS h140 (aS h13 3) x141/\∃x142,rI h140 (aS h119 0) x142/\∃x143,rS h140 (aS h13 3) x143/\∃x144,rI h140 (aS h119 0) x144/\∃x145,rI h140 (aS h119 1) x145/\∃x146,rI h140 (aS h126 1) x146/\∃x147,rI h140 (aS h126 2) x147/\NB x141.a fun b148 o149=>Ib x142 x141.n/\Wp h140 ⟨b148,o149+Int.toNat x142*5+1,none⟩ 1 [vI x145] fun h150=>Sm [(aS h126 2),(aS h126 1),(aS h119 0)] h140 h150/\NB x143.a fun b151 o152=>Ib x144 x143.n/\Wp h150 ⟨b151,o152+Int.toNat x144*5+2,none⟩ 3 [.bool true,vI x146,vI x147] fun h153=>∃m154,m154<m117/\I115 (IntKind.wrap .i64 (x_118+1)) h153 m154) (∃m155,m155<m117/\I115 (IntKind.wrap .i64 (x_118+1)) h126 m155)) (R (.pointer (some (aS h13 0))) h119)))
def W146 (p0_1:ByteArray) (p0_2 p0_3:Sl) (p0_4 p0_5 p0_6:Int) (p0_7 p0_8:Sl) (p1:Int):Prop:=
 Wn h (L2 p0_1 p0_2 p0_3 p0_4 p0_5 p0_6 p0_7 p0_8) 77 fun h9=>∃x10,rI h9 (aS h 3) x10/\∃x11,rI h9 (aS h 3) x11/\(Mk x10 x10 1/\Wn h9 (madeL Pz 4 (Int.toNat x10)) 4 fun h12=>Sm [(aS h 3)] h9 h12/\Mk x11 x11 40/\Wn h12 (madeL Pz 228 (Int.toNat x11)) 228 fun h13=>Sm [(aS h 3)] h12 h13/\V146a h13 h9 x10 h12 x11 h p1 R)/\Mk x11 x11 40/\Wn h9 (madeL Pz 228 (Int.toNat x11)) 228 fun h156=>Sm [(aS h 3)] h9 h156/\Mk x10 x10 1/\Wn h156 (madeL Pz 4 (Int.toNat x10)) 4 fun h157=>Sm [(aS h 3)] h156 h157/\V146a h157 h156 x10 h9 x11 h p1 R
theorem vc146 (p0_1:ByteArray) (p0_2 p0_3:Sl) (p0_4 p0_5 p0_6:Int) (p0_7 p0_8:Sl) (p1:Int) (H:@W146 h R p0_1 p0_2 p0_3 p0_4 p0_5 p0_6 p0_7 p0_8 p1):Fn Pz 146 #[.agg ⟨(L2 p0_1 p0_2 p0_3 p0_4 p0_5 p0_6 p0_7 p0_8)⟩,vI p1] h R:=fnI (A:=(.s .z (.s .z (.s (.s .z (.b (.l [(28,.one (.int .i64))] (.s .z (.s .z (.s (.b (.s .z (.s .z (.s .z (.s (.s .z (.b (.l [(10,.one (.slice)),(41,.one (.int .i64))] .z))) .z))))) .z)))))) (.s (.s .z (.b (.l [(80,.one (.int .i64))] .z))) (.s (.s .z (.b (.l [(110,.one (.int .i64))] .z))) .z)))))) (by kernel_rfl) H

def W220 (p0 p1:Sl):Prop:=
 sB ((p0.n:Int) != (p1.n:Int))
 (R (.bool false) h)
 (QI 0 h fun I1 x_4 h5 m3=>
 sB (decide (x_4<(p0.n:Int)))
 (NB p0.a fun b6 o7=>Ib x_4 p0.n /\
 ∃x8 x9 x10,aL3 h5 ⟨b6,o7+Int.toNat x_4*3,none⟩ x8 x9 x10 /\
 NB p1.a fun b11 o12=>Ib x_4 p1.n /\
 ∃x13 x14 x15,aL3 h5 ⟨b11,o12+Int.toNat x_4*3,none⟩ x13 x14 x15 /\
 sB (!((x8==x13)&&((x9==x14)&&((x10==x15)&&true))))
 (R (.bool false) h5)
 (∃m16,m16<m3/\I1 (IntKind.wrap .i64 (x_4+1)) h5 m16))
 (R (.bool true) h5))
theorem vc220 (p0 p1:Sl) (H:@W220 h R p0 p1):Fn Pz 220 #[vS p0,vS p1] h R:=fnI (A:=(.s .z (.s .z (.s (.s .z (.b (.l [(13,.one (.int .i64))] .z))) .z)))) (by kernel_rfl) H

def V105a (h21 h9:Heap) (R:Value->Heap->Prop):Prop:=
 Wp h21 (aS h9 0) 6 [vI 0,vI 0,vI 0,.slice none 0 0,.slice none 0 0,.slice none 0 0] fun h22=>∃x23 x24 x25 x26 x27 x28,aL1 h22 (aS h9 0) x23 x24 x25 x26 x27 x28/\R (.tuple ⟨[.agg ⟨(L1 x23 x24 x25 x26 x27 x28)⟩,vI 1]⟩) h22
def W105 (p0_1:ByteArray) (p0_2 p0_3:Sl) (p0_4 p0_5 p0_6:Int) (p0_7 p0_8:Sl) (p1:Int):Prop:=
 Wn h (L2 p0_1 p0_2 p0_3 p0_4 p0_5 p0_6 p0_7 p0_8) 77 fun h9=>Wn h9 [vI 0,vI 0,vI 0,.slice none 0 0,.slice none 0 0,.slice none 0 0] 88 fun h10=>∃x11 x12 x13 x14 x15 x16 x17 x18,aL2 h10 (aS h 0) x11 x12 x13 x14 x15 x16 x17 x18/\Fn Pz 61 #[.agg ⟨(L2 x11 x12 x13 x14 x15 x16 x17 x18)⟩] h10 (fun v19 h21=>∃x20,iB v19 x20/\sB (!x20) (V105a h21 h9 R) (sB (decide (p1<0)) (V105a h21 h9 R) (∃x36,rS h21 (aS h 1) x36/\sB (decide (p1>=(x36.n:Int))) (V105a h21 h9 R) (∃x44 x45 x46 x47 x48 x49 x50 x51,aL2 h21 (aS h 0) x44 x45 x46 x47 x48 x49 x50 x51/\Fn Pz 145 #[.agg ⟨(L2 x44 x45 x46 x47 x48 x49 x50 x51)⟩,vI p1] h21 (fun v52 h57=>∃(x53 x54 x55:Sl) (x56:Int),v52=.tuple ⟨[.agg ⟨(L9 x53 x54 x55)⟩,vI x56]⟩/\Wn h57 [.slice none 0 0,.slice none 0 0,.slice none 0 0] 218 fun h58=>Wp h58 (aS h57 0) 3 (L9 x53 x54 x55) fun h59=>sB (x56 != 0) (Wp h59 (aS h9 0) 6 [vI 0,vI 0,vI 0,.slice none 0 0,.slice none 0 0,.slice none 0 0] fun h60=>∃x61 x62 x63 x64 x65 x66,aL1 h60 (aS h9 0) x61 x62 x63 x64 x65 x66/\R (.tuple ⟨[.agg ⟨(L1 x61 x62 x63 x64 x65 x66)⟩,vI x56]⟩) h60) (∃x67,rS h59 (aS h57 2) x67/\sB (decide ((x67.n:Int)>400)) (Wp h59 (aS h9 0) 6 [vI 0,vI 0,vI 0,.slice none 0 0,.slice none 0 0,.slice none 0 0] fun h68=>∃x69 x70 x71 x72 x73 x74,aL1 h68 (aS h9 0) x69 x70 x71 x72 x73 x74/\R (.tuple ⟨[.agg ⟨(L1 x69 x70 x71 x72 x73 x74)⟩,vI 6]⟩) h68) (∃x75 x76 x77 x78 x79 x80 x81 x82,aL2 h59 (aS h 0) x75 x76 x77 x78 x79 x80 x81 x82/\Fn Pz 146 #[.agg ⟨(L2 x75 x76 x77 x78 x79 x80 x81 x82)⟩,vI p1] h59 (fun v83 h85=>∃x84:Option Addr,v83=.pointer x84/\∃x86,rS h85 (aS h57 0) x86/\∃x87,rS h85 (aS h57 1) x87/\∃x88,rS h85 (aS h57 2) x88/\Wn h85 [vI 0,vI 0,vI 0,.slice none 0 0,.slice none 0 0,.slice none 0 0] 88 fun h89=>Wp h89 (aS h85 0) 6 [vI p1,vI (x86.n:Int),vI 0,vS x87,vS x88,.slice none 0 0] fun h90=>∃x91,rS h90 (aS h57 0) x91/\QI 0 h90 fun I92 x_95 h96 m94=>sB (decide (x_95<(x91.n:Int))) (NB x91.a fun b97 o98=>Ib x_95 x91.n/\∃x99,rS h96 ⟨b97,o98+Int.toNat x_95*1,none⟩ x99/\Fn Pz 148 #[vS x99] h96 (fun v100 h102=>∃x101,iS v100 x101/\Fn Pz 147 #[.pointer x84,vS x101] h102 (fun v103 h110=>∃(x104:Bool) (x105:Int) (x106:Bool) (x107 x108:Int) (x109:Bool),v103=.tuple ⟨[.agg ⟨(L7 x104 x105 x106 x107 x108)⟩,.bool x109]⟩/\Wn h110 [.bool false,vI 0,.bool false,vI 0,vI 0] 228 fun h111=>Wp h111 (aS h110 0) 5 (L7 x104 x105 x106 x107 x108) fun h112=>sB (!x109) (Wp h112 (aS h9 0) 6 [vI 0,vI 0,vI 0,.slice none 0 0,.slice none 0 0,.slice none 0 0] fun h113=>∃x114 x115 x116 x117 x118 x119,aL1 h113 (aS h9 0) x114 x115 x116 x117 x118 x119/\R (.tuple ⟨[.agg ⟨(L1 x114 x115 x116 x117 x118 x119)⟩,vI 18]⟩) h113) (∃x120,rS h112 (aS h85 4) x120/\QI 0 h112 fun I121 x_124 h125 m123=>sB (decide (x_124<(x120.n:Int))) (∃x126,rS h125 (aS h85 4) x126/\NB x126.a fun b127 o128=>Ib x_124 x126.n/\∃x129,rI h125 ⟨b127,o128+Int.toNat x_124*6,none⟩ x129/\sB (x129 != x_95) (∃m130,m130<m123/\I121 (IntKind.wrap .i64 (x_124+1)) h125 m130) (∃x131,rB h125 ⟨b127,o128+Int.toNat x_124*6+1,none⟩ x131/\sB (!x131) (∃m132,m132<m123/\I121 (IntKind.wrap .i64 (x_124+1)) h125 m132) (∃x133,rB h125 (aS h110 0) x133/\Wp h125 ⟨b127,o128+Int.toNat x_124*6+5,none⟩ 1 [.bool x133] fun h134=>∃x135,rI h134 (aS h110 1) x135/\sB (decide (x135>0)) (∃x136 x137 x138,aL3 h134 (aS h110 2) x136 x137 x138/\∃x139,rI h134 ⟨b127,o128+Int.toNat x_124*6+2,none⟩ x139/\∃x140,rI h134 ⟨b127,o128+Int.toNat x_124*6+3,none⟩ x140/\sB ((x136==true)&&((x137==x139)&&((x138==x140)&&true))) (∃x141,rS h134 (aS h85 5) x141/\∃x142,rI h134 (aS h110 1) x142/\Wn h134 (L4 x_95 x142 x_124) 199 fun h143=>App Pz 75 75 (vS x141) (.slice (some (aS h134 0)) 1 1) h143 fun s144 h145=>Wp h145 (aS h85 5) 1 [vS s144] fun h146=>∃m147,m147<m123/\I121 (IntKind.wrap .i64 (x_124+1)) h146 m147) (∃m148,m148<m123/\I121 (IntKind.wrap .i64 (x_124+1)) h134 m148)) (∃m149,m149<m123/\I121 (IntKind.wrap .i64 (x_124+1)) h134 m149)))) (∃m150,m150<m94/\I92 (IntKind.wrap .i64 (x_95+1)) h125 m150))))) (∃x151 x152 x153 x154 x155 x156,aL1 h96 (aS h85 0) x151 x152 x153 x154 x155 x156/\Wp h96 (aS h9 0) 6 (L1 x151 x152 x153 x154 x155 x156) fun h157=>∃x158 x159 x160 x161 x162 x163,aL1 h157 (aS h9 0) x158 x159 x160 x161 x162 x163/\R (.tuple ⟨[.agg ⟨(L1 x158 x159 x160 x161 x162 x163)⟩,vI 0]⟩) h157)))))))))
theorem vc105 (p0_1:ByteArray) (p0_2 p0_3:Sl) (p0_4 p0_5 p0_6:Int) (p0_7 p0_8:Sl) (p1:Int) (H:@W105 h R p0_1 p0_2 p0_3 p0_4 p0_5 p0_6 p0_7 p0_8 p1):Fn Pz 105 #[.agg ⟨(L2 p0_1 p0_2 p0_3 p0_4 p0_5 p0_6 p0_7 p0_8)⟩,vI p1] h R:=fnI (A:=(.s .z (.s .z (.s .z (.s .z (.s .z (.s .z (.s .z (.s (.s .z (.b (.l [(61,.one (.int .i64))] (.s .z (.s .z (.s (.b (.s .z (.s .z (.s .z (.s .z (.b (.l [(79,.one (.int .i64))] .z))))))) .z)))))) .z))))))))) (by kernel_rfl) H

def W151 (p0_1:Int) (p0_2:Bool) (p0_3 p0_4 p0_5:Int) (p0_6:Bool) (p1_7:Int) (p1_8:Bool) (p1_9 p1_10 p1_11:Int) (p1_12:Bool):Prop:=
 Wn h (L0 p0_1 p0_2 p0_3 p0_4 p0_5 p0_6) 116 fun h13=>
 Wn h13 (L0 p1_7 p1_8 p1_9 p1_10 p1_11 p1_12) 116 fun h14=>
 ∃x15,rI h14 (aS h 0) x15 /\
 ∃x16,rI h14 (aS h13 0) x16 /\
 ∃x17 x18 x19 x20 x21 x22,aL0 h14 (aS h 0) x17 x18 x19 x20 x21 x22 /\
 ∃x23 x24 x25 x26 x27 x28,aL0 h14 (aS h13 0) x23 x24 x25 x26 x27 x28 /\
 ∃x29,rI h14 (aS h 2) x29 /\
 ∃x30,rI h14 (aS h13 2) x30 /\
 ∃x31,rI h14 (aS h 3) x31 /\
 ∃x32,rI h14 (aS h13 3) x32 /\
 Fn Pz 110 #[vI x15,vI x16] h14
 (fun v33 h35=>∃x34,iI v33 x34 /\
 Sm [(aS h13 3),(aS h 3),(aS h13 2),(aS h 2),(aS h13 0),(aS h 0)] h14 h35 /\
 Fn Pz 225 #[.agg ⟨(L0 x17 x18 x19 x20 x21 x22)⟩] h35
 (fun v36 h38=>∃x37,iI v36 x37 /\
 Sm [(aS h13 3),(aS h 3),(aS h13 2),(aS h 2),(aS h13 0),(aS h13 0),(aS h 0)] h35 h38 /\
 Fn Pz 225 #[.agg ⟨(L0 x23 x24 x25 x26 x27 x28)⟩] h38
 (fun v39 h41=>∃x40,iI v39 x40 /\
 Sm [(aS h13 3),(aS h 3),(aS h13 2),(aS h 2),(aS h 0),(aS h13 0),(aS h 0)] h38 h41 /\
 Fn Pz 110 #[vI x37,vI x40] h41
 (fun v42 h44=>∃x43,iI v42 x43 /\
 Sm [(aS h13 3),(aS h 3),(aS h13 2),(aS h 2),(aS h13 0),(aS h 0)] h41 h44 /\
 Fn Pz 110 #[vI x29,vI x30] h44
 (fun v45 h47=>∃x46,iI v45 x46 /\
 Sm [(aS h13 3),(aS h 3),(aS h13 0),(aS h 0),(aS h13 0),(aS h 0)] h44 h47 /\
 Fn Pz 110 #[vI x31,vI x32] h47
 (fun v48 h50=>∃x49,iI v48 x49 /\
 Sm [(aS h13 2),(aS h 2),(aS h13 0),(aS h 0),(aS h13 0),(aS h 0)] h47 h50 /\
 Wn h50 (L11 x34 x43 x46 x49) 3 fun h51=>
 Fn Pz 109 #[.slice (some (aS h50 0)) 4 4] h51
 (fun v52 h54=>∃x53,iI v52 x53 /\
 R (vI x53) h54)))))))
theorem vc151 (p0_1:Int) (p0_2:Bool) (p0_3 p0_4 p0_5:Int) (p0_6:Bool) (p1_7:Int) (p1_8:Bool) (p1_9 p1_10 p1_11:Int) (p1_12:Bool) (H:@W151 h R p0_1 p0_2 p0_3 p0_4 p0_5 p0_6 p1_7 p1_8 p1_9 p1_10 p1_11 p1_12):Fn Pz 151 #[.agg ⟨(L0 p0_1 p0_2 p0_3 p0_4 p0_5 p0_6)⟩,.agg ⟨(L0 p1_7 p1_8 p1_9 p1_10 p1_11 p1_12)⟩] h R:=fnI (A:=.z) (by kernel_rfl) H

def W225 (p0_1:Int) (p0_2:Bool) (p0_3 p0_4 p0_5:Int) (p0_6:Bool):Prop:=
 Wn h (L0 p0_1 p0_2 p0_3 p0_4 p0_5 p0_6) 116 fun h7=>
 ∃x8,rB h7 (aS h 1) x8 /\
 sB x8
 (R (vI 0) h7)
 (R (vI 1) h7)
theorem vc225 (p0_1:Int) (p0_2:Bool) (p0_3 p0_4 p0_5:Int) (p0_6:Bool) (H:@W225 h R p0_1 p0_2 p0_3 p0_4 p0_5 p0_6):Fn Pz 225 #[.agg ⟨(L0 p0_1 p0_2 p0_3 p0_4 p0_5 p0_6)⟩] h R:=fnI (A:=.z) (by kernel_rfl) H

def W222 (p0:Sl):Prop:=
 sB (Option.isNone p0.a)
 (R (.slice none 0 0) h)
 (Wn h [] 116 fun h1=>
 App Pz 86 86 (.slice (some (aS h 0)) 0 0) (vS p0) h1 fun s2 h3=>
 R (vS s2) h3)
theorem vc222 (p0:Sl) (H:@W222 h R p0):Fn Pz 222 #[vS p0] h R:=fnI (A:=.z) (by kernel_rfl) H

def W223 (p0_1 p0_2:Int) (p0_3:Bool) (p0_4 p0_5:Int) (p0_6:Bool) (p0_7:Int) (c0:Addr) (c1:Addr):Prop:=
 Wn h (L13 p0_1 p0_2 p0_3 p0_4 p0_5 p0_6 p0_7) 342 fun h8=>
 ∃x9:Option Nat,hc h8 c0=some (.map x9) /\
 ∃x10 x11 x12 x13 x14 x15 x16,aL13 h8 (aS h 0) x10 x11 x12 x13 x14 x15 x16 /\
 RunW Pz (Instr.lookup 340 (.map x9) (.agg ⟨(L13 x10 x11 x12 x13 x14 x15 x16)⟩) true) h8
 (fun v17 h20=>∃(x18:Int) (x19:Bool),v17=.tuple ⟨[vI x18,.bool x19]⟩ /\
 sB (!x19)
 (∃x21:Option Nat,hc h20 c0=some (.map x21) /\
 RunW Pz (Builtin.len_ #[340] 3 #[.map x21]) h20
 (fun v22 h24=>∃x23,iI v22 x23 /\
 ∃x25,rI h24 ⟨c1.block,c1.off+1,none⟩ x25 /\
 ∃x26:Option Nat,hc h24 c0=some (.map x26) /\
 ∃x27 x28 x29 x30 x31 x32 x33,aL13 h24 (aS h 0) x27 x28 x29 x30 x31 x32 x33 /\
 RunW Pz (Instr.mapUpdate 340 (.map x26) (.agg ⟨(L13 x27 x28 x29 x30 x31 x32 x33)⟩) (vI (IntKind.wrap .i64 ((IntKind.wrap .i64 (x23+x25))+2)))) h24 (fun _ h34=>
 R (vI (IntKind.wrap .i64 ((IntKind.wrap .i64 (x23+x25))+2))) h34)))
 (R (vI x18) h20))
theorem vc223 (p0_1 p0_2:Int) (p0_3:Bool) (p0_4 p0_5:Int) (p0_6:Bool) (p0_7:Int) (c0:Addr) (c1:Addr) (H:@W223 h R p0_1 p0_2 p0_3 p0_4 p0_5 p0_6 p0_7 c0 c1):Fn Pz 223 #[.agg ⟨(L13 p0_1 p0_2 p0_3 p0_4 p0_5 p0_6 p0_7)⟩,.pointer (some c0),.pointer (some c1)] h R:=fnI (A:=.z) (by kernel_rfl) H

def V149a (x_31 x26:Int) (h40 h25:Heap) (x39:Int) (m30:Nat) (I28:Int->Heap->Nat->Prop):Prop:=
 (0<=(x_31:Int)/\(x_31:Int)<((Int.toNat x26):Nat))/\Wp h40 (aS h25 (0+Int.toNat x_31*1)) 1 [vI x39] fun h41=>∃m42,m42<m30/\I28 (IntKind.wrap .i64 (x_31+1)) h41 m42
def V149b (h48 h67 h77:Heap) (x68 x26:Int) (h25:Heap) (x76:Int) (m46:Nat) (I44:Int->Heap->Nat->Prop) (x_47:Int):Prop:=
 Sm [(aS h48 0)] h67 h77/\(0<=(x68:Int)/\(x68:Int)<((Int.toNat x26):Nat))/\Wp h77 (aS h25 (0+Int.toNat x68*1)) 1 [vI x76] fun h78=>∃m79,m79<m46/\I44 (IntKind.wrap .i64 (x_47+1)) h78 m79
def W149 (p0_1 p0_2 p0_3:Int) (p0_4 p0_5 p0_6:Sl):Prop:=
 Wn h (L1 p0_1 p0_2 p0_3 p0_4 p0_5 p0_6) 88 fun h7=>∃x8,rS h7 (aS h 4) x8/\Fn Pz 222 #[vS x8] h7 (fun v9 h11=>∃x10,iS v9 x10/\Fn Pz 150 #[vS x10,.func (.func 151) #[] #[]] h11 (fun v12 h13=>v12=.tuple ⟨[]⟩/\∃x14,rI h13 (aS h 1) x14/\Mk x14 x14 8/\Wn h13 (madeL Pz 3 (Int.toNat x14)) 3 fun h15=>QI 0 h15 fun I16 count_19 h20 m18=>RunW Pz (Instr.makeMap 340 (none)) h20 (fun v21 h23=>∃x22:Option Nat,v21=.map x22/\Wn h23 [.map none] 340 fun h24=>Wp h24 (aS h23 0) 1 [.map x22] fun h25=>∃x26,rI h25 (aS h 1) x26/\Mk x26 x26 8/\Wn h25 (madeL Pz 3 (Int.toNat x26)) 3 fun h27=>QI 0 h27 fun I28 x_31 h32 m30=>sB (decide (x_31<((Int.toNat x26):Int))) ((0<=(x_31:Int)/\(x_31:Int)<((Int.toNat x14):Nat))/\∃x33,rI h32 (aS h13 (0+Int.toNat x_31*1)) x33/\∃x34,rS h32 (aS h 3) x34/\NB x34.a fun b35 o36=>Ib x_31 x34.n/\∃x37,rB h32 ⟨b35,o36+Int.toNat x_31*1,none⟩ x37/\Fn Pz 223 #[.agg ⟨[vI x33,vI 0,.bool false,vI 0,vI 0,.bool x37,vI 0]⟩,.pointer (some (aS h23 0)),.pointer (some (aS h 0))] h32 (fun v38 h40=>∃x39,iI v38 x39/\V149a x_31 x26 h40 h25 x39 m30 I28)) (∃x43,rS h32 (aS h 5) x43/\QI 0 h32 fun I44 x_47 h48 m46=>sB (decide (x_47<(x43.n:Int))) (NB x43.a fun b49 o50=>Ib x_47 x43.n/\∃x51 x52 x53,aL4 h48 ⟨b49,o50+Int.toNat x_47*3,none⟩ x51 x52 x53/\Wn h48 [vI 0,vI 0,vI 0] 199 fun h54=>Wp h54 (aS h48 0) 3 (L4 x51 x52 x53) fun h55=>∃x56,rS h55 (aS h 4) x56/\∃x57,rI h55 (aS h48 2) x57/\NB x56.a fun b58 o59=>Ib x57 x56.n/\∃x60 x61 x62 x63 x64 x65,aL0 h55 ⟨b58,o59+Int.toNat x57*6,none⟩ x60 x61 x62 x63 x64 x65/\Wn h55 [vI 0,.bool false,vI 0,vI 0,vI 0,.bool false] 116 fun h66=>Wp h66 (aS h55 0) 6 (L0 x60 x61 x62 x63 x64 x65) fun h67=>∃x68,rI h67 (aS h48 0) x68/\∃x69,rI h67 (aS h48 0) x69/\(0<=(x69:Int)/\(x69:Int)<((Int.toNat x26):Nat))/\∃x70,rI h67 (aS h25 (0+Int.toNat x69*1)) x70/\∃x71,rB h67 (aS h55 1) x71/\∃x72,rI h67 (aS h55 2) x72/\∃x73,rI h67 (aS h55 3) x73/\∃x74,rI h67 (aS h48 1) x74/\Fn Pz 223 #[.agg ⟨[vI x70,vI 1,.bool x71,vI x72,vI x73,.bool false,vI x74]⟩,.pointer (some (aS h23 0)),.pointer (some (aS h 0))] h67 (fun v75 h77=>∃x76,iI v75 x76/\V149b h48 h67 h77 x68 x26 h25 x76 m46 I44 x_47)) (QI 0 h48 fun I80 x_83 h84 m82=>sB (decide (x_83<(x10.n:Int))) (NB x10.a fun b85 o86=>Ib x_83 x10.n/\∃x87 x88 x89 x90 x91 x92,aL0 h84 ⟨b85,o86+Int.toNat x_83*6,none⟩ x87 x88 x89 x90 x91 x92/\Wn h84 [vI 0,.bool false,vI 0,vI 0,vI 0,.bool false] 116 fun h93=>Wp h93 (aS h84 0) 6 (L0 x87 x88 x89 x90 x91 x92) fun h94=>∃x95,rI h94 (aS h84 0) x95/\∃x96,rI h94 (aS h84 0) x96/\(0<=(x96:Int)/\(x96:Int)<((Int.toNat x26):Nat))/\∃x97,rI h94 (aS h25 (0+Int.toNat x96*1)) x97/\∃x98,rB h94 (aS h84 1) x98/\∃x99,rI h94 (aS h84 2) x99/\∃x100,rI h94 (aS h84 3) x100/\∃x101,rB h94 (aS h84 5) x101/\∃x102,rI h94 (aS h84 4) x102/\(0<=(x102:Int)/\(x102:Int)<((Int.toNat x14):Nat))/\∃x103,rI h94 (aS h13 (0+Int.toNat x102*1)) x103/\Fn Pz 223 #[.agg ⟨[vI x97,vI 2,.bool x98,vI x99,vI x100,.bool x101,vI x103]⟩,.pointer (some (aS h23 0)),.pointer (some (aS h 0))] h94 (fun v104 h106=>∃x105,iI v104 x105/\V149b h84 h94 h106 x95 x26 h25 x105 m82 I80 x_83)) (RunW Pz (Instr.makeMap 344 (none)) h84 (fun v109 h111=>∃x110:Option Nat,v109=.map x110/\QI 0 h111 fun I112 x_115 h116 m114=>sB (decide (x_115<((Int.toNat x26):Int))) ((0<=(x_115:Int)/\(x_115:Int)<((Int.toNat x26):Nat))/\∃x117,rI h116 (aS h25 (0+Int.toNat x_115*1)) x117/\RunW Pz (Instr.lookup 344 (.map x110) (vI x117) true) h116 (fun v118 h121=>∃(x119:Int) (x120:Bool),v118=.tuple ⟨[vI x119,.bool x120]⟩/\sB (!x120) (RunW Pz (Builtin.len_ #[344] 3 #[.map x110]) h121 (fun v122 h124=>∃x123,iI v122 x123/\RunW Pz (Instr.mapUpdate 344 (.map x110) (vI x117) (vI x123)) h124 (fun _ h125=>RunW Pz (Instr.lookup 344 (.map x110) (vI x117) false) h125 (fun v126 h128=>∃x127,iI v126 x127/\V149a x_115 x14 h128 h13 x127 m114 I112)))) (RunW Pz (Instr.lookup 344 (.map x110) (vI x117) false) h121 (fun v131 h133=>∃x132,iI v131 x132/\V149a x_115 x14 h133 h13 x132 m114 I112)))) (RunW Pz (Builtin.len_ #[344] 3 #[.map x110]) h116 (fun v136 h138=>∃x137,iI v136 x137/\sB (x137==count_19) (R (.tuple ⟨[.slice (some (aS h13 0)) (Int.toNat x14) (Int.toNat x14),vI count_19]⟩) h138) (RunW Pz (Builtin.len_ #[344] 3 #[.map x110]) h138 (fun v139 h141=>∃x140,iI v139 x140/\∃m142,m142<m18/\I16 x140 h141 m142)))))))))))
theorem vc149 (p0_1 p0_2 p0_3:Int) (p0_4 p0_5 p0_6:Sl) (H:@W149 h R p0_1 p0_2 p0_3 p0_4 p0_5 p0_6):Fn Pz 149 #[.agg ⟨(L1 p0_1 p0_2 p0_3 p0_4 p0_5 p0_6)⟩] h R:=fnI (A:=(.s .z (.s .z (.s .z (.s .z (.s .z (.b (.l [(6,.one (.int .i64))] (.b (.s .z (.s .z (.s .z (.s (.s .z (.b (.l [(36,.one (.int .i64))] .z))) (.s (.s .z (.b (.l [(58,.one (.int .i64))] .z))) (.s (.s .z (.b (.l [(92,.one (.int .i64))] .z))) (.s .z (.s (.s .z (.b (.l [(126,.one (.int .i64))] .z))) .z))))))))))))))))) (by kernel_rfl) H

def W106 (p0_1 p0_2 p0_3:Int) (p0_4 p0_5 p0_6:Sl):Prop:=
 Wn h (L1 p0_1 p0_2 p0_3 p0_4 p0_5 p0_6) 88 fun h7=>
 Wn h7 [vI 0,vI 0,vI 0,.slice none 0 0,.slice none 0 0,.slice none 0 0] 88 fun h8=>
 ∃x9 x10 x11 x12 x13 x14,aL1 h8 (aS h 0) x9 x10 x11 x12 x13 x14 /\
 Fn Pz 149 #[.agg ⟨(L1 x9 x10 x11 x12 x13 x14)⟩] h8
 (fun v15 h18=>∃(x16:Sl) (x17:Int),v15=.tuple ⟨[vS x16,vI x17]⟩ /\
 Mk x17 x17 8/\Wn h18 (madeL Pz 3 (Int.toNat x17)) 3 fun h19=>
 ∃x20,rI h19 (aS h 1) x20 /\
 QI (IntKind.wrap .i64 (x20-1)) h19 fun I21 s_24 h25 m23=>
 sB (decide (s_24>=0))
 (NB x16.a fun b26 o27=>Ib s_24 x16.n /\
 ∃x28,rI h25 ⟨b26,o27+Int.toNat s_24*1,none⟩ x28 /\
 (0<=(x28:Int)/\(x28:Int)<((Int.toNat x17):Nat)) /\
 Wp h25 (aS h18 (0+Int.toNat x28*1)) 1 [vI s_24] fun h29=>
 ∃m30,m30<m23/\I21 (IntKind.wrap .i64 (s_24-1)) h29 m30)
 (∃x31,rI h25 (aS h 1) x31 /\
 Mk x31 x31 24/\Wn h25 (madeL Pz 86 (Int.toNat x31)) 86 fun h32=>
 ∃x33,rS h32 (aS h 4) x33 /\
 QI 0 h32 fun I34 x_37 h38 m36=>
 sB (decide (x_37<(x33.n:Int)))
 (NB x33.a fun b39 o40=>Ib x_37 x33.n /\
 ∃x41 x42 x43 x44 x45 x46,aL0 h38 ⟨b39,o40+Int.toNat x_37*6,none⟩ x41 x42 x43 x44 x45 x46 /\
 Wn h38 [vI 0,.bool false,vI 0,vI 0,vI 0,.bool false] 116 fun h47=>
 Wp h47 (aS h38 0) 6 (L0 x41 x42 x43 x44 x45 x46) fun h48=>
 ∃x49,rI h48 (aS h38 0) x49 /\
 ∃x50,rI h48 (aS h38 0) x50 /\
 (0<=(x50:Int)/\(x50:Int)<((Int.toNat x31):Nat)) /\
 ∃x51,rS h48 (aS h25 (0+Int.toNat x50*1)) x51 /\
 ∃x52 x53 x54 x55 x56 x57,aL0 h48 (aS h38 0) x52 x53 x54 x55 x56 x57 /\
 Wn h48 (L0 x52 x53 x54 x55 x56 x57) 116 fun h58=>
 Sm [(aS h25 (0+Int.toNat x50*1)),(aS h38 0),(aS h38 0)] h48 h58 /\
 App Pz 86 86 (vS x51) (.slice (some (aS h48 0)) 1 1) h58 fun s59 h60=>
 Sm [(aS h38 0)] h58 h60 /\
 (0<=(x49:Int)/\(x49:Int)<((Int.toNat x31):Nat)) /\
 Wp h60 (aS h25 (0+Int.toNat x49*1)) 1 [vS s59] fun h61=>
 ∃m62,m62<m36/\I34 (IntKind.wrap .i64 (x_37+1)) h61 m62)
 (RunW Pz (Instr.makeMap 236 (none)) h38
 (fun v63 h65=>∃x64:Option Nat,v63=.map x64 /\
 ∃x66,rS h65 (aS h 5) x66 /\
 QI 0 h65 fun I67 x_70 h71 m69=>
 sB (decide (x_70<(x66.n:Int)))
 (NB x66.a fun b72 o73=>Ib x_70 x66.n /\
 ∃x74 x75 x76,aL4 h71 ⟨b72,o73+Int.toNat x_70*3,none⟩ x74 x75 x76 /\
 Wn h71 [vI 0,vI 0,vI 0] 199 fun h77=>
 Wp h77 (aS h71 0) 3 (L4 x74 x75 x76) fun h78=>
 ∃x79,rI h78 (aS h71 0) x79 /\
 ∃x80 x81 x82,aL4 h78 (aS h71 0) x80 x81 x82 /\
 RunW Pz (Instr.mapUpdate 236 (.map x64) (vI x79) (.agg ⟨(L4 x80 x81 x82)⟩)) h78 (fun _ h83=>
 ∃m84,m84<m69/\I67 (IntKind.wrap .i64 (x_70+1)) h83 m84))
 (Mk x17 x17 8/\Wn h71 (madeL Pz 3 (Int.toNat x17)) 3 fun h85=>
 QI 0 h85 fun I86 x_89 h90 m88=>
 sB (decide (x_89<((Int.toNat x17):Int)))
 ((0<=(x_89:Int)/\(x_89:Int)<((Int.toNat x17):Nat)) /\
 Wp h90 (aS h71 (0+Int.toNat x_89*1)) 1 [vI (-1)] fun h91=>
 ∃m92,m92<m88/\I86 (IntKind.wrap .i64 (x_89+1)) h91 m92)
 (∃x93,rI h90 (aS h 2) x93 /\
 NB x16.a fun b94 o95=>Ib x93 x16.n /\
 ∃x96,rI h90 ⟨b94,o95+Int.toNat x93*1,none⟩ x96 /\
 Wn h90 [vI x96] 3 fun h97=>
 Ib 0 1 /\
 ∃x98,rI h97 (aS h90 (0+Int.toNat 0*1)) x98 /\
 (0<=(x98:Int)/\(x98:Int)<((Int.toNat x17):Nat)) /\
 Wp h97 (aS h71 (0+Int.toNat x98*1)) 1 [vI 0] fun h99=>
 ∃x100,rI h99 (aS h 0) x100 /\
 Wn h99 [vI 0,vI 0,vI 0,.slice none 0 0,.slice none 0 0,.slice none 0 0] 88 fun h101=>
 Wp h101 (aS h99 0) 6 [vI x100,vI 0,vI 0,.slice none 0 0,.slice none 0 0,.slice none 0 0] fun h102=>
 QSI ⟨(some (aS h90 0)),1,1⟩ 0 h102 fun I103 queue_106 head_107 h108 m105=>
 sB (decide (head_107<(queue_106.n:Int)))
 (NB queue_106.a fun b109 o110=>Ib head_107 queue_106.n /\
 ∃x111,rI h108 ⟨b109,o110+Int.toNat head_107*1,none⟩ x111 /\
 (0<=(x111:Int)/\(x111:Int)<((Int.toNat x17):Nat)) /\
 ∃x112,rI h108 (aS h18 (0+Int.toNat x111*1)) x112 /\
 ∃x113,rS h108 (aS h99 3) x113 /\
 ∃x114,rS h108 (aS h 3) x114 /\
 NB x114.a fun b115 o116=>Ib x112 x114.n /\
 ∃x117,rB h108 ⟨b115,o116+Int.toNat x112*1,none⟩ x117 /\
 Wn h108 [.bool x117] 4 fun h118=>
 Sm [(aS h99 3)] h108 h118 /\
 App Pz 85 85 (vS x113) (.slice (some (aS h108 0)) 1 1) h118 fun s119 h120=>
 Wp h120 (aS h99 3) 1 [vS s119] fun h121=>
 (0<=(x112:Int)/\(x112:Int)<((Int.toNat x31):Nat)) /\
 ∃x122,rS h121 (aS h25 (0+Int.toNat x112*1)) x122 /\
 Fn Pz 150 #[vS x122,.func (.func 151) #[] #[]] h121
 (fun v123 h124=>v123=.tuple ⟨[]⟩ /\
 RunW Pz (Instr.lookup 236 (.map x64) (vI x112) true) h124
 (fun v125 h130=>∃(x126 x127 x128:Int) (x129:Bool),v125=.tuple ⟨[.agg ⟨(L4 x126 x127 x128)⟩,.bool x129]⟩ /\
 Wn h130 [vI 0,vI 0,vI 0] 199 fun h131=>
 Wp h131 (aS h130 0) 3 (L4 x126 x127 x128) fun h132=>
 (0<=(x112:Int)/\(x112:Int)<((Int.toNat x31):Nat)) /\
 ∃x133,rS h132 (aS h25 (0+Int.toNat x112*1)) x133 /\
 QSI queue_106 0 h132 fun I134 queue_137 x_138 h139 m136=>
 sB (decide (x_138<(x133.n:Int)))
 (NB x133.a fun b140 o141=>Ib x_138 x133.n /\
 ∃x142 x143 x144 x145 x146 x147,aL0 h139 ⟨b140,o141+Int.toNat x_138*6,none⟩ x142 x143 x144 x145 x146 x147 /\
 Wn h139 [vI 0,.bool false,vI 0,vI 0,vI 0,.bool false] 116 fun h148=>
 Wp h148 (aS h139 0) 6 (L0 x142 x143 x144 x145 x146 x147) fun h149=>
 ∃x150,rI h149 (aS h139 4) x150 /\
 NB x16.a fun b151 o152=>Ib x150 x16.n /\
 ∃x153,rI h149 ⟨b151,o152+Int.toNat x150*1,none⟩ x153 /\
 ∃J154:Sl->Heap->Prop,
 ((0<=(x153:Int)/\(x153:Int)<((Int.toNat x17):Nat)) /\
 ∃x155,rI h149 (aS h71 (0+Int.toNat x153*1)) x155 /\
 sB (decide (x155<0))
 ((0<=(x153:Int)/\(x153:Int)<((Int.toNat x17):Nat)) /\
 Wp h149 (aS h71 (0+Int.toNat x153*1)) 1 [vI (queue_137.n:Int)] fun h156=>
 Wn h156 [vI x153] 3 fun h157=>
 App Pz 25 25 (vS queue_137) (.slice (some (aS h156 0)) 1 1) h157 fun s158 h159=>
 J154 s158 h159)
 (J154 queue_137 h149)) /\
 ∀(_:Env) (queue_160:Sl) (h161:Heap),J154 queue_160 h161 ->
 (∃x162,rS h161 (aS h 4) x162 /\
 ∃x163,rI h161 (aS h130 2) x163 /\
 NB x162.a fun b164 o165=>(0<=((imax x163 0):Int)/\((imax x163 0):Int)<(x162.n:Nat)) /\
 ∃x166 x167 x168 x169 x170 x171,aL0 h161 ⟨b164,o165+Int.toNat (imax x163 0)*6,none⟩ x166 x167 x168 x169 x170 x171 /\
 Wn h161 [vI 0,.bool false,vI 0,vI 0,vI 0,.bool false] 116 fun h172=>
 Wp h172 (aS h161 0) 6 (L0 x166 x167 x168 x169 x170 x171) fun h173=>
 ∃J174:Heap->Prop,
 (sB x129
 (∃x175,rB h173 (aS h139 1) x175 /\
 ∃x176,rB h173 (aS h161 1) x176 /\
 sB (x175==x176)
 (∃x177,rI h173 (aS h139 2) x177 /\
 ∃x178,rI h173 (aS h161 2) x178 /\
 sB (x177==x178)
 (∃x179,rI h173 (aS h139 3) x179 /\
 ∃x180,rI h173 (aS h161 3) x180 /\
 sB (x179==x180)
 (∃x181,rS h173 (aS h99 5) x181 /\
 ∃x182,rI h173 (aS h130 1) x182 /\
 ∃x183,rS h173 (aS h99 4) x183 /\
 Wn h173 [vI head_107,vI x182,vI (x183.n:Int)] 199 fun h184=>
 App Pz 75 75 (vS x181) (.slice (some (aS h173 0)) 1 1) h184 fun s185 h186=>
 Wp h186 (aS h99 5) 1 [vS s185] fun h187=>
 J174 h187)
 (J174 h173))
 (J174 h173))
 (J174 h173))
 (J174 h173)) /\
 ∀(_:Env) (h188:Heap),J174 h188 ->
 ((0<=(x153:Int)/\(x153:Int)<((Int.toNat x17):Nat)) /\
 ∃x189,rI h188 (aS h71 (0+Int.toNat x153*1)) x189 /\
 Wp h188 (aS h139 0) 1 [vI head_107] fun h190=>
 Sm [(aS h71 (0+Int.toNat x153*1))] h188 h190 /\
 Wp h190 (aS h139 4) 1 [vI x189] fun h191=>
 ∃x192,rS h191 (aS h99 4) x192 /\
 ∃x193 x194 x195 x196 x197 x198,aL0 h191 (aS h139 0) x193 x194 x195 x196 x197 x198 /\
 Wn h191 (L0 x193 x194 x195 x196 x197 x198) 116 fun h199=>
 App Pz 86 86 (vS x192) (.slice (some (aS h191 0)) 1 1) h199 fun s200 h201=>
 Wp h201 (aS h99 4) 1 [vS s200] fun h202=>
 ∃m203,m203<m136/\I134 queue_160 (IntKind.wrap .i64 (x_138+1)) h202 m203)))
 (∃m204,m204<m105/\I103 queue_137 (IntKind.wrap .i64 (head_107+1)) h139 m204))))
 (Wp h108 (aS h99 1) 1 [vI (queue_106.n:Int)] fun h205=>
 ∃x206 x207 x208 x209 x210 x211,aL1 h205 (aS h99 0) x206 x207 x208 x209 x210 x211 /\
 Wp h205 (aS h7 0) 6 (L1 x206 x207 x208 x209 x210 x211) fun h212=>
 ∃x213 x214 x215 x216 x217 x218,aL1 h212 (aS h7 0) x213 x214 x215 x216 x217 x218 /\
 R (.agg ⟨(L1 x213 x214 x215 x216 x217 x218)⟩) h212)))))))
theorem vc106 (p0_1 p0_2 p0_3:Int) (p0_4 p0_5 p0_6:Sl) (H:@W106 h R p0_1 p0_2 p0_3 p0_4 p0_5 p0_6):Fn Pz 106 #[.agg ⟨(L1 p0_1 p0_2 p0_3 p0_4 p0_5 p0_6)⟩] h R:=fnI (A:=(.s .z (.s .z (.s .z (.s (.s .z (.b (.l [(6,.one (.int .i64))] .z))) (.s .z (.s (.s .z (.b (.l [(52,.one (.int .i64))] .z))) (.s .z (.s (.s .z (.b (.l [(73,.one (.int .i64))] .z))) (.s .z (.s (.s .z (.b (.l [(86,.one (.int .i64))] .z))) (.s .z (.s .z (.s .z (.s (.s .z (.b (.l [(15,.one (.slice)),(17,.one (.int .i64))] (.s .z (.s (.b (.s .z (.s .z (.s .z (.s .z (.s .z (.b (.l [(15,.one (.slice)),(146,.one (.int .i64))] (.s .z (.s .z (.s (.b (.s .z (.s .z (.j [(15,.one (.slice))] .z (.s .z (.j [] .z .z)))))) .z))))))))))) .z))))) .z))))))))))))))) (by kernel_rfl) H

def W62 (p0_1:ByteArray) (p0_2 p0_3:Sl) (p0_4 p0_5 p0_6:Int) (p0_7 p0_8:Sl) (p1:Int):Prop:=
 Wn h (L2 p0_1 p0_2 p0_3 p0_4 p0_5 p0_6 p0_7 p0_8) 77 fun h9=>
 Wn h9 [vI 0,vI 0,vI 0,.slice none 0 0,.slice none 0 0,.slice none 0 0] 88 fun h10=>
 ∃x11 x12 x13 x14 x15 x16 x17 x18,aL2 h10 (aS h 0) x11 x12 x13 x14 x15 x16 x17 x18 /\
 Fn Pz 105 #[.agg ⟨(L2 x11 x12 x13 x14 x15 x16 x17 x18)⟩,vI p1] h10
 (fun v19 h27=>∃(x20 x21 x22:Int) (x23 x24 x25:Sl) (x26:Int),v19=.tuple ⟨[.agg ⟨(L1 x20 x21 x22 x23 x24 x25)⟩,vI x26]⟩ /\
 Wn h27 [vI 0,vI 0,vI 0,.slice none 0 0,.slice none 0 0,.slice none 0 0] 88 fun h28=>
 Wp h28 (aS h27 0) 6 (L1 x20 x21 x22 x23 x24 x25) fun h29=>
 sB (x26 != 0)
 (Wp h29 (aS h9 0) 6 [vI 0,vI 0,vI 0,.slice none 0 0,.slice none 0 0,.slice none 0 0] fun h30=>
 ∃x31 x32 x33 x34 x35 x36,aL1 h30 (aS h9 0) x31 x32 x33 x34 x35 x36 /\
 R (.tuple ⟨[.agg ⟨(L1 x31 x32 x33 x34 x35 x36)⟩,vI x26]⟩) h30)
 (∃x37 x38 x39 x40 x41 x42,aL1 h29 (aS h27 0) x37 x38 x39 x40 x41 x42 /\
 Fn Pz 106 #[.agg ⟨(L1 x37 x38 x39 x40 x41 x42)⟩] h29
 (fun v43 h50=>∃(x44 x45 x46:Int) (x47 x48 x49:Sl),v43=.agg ⟨(L1 x44 x45 x46 x47 x48 x49)⟩ /\
 Wp h50 (aS h9 0) 6 (L1 x44 x45 x46 x47 x48 x49) fun h51=>
 ∃x52 x53 x54 x55 x56 x57,aL1 h51 (aS h9 0) x52 x53 x54 x55 x56 x57 /\
 R (.tuple ⟨[.agg ⟨(L1 x52 x53 x54 x55 x56 x57)⟩,vI 0]⟩) h51)))
theorem vc62 (p0_1:ByteArray) (p0_2 p0_3:Sl) (p0_4 p0_5 p0_6:Int) (p0_7 p0_8:Sl) (p1:Int) (H:@W62 h R p0_1 p0_2 p0_3 p0_4 p0_5 p0_6 p0_7 p0_8 p1):Fn Pz 62 #[.agg ⟨(L2 p0_1 p0_2 p0_3 p0_4 p0_5 p0_6 p0_7 p0_8)⟩,vI p1] h R:=fnI (A:=.z) (by kernel_rfl) H

end Go.VC
end
