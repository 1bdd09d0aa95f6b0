/- SxJ SxK SxL SxM SxN SxO SxP SxQ SxR SxS SxT1 SxStubB SxT SxU SxV0 SxV SxW0 SxW SxX SxY SxZ SxRp SxMa SxMb SxMc SxMd SxMe SxNa SxNb SxNc SxNd SxNe SxRa SxRb SxRc SxRd SxRe0 SxRe SxRf SxRg SxHa SxIa SxHb. -/
import Derived.Test.YtajglkbckhgboaaGreatDoorDM05
import Derived.DeepKeys4
set_option linter.all false
set_option maxRecDepth 100000
set_option maxHeartbeats 8000000

section
namespace Go.VC
open Go.Proofs Go.LexS
theorem Qw(n:Nat):ak Pz 102 n=((List.replicate n (⟨none,0,0⟩:Sl)).map dv).flatten:=by
 have e:bN Pz 102=[.slice none 0 0]:=by kernel_rfl
 unfold ak;rw[e,List.map_replicate];rfl
theorem My(n:Nat):ak Pz 231 n=((List.replicate n (⟨none,0,0⟩:Sl)).map dv).flatten:=by
 have e:bN Pz 231=[.slice none 0 0]:=by kernel_rfl
 unfold ak;rw[e,List.map_replicate];rfl
theorem uf(L:List Sl):∀r∈L.map dv,r.length=1:=fun r hr=>by obtain⟨x,_,rfl⟩:=Yp.1 hr;rfl
theorem JI:cu Pz 231 233 4 32=true:=by kernel_rfl
structure y6 (g:Gl) (role:Int) (i:Nat) (qs:List (Sl × List Int)) (vs:List (Sl × List Ar)):Prop where
 ql:qs.length=g.n.toNat
 vl:vs.length=g.n.toNat
 q:∀(n:Nat) q,qs[n]?=some q->q.2=dH (g.es.take i) role n
 v:∀(n:Nat) q,vs[n]?=some q->q.2=bS (g.es.take i) role n
def s8(g:Gl)(role:Int)(b bg:Nat)(hq hv:Sl)(qs:List (Sl × List Int))(vs:List (Sl × List Ar)):List It:=
 [.af b (g.cs++[.int .i64 role,.slice hq.a hq.n hq.c,.slice hv.a hv.n hv.c]) 230,.sl hq 102 1 ((qs.map Prod.fst).map dv),.sl hv 231 1 ((vs.map Prod.fst).map dv),.af bg g.cs 27]
theorem y6.len{g:Gl}{role:Int}{i n:Nat}{qs:List (Sl × List Int)}{vs:List (Sl × List Ar)}(h:y6 g role i qs vs){q:Sl × List Int}(hq:qs[n]?=some q):q.2.length<=g.es.length:=by
 rw[h.q n q hq];exact iX (List.length_filterMap_le _ _) (by rw[Yu];omega)
theorem y6.aea{g:Gl}{role:Int}{i n:Nat}{qs:List (Sl × List Int)}{vs:List (Sl × List Ar)}(h:y6 g role i qs vs){q:Sl × List Ar}(hq:vs[n]?=some q):q.2.length<=g.es.length:=by
 rw[h.v n q hq];exact iX (List.length_filterMap_le _ _) (by rw[Yu];omega)
theorem y6.Xl{g:Gl}{role:Int}{i m:Nat}{qs:List (Sl × List Int)}{vs:List (Sl × List Ar)}{x:Ed}{q:Sl × List Int}{r:Sl}(h:y6 g role i qs vs)(hx:g.es[i]?=some x)(hn:aG role x=none)(hm:x.f=(m:Int))(hq:qs[m]?=some q):y6 g role (i+1) (qs.set m (r,q.2++[x.t])) vs:=by
 refine⟨by rw[lh];exact h.ql,h.vl,fun n q' gX=>?_,fun n q' gX=>?_⟩
 .rw[ae hx,oh];by_cases e:n=m
  .subst e;rw[Yq (Ya.1 hq).1] at gX;cases gX;rw[if_pos hm,hn];show q.2++[x.t]=_;rw[h.q n q hq]
  .rw[Yy (fun h=>e h.symm)] at gX;rw[if_neg (by omega),Yw];exact h.q n q' gX
 .rw[ae hx,sE,hn];rw[show (if x.f=(n:Int) then [] else []:List Ar)=[] by split<;>rfl,Yw];exact h.v n q' gX
theorem y6.OD{g:Gl}{role:Int}{i m:Nat}{qs:List (Sl × List Int)}{vs:List (Sl × List Ar)}{x:Ed}{q:Sl × List Ar}{r:Sl}{e:Ev}(h:y6 g role i qs vs)(hx:g.es[i]?=some x)(hn:aG role x=some e)(hm:x.f=(m:Int))(hq:vs[m]?=some q):y6 g role (i+1) qs (vs.set m (r,q.2++[⟨e,x.t⟩])):=by
 refine⟨h.ql,by rw[lh];exact h.vl,fun n q' gX=>?_,fun n q' gX=>?_⟩
 .rw[ae hx,oh,hn];rw[show (if x.f=(n:Int) then [] else []:List Int)=[] by split<;>rfl,Yw];exact h.q n q' gX
 .rw[ae hx,sE];by_cases e:n=m
  .subst e;rw[Yq (Ya.1 hq).1] at gX;cases gX;rw[if_pos hm,hn];show q.2++[_]=_;rw[h.v n q hq]
  .rw[Yy (fun h=>e h.symm)] at gX;rw[if_neg (by omega),Yw];exact h.v n q' gX
theorem y6.start(g:Gl)(role:Int):y6 g role 0 (List.replicate g.n.toNat (⟨none,0,0⟩,[])) (List.replicate g.n.toNat (⟨none,0,0⟩,[])):=
 ⟨by rw[Yg],by rw[Yg],fun n q hq=>by rw[List.eq_of_mem_replicate (Yb hq)];rfl,fun n q hq=>by rw[List.eq_of_mem_replicate (Yb hq)];rfl⟩
theorem va{α β:Type}(Q:List (α × β))(i:Nat)(r:α)(d:β):(Q.set i (r,d)).map Prod.fst=(Q.map Prod.fst).set i r:=List.map_set
theorem EB{α β:Type}[Inhabited α](Q:List α)(f:α->β):Q.map f=(List.range Q.length).map fun i=>f (Q.getD i default):=by
 apply y4;intro i;rw[Yd,Yd];by_cases h:i<Q.length
 .rw[vk h,Yi h];simp[Yo,Yi h]
 .rw[Yl (by omega),Yl (by rw[kv];omega)];rfl
instance {α:Type}:Inhabited (Sl × List α):=⟨⟨⟨none,0,0⟩,[]⟩⟩
theorem y6.fin{g:Gl}{role:Int}{i:Nat}{h0 h:Heap}{b bg:Nat}{hq hv:Sl}{qs:List (Sl × List Int)}{vs:List (Sl × List Ar)}(hL:y6 g role i qs vs)(hi:g.es.length<=i)
  (hs:St h0 h (s8 g role b bg hq hv qs vs++qs.map (nest 3 1 aM)++vs.map (nest 233 4 Ar.cs))) (lq:hq.n=g.n.toNat) (Gd:hv.n=g.n.toNat):PI h ⟨b,0,none⟩ g role:=by
 have key:∀ {α:Type} (Q:List (Sl × List α)),(Q.map Prod.fst).map dv=(List.range Q.length).map fun i=>dv ((Q.getD i default).1):=fun Q=>by rw[List.map_map,EB];rfl
 refine⟨hq,hv,fun i=>(qs.getD i default).1,fun i=>(vs.getD i default).1,rfl,hs.at 0 rfl (n:=11) rfl,lq,Gd,?_,?_,fun i M5=>?_,fun i M5=>?_⟩
 .have:=hs.rw 1 rfl (by omega);rw[key,hL.ql] at this;exact this
 .have:=hs.rw 2 rfl (by omega);rw[key,hL.vl] at this;exact this
 .have mc:i<qs.length:=by rw[hL.ql];exact M5
  have hg:qs[i]?=some (qs.getD i default):=by rw[Yo,Yi mc];rfl
  have:=hs.rw (4+i) (rows:=(qs.getD i default).2.map aM) (s:=(qs.getD i default).1) (e:=3) (n:=1) (by
   have:=mo (P:=s8 g role b bg hq hv qs vs) (Q:=qs.map (nest 3 1 aM)) (R:=vs.map (nest 233 4 Ar.cs)) (i:=i) (by rw[Yc];exact mc);rw[show (s8 g role b bg hq hv qs vs).length=4 from rfl] at this;rw[this,Yd,hg];rfl) (by omega)
  rw[hL.q i _ hg,Yj hi] at this;exact this
 .have mc:i<vs.length:=by rw[hL.vl];exact M5
  have hg:vs[i]?=some (vs.getD i default):=by rw[Yo,Yi mc];rfl
  have:=hs.rw ((s8 g role b bg hq hv qs vs++qs.map (nest 3 1 aM)).length+i) (rows:=(vs.getD i default).2.map Ar.cs) (s:=(vs.getD i default).1) (e:=233) (n:=4) (by
   rw[sz (by omega),Nat.add_sub_cancel_left,Yd,hg];rfl) (by omega)
  rw[hL.v i _ hg,Yj hi] at this;exact this
theorem QC(g:Gl)(role:Int)(h:Heap)(hg:GI h g)(hx:Gm h):
  Fn Pz 63 #[g.v,.int .i64 role] h fun v h'=>Ext h h'/\((¬(ah g/\0<=role/\role<g.rs.length)/\v=.tuple ⟨[.pointer none,.int .i64 1]⟩) \/
   ((ah g/\0<=role/\role<g.rs.length)/\∃b,h.size<=b/\v=.tuple ⟨[.pointer (some ⟨b,0,none⟩),.int .i64 0]⟩/\PI h' ⟨b,0,none⟩ g role)):=by
 apply ade (bs g.nm) g.hr g.hd g.n g.s g.e g.he g.ht;unfold W63 Ts Tq Tr;have hs:=St.refl h;have hn:=hg.e.ln;have hnr:=hg.r.ln;have yS:=hg.e.sm;refine hs.ao fun h9 hs=>?_;refine⟨_,_,_,_,_,_,_,_,hs.at 0 rfl (n:=8) rfl,?_⟩;refine (pK g _ (hg.ext hs.ext) (hx.ext hs.ext)).mono ?_;rintro _ az ⟨rfl,Eh20⟩;replace hs:=hs.step Eh20;refine⟨_,rfl,?_⟩;refine aa (fun c1=>?_) (fun c1=>?_)
 .exact⟨hs.ext,.inl ⟨fun hG=>eI (bF c1) hG.1,rfl⟩⟩
 .have hV:=cd (bT c1);refine aQ (fun c2=>?_) (fun c2=>?_)
  .exact⟨hs.ext,.inl ⟨fun hG=>by omega,rfl⟩⟩
  .refine⟨_,hs.rd 0 rfl rfl,?_⟩;refine aQ (fun c3=>?_) (fun c3=>?_)
   .exact⟨hs.ext,.inl ⟨fun hG=>by omega,rfl⟩⟩
   .refine⟨_,_,_,_,_,_,_,_,hs.at 0 rfl (n:=8) rfl,?_⟩;refine⟨_,hs.rd 0 rfl rfl,?_⟩;refine⟨_,hs.rd 0 rfl rfl,?_⟩;have hb:=hV.num.n;have hE:=hV.num.e;have hm4:=hV.num.m;have fin:ah g/\0<=role/\role<g.rs.length:=⟨hV,by omega,by omega⟩;rw[Qw,My];have MQ:∀ {α:Type},((List.replicate g.n.toNat ((⟨none,0,0⟩,[]):Sl × List α)).map Prod.fst)=List.replicate g.n.toNat (⟨none,0,0⟩:Sl):=List.map_replicate;have sh:g.n.toNat<=maxLen:=by simp only[maxLen];omega
    refine⟨?_,?_⟩;refine⟨by omega,?_⟩;refine hs.aq fun CC E32 hs=>⟨E32.sm,?_⟩;have hs:=hs.dz g.n.toNat 1 _ rfl (uf _) (by rw[Yc,Yg]) sh;refine⟨by omega,?_⟩;refine hs.aq fun pG E33 hs=>⟨E33.sm,?_⟩;have hs:=hs.dz g.n.toNat 1 _ rfl (uf _) (by rw[Yc,Yg]) sh;have hle:h.size<=pG.size:=hs.ext.1;refine hs.ao fun kP hs=>?_;have hs:St h kP (s8 g role pG.size h.size ⟨some ⟨az.size,0,none⟩,g.n.toNat,g.n.toNat⟩ ⟨some ⟨CC.size,0,none⟩,g.n.toNat,g.n.toNat⟩ (List.replicate g.n.toNat (⟨none,0,0⟩,[])) (List.replicate g.n.toNat (⟨none,0,0⟩,[]))++(List.replicate g.n.toNat ((⟨none,0,0⟩,[]):Sl × List Int)).map (nest 3 1 aM)++(List.replicate g.n.toNat ((⟨none,0,0⟩,[]):Sl × List Ar)).map (nest 233 4 Ar.cs)):=by
     have h1:St h kP (s8 g role pG.size h.size ⟨some ⟨az.size,0,none⟩,g.n.toNat,g.n.toNat⟩ ⟨some ⟨CC.size,0,none⟩,g.n.toNat,g.n.toNat⟩ (List.replicate g.n.toNat (⟨none,0,0⟩,[])) (List.replicate g.n.toNat (⟨none,0,0⟩,[]))++[]):=by
      unfold s8;rw[MQ,MQ];exact hs.perm (.cons _ (.swap _ _ _))
     have h2:=h1.kh (α:=Ar) (e:=233) (k:=4) (cs:=Ar.cs) g.n.toNat;rw[Yw] at h2;exact h2.kh (α:=Int) (e:=3) (k:=1) (cs:=aM) g.n.toNat
    generalize esq:(⟨some ⟨az.size,0,none⟩,g.n.toNat,g.n.toNat⟩:Sl)=sq at hs;have nsq:sq.n=g.n.toNat:=by rw[<-esq]
    clear esq;generalize esv:(⟨some ⟨CC.size,0,none⟩,g.n.toNat,g.n.toNat⟩:Sl)=sv at hs;rotate_left;refine⟨by omega,?_⟩;refine hs.aq fun CC E32 hs=>⟨E32.sm,?_⟩;have hs:=hs.dz g.n.toNat 1 _ rfl (uf _) (by rw[Yc,Yg]) sh;refine⟨by omega,?_⟩;refine hs.aq fun pG E33 hs=>⟨E33.sm,?_⟩;have hs:=hs.dz g.n.toNat 1 _ rfl (uf _) (by rw[Yc,Yg]) sh;have hle:h.size<=pG.size:=hs.ext.1;refine hs.ao fun kP hs=>?_;have hs:St h kP (s8 g role pG.size h.size ⟨some ⟨CC.size,0,none⟩,g.n.toNat,g.n.toNat⟩ ⟨some ⟨az.size,0,none⟩,g.n.toNat,g.n.toNat⟩ (List.replicate g.n.toNat (⟨none,0,0⟩,[])) (List.replicate g.n.toNat (⟨none,0,0⟩,[]))++(List.replicate g.n.toNat ((⟨none,0,0⟩,[]):Sl × List Int)).map (nest 3 1 aM)++(List.replicate g.n.toNat ((⟨none,0,0⟩,[]):Sl × List Ar)).map (nest 233 4 Ar.cs)):=by
     have h1:St h kP (s8 g role pG.size h.size ⟨some ⟨CC.size,0,none⟩,g.n.toNat,g.n.toNat⟩ ⟨some ⟨az.size,0,none⟩,g.n.toNat,g.n.toNat⟩ (List.replicate g.n.toNat (⟨none,0,0⟩,[])) (List.replicate g.n.toNat (⟨none,0,0⟩,[]))++[]):=by
      unfold s8;rw[MQ,MQ];exact hs
     have h2:=h1.kh (α:=Ar) (e:=233) (k:=4) (cs:=Ar.cs) g.n.toNat;rw[Yw] at h2;exact h2.kh (α:=Int) (e:=3) (k:=1) (cs:=aM) g.n.toNat
    generalize esq:(⟨some ⟨CC.size,0,none⟩,g.n.toNat,g.n.toNat⟩:Sl)=sq at hs;have nsq:sq.n=g.n.toNat:=by rw[<-esq]
    clear esq;generalize esv:(⟨some ⟨az.size,0,none⟩,g.n.toNat,g.n.toNat⟩:Sl)=sv at hs;all_goals
     have nsv:sv.n=g.n.toNat:=by rw[<-esv]
     clear esv;refine⟨_,hs.rd 3 rfl rfl,?_⟩;refine bU (n:=g.he.n) (fun i h'=>∃qs vs,y6 g role i qs vs/\St h h' (s8 g role pG.size h.size sq sv qs vs++qs.map (nest 3 1 aM)++vs.map (nest 233 4 Ar.cs))) ⟨_,_,y6.start g role,hs⟩ ?_;rintro-i km hi ⟨qs,vs,hL,hs⟩;refine aa (fun l=>?_) (fun l=>?_)
     .replace l:=bw l;refine (hg.e.ext hs.ext).rw.ax (by omega) (by omega) fun b41 o42 x Uu t41=>?_;replace Uu:g.es[i]?=some x:=Uu;have tn:=hE x (Yb Uu);unfold fp at tn;obtain⟨m,hm⟩:∃m:Nat,x.f=m:=⟨x.f.toNat,by omega⟩;obtain⟨q,hq⟩:=get_some (l:=qs) (i:=m) (by rw[hL.ql];omega);obtain⟨v,hv⟩:=get_some (l:=vs) (i:=m) (by rw[hL.vl];omega);have Au:=hL.len hq;have KV:=hL.aea hv;have lq:q.1.n=q.2.length:=by
       have:=hs.len (4+m) (s:=q.1) (e:=3) (n:=1) (rows:=q.2.map aM) (by
        have:=mo (P:=s8 g role pG.size h.size sq sv qs vs) (Q:=qs.map (nest 3 1 aM)) (R:=vs.map (nest 233 4 Ar.cs)) (i:=m) (by rw[Yc];exact (Ya.1 hq).1);rw[show (s8 g role pG.size h.size sq sv qs vs).length=4 from rfl] at this;rw[this,Yd,hq];rfl) (by omega)
       rw[this.1,Yc]
      have Gd:v.1.n=v.2.length:=by
       have:=hs.len ((s8 g role pG.size h.size sq sv qs vs++qs.map (nest 3 1 aM)).length+m) (s:=v.1) (e:=233) (n:=4) (rows:=v.2.map Ar.cs) (by
        rw[sz (by omega),Nat.add_sub_cancel_left,Yd,hv];rfl) (by omega)
       rw[this.1,Yc]
      refine⟨_,_,_,_,_,_,t41,?_⟩;refine hs.aj (vs:=x.cs) rfl rfl fun j7 hs=>?_;refine⟨_,hs.rd 0 rfl rfl,?_⟩;refine eS (fun c4=>?_) (fun c4=>?_)
      .have gW:aG role x=some ⟨true,x.b,x.l⟩:=by unfold aG;rw[if_pos c4]
       refine⟨_,hs.rd 1 rfl rfl,?_⟩;refine⟨_,hs.rd 0 rfl rfl,?_⟩;refine⟨_,hs.rd 1 rfl rfl,?_⟩;refine⟨_,hs.rd 0 rfl rfl,?_⟩;refine (hs.rows 3 rfl (by omega)).ax (cs:=dv) (L:=vs.map Prod.fst) (by omega) (by omega) fun ZX Xi d56 Po t56=>?_;have ed:d56=v.1:=by
        rw[hm,show ((m:Int)).toNat=m from rfl,Yd,hv] at Po;exact (eP Po).symm
       subst ed;refine⟨_,t56.hd,?_⟩;refine⟨_,hs.rd 0 rfl rfl,?_⟩;refine⟨_,hs.rd 0 rfl rfl,?_⟩;refine⟨_,hs.rd 0 rfl rfl,?_⟩;refine hs.aq fun Cz E62 hs=>⟨E62.sm,?_⟩;have cj:St h Cz ((.af j7.size (Ar.cs ⟨⟨true,x.b,x.l⟩,x.t⟩) 233 :: .af km.size x.cs 67::(s8 g role pG.size h.size sq sv qs vs++qs.map (nest 3 1 aM)))++vs.map (nest 233 4 Ar.cs)++[]):=by rw[Yw];exact hs
       refine cj.iw hv JI (⟨⟨true,x.b,x.l⟩,x.t⟩:Ar) (cj.at 0 rfl (n:=4) rfl) rfl rfl (by omega) (by simp only[maxLen];omega) fun r tw hr eO=>?_;rw[Yw] at eO;refine⟨bG (cj.same eO 1 1 rfl rfl) (bG (cj.same eO 2 2 rfl rfl) eJ),?_⟩;refine eO.set 4 (cs:=dv) (l:=vs.map Prod.fst) rfl (by omega) (by omega) (by omega) r rfl rfl (fun b o IH gN=>?_) rfl;refine Up.next l (by omega) ⟨qs,vs.set m (r,v.2++[⟨⟨true,x.b,x.l⟩,x.t⟩]),hL.OD Uu gW hm hv,?_⟩;rw[hm] at gN;have Aq:=gN.drop 2;unfold s8;rw[va];exact Aq
      .refine⟨_,hs.rd 0 rfl rfl,?_⟩;refine eS (fun c5=>?_) (fun c5=>?_)
       .have gW:aG role x=some ⟨false,x.a,x.l⟩:=by unfold aG;rw[if_neg c4,if_pos c5]
        refine⟨_,hs.rd 1 rfl rfl,?_⟩;refine⟨_,hs.rd 0 rfl rfl,?_⟩;refine⟨_,hs.rd 1 rfl rfl,?_⟩;refine⟨_,hs.rd 0 rfl rfl,?_⟩;refine (hs.rows 3 rfl (by omega)).ax (cs:=dv) (L:=vs.map Prod.fst) (by omega) (by omega) fun ZX Xi d56 Po t56=>?_;have ed:d56=v.1:=by
         rw[hm,show ((m:Int)).toNat=m from rfl,Yd,hv] at Po;exact (eP Po).symm
        subst ed;refine⟨_,t56.hd,?_⟩;refine⟨_,hs.rd 0 rfl rfl,?_⟩;refine⟨_,hs.rd 0 rfl rfl,?_⟩;refine⟨_,hs.rd 0 rfl rfl,?_⟩;refine hs.aq fun Cz E62 hs=>⟨E62.sm,?_⟩;have cj:St h Cz ((.af j7.size (Ar.cs ⟨⟨false,x.a,x.l⟩,x.t⟩) 233 :: .af km.size x.cs 67::(s8 g role pG.size h.size sq sv qs vs++qs.map (nest 3 1 aM)))++vs.map (nest 233 4 Ar.cs)++[]):=by rw[Yw];exact hs
        refine cj.iw hv JI (⟨⟨false,x.a,x.l⟩,x.t⟩:Ar) (cj.at 0 rfl (n:=4) rfl) rfl rfl (by omega) (by simp only[maxLen];omega) fun r tw hr eO=>?_;rw[Yw] at eO;refine⟨bG (cj.same eO 1 1 rfl rfl) (bG (cj.same eO 2 2 rfl rfl) eJ),?_⟩;refine eO.set 4 (cs:=dv) (l:=vs.map Prod.fst) rfl (by omega) (by omega) (by omega) r rfl rfl (fun b o IH gN=>?_) rfl;refine Up.next l (by omega) ⟨qs,vs.set m (r,v.2++[⟨⟨false,x.a,x.l⟩,x.t⟩]),hL.OD Uu gW hm hv,?_⟩;rw[hm] at gN;have Aq:=gN.drop 2;unfold s8;rw[va];exact Aq
       .have gW:aG role x=none:=by unfold aG;rw[if_neg c4,if_neg c5]
        refine⟨_,hs.rd 1 rfl rfl,?_⟩;refine⟨_,hs.rd 0 rfl rfl,?_⟩;refine⟨_,hs.rd 1 rfl rfl,?_⟩;refine⟨_,hs.rd 0 rfl rfl,?_⟩;refine (hs.rows 2 rfl (by omega)).ax (cs:=dv) (L:=qs.map Prod.fst) (by omega) (by omega) fun ZX Xi d56 Po t56=>?_;have ed:d56=q.1:=by
         rw[hm,show ((m:Int)).toNat=m from rfl,Yd,hq] at Po;exact (eP Po).symm
        subst ed;refine⟨_,t56.hd,?_⟩;refine⟨_,hs.rd 0 rfl rfl,?_⟩;refine hs.aq fun Cz E62 hs=>⟨E62.sm,?_⟩;have cj:St h Cz ((.af j7.size (aM x.t) 3 :: .af km.size x.cs 67::s8 g role pG.size h.size sq sv qs vs)++qs.map (nest 3 1 aM)++vs.map (nest 233 4 Ar.cs)):=hs;refine cj.iw hq dt x.t (cj.at 0 rfl (n:=1) rfl) rfl rfl (by omega) (by simp only[maxLen];omega) fun r tw hr eO=>⟨bG (cj.same eO 1 1 rfl rfl) (bG (cj.same eO 2 2 rfl rfl) eJ),?_⟩;refine eO.set 3 (cs:=dv) (l:=qs.map Prod.fst) rfl (by omega) (by omega) (by omega) r rfl rfl (fun b o IH gN=>?_) rfl;refine Up.next l (by omega) ⟨qs.set m (r,q.2++[x.t]),vs,hL.Xl Uu gW hm hq,?_⟩;unfold s8;rw[va];rw[hm] at gN;exact gN.drop 2
     .replace l:=bz l;refine⟨hs.ext,.inr ⟨fin,pG.size,hle,rfl,hL.fin (by omega) hs nsq nsv⟩⟩
theorem HM(n:Nat):ak Pz 4 n=(List.replicate n false).map Value.bool:=by
 have e:bN Pz 4=[.bool false]:=by kernel_rfl
 unfold ak;rw[e,List.map_replicate]
 induction n with
 | zero=>rfl
 | succ n ih=>rw[List.replicate_succ,List.replicate_succ,pI,ih];rfl
theorem SI.congr{ws:List Nat}{k:Nat}{p q:Nat->Bool}(h:SI ws k p)(e:p=q):SI ws k q:=e ▸ h
theorem yg(g:Gl)(role:Int)(b:Nat)(l:List Int)(s:Sl)(h:Heap)(hl:PI h ⟨b,0,none⟩ g role)(hV:ah g)(hr:Rw h 1 s (l.map aM))(hb:∀x∈l,0<=x/\x<g.n)(yS:l.length<=1048576):
  Fn Pz 64 #[.pointer (some ⟨b,0,none⟩),.slice s.a s.n s.c] h fun v h'=>Ext h h'/\∃(c k:Nat) (ws:List Nat),v=.slice (some ⟨c,0,none⟩) k k/\h.size<=c/\Own h' c (ws.map wC).flatten 144/\SI ws k (eD g.es role l):=by
 apply adb;unfold W64 Tp;have hs:=St.refl h;have hn:=hr.ln;have hN:=hV.num.n;have hE:=hV.num.e;obtain⟨hq,hv,qs,vs,h1,h2,h3,h4,h5,h6,h7,h8⟩:=hl.ex;clear hl;refine⟨_,h2.nth 3 rfl,by omega,?_⟩;rw[HM];refine hs.ao fun RQ hs=>?_;have hs:=hs.cn 3 1;refine⟨fun todo x h' m=>∃(i:Nat) (D:List Bool) (T:List Int),x=i/\m=s.n-i/\i<=s.n/\St h h' [.sl todo 3 1 (T.map aM),.af h.size (D.map Value.bool) 4]/\CL g.es role g.n.toNat l D T/\∀x∈l.take i,x∈T,⟨_,0,_,[],rfl,rfl,by omega,hs,CL.start _ _ _ _,fun x hx=>by rw[iY] at hx;cases hx⟩,?_⟩;rintro-todo_6 _ h8' m ⟨i,D,T,rfl,rfl,hi,hs,hC,hT⟩;have EP:=(hs.rows 0 rfl (by omega)).ln;have hle:=hC.le;have hDl:=hC.len;refine aQ (fun c1=>?_) (fun c1=>?_)
 .refine (hr.ext hs.ext).ax (by omega) (by omega) fun b9 o10 d9 g9 t9=>?_;replace g9:l[i]?=some d9:=g9;have hd:=hb d9 (Yb g9);refine⟨_,t9.hd,⟨by omega,by omega⟩,?_⟩;obtain⟨y,hy⟩:=get_some (l:=D) (i:=d9.toNat) (by omega);have e0:0+Int.toNat d9*1=d9.toNat:=by omega
  rw[e0];refine⟨_,hs.rd 1 rfl (by rw[uL,hy];rfl),?_⟩;refine aa (fun c2=>?_) (fun c2=>?_)
  .have QL:y=false:=bF c2;subst QL;refine⟨⟨by omega,by omega⟩,?_⟩;refine hs.put 1 rfl (o:=d9.toNat) (vs:=[.bool true]) rfl (by rw[Yc,Yv];omega) fun AB hs=>?_;refine hs.app 0 rfl dt (m:=1) [[.int .i64 d9]] rfl rfl (by simp) rfl (by omega) (by simp only[maxLen];omega) fun s15 fx ahB hs=>?_;refine⟨_,by omega,i+1,D.set d9.toNat true,T++[d9],by rw[bd (by omega) (by omega)];omega,rfl,by omega,?_,hC.push hd.1 hy (.base (Yb g9)),fun x hx=>?_⟩
   .rw[Ym,<-cI _ (by omega)];exact hs
   .rw[ae g9] at hx;rw[Yk] at hx ⊢;exact hx.imp (hT x) id
  .have hyt:y=true:=bT c2;subst hyt;refine⟨_,by omega,i+1,D,T,by rw[bd (by omega) (by omega)];omega,rfl,by omega,hs,hC,fun x hx=>?_⟩;rw[ae g9,Yk,Ye] at hx;rcases hx with hx | rfl
   .exact hT x hx
   .exact (hC.mem x).2 ⟨hd.1,hy⟩
 .have Ue:∀x∈l,x∈T:=fun x hx=>hT x (by rw[Yj (by omega)];exact hx);clear hT;refine⟨fun todo x h' m=>∃(i:Nat) (D:List Bool) (T:List Int),x=i/\m=g.n.toNat-i/\i<=T.length/\St h h' [.sl todo 3 1 (T.map aM),.af h.size (D.map Value.bool) 4]/\CL g.es role g.n.toNat l D T/\(∀x∈l,x∈T)/\∀v∈T.take i,∀b∈dH g.es role v.toNat,b∈T,⟨_,0,D,T,rfl,rfl,by omega,hs,hC,Ue,fun v hv=>by rw[iY] at hv;cases hv⟩,?_⟩;clear hs hC EP hle hDl Ue;rintro-todo_22 _ Fm m ⟨i,D,T,rfl,rfl,hi,hs,hC,Ue,dU⟩;have EP:=(hs.rows 0 rfl (by omega)).ln;have hle:=hC.le;refine aQ (fun c2=>?_) (fun c2=>?_)
  .refine⟨_,(dE hs.ext h2).nth 9 rfl,?_⟩;refine (hs.rows 0 rfl (by omega)).ax (by omega) (by omega) fun b26 o27 v Uw t26=>?_;replace Uw:T[i]?=some v:=Uw;have QP:=(hC.mem v).1 (Yb Uw);have KV:v.toNat<g.n.toNat:=by have:=(Ya.1 QP.2).1;have:=hC.len;omega
   refine⟨_,t26.hd,?_⟩;refine (h5.ext hs.ext).ax (by omega) (by omega) fun b29 o30 k g29 t29=>?_;have hk:k=v.toNat:=by rw[vk KV] at g29;exact (eP g29).symm
   subst hk;refine⟨_,t29.hd,?_⟩;have bL:=h7 v.toNat KV;have l8:=bL.ln;have hqb:∀x∈dH g.es role v.toNat,0<=x/\x<g.n:=fun x hx=>by
    obtain⟨e,he,_,_,rfl⟩:=ir.1 hx;have:=hE e he;unfold fp at this;omega
   have Au:(dH g.es role v.toNat).length<=400:=iX (List.length_filterMap_le _ _) hV.num.m;refine⟨fun todo x h' m=>∃(j:Nat) (D:List Bool) (T':List Int),x=j/\m=(qs v.toNat).n-j/\j<=(qs v.toNat).n/\St h h' [.sl todo 3 1 (T'.map aM),.af h.size (D.map Value.bool) 4]/\CL g.es role g.n.toNat l D T'/\(∃R,T'=T++R)/\∀b∈(dH g.es role v.toNat).take j,b∈T',⟨_,0,D,T,rfl,rfl,by omega,hs,hC,⟨[],by simp⟩,fun v hv=>by rw[iY] at hv;cases hv⟩,?_⟩;clear hs hC EP hle;rintro-todo_35 _ oK m ⟨j,D,T',rfl,rfl,hj,hs,hC,⟨R,rfl⟩,hcl2⟩;have EP:=(hs.rows 0 rfl (by omega)).ln;have hle:=hC.le;have hDl:=hC.len;refine aQ (fun c3=>?_) (fun c3=>?_)
   .refine (bL.ext hs.ext).ax (by omega) (by omega) fun b38 o39 y No t38=>?_;replace No:(dH g.es role v.toNat)[j]?=some y:=No;have hy:=hqb y (Yb No);refine⟨_,t38.hd,⟨by omega,by omega⟩,?_⟩;obtain⟨z,hz⟩:=get_some (l:=D) (i:=y.toNat) (by omega);have e0:0+Int.toNat y*1=y.toNat:=by omega
    rw[e0];refine⟨_,hs.rd 1 rfl (by rw[uL,hz];rfl),?_⟩;refine aa (fun c4=>?_) (fun c4=>?_)
    .have TY:z=false:=bF c4;subst TY;refine⟨⟨by omega,by omega⟩,?_⟩;refine hs.put 1 rfl (o:=y.toNat) (vs:=[.bool true]) rfl (by rw[Yc,Yv];omega) fun vO hs=>?_;refine hs.app 0 rfl dt (m:=1) [[.int .i64 y]] rfl rfl (by simp) rfl (by omega) (by simp only[maxLen];omega) fun s44 CA ahy hs=>?_;have MW:Qr g.es role l y:=by
      obtain⟨e,he,h9,cw,rfl⟩:=ir.1 (Yb No);exact .step (hC.r v (by rw[Yk];exact .inl (Yb Uw))) ⟨e,he,h9,by omega,rfl⟩
     refine⟨_,by omega,j+1,D.set y.toNat true,T++R++[y],by rw[bd (by omega) (by omega)];omega,rfl,by omega,?_,hC.push hy.1 hz MW,⟨R++[y],by rw[Yz]⟩,fun x hx=>?_⟩
     .rw[Ym,<-cI _ (by omega)];exact hs
     .rw[ae No] at hx;rw[Yk] at hx ⊢;exact hx.imp (hcl2 x) id
    .have hzt:z=true:=bT c4;subst hzt;refine⟨_,by omega,j+1,D,T++R,by rw[bd (by omega) (by omega)];omega,rfl,by omega,hs,hC,⟨R,rfl⟩,fun x hx=>?_⟩;rw[ae No,Yk,Ye] at hx;rcases hx with hx | rfl
     .exact hcl2 x hx
     .exact (hC.mem x).2 ⟨hy.1,hz⟩
   .rw[Yj (by omega)] at hcl2;have mc:=(Ya.1 Uw).1;rw[Yh] at hle;refine⟨_,by omega,i+1,D,T++R,by rw[bd (by omega) (by omega)];omega,rfl,by rw[Yh];omega,hs,hC,fun x hx=>by rw[Yk];exact .inl (Ue x hx),fun w hw b hb=>?_⟩;rw[PG (by omega),ae Uw,Yk,Ye] at hw;rcases hw with hw | rfl
    .rw[Yk];exact .inl (dU w hw b hb)
    .exact hcl2 b hb
  .rw[Yj (by omega)] at dU;refine (Qt T todo_22 Fm (hs.rows 0 rfl (by omega)) (by omega)).mono ?_;rintro _ uU ⟨E,c,k,ws,rfl,hc,ho,hS⟩;refine⟨⟨some ⟨c,0,none⟩,k,k⟩,rfl,(hs.step E).ext,c,k,ws,rfl,iX hs.ext.1 hc,ho,hS.congr ?_⟩
   funext j
   rw[Bool.eq_iff_iff,decide_eq_true_eq,bK,hC.end_ Ue dU];refine⟨fun h=>h.1,fun h=>⟨h,?_⟩⟩;have:=(hC.mem (j:Int)).1 ((hC.end_ Ue dU _).2 h);have h9:=(Ya.1 this.2).1;have cw:=hC.len;omega
theorem Sc(L:List Ev):∀r∈L.map Ev.cs,r.length=3:=fun r hr=>by obtain⟨x,_,rfl⟩:=Yp.1 hr;rfl
theorem S6:cu Pz 127 140 3 24=true:=by kernel_rfl
theorem qG(x:Int)(h:Heap):Fn Pz 111 #[.int .i64 x] h fun v h'=>v=.bool false/\h'=h:=by
 apply GB;unfold JS;exact⟨by rw[bne_self_eq_false],rfl⟩
theorem eC(x y:Int)(h:Heap):Fn Pz 54 #[.int .i64 x,.int .i64 y] h fun v h'=>v=.int .i64 (cB x y)/\h'=h:=by
 apply PT;unfold Z8;refine (qG x h).mono ?_;rintro _ _ ⟨rfl,rfl⟩;refine⟨_,rfl,?_⟩;refine (qG y _).mono ?_;rintro _ _ ⟨rfl,rfl⟩;refine⟨_,rfl,?_⟩;refine im rfl (im rfl ?_);unfold cB;refine aQ (fun c=>?_) (fun c=>aQ (fun d=>?_) (fun d=>?_))
 .exact⟨by rw[if_pos c],rfl⟩
 .exact⟨by rw[if_neg c,if_pos d],rfl⟩
 .exact⟨by rw[if_neg c,if_neg d],rfl⟩
theorem qD(l:List Int)(s:Sl)(h:Heap)(hr:Rw h 1 s (l.map aM))(hm:l.length<=1048576):
  Fn Pz 53 #[.slice s.a s.n s.c] h fun v h'=>v=.int .i64 (l.foldr dI 0)/\h'=h:=by
 apply PU;unfold Z9;have hn:=hr.ln;refine bU (n:=s.n) (fun i h'=>h'=h/\l.foldr dI 0=(l.drop i).foldr dI 0) ⟨rfl,rfl⟩ ?_;rintro-i h5 hi ⟨rfl,hq⟩;refine aa (fun l2=>?_) (fun l2=>?_)
 .replace l2:=bw l2;refine hr.ax (by omega) (by omega) fun b o d g t=>?_;replace g:l[i]?=some d:=g;have hd:l.drop i=d::l.drop (i+1):=by
   obtain⟨hl,he⟩:=Ya.1 g;rw[List.drop_eq_getElem_cons hl,he]
  rw[hd,List.foldr_cons] at hq;refine⟨_,t.hd,?_⟩;refine dY (fun c=>?_) (fun c=>?_)
  .refine⟨?_,rfl⟩;rw[hq];unfold dI;rw[if_pos c]
  .refine Up.next l2 (by omega) ⟨rfl,?_⟩;rw[hq];unfold dI;rw[if_neg (by omega)]
 .replace l2:=bz l2;rw[List.drop_eq_nil_of_le (by omega)] at hq;exact⟨by rw[hq];rfl,rfl⟩
theorem rh(x y:Ev)(h:Heap):Fn Pz 125 #[.agg ⟨x.cs⟩,.agg ⟨y.cs⟩] h fun v h'=>v=.int .i64 (jx x y)/\Ext h h':=by
 apply GA x.send x.peer x.label y.send y.peer y.label;unfold JR;have hs:=St.refl h;refine hs.ao fun h7 hs=>?_;refine hs.ao fun h8 hs=>?_;refine⟨_,hs.rd 1 rfl rfl,?_⟩;refine⟨_,hs.rd 0 rfl rfl,?_⟩;refine aa (fun c=>?_) (fun c=>?_)
 .have bI:x.send≠y.send:=by simpa using c
  refine⟨_,hs.rd 1 rfl rfl,?_⟩;unfold jx;rw[if_pos bI];refine aa (fun d=>?_) (fun d=>?_)
  .exact⟨by rw[if_pos d],hs.ext⟩
  .exact⟨by rw[if_neg (by rw[d];simp)],hs.ext⟩
 .have he:x.send=y.send:=by simpa using c
  refine⟨_,hs.rd 1 rfl rfl,_,hs.rd 0 rfl rfl,_,hs.rd 1 rfl rfl,_,hs.rd 0 rfl rfl,?_⟩;refine (eC _ _ _).mono ?_;rintro _ _ ⟨rfl,rfl⟩;refine⟨_,rfl,fun _ _ _ _ hv=>hv,?_⟩;refine (eC _ _ _).mono ?_;rintro _ _ ⟨rfl,rfl⟩;refine⟨_,rfl,fun _ _ _ _ hv=>hv,?_⟩;refine hs.ao fun cR hs=>?_;have bQ:=hs.dz 2 1 ([cB x.peer y.peer,cB x.label y.label].map aM) rfl (bX _) rfl (by decide);refine (qD [cB x.peer y.peer,cB x.label y.label] _ cR (bQ.rows 0 rfl (by omega)) (show 2<=1048576 by decide)).mono ?_;rintro _ _ ⟨rfl,rfl⟩;refine⟨_,rfl,?_,hs.ext⟩;unfold jx;rw[if_neg (by simpa using he)];show Value.int .i64 (dI _ (dI _ 0))=_;congr 1;unfold dI;split
  .rfl
  .split<;>omega
theorem kT{α:Type}{f:Nat->List α}(L:List Nat){i n:Nat}(h:L[i]?=some n):(L.take (i+1)).flatMap f=(L.take i).flatMap f++f n:=by
 rw[ae h,List.flatMap_append,List.flatMap_singleton]
theorem gQ(es:List Ed)(role:Int):∀(l:List Nat),l.Nodup->(l.flatMap fun n=>bS es role n).length<=es.length
 | l,hl=>by
  induction es with
  | nil=>
   have key:∀l:List Nat,(l.flatMap fun n=>bS [] role n)=[]:=by
    intro l
    induction l with
    | nil=>rfl
    | cons a l ih=>rw[List.flatMap_cons,ih];rfl
   rw[key];exact bu _
  | cons x es ih=>
   have h1:∀n,(bS (x::es) role n).length=(bS es role n).length+(if x.f=(n:Int) then (if (aG role x).isSome then 1 else 0) else 0):=fun n=>by
    unfold bS;rw[List.filterMap_cons];by_cases h:x.f=(n:Int)
    .rw[if_pos h,if_pos h];cases aG role x<;>simp
    .rw[if_neg h,if_neg h];rfl
   have h2:∀l:List Nat,l.Nodup->(l.flatMap fun n=>bS (x::es) role n).length<=(l.flatMap fun n=>bS es role n).length+1:=by
    intro l hl;have h3:∀l:List Nat,l.Nodup->(l.flatMap fun n=>bS (x::es) role n).length<=(l.flatMap fun n=>bS es role n).length+(if x.f.toNat∈l then 1 else 0):=by
     intro l
     induction l with
     | nil=>simp
     | cons a l ihl=>
      intro EW;obtain⟨Gg,EW⟩:=List.nodup_cons.1 EW;have h4:=ihl EW;rw[List.flatMap_cons,List.flatMap_cons,Yh,Yh,h1];by_cases hx:x.f=(a:Int)
      .have KU:x.f.toNat=a:=by omega
       rw[KU,if_neg Gg] at h4;rw[if_pos hx,KU,if_pos (Yx:a∈a::l)];split<;>omega
      .rw[if_neg hx];have:(if x.f.toNat∈l then 1 else 0)<=(if x.f.toNat∈a::l then 1 else 0):=by
        split
        .rw[if_pos (by simp_all)];omega
        .omega
       omega
    have:=h3 l hl;split at this<;>omega
   have:=h2 l hl;rw[jC];omega
theorem gA(p:Nat->Bool):(elems p).Nodup:=List.Nodup.sublist List.filter_sublist List.nodup_range
theorem lz{es:List Ed}{role:Int}{p:Nat->Bool}(i j n:Nat)(h:(elems p)[i]?=some n):(((elems p).take i).flatMap (bS es role)).length+((bS es role n).take j).length<=es.length:=by
 have h1:=gQ es role ((elems p).take (i+1)) ((gA p).sublist (List.take_sublist _ _));rw[kT (f:=bS es role) _ h,Yh] at h1;rw[Yu];omega
theorem iE{α β:Type}(L:List Nat)(f:Nat->List α)(g:α->β):(L.flatMap fun n=>(f n).map g).length=(L.flatMap f).length:=by
 induction L with
 | nil=>rfl
 | cons a L ih=>rw[List.flatMap_cons,List.flatMap_cons,Yh,Yh,ih,Yc]
theorem iK{α β:Type}(L:List Nat)(f:Nat->List α)(g:α->Option β):(L.flatMap fun n=>(f n).filterMap g).length<=(L.flatMap f).length:=by
 induction L with
 | nil=>simp
 | cons a L ih=>
  rw[List.flatMap_cons,List.flatMap_cons,Yh,Yh];have:=List.length_filterMap_le g (f a);omega
theorem tL{p:Nat->Bool}{i:Nat}{d:Int}(g:((elems p).map fun n:Nat=>(n:Int))[i]?=some d):∃n:Nat,(elems p)[i]?=some n/\d=n:=by
 rw[Yd] at g;obtain⟨n,hn,rfl⟩:=rP.1 g;exact⟨n,hn,rfl⟩
theorem sP{n k d:Nat}(g:(List.range n)[k]?=some d):d=k:=by
 have hl:=(Ya.1 g).1;rw[kv] at hl;rw[vk hl] at g;exact (eP g).symm
theorem Ja(g:Gl)(role:Int)(b:Nat)(p:Nat->Bool)(s:Sl)(h:Heap)(hl:PI h ⟨b,0,none⟩ g role)(hV:ah g)(hx:Gx h)(mN:ie h s p)(hp:∀j,p j=true->(j:Int)<g.n):
  Fn Pz 66 #[.pointer (some ⟨b,0,none⟩),.slice s.a s.n s.c] h fun v h'=>Ext h h'/\∃r:Sl,v=.slice r.a r.n r.c/\cF h' h.size 140 3 r ((j8 g.es role p).map Ev.cs).flatten:=by
 apply ada;unfold W66;have hs:=St.refl h;have hm4:=hV.num.m;obtain⟨hq,hv,qs,vs,h1,h2,h3,h4,h5,h6,h7,h8⟩:=hl.ex;clear hl;refine (Ae p s h hx mN).mono ?_;rintro _ hA ⟨EA,QA,rfl,ho⟩;replace hs:=hs.xK EA ho (bX _);refine⟨_,rfl,?_⟩;have Cn:=(hs.rows 0 rfl (by omega)).ln;rw[Yc] at Cn;have Uh:(elems p).length<=4096:=iX (List.length_filter_le _ _) (by rw[kv];omega);have hs:=hs.cn 140 3;refine dV (n:=QA.n) hs (fun i rows=>rows=(((elems p).take i).flatMap fun n=>(bS g.es role n).map (·.x)).map Ev.cs) rfl ?_;rintro-i out h9 rows hi hs rfl;refine aa (fun l=>?_) (fun l=>?_)
 .replace l:=bw l;refine (hs.rows 1 rfl (by omega)).ax (by omega) (by omega) fun b10 TM d10 g10 t10=>?_;obtain⟨n,hn,rfl⟩:=tL (i:=i) g10;refine⟨_,t10.hd,?_⟩;have xv:=hp n (br.1 (Yb hn)).2;refine⟨_,(dE hs.ext h2).nth 10 rfl,?_⟩;refine (h6.ext hs.ext).ax (by omega) (by omega) fun b14 o15 k g14 t14=>?_;have hk:=sP g14;rw[show ((n:Int)).toNat=n from rfl] at hk;subst hk;refine⟨_,t14.hd,?_⟩;have bL:=h8 k (by omega);have l8:=bL.ln;have KV:(bS g.es role k).length<=g.es.length:=List.length_filterMap_le _ _;refine dV (n:=(vs k).n) hs (fun j rows=>rows=((((elems p).take i).flatMap fun n=>(bS g.es role n).map (·.x))++((bS g.es role k).take j).map (·.x)).map Ev.cs) (by simp) ?_;rintro-j Xg cR rows2 hj hs rfl;refine aa (fun l2=>?_) (fun l2=>?_)
  .replace l2:=bw l2;refine (bL.ext hs.ext).ax (by omega) (by omega) fun b23 o24 a g23 t23=>?_;replace g23:(bS g.es role k)[j]?=some a:=g23;refine⟨_,_,_,_,t23,?_⟩;refine hs.aj (vs:=a.cs) rfl rfl fun y3 hs=>?_;refine⟨_,_,_,hs.at 0 rfl (n:=3) rfl,?_⟩;have hlen:=(hs.len 1 rfl (by omega)).1;rw[Yc,Yh,Yc,iE] at hlen;have hle:=lz (es:=g.es) (role:=role) i j k hn;refine hs.app 1 rfl S6 (m:=1) [a.x.cs] rfl rfl (fun r hr=>by rw[Ye] at hr;rw[hr];rfl) rfl (by omega) (by simp only[maxLen];omega) fun s35 fO adX hs=>?_;refine A8.next l2 (by omega) ⟨_,hs.drop 1,?_⟩;rw[ae g23,Ym,Ym,Ym,Ym,Yz];rfl
  .replace l2:=bz l2;refine A8.next l (by omega) ⟨_,hs,?_⟩;rw[Yj (l:=bS g.es role k) (by omega),kT _ hn]
 .replace l:=bz l;rw[Yj (by omega)] at hs;have QO:((elems p).flatMap fun n=>(bS g.es role n).map (·.x)).length<=1048576:=by
   rw[iE];exact iX (gQ g.es role (elems p) (gA p)) (by omega)
  refine (LJ hs 0 rfl QO).mono ?_;rintro _ km ⟨rfl,l',Ck,hsrt,hs⟩;refine⟨rfl,?_⟩;refine (AQ hs 0 rfl (by rw[Ck.length_eq];exact QO)).mono ?_;rintro _ RM ⟨r,rfl,hs⟩;refine⟨_,rfl,hs.ext,r,rfl,?_⟩;have:=hs.RV 0 rfl;rw[kr Ck hsrt] at this;exact this
theorem NU(g:Gl)(role:Int)(b:Nat)(p:Nat->Bool)(x:Ev)(s:Sl)(h:Heap)(hl:PI h ⟨b,0,none⟩ g role)(hV:ah g)(hx:Gx h)(mN:ie h s p)(hp:∀j,p j=true->(j:Int)<g.n):
  Fn Pz 75 #[.pointer (some ⟨b,0,none⟩),.slice s.a s.n s.c,.agg ⟨x.cs⟩] h fun v h'=>Ext h h'/\∃(c k:Nat) (ws:List Nat),v=.slice (some ⟨c,0,none⟩) k k/\h.size<=c/\Own h' c (ws.map wC).flatten 144/\SI ws k (eD g.es role (jZ g.es role p x)):=by
 apply acT ⟨b,0,none⟩ s x.send x.peer x.label;unfold W75;have hs:=St.refl h;have hm4:=hV.num.m;have hE:=hV.num.e;have oE:=hl;obtain⟨hq,hv,qs,vs,h1,h2,h3,h4,h5,h6,h7,h8⟩:=hl.ex;clear hl;refine hs.ao fun h4' hs=>?_;refine (Ae p s h4' (hx.ext hs.ext) (mN.ext hs.ext)).mono ?_;rintro _ hA ⟨EA,QA,rfl,ho⟩;replace hs:=hs.xK EA ho (bX _);refine⟨_,rfl,?_⟩;have Cn:=(hs.rows 0 rfl (by omega)).ln;rw[Yc] at Cn;have Uh:(elems p).length<=4096:=iX (List.length_filter_le _ _) (by rw[kv];omega);have hs:=hs.cn 3 1;refine dV (n:=QA.n) hs (fun i rows=>rows=(((elems p).take i).flatMap fun n=>(bS g.es role n).filterMap fun a=>if a.x=x then some a.to else none).map aM) rfl ?_;rintro-i out AB rows hi hs rfl;refine aa (fun l=>?_) (fun l=>?_)
 .replace l:=bw l;refine (hs.rows 1 rfl (by omega)).ax (by omega) (by omega) fun b10 TM d10 g10 t10=>?_;obtain⟨n,hn,rfl⟩:=tL (i:=i) g10;refine⟨_,t10.hd,?_⟩;have xv:=hp n (br.1 (Yb hn)).2;refine⟨_,(dE hs.ext h2).nth 10 rfl,?_⟩;refine (h6.ext hs.ext).ax (by omega) (by omega) fun b14 o15 k g14 t14=>?_;have hk:=sP g14;rw[show ((n:Int)).toNat=n from rfl] at hk;subst hk;refine⟨_,t14.hd,?_⟩;have bL:=h8 k (by omega);have l8:=bL.ln;have KV:(bS g.es role k).length<=g.es.length:=List.length_filterMap_le _ _;refine dV (n:=(vs k).n) hs (fun j rows=>rows=((((elems p).take i).flatMap fun n=>(bS g.es role n).filterMap fun a=>if a.x=x then some a.to else none)++((bS g.es role k).take j).filterMap fun a=>if a.x=x then some a.to else none).map aM) (by simp) ?_;rintro-j Xg Fl rows2 hj hs rfl;refine aa (fun l2=>?_) (fun l2=>?_)
  .replace l2:=bw l2;refine (bL.ext hs.ext).ax (by omega) (by omega) fun b23 o24 a g23 t23=>?_;replace g23:(bS g.es role k)[j]?=some a:=g23;refine⟨_,_,_,_,t23,?_⟩;refine hs.aj (vs:=a.cs) rfl rfl fun y3 hs=>?_;refine⟨_,_,_,hs.at 0 rfl (n:=3) rfl,?_⟩;refine⟨_,_,_,hs.at 3 rfl (n:=3) rfl,?_⟩;have aeJ:((a.x.send==x.send)&&((a.x.peer==x.peer)&&((a.x.label==x.label)&&true)))=decide (a.x=x):=by
    rw[Bool.eq_iff_iff,decide_eq_true_eq];simp only[Yt,beq_iff_eq,and_true];exact⟨fun ⟨e1,e2,e3⟩=>Jb e1 e2 e3,fun e=>by rw[e];exact⟨rfl,rfl,rfl⟩⟩
   rw[aeJ];have hlen:=(hs.len 1 rfl (by omega)).1;rw[Yc,Yh] at hlen;have YJ:=iK ((elems p).take i) (bS g.es role) (fun a:Ar=>if a.x=x then some a.to else none);have Ug:=List.length_filterMap_le (fun a:Ar=>if a.x=x then some a.to else none) ((bS g.es role k).take j);have hle:=lz (es:=g.es) (role:=role) i j k hn;refine aQ (fun c=>?_) (fun c=>?_)
   .refine⟨_,hs.rd 0 rfl rfl,?_⟩;refine hs.app 1 rfl dt (m:=1) [aM a.to] rfl rfl (fun r hr=>by rw[Ye] at hr;rw[hr];rfl) rfl (by omega) (by simp only[maxLen];omega) fun s35 fO adX hs=>?_;refine A8.next l2 (by omega) ⟨_,hs.drop 1,?_⟩;rw[ae g23,List.filterMap_append,Ym,Ym,Ym,Yz];simp[c]
   .refine A8.next l2 (by omega) ⟨_,hs.drop 1,?_⟩;rw[ae g23,List.filterMap_append];simp[c]
  .replace l2:=bz l2;refine A8.next l (by omega) ⟨_,hs,?_⟩;rw[Yj (l:=bS g.es role k) (by omega),kT _ hn]
 .replace l:=bz l;rw[Yj (by omega)] at hs;have YJ:=iK (elems p) (bS g.es role) (fun a:Ar=>if a.x=x then some a.to else none);have Ug:((elems p).flatMap (bS g.es role)).length<=g.es.length:=gQ g.es role (elems p) (gA p);refine (yg g role b (jZ g.es role p x) out AB (oE.ext hs.ext) hV (hs.rows 0 rfl (by omega)) (fun y hy=>?_) (by unfold jZ;omega)).mono ?_
  .unfold jZ at hy;obtain⟨n,_,hy⟩:=List.mem_flatMap.1 hy;obtain⟨a,ha,hy⟩:=vT.1 hy;unfold bS at ha;obtain⟨e,he,ha⟩:=vT.1 ha;have hEe:=hE e he;unfold fp at hEe;split at ha
   .obtain⟨ev,_,rfl⟩:=rP.1 ha;split at hy
    .have:e.t=y:=eP hy;omega
    .cases hy
   .cases ha
  .rintro _ j7 ⟨E,c,k,ws,rfl,hc,ho,hS⟩;exact⟨⟨some ⟨c,0,none⟩,k,k⟩,rfl,(hs.step E).ext,c,k,ws,rfl,iX hs.ext.1 hc,ho,hS⟩
def aC(role:Int)(x:Ev):List Value:=[.int .i64 role,.bool x.send,.int .i64 x.peer,.int .i64 x.label,.slice none 0 0]
theorem JF:cu Pz 57 33 5 56=true:=by kernel_rfl
theorem Qr.lt{g:Gl}{role:Int}{l:List Int}(hV:ah g)(hl:∀x∈l,0<=x/\x<g.n){a:Int}(h:Qr g.es role l a):0<=a/\a<g.n:=by
 induction h with
 | base hm=>exact hl _ hm
 | step _ hx _=>
  obtain⟨x,hx,_,_,rfl⟩:=hx;have:=hV.num.e x hx;unfold fp at this;omega
theorem rj{g:Gl}{role:Int}{l:List Int}(hV:ah g)(hl:∀x∈l,0<=x/\x<g.n)(j:Nat)(h:eD g.es role l j=true):(j:Int)<g.n:=((bK.1 h).lt hV hl).2
theorem St.Pn{h0 h h':Heap}{L:List It}(hs:St h0 h L)(E:Ext h h'){c:Nat}{ws:List Nat}(hc:h.size<=c)(ho:Own h' c (ws.map wC).flatten 144):St h0 h' (P6 c ws::L):=
 hs.more E (i:=P6 c ws) ho fun b hb=>by cases hb;exact hc
theorem R9(es:List Ed)(role:Int)(p:Nat->Bool):(Pq es role p).length<=es.length:=by
 unfold Pq;rw[iE];exact gQ es role (elems p) (gA p)
theorem qO(x:Ev):∀l:List Ev,(fK x l).length<=l.length+1
 | []=>by simp[fK]
 | y::r=>by
  rw[fK];split
  .have:=qO x r;simp only[jC];omega
  .split<;>simp
theorem DU(l:List Ev):(jd l).length<=l.length:=by
 unfold jd
 induction l with
 | nil=>simp
 | cons a l ih=>rw[List.foldr_cons,jC];have:=qO a (l.foldr fK []);omega
noncomputable def ai(g:Gl)(role st:Int):List Ev:=j8 g.es role (eD g.es role [st])
noncomputable def aV(g:Gl)(role st:Int):Bool:=eD g.es role [st] g.e.toNat
structure SE where
 b:Nat
 k:Nat
 ws:List Nat
 p:aX
def SE.hd(e:SE):List Value:=[.slice (some ⟨e.b,0,none⟩) e.k e.k]
def SE.s(e:SE):Sl:=⟨some ⟨e.b,0,none⟩,e.k,e.k⟩
def SE.it(e:SE):It:=P6 e.b e.ws
def bC(b:Bool):List Value:=[.bool b]
def TL(tb ge:Nat)(ss fs cD:Sl)(E:List SE)(M:List Mv):List It:=
 [.af tb [.slice ss.a ss.n ss.c,.slice fs.a fs.n fs.c,.slice cD.a cD.n cD.c] 154,.sl ss 76 1 (E.map SE.hd),.sl fs 4 1 ((E.map fun e=>e.p ge).map bC),.sl cD 273 6 (M.map Mv.cs)]++E.map SE.it
theorem ZQ:aF Pz 146=true:=by kernel_rfl
theorem afG(a b:Sl)(p q:aX)(c:Addr)(h:Heap)(ha:ie h a p)(hb:ie h b q)(iA:hc h c=some (.slice b.a b.n b.c)):
  Fn Pz 146 #[.slice a.a a.n a.c,.pointer (some c)] h fun v h'=>(∃r:Bool,v=.bool r/\(r=true ↔ p=q))/\h'=h:=by
 apply Ws;unfold abH;refine⟨b,iA,?_⟩;refine (Nw p q a b h ha hb).mono ?_;rintro _ _ ⟨⟨r,rfl,hr⟩,rfl⟩;exact⟨_,rfl,⟨_,rfl,hr⟩,rfl⟩
theorem XA(E:List SE)(q:aX)(s b:Sl)(c:Addr)(h:Heap)(hr:Rw h 1 s (E.map SE.hd))(hE:∀e∈E,ie h e.s e.p)(hb:ie h b q)(iA:hc h c=some (.slice b.a b.n b.c))(hm:E.length<=1048576):
  Fn Pz 145 #[.slice s.a s.n s.c,.func (.func 146) #[] #[.pointer (some c)]] h fun v h'=>(v=.int .i64 (if fe (E.map (·.p)) q<E.length then ((fe (E.map (·.p)) q:Nat):Int) else -1))/\h'=h:=by
 apply Wu;unfold abI;have hn:=hr.ln;refine bU (n:=s.n) (fun i h'=>h'=h/\∀(j:Nat) (e:SE),j<i->E[j]?=some e->e.p≠q) ⟨rfl,fun j e hj=>by omega⟩ ?_;rintro-i h5 hi ⟨rfl,hd⟩;refine aa (fun l=>?_) (fun l=>?_)
 .replace l:=bw l;refine hr.ax (by omega) (by omega) fun b6 o7 e g t=>?_;replace g:E[i]?=some e:=g;refine⟨e.s,t.hd,?_⟩;rw[ZQ,cond_true];refine (afG e.s b e.p q c h5 (hE e (Yb g)) hb iA).mono ?_;rintro _ _ ⟨⟨r,rfl,kO⟩,rfl⟩;refine⟨_,rfl,aa (fun c1=>?_) (fun c1=>?_)⟩
  .have hq:=kO.1 c1;have:fe (E.map (·.p)) q=i:=qm (by rw[Yd,g,<-hq];rfl) fun j p' hj oz=>by
    rw[Yd] at oz;obtain⟨e',xD,rfl⟩:=rP.1 oz;exact hd j e' hj xD
   exact⟨by rw[this,if_pos (by omega)],rfl⟩
  .refine Up.next l (by omega) ⟨rfl,fun j e' hj xD=>?_⟩;by_cases e1:j=i
   .subst e1;rw[g] at xD;cases xD;intro hp;rw[kO.2 hp] at c1;cases c1
   .exact hd j e' (by omega) xD
 .replace l:=bz l;have:¬fe (E.map (·.p)) q<E.length:=by
   have h1:=pM (S:=E.map (·.p)) (p:=q);rw[Yc] at h1;rw[h1];intro hm;obtain⟨e,he,hp⟩:=Yp.1 hm;obtain⟨j,hj⟩:=Yf.1 he;exact hd j e (by have:=(Ya.1 hj).1;omega) hj hp
  exact⟨by rw[if_neg this],rfl⟩
theorem Z4:cu Pz 151 76 1 24=true:=by kernel_rfl
theorem PD:cu Pz 107 4 1 1=true:=by kernel_rfl
theorem St.Xh{h0 h h':Heap}{L L':List It}(hs:St h0 h L)(cj:St h0 h' L'){b:Nat}(hb:b<h0.size):h'[b]?=h[b]?:=(cj.ext.2 b hb).trans (hs.ext.2 b hb).symm
theorem TL.set{h0 h:Heap}{A X:List It}{tb ge:Nat}{ss fs cD:Sl}{E:List SE}{M:List Mv}(hs:St h0 h (A++(TL tb ge ss fs cD E M++X)))(hE:∀e∈E,SI e.ws e.k e.p):∀e∈E,ie h e.s e.p:=by
 intro e he;have hm:e.it∈A++(TL tb ge ss fs cD E M++X):=by
  rw[Yk];right;rw[Yk];left;unfold TL;rw[Yk];right;exact List.mem_map_of_mem he
 have:=(hs.ok _ hm).1;exact (hE e he).v this e.k
theorem Oy{H0 h:Heap}{X:List It}{tb bg ge:Nat}{ss fs cD:Sl}{E:List SE}{M:List Mv}{e:SE}(hs:St H0 h (e.it::(TL tb ge ss fs cD E M++X)))(hE:∀e∈E,SI e.ws e.k e.p)(he:SI e.ws e.k e.p)(hbg:bg<H0.size)(Fb:hc h ⟨bg,5,none⟩=some (.int .i64 ge))(ahR:ge<4096)(hm:E.length<=2000):
  Fn Pz 144 #[.slice (some ⟨e.b,0,none⟩) e.k e.k,.pointer (some ⟨tb,0,none⟩),.pointer (some ⟨bg,0,none⟩)] h fun v h'=>v=.int .i64 (fe (E.map (·.p)) e.p:Nat) /\
   ∃(E':List SE) (Bo pR:Sl),St H0 h' (TL tb ge Bo pR cD E' M++X)/\E'.map (·.p)=fW (E.map (·.p)) e.p/\∀e∈E',SI e.ws e.k e.p:=by
 apply Wv e.s;unfold abJ;have kM:=hs.len 2 (s:=ss) (e:=76) (n:=1) rfl (by omega);have fV:=hs.len 3 (s:=fs) (e:=4) (n:=1) rfl (by omega);rw[Yc] at kM;rw[Yc,Yc] at fV;have YG:=Fb;refine hs.aq fun h1 E1 hs=>?_;refine⟨ss,hs.rd 2 rfl rfl,?_⟩;refine (XA E e.p ss e.s ⟨h.size,0,none⟩ h1 (hs.rw 3 rfl (by omega)) (TL.set (A:=[_,_]) hs hE) (he.v (hs.get (k:=1) rfl) e.k) (hs.rd 0 rfl rfl) (by omega)).mono ?_;rintro _ h5 ⟨rfl,rfl⟩;refine⟨_,rfl,?_⟩;have hlen:(E.map (·.p)).length=E.length:=Yc _;by_cases dh:fe (E.map (·.p)) e.p<E.length
 .rw[if_pos dh];refine gR (decide_eq_true (by omega)) ⟨rfl,E,ss,fs,hs.drop 2,?_,hE⟩;unfold fW;rw[if_pos (pM.1 (by rw[hlen];exact dh))]
 .rw[if_neg dh];have hnm:e.p∉E.map (·.p):=fun hm=>dh (by have:=pM.2 hm;omega);refine im (decide_eq_false (by omega)) ?_;have aeF:=aw E1 Fb;refine⟨ss,hs.rd 2 rfl rfl,e.s,hs.rd 0 rfl rfl,fs,hs.rd 2 rfl rfl,e.s,hs.rd 0 rfl rfl,_,aeF,?_⟩;refine hs.aq fun jP E11 Ic=>⟨E11.sm,?_⟩;refine Ic.appended 4 (rows:=E.map SE.hd) rfl Z4 (m:=1) (news:=[e.hd]) (Ic.at 0 rfl (n:=1) rfl) rfl (fun r hr=>by rw[Ye] at hr;rw[hr];rfl) rfl (by omega) (by simp only[maxLen];omega) fun LU AB n12 Ia=>?_;refine⟨bG (Ic.Xh Ia hbg) (bG (Ic.same Ia 1 1 rfl rfl) (bG (Ic.same Ia 3 3 rfl rfl) eJ)),?_⟩;refine (YX e.p e.s ge AB (he.v (Ia.get (k:=2) rfl) e.k)).mono ?_;rintro _ fx ⟨rfl,rfl⟩;refine⟨_,rfl,fun _ _ _ _ hv=>hv,?_⟩;have yX:(decide (0<=((ge:Nat):Int)/\((ge:Nat):Int)<4096)&&e.p ((ge:Nat):Int).toNat)=e.p ge:=by
   rw[decide_eq_true (by omega),Bool.true_and];rfl
  rw[yX];refine Ia.aq fun Pl E17 MP=>⟨E17.sm,?_⟩;refine MP.appended 6 (rows:=(E.map fun e=>e.p ge).map bC) rfl PD (m:=1) (news:=[bC (e.p ge)]) (MP.at 0 rfl (n:=1) rfl) rfl (fun r hr=>by rw[Ye] at hr;rw[hr];rfl) rfl (by omega) (by simp only[maxLen];omega) fun Ox h19 n18 H9=>?_;refine⟨bG (MP.same H9 2 2 rfl rfl) (bG (MP.same H9 4 4 rfl rfl) eJ),?_⟩;refine H9.put 4 rfl (o:=0) (vs:=[.slice LU.a LU.n LU.c]) rfl (show 1<=3 by decide) fun az QZ=>?_;refine⟨bG (H9.Xh QZ hbg) (bG (H9.same QZ 2 2 rfl rfl) eJ),?_⟩;refine QZ.put 4 rfl (o:=1) (vs:=[.slice Ox.a Ox.n Ox.c]) rfl (show 2<=3 by decide) fun ko XK=>?_;refine⟨LU,XK.rd 4 rfl rfl,?_⟩;refine⟨?_,E++[e],LU,Ox,?_,?_,fun x hx=>?_⟩
  .rw[n12,kM.1,bd (by omega) (by omega),jf hnm,hlen];congr 1;omega
  .have e1:(E++[e]).map SE.hd=E.map SE.hd++[e.hd]:=by rw[Ym];rfl
   have e2:((E++[e]).map fun e=>e.p ge).map bC=(E.map fun e=>e.p ge).map bC++[bC (e.p ge)]:=by rw[Ym,Ym];rfl
   unfold TL;rw[e1,e2,Ym];have h4:=XK.drop 3;have h5:St H0 ko (e.it::([.af tb [.slice LU.a LU.n LU.c,.slice Ox.a Ox.n Ox.c,.slice cD.a cD.n cD.c] 154,.sl LU 76 1 (E.map SE.hd++[e.hd]),.sl Ox 4 1 ((E.map fun e=>e.p ge).map bC++[bC (e.p ge)]),.sl cD 273 6 (M.map Mv.cs)]++E.map SE.it++X)):=h4;refine h5.perm ?_;rw[<-Yz];rw[<-List.cons_append];exact (List.Perm.append_right X (List.perm_append_singleton _ _)).symm
  .unfold fW;rw[if_neg hnm,Ym];rfl
  .rcases Yk.1 hx with hx | hx
   .exact hE x hx
   .rw[Ye] at hx;rw[hx];exact he
theorem PC:cu Pz 152 273 6 48=true:=by kernel_rfl
theorem St.join{h0 h1 h:Heap}{PJ tV:List It}(dA:St h0 h1 PJ)(bQ:St h1 h tV):St h0 h (PJ++tV):=by
 have h3:=dA.step bQ.ext;refine⟨h3.ext,fun i hi=>?_,List.pairwise_append.2 ⟨h3.ap,bQ.ap,fun i hi j hj b hb hc=>?_⟩⟩
 .rcases Yk.1 hi with hi | hi
  .exact h3.ok i hi
  .exact⟨(bQ.ok i hi).1,fun b hb=>iX dA.ext.1 ((bQ.ok i hi).2 b hb)⟩
 .have h4:=(dA.ok i hi).1.lt hb;have h5:=(bQ.ok j hj).2 b hc;omega
theorem G9{S:List aX}{p q:aX}:q∈fW S p ↔ q∈S\/q=p:=by
 unfold fW;split
 .rename_i h;constructor
  .exact .inl
  .rintro (h1 | rfl)
   .exact h1
   .exact h
 .rw[Yk,Ye]
theorem Ha{S:List aX}{p:aX}:(fW S p).length<=S.length+1/\S.length<=(fW S p).length:=by
 unfold fW;split
 .omega
 .rw[Yh,Yv];omega
theorem fD{S:List aX}{p q:aX}{i:Nat}(h:S[i]?=some q):(fW S p)[i]?=some q:=by
 unfold fW;split
 .exact h
 .rw[lg (Ya.1 h).1];exact h
theorem PY{g:Gl}{role:Int}{p:aX}{x:Ev}(hV:ah g):∀y∈jZ g.es role p x,0<=y/\y<g.n:=by
 intro y hy;unfold jZ at hy;obtain⟨n,_,h2⟩:=List.mem_flatMap.1 hy;obtain⟨a,ha,h3⟩:=vT.1 h2;unfold bS at ha;obtain⟨e,he,h4⟩:=vT.1 ha;have:=hV.num.e e he;unfold fp at this;split at h4
 .rw[rP] at h4;obtain⟨_,_,rfl⟩:=h4;split at h3
  .cases h3;show 0<=e.t/\e.t<g.n;omega
  .cases h3
 .cases h4
def TR(ge:Nat)(ss fs cD:Sl)(E:List SE)(M:List Mv):List It:=
 [.sl ss 76 1 (E.map SE.hd),.sl fs 4 1 ((E.map fun e=>e.p ge).map bC),.sl cD 273 6 (M.map Mv.cs)]++E.map SE.it
def P5:List Value:=[.slice none 0 0,.slice none 0 0,.slice none 0 0]
theorem mB{α:Type}{l:List α}{j:Nat}{x:α}(h:l[j]?=some x):l.drop j=x::l.drop (j+1):=by
 obtain⟨h1,h2⟩:=Ya.1 h;rw[<-h2];exact List.drop_eq_getElem_cons h1
theorem pS{g:Gl}{role:Int}{p:aX}(hV:ah g):(j8 g.es role p).length<=400:=by
 have h1:=DU (Pq g.es role p);have h2:=R9 g.es role p;have h3:=hV.num.m;show (jd _).length<=400;omega
inductive ViR (g:Gl) (role:Int) (h h':Heap):Value->Prop
 | bad (hn:¬(ah g/\0<=role/\role<g.rs.length)):ViR g role h h' (.tuple ⟨[.agg ⟨P5⟩,.int .i64 1]⟩)
 | OK (hv:ah g/\0<=role/\role<g.rs.length) (hn:views g role=none):ViR g role h h' (.tuple ⟨[.agg ⟨P5⟩,.int .i64 6]⟩)
 | Zk (hv:ah g/\0<=role/\role<g.rs.length) {ss fs cD:Sl} {E:List SE} {M:List Mv} (hn:views g role=some (E.map (·.p),M)) (hs:St h h' (TR g.e.toNat ss fs cD E M)) (hE:∀e∈E,SI e.ws e.k e.p) (hl:E.length<=200) (hp:∀p∈E.map (·.p),∀j:Nat,p j=true->(j:Int)<g.n) (hm:M.length<=80000) :
   ViR g role h h' (.tuple ⟨[.agg ⟨[.slice ss.a ss.n ss.c,.slice fs.a fs.n fs.c,.slice cD.a cD.n cD.c]⟩,.int .i64 0]⟩)
theorem Lu(g:Gl)(role:Int)(h:Heap)(hg:GI h g)(hx:Gx h):
  Fn Pz 81 #[g.v,.int .i64 role] h fun v h'=>Ext h h'/\ViR g role h h' v:=by
 apply acR (bs g.nm) g.hr g.hd g.n g.s g.e g.he g.ht;unfold W81;have hs:=St.refl h;refine hs.ao fun h9 hs=>?_;refine hs.ao fun cw hs=>?_;refine⟨_,_,_,_,_,_,_,_,hs.at 1 rfl (n:=8) rfl,?_⟩;refine (QC g role cw (hg.ext hs.ext) (hx.ext hs.ext)).mono ?_;rintro _ cR ⟨Eh22,h1 | h1⟩
 .obtain⟨hn,rfl⟩:=h1;replace hs:=hs.step Eh22;refine⟨_,_,rfl,?_⟩;refine dY (fun c1=>?_) (fun c1=>by omega);refine hs.put 0 rfl (o:=0) (vs:=P5) rfl (by decide) fun nM hs=>?_;refine⟨⟨none,0,0⟩,⟨none,0,0⟩,⟨none,0,0⟩,hs.at 0 rfl (n:=3) rfl,?_⟩;exact⟨hs.ext,.bad hn⟩
 obtain⟨hv,bl,yW,rfl,hl⟩:=h1;obtain⟨hV,T9,T8⟩:=hv;have dA:=hs.step Eh22;clear hs;have hN:=hV.num.n;have hb9:h.size<cR.size:=dA.get (k:=1) rfl |>.lt rfl
 refine⟨_,_,rfl,?_⟩;refine dY (fun c1=>absurd rfl c1) (fun _=>?_);have hs:=St.refl cR;refine hs.ao fun rM hs=>?_;refine⟨_,(dA.step hs.ext).rd 1 rfl rfl,?_⟩;refine hs.ao fun K8 hs=>?_;have oD:∀x∈[g.s],0<=x/\x<g.n:=fun x hx=>by rw[Ye] at hx;omega
 have kM:=hs.dz 1 1 ([g.s].map aM) rfl (bX _) rfl (by decide);refine (yg g role bl [g.s] _ K8 (hl.ext hs.ext) hV (kM.rows 0 rfl (by omega)) oD (show 1<=1048576 by decide)).mono ?_;clear kM;rintro _ CC ⟨E32,c,k,ws,rfl,Fg,ho,hS⟩;replace hs:=hs.Pn E32 Fg ho;refine⟨⟨some ⟨c,0,none⟩,k,k⟩,rfl,?_⟩;have hs:=(((hs.Nv 1).cn 273 6).cn 4 1).cn 76 1;have Fb:(g.e:Int)=((g.e.toNat:Nat):Int):=by omega
 have he5:∀ {h':Heap},Ext cR h'->hc h' ⟨h.size,5,none⟩=some (.int .i64 ((g.e.toNat:Nat):Int)):=fun E=>by rw[<-Fb];exact (dA.step E).rd 1 rfl rfl
 have hs:St cR CC ((⟨c,k,ws,eD g.es role [g.s]⟩:SE).it::(TL cR.size g.e.toNat ⟨none,0,0⟩ ⟨none,0,0⟩ ⟨none,0,0⟩ [] []++[])):=
  hs.perm (List.perm_append_comm (l₁:=[_,_,_]) (l₂:=[_,_]))
 refine (Oy (bg:=h.size) hs (fun e he=>by cases he) hS hb9 (he5 hs.ext) (by omega) (by decide)).mono ?_;rintro _ bA ⟨rfl,E',Bo,pR,hs,hE',hSI'⟩;refine⟨_,rfl,?_⟩;have Y9:E'.map (·.p)=[eD g.es role [g.s]]:=by rw[hE'];rw[List.map_nil];unfold fW;rw[if_neg (by simp)];rfl
 refine⟨fun x h' m=>∃(i:Nat) (ss fs cD:Sl) (E:List SE) (M:List Mv),x=i/\m=201-i/\i<=E.length/\St cR h' (TL cR.size g.e.toNat ss fs cD E M++[])/\(∀e∈E,SI e.ws e.k e.p) /\
  (∀p∈E.map (·.p),∀j:Nat,p j=true->(j:Int)<g.n)/\E.length<=200/\M.length<=i*400/\views g role=du g.es role (202-i) i (E.map (·.p)) M,⟨_,0,_,_,_,E',[],rfl,rfl,by omega,hs,hSI',?_,?_,by simp,?_⟩,?_⟩
 .intro p hp j hj;rw[Y9,Ye] at hp;subst hp;exact rj hV oD j hj
 .have:=congrArg List.length Y9;rw[Yc] at this;rw[this];show 1<=200;decide
 .rw[Y9];rfl
 clear hs Y9 hSI' hE' E' Bo pR;rintro-_ km m ⟨i,ss,fs,cD,E,M,rfl,rfl,hi,hs,hSI,bt,hEl,hM,yQ⟩;have kM:=hs.len 1 (s:=ss) (e:=76) (n:=1) rfl (by omega);rw[Yc] at kM;refine⟨ss,hs.rd 0 rfl rfl,?_⟩;refine aQ (fun c2=>?_) (fun c2=>?_)
 .have hiE:i<E.length:=by omega
  refine⟨ss,hs.rd 0 rfl rfl,?_⟩;refine (hs.rows 1 (cs:=SE.hd) rfl (by omega)).ax (by omega) (by omega) fun b43 o44 e Ut t43=>?_;replace Ut:E[i]?=some e:=Ut;have heE:=Yb Ut;have Y8:(E.map (·.p))[i]?=some e.p:=by rw[Yd,Ut];rfl
  have hep:∀j:Nat,e.p j=true->(j:Int)<g.n:=bt e.p (Yp.2 ⟨e,heE,rfl⟩);refine⟨e.s,t43.hd,?_⟩;refine (Ja g role bl e.p e.s km (hl.ext hs.ext) hV ((hx.ext (dA.ext.trans hs.ext))) (TL.set (A:=[]) hs hSI e heE) hep).mono ?_;rintro _ Ay ⟨E48,x47,rfl,ho47⟩;replace hs:=hs.xK E48 ho47 (Sc _);refine⟨x47,rfl,?_⟩;have Cn:=(hs.rows 0 (cs:=Ev.cs) rfl (by omega)).ln;have hev:=pS (g:=g) (role:=role) (p:=e.p) hV;generalize hL:j8 g.es role e.p=L at *;refine⟨fun x h' m=>∃(j:Nat) (P3 fs2 AX:Sl) (E2:List SE) (M2:List Mv),x=j/\m=x47.n-j/\j<=L.length/\St cR h' (.sl x47 140 3 (L.map Ev.cs)::(TL cR.size g.e.toNat P3 fs2 AX E2 M2++[]))/\(∀e∈E2,SI e.ws e.k e.p) /\
   (∀p∈E2.map (·.p),∀j:Nat,p j=true->(j:Int)<g.n)/\E2.length<=E.length+j/\M2.length<=M.length+j/\(E2.map (·.p))[i]?=some e.p /\
   cH g.es role i e.p L (E.map (·.p)) M=cH g.es role i e.p (L.drop j) (E2.map (·.p)) M2,⟨_,0,_,_,_,E,M,rfl,rfl,by omega,hs,hSI,bt,by omega,by omega,by rw[Yd,Ut];rfl,by rw[List.drop_zero]⟩,?_⟩
  clear hs hSI bt kM heE Ut t43 c2 ho47 E48 hi;rintro-_ Pk m ⟨j,P3,fs2,AX,E2,M2,rfl,rfl,hj,hs,hSI,bt,hE2l,hM2,gH,qT⟩;have aeh:=hs.len 2 (s:=P3) (e:=76) (n:=1) rfl (by omega);rw[Yc] at aeh;have hEi:i<E2.length:=by have:=(Ya.1 gH).1;rwa [Yc] at this
  refine aQ (fun c3=>?_) (fun c3=>?_)
  .refine (hs.rows 0 (cs:=Ev.cs) rfl (by omega)).ax (by omega) (by omega) fun ZY Xj y g54 t54=>?_;replace g54:L[j]?=some y:=g54;refine⟨_,_,_,t54,?_⟩;refine hs.aj (vs:=y.cs) rfl rfl fun II hs=>?_;refine⟨P3,hs.rd 2 rfl rfl,?_⟩;refine (hs.rows 3 (cs:=SE.hd) rfl (by omega)).ax (by omega) (by omega) fun b62 o63 e2 g62 t62=>?_;replace g62:E2[i]?=some e2:=g62;have YR:=Yb g62;have hpe:e2.p=e.p:=by rw[Yd,g62] at gH;exact eP gH
   refine⟨e2.s,t62.hd,?_⟩;refine⟨_,_,_,hs.at 0 rfl (n:=3) rfl,?_⟩;refine (NU g role bl e2.p y e2.s II (hl.ext hs.ext) hV ((hx.ext (dA.ext.trans hs.ext))) (TL.set (A:=[_,_]) hs hSI e2 YR) (bt e2.p (Yp.2 ⟨e2,YR,rfl⟩))).mono ?_;rintro _ nL ⟨E70,c4,k4,ws4,rfl,hc4,ho4,hS4⟩;replace hs:=hs.Pn E70 hc4 ho4;refine⟨⟨some ⟨c4,0,none⟩,k4,k4⟩,rfl,?_⟩;rw[hpe] at hS4;have hs:St cR nL ((⟨c4,k4,ws4,eD g.es role (jZ g.es role e.p y)⟩:SE).it::(TL cR.size g.e.toNat P3 fs2 AX E2 M2++[.af Pk.size y.cs 140,.sl x47 140 3 (L.map Ev.cs)])):=by
    rw[Yw] at hs;exact hs.perm (List.Perm.cons _ (List.perm_append_comm (l₁:=[_,_])))
   refine (Oy (bg:=h.size) hs hSI hS4 hb9 (he5 hs.ext) (by omega) (by omega)).mono ?_;rintro _ h73 ⟨rfl,E3,ss3,fs3,hs,hE3,hSI3⟩;refine⟨_,rfl,?_⟩;have hs:St cR h73 (.af Pk.size y.cs 140 :: .sl x47 140 3 (L.map Ev.cs)::TL cR.size g.e.toNat ss3 fs3 AX E3 M2):=
    hs.perm (List.perm_append_comm (l₂:=[_,_]))
   refine⟨AX,hs.rd 2 rfl rfl,?_⟩;refine⟨_,hs.rd 0 rfl rfl,?_⟩;refine⟨_,hs.rd 0 rfl rfl,?_⟩;refine⟨_,hs.rd 0 rfl rfl,?_⟩;have cz:=(hs.rows 5 (s:=AX) (cs:=Mv.cs) rfl (by omega)).ln;refine hs.app 5 rfl PC (m:=1) [Mv.cs ⟨i,y.send,y.peer,y.label,fe (E2.map (·.p)) (eD g.es role (jZ g.es role e.p y)),false⟩] rfl rfl (fun r hr=>by rw[Ye] at hr;rw[hr];rfl) rfl (by omega) (by simp only[maxLen];omega) fun s79 h80 ahv hs=>?_;refine hs.put 2 rfl (o:=2) (vs:=[.slice s79.a s79.n s79.c]) rfl (show 3<=3 by decide) fun h81 hs=>?_;have nD:=Ha (S:=E2.map (·.p)) (p:=eD g.es role (jZ g.es role e.p y));rw[<-hE3,Yc,Yc] at nD;refine⟨_,by omega,j+1,ss3,fs3,s79,E3,M2++[⟨i,y.send,y.peer,y.label,fe (E2.map (·.p)) (eD g.es role (jZ g.es role e.p y)),false⟩],by rw[bd (by omega) (by omega)];omega,rfl,by omega,?_,hSI3,?_,by omega,by rw[Yh,Yv];omega,by rw[hE3];exact fD gH,?_⟩
   .rw[Yw];unfold TL;rw[Ym];exact hs.drop 1
   .intro p hp;rw[hE3,G9] at hp;rcases hp with hp | rfl
    .exact bt p hp
    .exact rj hV (PY hV)
   .rw[qT,mB g54,hE3];rfl
  .have hjL:L.length<=j:=by omega
   rw[List.drop_eq_nil_of_le hjL] at qT;have qT:cH g.es role i e.p L (E.map (·.p)) M=(E2.map (·.p),M2):=qT;have gu:views g role=if E2.length>200 then none else du g.es role (202-(i+1)) (i+1) (E2.map (·.p)) M2:=by
    rw[yQ,show 202-i=(202-(i+1))+1 by omega,du,Y8];show (if (cH g.es role i e.p (j8 g.es role e.p) (E.map (·.p)) M).1.length>200 then none else _)=_;rw[hL,qT,Yc]
   refine⟨P3,hs.rd 1 rfl rfl,?_⟩;refine aQ (fun c4=>?_) (fun c4=>?_)
   .rw[if_pos (by omega)] at gu;have xr:=dA.step hs.ext;refine xr.put 0 rfl (o:=0) (vs:=P5) rfl (by decide) fun Zb hs=>?_;refine⟨⟨none,0,0⟩,⟨none,0,0⟩,⟨none,0,0⟩,hs.at 0 rfl (n:=3) rfl,?_⟩;exact⟨hs.ext,.OK ⟨hV,T9,T8⟩ gu⟩
   .rw[if_neg (by omega)] at gu;refine⟨_,by omega,i+1,P3,fs2,AX,E2,M2,by rw[bd (by omega) (by omega)];omega,rfl,by omega,hs.drop 1,hSI,bt,by omega,by omega,gu⟩
 .have hiE:E.length<=i:=by omega
  have Fc:views g role=some (E.map (·.p),M):=by
   rw[yQ,show 202-i=(201-i)+1 by omega,du,Yl (by rw[Yc];exact hiE)]
  refine⟨ss,fs,cD,hs.at 0 rfl (n:=3) rfl,?_⟩;have hsJ:=dA.join (hs.drop 1);refine hsJ.put 0 rfl (o:=0) (vs:=[.slice ss.a ss.n ss.c,.slice fs.a fs.n fs.c,.slice cD.a cD.n cD.c]) rfl (show 3<=3 by decide) fun h92 hs=>?_;refine⟨ss,fs,cD,hs.at 0 rfl (n:=3) rfl,?_⟩;have hs:=hs.drop 2;rw[show TL cR.size g.e.toNat ss fs cD E M++[]=_ from Yw _] at hs;exact⟨hs.ext,.Zk ⟨hV,T9,T8⟩ Fc hs hSI hEl bt (by omega)⟩
theorem HL(n:Nat):ak Pz 4 n=((List.replicate n false).map bC).flatten:=by
 have e:bN Pz 4=[.bool false]:=by kernel_rfl
 unfold ak;rw[e,List.map_replicate];rfl
theorem uo{n i k:Nat}(h:(List.range n)[i]?=some k):i=k/\i<n:=by
 obtain⟨h1,h2⟩:=Ya.1 h;rw[List.getElem_range] at h2;rw[kv] at h1;exact⟨h2,h1⟩
noncomputable def vwG(g:Gl)(role:Int):List Nat->Option Ti:=UQ (fun j:Nat=>ai g role j) (fun j:Nat=>aV g role j) (ur g.es role g.n.toNat).1 (D8 g.es g.ts role g.n.toNat)
noncomputable def raw(g:Gl)(role:Int):Option mL × Int:=
 if ¬(ah g/\0<=role/\role<g.rs.length) then (none,1) else
 match views g role with
 | none=>(none,6)
 | some (S,M)=>if M.length>400 then (none,6) else
  match Xd (vwG g role) 0 S M [] with
  | none=>(none,18)
  | some (M',L)=>(some ⟨role,S.length,0,S.map (fun p=>p g.e.toNat),M',L⟩,0)
def m0:List Value:=[.int .i64 0,.int .i64 0,.int .i64 0,.slice none 0 0,.slice none 0 0,.slice none 0 0]
def mC(m:mL)(sf sm sl:Sl):List Value:=[.int .i64 m.role,.int .i64 m.n,.int .i64 m.s,.slice sf.a sf.n sf.c,.slice sm.a sm.n sm.c,.slice sl.a sl.n sl.c]
end Go.VC
end

section
namespace Go.VC
open Go.Proofs Go.Maps
theorem qL{P:Program}{d t:Nat}{q:IntKind}{n:Int}(hu:P.underlying t=some (.int q))(hw:(Lit.int q n).wf=true):P.keyLits (d+1) t [.int q n]=some [.int q n]:=by simp[Program.keyLits,hu,hw]
theorem te{P : Program}{d t : Nat}{fs : Array Field}{cs : List Value}(hu : P.underlying t = some (.struct fs))(hl : cs.length = P.cellsOf t)(hn : fs.all (·.name != "_") = true){l : List (TypeId × Nat)}(hf : fs.toList.map (fun f => (f.type, f.offset)) = l)
  {r:List (List Lit)} (hr:l.mapM (fun q=>P.keyLits d q.1 ((cs.drop q.2).take (P.cellsOf q.1)))=some r):P.keyLits (d+1) t cs=some r.flatten:=by
 have e:fs.toList.mapM (fun f=>P.keyLits d f.type ((cs.drop f.offset).take (P.cellsOf f.type)))=some r:=by
  rw[<-hr,<-hf,List.mapM_map];rfl
 unfold Program.keyLits;simp only[hu];rw[if_pos ⟨hl,hn⟩,e];rfl
def Xy(n:Int):Prop:=-9223372036854775808<=n/\n<=9223372036854775807
theorem Xy.wf{n:Int}(h:Xy n):(Lit.int .i64 n).wf=true:=by
 unfold Lit.wf;simp only[Yt,decide_eq_true_eq];have e1:IntKind.i64.min=-9223372036854775808:=by decide
 have e2:IntKind.i64.max=9223372036854775807:=by decide
 rw[e1,e2];exact h
theorem u3:Pz.underlying 3=some (.int .i64):=by kernel_rfl
theorem u4:Pz.underlying 4=some .bool:=by kernel_rfl
theorem su{P : Program}{t : Nat}{l : List (TypeId × Nat)}(h : (match P.underlying t with | some (.struct fs) => decide (fs.toList.map (fun f => (f.type, f.offset)) = l) && fs.all (·.name != "_") | _ => false) = true):
  ∃ fs, P.underlying t = some (.struct fs) /\ fs.all (·.name != "_") = true /\ fs.toList.map (fun f => (f.type, f.offset)) = l := by
 split at h
 .rename_i fs hu;simp only[Yt,decide_eq_true_eq] at h;exact⟨fs,hu,h.2,h.1⟩
 .cases h
theorem c3:Pz.cellsOf 3=1:=by kernel_rfl
theorem c4:Pz.cellsOf 4=1:=by kernel_rfl
theorem Af:laidOutB Pz=true:=by kernel_rfl
end Go.VC
end

section

end

section
namespace Go.VC
open Go.Proofs Go.LexS
theorem gY{α:Type}{cs:α->List Value}(h:∀x,(cs x).all eF=true):∀L:List α,(L.map cs).flatten.all eF=true
 | []=>rfl
 | a::L=>by rw[iM,pI,List.all_append,h a,gY h L];rfl
def pD(c:Nat):Value:=.int .i64 (c:Int)
theorem getD_some{α:Type}{l:List α}{i:Nat}{d x:α}(h:l[i]?=some x):l.getD i d=x:=by rw[Yo,h];rfl
end Go.VC
end

section
namespace Go.VC

end Go.VC
end

section
namespace Go.VC
open Go.Proofs Go.LexS
theorem St.kI{α:Type}{h0 h:Heap}{A B:List It}{Q:List (Sl × List α)}{e:TypeId}{n:Nat}{cs:α->List Value}(hs:St h0 h (A++Q.map (nest e n cs)++B)){i:Nat}{q:Sl × List α}(hi:Q[i]?=some q)(hn:0<n):Rw h n q.1 (q.2.map cs):=by
 have mc:i<(Q.map (nest e n cs)).length:=by rw[Yc];exact (Ya.1 hi).1
 exact hs.rw (A.length+i) (rows:=q.2.map cs) (by rw[mo mc,Yd,hi];rfl) hn
def aJ(L:List Nat):List Int:=L.map fun c:Nat=>(c:Int)
theorem nA(L:List Nat)(c:Nat):aJ (L++[c])=aJ L++[(c:Int)]:=by unfold aJ;rw[Ym];rfl
theorem cZ{L:List Nat}{i:Nat}{d:Int}(h:(aJ L)[i]?=some d):∃c:Nat,L[i]?=some c/\d=c:=by
 unfold aJ at h;rw[Yd] at h;obtain⟨c,hc,rfl⟩:=rP.1 h;exact⟨c,hc,rfl⟩
end Go.VC
end

section
namespace Go.VC
open Go.LexS

end Go.VC
end

section
namespace Go.VC
open Go.Proofs Go.LexS

end Go.VC
end

section
namespace Go.VC
open Go.LexS

end Go.VC
end

section
namespace Go.VC
open Go.Proofs Go.LexS
def mP(x:Nm):Dc:=⟨x,⟨none,0,0⟩,0,⟨none,0,0⟩,⟨none,0,0⟩,[],[],[]⟩
def cU:Bool->List Ed
 | true=>[⟨0,0,1,0,1,false⟩,⟨0,0,1,1,2,false⟩,⟨1,1,2,0,3,false⟩,⟨2,1,2,1,4,false⟩,⟨3,2,1,2,5,false⟩,⟨4,2,1,3,5,false⟩]
 | false=>[⟨0,0,1,0,1,false⟩,⟨0,0,1,1,2,false⟩,⟨1,2,1,2,3,false⟩,⟨2,2,1,3,3,false⟩]
def dx(b:Bool)(hr hd he ht:Sl):Gl:=⟨[101],hr,hd,if b then 6 else 4,0,if b then 5 else 3,he,ht,[[112],[113],[114]],[mP [97],mP [98],mP [99],mP [100]],cU b,[]⟩
theorem gK(p0 p1 p2 p3 p4:Int)(h:Heap):Fn Pz 87 #[.int .i64 p0,.int .i64 p1,.int .i64 p2,.int .i64 p3,.int .i64 p4] h fun v h'=>v=.agg ⟨Ed.cs ⟨p0,p1,p2,p3,p4,false⟩⟩/\Ext h h':=by
 apply acM;unfold W87;have hs:=St.refl h;refine hs.aj (vs:=Ed.cs ⟨p0,p1,p2,p3,p4,false⟩) rfl rfl fun h2 hs=>?_;exact⟨_,_,_,_,_,_,hs.at 0 rfl (n:=6) rfl,rfl,hs.ext⟩
theorem RL.none_{α:Type}{h:Heap}{k:Nat}{cs:α->List Value}:RL h k ⟨none,0,0⟩ cs []:=⟨Rw.nil,bu _,fun _=>⟨rfl,rfl⟩,Nat.zero_le _⟩
theorem St.rl{α:Type}{h0 h:Heap}{L:List It}(hs:St h0 h L)(k:Nat){s:Sl}{e:TypeId}{n:Nat}{cs:α->List Value}{l:List α}(hk:L[k]?=some (.sl s e n (l.map cs)))(hn:0<n)(hl:l.length<=1048576):RL h n s cs l:=by
 have:=hs.len k hk hn;exact⟨hs.rows k hk hn,this.2.1,this.2.2,hl⟩
theorem Ql(L:List Nm):∀r∈L.map Es,r.length=1:=fun r hr=>by obtain⟨x,_,rfl⟩:=Yp.1 hr;rfl
theorem Si(L:List Dc):∀r∈L.map Dc.cs,r.length=5:=fun r hr=>by obtain⟨x,_,rfl⟩:=Yp.1 hr;rfl
theorem Jf(L:List Ed):∀r∈L.map Ed.cs,r.length=6:=fun r hr=>by obtain⟨x,_,rfl⟩:=Yp.1 hr;rfl
theorem tH(b:Bool)(h:Heap):Fn Pz 38 #[.bool b] h fun v h'=>Ext h h'/\∃hr hd he:Sl,v=(dx b hr hd he ⟨none,0,0⟩).v/\GI h' (dx b hr hd he ⟨none,0,0⟩):=by
 apply adw;unfold W38 Tx;have hs:=St.refl h;refine hs.ao fun h1 hs=>?_;refine hs.ao fun h2 hs=>?_;have hs:=hs.dz 3 1 ([[112],[113],[114]].map Es) rfl (Ql _) rfl (by decide);refine hs.ao fun h3 hs=>?_;have hs:=hs.dz 4 5 ([mP [97],mP [98],mP [99],mP [100]].map Dc.cs) rfl (Si _) rfl (by decide);refine hs.aj (vs:=[.string (bs [101]),.slice (some ⟨h1.size,0,none⟩) 3 3,.slice (some ⟨h2.size,0,none⟩) 4 4,.int .i64 4,.int .i64 0,.int .i64 3,.slice none 0 0,.slice none 0 0]) rfl rfl fun h5 hs=>?_;refine (gK _ _ _ _ _ _).mono ?_;rintro _ _ ⟨rfl,E⟩;replace hs:=hs.step E;clear E;refine⟨_,_,_,_,_,_,rfl,?_⟩;refine (gK _ _ _ _ _ _).mono ?_;rintro _ _ ⟨rfl,E⟩;replace hs:=hs.step E;clear E;refine⟨_,_,_,_,_,_,rfl,?_⟩;refine (gK _ _ _ _ _ _).mono ?_;rintro _ _ ⟨rfl,E⟩;replace hs:=hs.step E;clear E;refine⟨_,_,_,_,_,_,rfl,?_⟩;refine (gK _ _ _ _ _ _).mono ?_;rintro _ _ ⟨rfl,E⟩;replace hs:=hs.step E;clear E;refine⟨_,_,_,_,_,_,rfl,?_⟩;refine hs.ao fun tB hs=>?_;have hs:=hs.dz 4 6 ((cU false).map Ed.cs) rfl (Jf _) rfl (by decide);refine hs.put 1 rfl (o:=6) (vs:=[.slice (some ⟨_,0,none⟩) 4 4]) rfl (show 7<=8 by decide) fun sw hs=>?_;cases b
 .refine im rfl ?_;refine⟨_,⟨some ⟨h1.size,0,none⟩,3,3⟩,⟨some ⟨h2.size,0,none⟩,4,4⟩,_,_,_,⟨some ⟨_,0,none⟩,4,4⟩,⟨none,0,0⟩,hs.at 1 rfl (n:=8) rfl,?_⟩;refine hs.put 4 rfl (o:=0) (vs:=(dx false ⟨some ⟨h1.size,0,none⟩,3,3⟩ ⟨some ⟨h2.size,0,none⟩,4,4⟩ ⟨some ⟨_,0,none⟩,4,4⟩ ⟨none,0,0⟩).cs) rfl (show 8<=8 by decide) fun afA hs=>?_;refine⟨_,⟨some ⟨h1.size,0,none⟩,3,3⟩,⟨some ⟨h2.size,0,none⟩,4,4⟩,_,_,_,⟨some ⟨_,0,none⟩,4,4⟩,⟨none,0,0⟩,hs.at 4 rfl (n:=8) rfl,hs.ext,_,_,_,rfl,?_⟩;refine⟨hs.rl 3 rfl (by decide) (show 3<=1048576 by decide),⟨hs.rl 2 rfl (by decide) (show 4<=1048576 by decide),fun d hd=>?_⟩,hs.rl 0 rfl (by decide) (show 4<=1048576 by decide),RL.none_⟩;have hd:d∈[mP [97],mP [98],mP [99],mP [100]]:=hd;simp only[Yr,List.not_mem_nil,or_false] at hd;rcases hd with rfl | rfl | rfl | rfl<;>exact⟨RL.none_,RL.none_,RL.none_⟩
 .refine gR rfl ?_;refine hs.put 1 rfl (o:=3) (vs:=[.int .i64 6]) rfl (show 4<=8 by decide) fun km hs=>?_;refine hs.put 1 rfl (o:=5) (vs:=[.int .i64 5]) rfl (show 6<=8 by decide) fun Nh hs=>?_;refine (gK _ _ _ _ _ _).mono ?_;rintro _ _ ⟨rfl,E⟩;replace hs:=hs.step E;clear E;refine⟨_,_,_,_,_,_,rfl,?_⟩;refine (gK _ _ _ _ _ _).mono ?_;rintro _ _ ⟨rfl,E⟩;replace hs:=hs.step E;clear E;refine⟨_,_,_,_,_,_,rfl,?_⟩;refine (gK _ _ _ _ _ _).mono ?_;rintro _ _ ⟨rfl,E⟩;replace hs:=hs.step E;clear E;refine⟨_,_,_,_,_,_,rfl,?_⟩;refine (gK _ _ _ _ _ _).mono ?_;rintro _ _ ⟨rfl,E⟩;replace hs:=hs.step E;clear E;refine⟨_,_,_,_,_,_,rfl,?_⟩;refine (gK _ _ _ _ _ _).mono ?_;rintro _ _ ⟨rfl,E⟩;replace hs:=hs.step E;clear E;refine⟨_,_,_,_,_,_,rfl,?_⟩;refine (gK _ _ _ _ _ _).mono ?_;rintro _ _ ⟨rfl,E⟩;replace hs:=hs.step E;clear E;refine⟨_,_,_,_,_,_,rfl,?_⟩;refine hs.ao fun vL hs=>?_;have hs:=hs.dz 6 6 ((cU true).map Ed.cs) rfl (Jf _) rfl (by decide);refine hs.put 2 rfl (o:=6) (vs:=[.slice (some ⟨_,0,none⟩) 6 6]) rfl (show 7<=8 by decide) fun h91 hs=>?_;refine⟨_,⟨some ⟨h1.size,0,none⟩,3,3⟩,⟨some ⟨h2.size,0,none⟩,4,4⟩,_,_,_,⟨some ⟨_,0,none⟩,6,6⟩,⟨none,0,0⟩,hs.at 2 rfl (n:=8) rfl,?_⟩;refine hs.put 5 rfl (o:=0) (vs:=(dx true ⟨some ⟨h1.size,0,none⟩,3,3⟩ ⟨some ⟨h2.size,0,none⟩,4,4⟩ ⟨some ⟨_,0,none⟩,6,6⟩ ⟨none,0,0⟩).cs) rfl (show 8<=8 by decide) fun afA hs=>?_;refine⟨_,⟨some ⟨h1.size,0,none⟩,3,3⟩,⟨some ⟨h2.size,0,none⟩,4,4⟩,_,_,_,⟨some ⟨_,0,none⟩,6,6⟩,⟨none,0,0⟩,hs.at 5 rfl (n:=8) rfl,hs.ext,_,_,_,rfl,?_⟩;refine⟨hs.rl 4 rfl (by decide) (show 3<=1048576 by decide),⟨hs.rl 3 rfl (by decide) (show 4<=1048576 by decide),fun d hd=>?_⟩,hs.rl 0 rfl (by decide) (show 6<=1048576 by decide),RL.none_⟩;have hd:d∈[mP [97],mP [98],mP [99],mP [100]]:=hd;simp only[Yr,List.not_mem_nil,or_false] at hd;rcases hd with rfl | rfl | rfl | rfl<;>exact⟨RL.none_,RL.none_,RL.none_⟩
deriving instance DecidableEq for Ed
theorem q8(b:Bool)(hr hd he ht:Sl):ah (dx b hr hd he ht):=by
 have KX:(dx b hr hd he ht).rs=[[112],[113],[114]]:=rfl;have hds:(dx b hr hd he ht).ds=[mP [97],mP [98],mP [99],mP [100]]:=rfl;have Fe:(dx b hr hd he ht).es=cU b:=rfl;have cA:cc [mP [97],mP [98],mP [99],mP [100]]=[]:=rfl;have Zl:∀ {α:Type} {P:Nat->α->Prop} {l:List α},(∀i (hi:i<l.length),P i l[i])->∀i x,l[i]?=some x->P i x:=by
  intro α P l h i x hx;obtain⟨h1,h2⟩:=Ya.1 hx;rw[<-h2];exact h i h1
 refine⟨⟨by rfl,by rw[KX];decide,by rw[KX];decide,?_⟩,⟨?_,?_,?_⟩,?_,⟨?_,?_,?_⟩,?_,?_,?_⟩
 .rw[KX];refine Zl (P:=fun i s=>isWord s=true/\s∉List.take i [[112],[113],[114]]) fun i hi=>?_;have hi:i<3:=hi
  match i,hi with
  | 0,_=>exact cd rfl
  | 1,_=>exact cd rfl
  | 2,_=>exact cd rfl
 .cases b<;>exact⟨cd rfl,cd rfl,cd rfl,cd rfl,cd rfl,cd rfl⟩
 .rw[Fe];cases b<;>decide
 .rw[Fe];unfold fp;rw[KX,hds];cases b
  .show ∀x∈cU false,0<=x.f/\0<=x.t/\0<=x.a/\0<=x.b/\0<=x.l/\x.f<4/\x.t<4/\x.a<((3:Nat):Int)/\x.b<((3:Nat):Int)/\x.a≠x.b/\x.l<((4:Nat):Int);decide
  .show ∀x∈cU true,0<=x.f/\0<=x.t/\0<=x.a/\0<=x.b/\0<=x.l/\x.f<6/\x.t<6/\x.a<((3:Nat):Int)/\x.b<((3:Nat):Int)/\x.a≠x.b/\x.l<((4:Nat):Int);decide
 .rw[hds];refine⟨by decide,by rw[cA];decide,?_⟩;refine Zl (P:=fun i d=>DcS [mP [97],mP [98],mP [99],mP [100]] i d) fun i hi=>?_;have hi:i<4:=hi;have hg:nU [] [] []:=⟨by decide,by decide,fun x hx=>(by cases hx),fun x hx=>(by cases hx)⟩
  match i,hi with
  | 0,_=>exact⟨by rfl,cd rfl,cd rfl,by rfl,fun k f hf=>(by cases hf),by rw[cA];exact hg⟩
  | 1,_=>exact⟨by rfl,cd rfl,cd rfl,by rfl,fun k f hf=>(by cases hf),by rw[cA];exact hg⟩
  | 2,_=>exact⟨by rfl,cd rfl,cd rfl,by rfl,fun k f hf=>(by cases hf),by rw[cA];exact hg⟩
  | 3,_=>exact⟨by rfl,cd rfl,cd rfl,by rfl,fun k f hf=>(by cases hf),by rw[cA];exact hg⟩
 .rw[Fe];cases b
  .show ∀x∈cU false,x.f≠3;decide
  .show ∀x∈cU true,x.f≠5;decide
 .rw[Fe];cases b
  .show ∀x∈cU false,x.ag=true->x.f≠0;decide
  .show ∀x∈cU true,x.ag=true->x.f≠0;decide
 .rw[Fe];have key:((cU b).zipIdx.all fun p=>(cU b).zipIdx.all fun q=>!decide ((p.2≠q.2/\p.1.f=q.1.f/\((p.1.a=q.1.a/\p.1.b=q.1.b/\p.1.l=q.1.l)\/p.1.a≠q.1.a\/p.1.ag=true))\/(p.1.ag=true/\q.1.t=p.1.f/\(p.1.a≠q.1.a\/p.1.l≠q.1.l))))=true:=by
   cases b<;>decide
  intro i x hx k y hy aeO;have h1:=List.all_eq_true.1 key (x,i) (Yf.2 ⟨i,by rw[List.getElem?_zipIdx,hx];simp⟩);have h2:=List.all_eq_true.1 h1 (y,k) (Yf.2 ⟨k,by rw[List.getElem?_zipIdx,hy];simp⟩);have h3:=eI (Bool.not_eq_true' _ ▸ h2);exact h3 aeO
 .intro i t ht;exact absurd ht (by show ([]:List To)[i]?≠some t;simp)
 .intro v h0 h1;rw[Fe];cases b
  .have h1:v<4:=h1;show gL (cU false) false 0 v;have s0:gL (cU false) false 0 0:=.refl;have s1:gL (cU false) false 0 1:=.step s0 ⟨⟨0,0,1,0,1,false⟩,by decide,rfl,rfl⟩;have s2:gL (cU false) false 0 2:=.step s0 ⟨⟨0,0,1,1,2,false⟩,by decide,rfl,rfl⟩;have s3:gL (cU false) false 0 3:=.step s1 ⟨⟨1,2,1,2,3,false⟩,by decide,rfl,rfl⟩;have:v=0\/v=1\/v=2\/v=3:=by omega
   rcases this with rfl | rfl | rfl | rfl<;>assumption
  .have h1:v<6:=h1;show gL (cU true) false 0 v;have s0:gL (cU true) false 0 0:=.refl;have s1:gL (cU true) false 0 1:=.step s0 ⟨⟨0,0,1,0,1,false⟩,by decide,rfl,rfl⟩;have s2:gL (cU true) false 0 2:=.step s0 ⟨⟨0,0,1,1,2,false⟩,by decide,rfl,rfl⟩;have s3:gL (cU true) false 0 3:=.step s1 ⟨⟨1,1,2,0,3,false⟩,by decide,rfl,rfl⟩;have s4:gL (cU true) false 0 4:=.step s2 ⟨⟨2,1,2,1,4,false⟩,by decide,rfl,rfl⟩;have s5:gL (cU true) false 0 5:=.step s3 ⟨⟨3,2,1,2,5,false⟩,by decide,rfl,rfl⟩;have:v=0\/v=1\/v=2\/v=3\/v=4\/v=5:=by omega
   rcases this with rfl | rfl | rfl | rfl | rfl | rfl<;>assumption
 .intro v h0 h1;rw[Fe];cases b
  .have h1:v<4:=h1;show gL (cU false) true 3 v;have s3:gL (cU false) true 3 3:=.refl;have s1:gL (cU false) true 3 1:=.step s3 ⟨⟨1,2,1,2,3,false⟩,by decide,rfl,rfl⟩;have s2:gL (cU false) true 3 2:=.step s3 ⟨⟨2,2,1,3,3,false⟩,by decide,rfl,rfl⟩;have s0:gL (cU false) true 3 0:=.step s1 ⟨⟨0,0,1,0,1,false⟩,by decide,rfl,rfl⟩;have:v=0\/v=1\/v=2\/v=3:=by omega
   rcases this with rfl | rfl | rfl | rfl<;>assumption
  .have h1:v<6:=h1;show gL (cU true) true 5 v;have s5:gL (cU true) true 5 5:=.refl;have s3:gL (cU true) true 5 3:=.step s5 ⟨⟨3,2,1,2,5,false⟩,by decide,rfl,rfl⟩;have s4:gL (cU true) true 5 4:=.step s5 ⟨⟨4,2,1,3,5,false⟩,by decide,rfl,rfl⟩;have s1:gL (cU true) true 5 1:=.step s3 ⟨⟨1,1,2,0,3,false⟩,by decide,rfl,rfl⟩;have s2:gL (cU true) true 5 2:=.step s4 ⟨⟨2,1,2,1,4,false⟩,by decide,rfl,rfl⟩;have s0:gL (cU true) true 5 0:=.step s1 ⟨⟨0,0,1,0,1,false⟩,by decide,rfl,rfl⟩;have:v=0\/v=1\/v=2\/v=3\/v=4\/v=5:=by omega
   rcases this with rfl | rfl | rfl | rfl | rfl | rfl<;>assumption

def RBo(h:Heap)(v:Value)(h':Heap):Prop:=(∃b:Bool,v=.bool b)/\Ext h h'
theorem RBo.mk{h h':Heap}{b:Bool}(E:Ext h h'):RBo h (.bool b) h':=⟨⟨b,rfl⟩,E⟩
theorem Ext.jg{h:Heap}:Ext h h:=⟨bu _,fun _ _=>rfl⟩
def RP(p:Prop)(h:Heap)(v:Value)(h':Heap):Prop:=(∃b:Bool,v=.bool b/\(b=true ↔ p))/\Ext h h'
theorem RP.t{p:Prop}{h h':Heap}(hp:p)(E:Ext h h'):RP p h (.bool true) h':=⟨⟨true,rfl,iff_of_true rfl hp⟩,E⟩
theorem RP.f{p:Prop}{h h':Heap}(hp:¬p)(E:Ext h h'):RP p h (.bool false) h':=⟨⟨false,rfl,iff_of_false (by decide) hp⟩,E⟩
theorem RP.e{p:Prop}{h h':Heap}{b:Bool}(hb:b=true ↔ p)(E:Ext h h'):RP p h (.bool b) h':=⟨⟨b,rfl,hb⟩,E⟩
theorem cM{p:Prop}{b:Bool}(hp:b=true ↔ p)(c:b=false):¬p:=fun hq=>by
 rw[hp.2 hq] at c;cases c
theorem Xa{al:List Addr}{h h':Heap}(E:Ext h h'):Sm al h h':=fun _ _ _ _ hv=>aw E hv
theorem KF{al:List Addr}{h h':Heap}{b:Nat}(hB:kx b h h')(hn:∀a∈al,a.block≠b):Sm al h h':=fun a ha k v hv=>by
 rw[dQ (hB.2 _ (by rw[eZ];exact hn a ha))];exact hv
theorem iz{h:Heap}{a:Addr}{v:Value}(hv:hc h a=some v):a.block<h.size:=by
 rcases Nat.lt_or_ge a.block h.size with h1 | h1
 .exact h1
 .unfold VC.hc at hv;simp[Array.getElem?_eq_none h1] at hv
def P7(x y:Mv):Bool:=decide (x.send=y.send/\x.peer=y.peer/\x.label=y.label/\x.ag=y.ag)
def Xv(li:List To)(s:Int):Option Nat:=li.findIdx? fun t=>decide (t.s=s)
def LO(m:mL)(a b:Int):Bool:=match Xv m.li a,Xv m.li b with
 | none,none=>true
 | some i,some k=>match m.li[i]?,m.li[k]? with
  | some x,some y=>match m.mv[x.e.toNat]?,m.mv[y.e.toNat]? with
   | some p,some q=>decide (x.k=y.k)&&P7 p q
   | _,_=>false
  | _,_=>false
 | _,_=>false
def yI(g:Gl):Prop:=g.es.length<=50/\g.rs.length<=6/\g.ds.length<=40/\g.ts.length<=50
instance (g:Gl):Decidable (yI g):=by unfold yI;infer_instance
theorem Zs(g:Gl)(h:Heap)(hg:GI h g):Fn Pz 39 #[g.v] h fun v h'=>v=.bool (decide (yI g))/\Ext h h':=by
 apply adv (bs g.nm) g.hr g.hd g.n g.s g.e g.he g.ht;unfold W39;have hs:=St.refl h;have h1:=hg.e.ln;have h2:=hg.r.ln;have h3:=hg.d.r.ln;have h4:=hg.t.ln;refine hs.ao fun h9 hs=>?_;refine⟨_,hs.rd 0 rfl rfl,?_⟩;refine aQ (fun c1=>?_) (fun c1=>⟨dF fun hc=>by unfold yI at hc;omega,hs.ext⟩);refine⟨_,hs.rd 0 rfl rfl,?_⟩;refine aQ (fun c2=>?_) (fun c2=>⟨dF fun hc=>by unfold yI at hc;omega,hs.ext⟩);refine⟨_,hs.rd 0 rfl rfl,?_⟩;refine aQ (fun c3=>?_) (fun c3=>⟨dF fun hc=>by unfold yI at hc;omega,hs.ext⟩);refine⟨_,hs.rd 0 rfl rfl,?_,hs.ext⟩;congr 1;rw[decide_eq_decide];unfold yI;omega
theorem Zt(g:Gl)(h:Heap)(hg:GI h g):Fn Pz 13 #[g.v] h fun v h'=>v=.bool (decide (yI g/\g.n<=25))/\Ext h h':=by
 apply adF (bs g.nm) g.hr g.hd g.n g.s g.e g.he g.ht;unfold W13;have hs:=St.refl h;refine hs.ao fun h9 hs=>?_;refine⟨_,_,_,_,_,_,_,_,hs.at 0 rfl (n:=8) rfl,?_⟩;refine (Zs g h9 (hg.ext hs.ext)).mono ?_;rintro _ az ⟨rfl,E20⟩;replace hs:=hs.step E20;refine⟨_,rfl,?_⟩;refine aQ (fun c1=>?_) (fun c1=>⟨dF fun hc=>c1 hc.1,hs.ext⟩);refine⟨_,hs.rd 0 rfl rfl,?_,hs.ext⟩;congr 1;rw[decide_eq_decide];exact⟨fun h=>⟨c1,h⟩,fun h=>h.2⟩

def base(m:mL)(i k:Nat):Bool:=decide (m.fin.getD i false=m.fin.getD k false)&&LO m i k

end Go.VC
end

section
namespace Go.VC
open Go.LexS




end Go.VC
end

section
namespace Go.VC
open Go.Proofs Go.LexS

theorem tc(b:UInt8)(h:Heap):Fn Pz 227 #[.int .u8 b.toNat] h fun v h'=>v=.bool (lt b)/\h'=h:=by
 apply Vp;unfold aaE;unfold lt isLetter;generalize (b.toNat:Int)=n
 repeat' first
  | refine aQ (fun _=>?_) (fun _=>?_)
 all_goals
  refine⟨?_,rfl⟩;congr 1;rw[Bool.eq_iff_iff];simp only[Bool.or_eq_true,Yt,decide_eq_true_eq,Bool.false_eq_true,true_iff,false_iff];omega
theorem Jl(b:UInt8)(h:Heap):Fn Pz 275 #[.int .u8 b.toNat] h fun v h'=>v=.bool (dg b)/\h'=h:=by
 apply U4;unfold aaj;unfold dg isDigit;refine aQ (fun c=>⟨?_,rfl⟩) (fun c=>⟨?_,rfl⟩)
 .rw[decide_eq_true (p:=(48:Int)<=b.toNat) c,Bool.true_and]
 .rw[decide_eq_false (p:=(48:Int)<=b.toNat) c,Bool.false_and]
theorem HU(b:UInt8)(h:Heap):Fn Pz 228 #[.int .u8 b.toNat] h fun v h'=>v=.bool (inn b)/\h'=h:=by
 apply Vo;unfold aaD;refine (tc b h).mono ?_;rintro _ h3 ⟨rfl,rfl⟩;refine⟨_,rfl,aa (fun c=>?_) (fun c=>?_)⟩
 .exact⟨by rw[show inn b=(lt b||dg b||((b.toNat:Int)==95)) from rfl,c];rfl,rfl⟩
 .refine (Jl b _).mono ?_;rintro _ h6 ⟨rfl,rfl⟩;refine⟨_,rfl,aa (fun d=>?_) (fun d=>?_)⟩
  .exact⟨by rw[show inn b=(lt b||dg b||((b.toNat:Int)==95)) from rfl,c,d];rfl,rfl⟩
  .exact⟨by rw[show inn b=(lt b||dg b||((b.toNat:Int)==95)) from rfl,c,d];rfl,rfl⟩
theorem EF(s:ByteArray)(h:Heap):Fn Pz 176 #[.string s] h fun v h'=>v=.bool (isName s.data.toList)/\h'=h:=by
 apply VU;unfold abd;have fL:=lD s;rw[qb];generalize hL:s.data.toList=L at *;refine aa (fun he=>?_) (fun he=>?_)
 .have:L=[]:=cd he;subst this;exact⟨rfl,rfl⟩
 .have bI:L≠[]:=eI he;have gG:0<L.length:=List.length_pos_iff.2 bI;obtain⟨b,hb,Cv⟩:=jy (s:=s) (i:=0) (by omega);rw[hL] at hb;have xF:L=b::L.drop 1:=by have:=drop_cons hb;rwa [List.drop_zero] at this
  have Rp:isName L=(decide (L.length<=16)&&lt b&&L.all inn):=by
   conv=>lhs;rw[xF]
   rw[isName,<-xF]
  rw[Rp];refine⟨⟨by omega,by omega⟩,?_⟩;rw[show Int.toNat 0=0 from rfl,Cv];refine (tc _ _).mono ?_;rintro v h3 ⟨rfl,rfl⟩;refine⟨_,rfl,aa (fun qR=>?_) (fun qR=>?_)⟩
  .refine⟨?_,rfl⟩;rw[show lt b=false from by rw[Bool.not_eq_true'] at qR;exact qR,Bool.and_false];rfl
  rw[show lt b=true from by rw[Bool.not_eq_false'] at qR;exact qR];refine aa (fun Iu=>?_) (fun Iu=>?_)
  .refine⟨?_,rfl⟩;rw[decide_eq_false (by have:=cd Iu;omega)];rfl
  .have fx:L.length<=16:=by have:=eI Iu;omega
   rw[decide_eq_true fx];refine bU (n:=s.size) (fun i h'=>h'=h3/\∀(j:Nat) (b:UInt8),j<i->L[j]?=some b->(!inn b)=false) ⟨rfl,fun j b hj=>by omega⟩ ?_;rintro-i h8 hi ⟨rfl,hd⟩;refine aa (fun bt=>?_) (fun Fb=>?_)
   .have xA:=bw bt;obtain⟨y,hy,Ru⟩:=jy xA;rw[hL] at hy;refine⟨⟨by omega,by omega⟩,?_⟩;rw[show Int.toNat (i:Int)=i from rfl,Ru];refine (HU _ _).mono ?_;rintro v jP ⟨rfl,rfl⟩;refine⟨_,rfl,aa (fun hp=>?_) (fun hp=>?_)⟩
    .refine⟨?_,rfl⟩;have:L.all inn=false:=by
      rw[<-Bool.not_eq_true,jV];intro hh;have:=hh y i hy;rw[Bool.not_eq_true'] at hp;rw[show inn y=false from hp] at this;cases this
     rw[this];rfl
    .exact Up.next xA (by omega) ⟨rfl,eM (p:=fun b=>!inn b) hy hp hd⟩
   .have YG:=bz Fb;refine⟨?_,rfl⟩;rw[(jV inn L).2 fun b j hb=>by simpa using hd j b (by have:=(Ya.1 hb).1;omega) hb];rfl
theorem Xz(l:List Nm)(s:Sl)(x:ByteArray)(h:Heap)(hr:Rw h 1 s (l.map Es))(hm:l.length<=1048576):Fn Pz 177 #[.slice s.a s.n s.c,.string x] h fun v h'=>v=.bool (decide (x.data.toList∈l))/\h'=h:=by
 apply VT;unfold abc;have hn:=hr.ln;refine bU (n:=s.n) (fun i h'=>h'=h/\x.data.toList∉l.take i) ⟨rfl,fun e=>by simp at e⟩ ?_;rintro-i h8 hi ⟨rfl,hd⟩;refine aa (fun c=>?_) (fun c=>?_)
 .replace c:=bw c;refine hr.ax (by omega) (by omega) fun b o d g t=>?_;replace g:l[i]?=some d:=g;refine⟨_,t.hd,?_⟩;rw[qb,dp];refine aa (fun he=>?_) (fun bI=>?_)
  .replace he:=cd he;exact⟨by rw[decide_eq_true (by first | (rw[he];exact Yb g) | (rw[<-he];exact Yb g))],rfl⟩
  .replace bI:=eI bI;refine Up.next c (by omega) ⟨rfl,fun ik=>?_⟩;rw[List.take_add_one,g] at ik;rcases Yk.1 ik with ik | ik
   .exact hd ik
   .first | exact bI (Ye.1 ik) | exact bI (Ye.1 ik).symm
 .replace c:=bz c;refine⟨?_,rfl⟩;rw[Yj (by omega)] at hd;rw[decide_eq_false hd]
theorem HZ(l:List Nm)(s:Sl)(x:ByteArray)(h:Heap)(hr:Rw h 1 s (l.map Es))(hm:l.length<=1048576):Fn Pz 101 #[.slice s.a s.n s.c,.string x] h fun v h'=>(∃k:Int,v=.int .i64 k/\(∀i:Nat,i<l.length->(k<(i:Int) ↔ x.data.toList∈l.take i\/x.data.toList∉l)))/\h'=h:=by
 apply WU;unfold acg;have hn:=hr.ln;refine bU (n:=s.n) (fun i h'=>h'=h/\x.data.toList∉l.take i) ⟨rfl,fun e=>by simp at e⟩ ?_;rintro-i h8 hi ⟨rfl,hd⟩;refine aa (fun c=>?_) (fun c=>?_)
 .replace c:=bw c;refine hr.ax (by omega) (by omega) fun b o d g t=>?_;replace g:l[i]?=some d:=g;refine⟨_,t.hd,?_⟩;rw[qb,dp];refine aa (fun he=>?_) (fun bI=>?_)
  .replace he:=cd he;have he2:x.data.toList=d:=by first | exact he | exact he.symm
   have dh:x.data.toList∈l:=by rw[he2];exact Yb g
   refine⟨⟨_,rfl,fun k hk=>⟨fun hik=>.inl ?_,fun oA=>?_⟩⟩,rfl⟩
   .have:l[i]?=some x.data.toList:=by rw[he2];exact g
    exact Yb (i:=i) (by rw[rO,if_pos (by omega)];exact this)
   .rcases oA with oA | oA
    .apply Classical.byContradiction;intro Rf;have:l.take k=(l.take i).take k:=by rw[List.take_take,Nat.min_eq_left (by omega)]
     rw[this] at oA;exact hd (List.mem_of_mem_take oA)
    .exact absurd dh oA
  .replace bI:=eI bI;refine Up.next c (by omega) ⟨rfl,fun ik=>?_⟩;rw[List.take_add_one,g] at ik;rcases Yk.1 ik with ik | ik
   .exact hd ik
   .first | exact bI (Ye.1 ik) | exact bI (Ye.1 ik).symm
 .replace c:=bz c;rw[Yj (by omega)] at hd;exact⟨⟨_,rfl,fun k hk=>⟨fun _=>.inr hd,fun _=>by omega⟩⟩,rfl⟩
def kwB:List ByteArray:=[⟨#[97,103,97,105,110]⟩,⟨#[97,110,100]⟩,⟨#[97,115]⟩,⟨#[97,116]⟩,⟨#[99,97,108,108]⟩,⟨#[99,104,111,105,99,101]⟩,⟨#[101,108,115,101]⟩,⟨#[102,114,111,109]⟩,⟨#[105,102]⟩,⟨#[105,110,116]⟩,⟨#[108,101,110]⟩,⟨#[108,111,111,112]⟩,⟨#[109,101,115,115,97,103,101]⟩,⟨#[111,102]⟩,⟨#[111,102,102,101,114]⟩,⟨#[111,110]⟩,⟨#[111,114]⟩,⟨#[112,97,114]⟩,⟨#[112,108,97,121,115]⟩,⟨#[112,114,111,116,111,99,111,108]⟩,⟨#[115,101,114,118,105,99,101]⟩,⟨#[116,101,120,116]⟩,⟨#[116,105,109,101,115]⟩,⟨#[116,111]⟩,⟨#[118,97,114]⟩,⟨#[119,104,101,114,101]⟩,⟨#[119,104,105,108,101]⟩,⟨#[119,105,116,104,105,110]⟩]
theorem QF:(kwB.map fun b=>b.data.toList)=fJ:=rfl
theorem xd(h:Heap):Fn Pz 178 #[] h fun v h'=>Ext h h'/\∃s:Sl,v=.slice s.a s.n s.c/\Rw h' 1 s (fJ.map Es):=by
 apply VS;unfold abb;intro h1 e;have ho:Own h1 h.size (kwB.map Value.string) 9:=by rw[e];exact Own.push
 have hl:kwB.length=28:=rfl;rw[<-QF];refine⟨by rw[e];exact Ext.push _ _,⟨some ⟨h.size,0,none⟩,28,28⟩,rfl,by rw[Yc,Yc,hl],fun _=>⟨h.size,0,rfl,fun i row hi=>?_⟩⟩;rw[List.map_map,Yd] at hi;obtain⟨x,MN,Ak⟩:=rP.1 hi;subst Ak;refine ho.aY fun j v hj=>?_
 match j,hj with
 | 0,hj=>cases hj;rw[show 0+i*1+0=i by omega,Yd,MN];rfl
theorem jL(s:ByteArray)(h:Heap):Fn Pz 100 #[.string s] h fun v h'=>v=.bool (isWord s.data.toList)/\Ext h h':=by
 apply WV;unfold ach;refine (EF s h).mono ?_;rintro _ h3 ⟨rfl,rfl⟩;refine⟨_,rfl,aa (fun c=>?_) (fun c=>?_)⟩
 .refine (xd h3).mono ?_;rintro _ h6 ⟨E2,k,rfl,hk⟩;refine⟨_,rfl,?_⟩;refine (Xz _ k s h6 hk (by decide)).mono ?_;rintro _ h9 ⟨rfl,rfl⟩;exact⟨_,rfl,by rw[isWord,c];rfl,E2⟩
 .exact⟨by rw[isWord,c];rfl,.jg⟩
theorem Bj(s:ByteArray)(h:Heap):Fn Pz 229 #[.string s] h fun v h'=>v=.bool (isWord s.data.toList)/\Ext h h':=by
 apply Vn;unfold aaC;refine (jL s h).mono ?_;rintro _ h3 ⟨rfl,E⟩;exact⟨_,rfl,rfl,E⟩
theorem Ah{l:Nm}:Lib.index l [46]=Lib.indexByte l 46:=Lib.index_one l 46
theorem wM{l:Nm}(hn:∀k:Nat,l[k]?≠some 46):pieces l=[l]:=by
 have h1:Lib.index l [46]=-1:=by
  have h0:=Lib.index_ge l [46];apply Classical.byContradiction;intro h2;obtain⟨o,ho⟩:∃o:Nat,Lib.index l [46]=o:=⟨(Lib.index l [46]).toNat,by omega⟩;rw[Ah] at ho;exact hn o (Lib.indexByte_some ho).1
 unfold pieces Lib.split;rw[Lib.count_miss h1];rfl
theorem zw{l:Nm}{i:Nat}(hi:l[i]?=some 46)(hn:∀k:Nat,k<i->l[k]?≠some 46):pieces l=l.take i::pieces (l.drop (i+1)):=by
 have h1:Lib.index l [46]=(i:Int):=by
  have h0:=Lib.index_ge l [46];have h2:Lib.index l [46] ≠ -1:=fun h2=>by rw[Ah] at h2;exact Lib.indexByte_none h2 i hi
  obtain⟨o,ho⟩:∃o:Nat,Lib.index l [46]=o:=⟨(Lib.index l [46]).toNat,by omega⟩;have h3:=Lib.indexByte_some (Ah (l:=l) ▸ ho);have:o=i:=by
   rcases Nat.lt_trichotomy o i with h | h | h
   .exact absurd h3.1 (hn o h)
   .exact h
   .exact absurd hi (h3.2 i h)
  rw[ho,this]
 unfold pieces Lib.split;rw[Lib.count_hit (i:=i) (by decide) h1,Nat.add_comm 1,Lib.splitK,if_neg (by rw[h1];intro e;have:=eq_of_beq e;omega),h1];rfl
theorem EE(s:ByteArray)(h:Heap)(hs:s.size<=1048576):Fn Pz 181 #[.string s] h fun v h'=>v=.bool (ix s.data.toList)/\Ext h h':=by
 apply VO;unfold aaY Kx;have fL:=lD s;generalize hL:s.data.toList=L at *;refine⟨fun f i h' m=>∃a b:Nat,f=a/\i=b/\a<=b/\b<=s.size+1/\m=s.size+1-b/\Ext h h'/\(b<=s.size->(∀k:Nat,a<=k->k<b->L[k]?≠some 46)/\(pieces L).all isWord=(pieces (L.drop a)).all isWord)/\(s.size<b->(pieces L).all isWord=true),⟨_,0,0,rfl,rfl,bu _,by omega,rfl,.jg,fun _=>⟨fun k _ hk=>by omega,rfl⟩,fun hb=>by omega⟩,?_⟩;rintro-_ _ h6 m ⟨a,b,rfl,rfl,kj,hb,rfl,E,hq,hz⟩;refine aa (fun c=>?_) (fun c=>?_)
 .replace c:=cd c;have hbs:b<=s.size:=by omega
  obtain⟨q1,q2⟩:=hq hbs;have hw:IntKind.wrap .i64 ((b:Int)+1)=((b+1:Nat):Int):=by rw[bd (by omega) (by omega)];omega
  have kM:(s.extract (Int.toNat (a:Int)) (Int.toNat (b:Int))).data.toList=(L.drop a).take (b-a):=by
   rw[show Int.toNat (a:Int)=a from rfl,show Int.toNat (b:Int)=b from rfl,I8,hL]
  refine aa (fun c2=>?_) (fun c2=>?_)
  .have Fh:b=s.size:=by
    have:(b:Int)=s.size:=by simpa using c2
    omega
   have hp:pieces (L.drop a)=[L.drop a]:=wM fun k hk=>by
    rw[List.getElem?_drop] at hk;exact q1 (a+k) (by omega) (by have:=(Ya.1 hk).1;omega) hk
   have hta:(L.drop a).take (b-a)=L.drop a:=Yj (by rw[List.length_drop];omega);refine⟨⟨by omega,by omega,by omega⟩,?_⟩;refine (Bj _ h6).mono ?_;rintro _ h9 ⟨rfl,E2⟩;rw[kM,hta];rw[hp,List.all_cons,List.all_nil,Bool.and_true] at q2;refine⟨_,rfl,aa (fun c3=>?_) (fun c3=>⟨_,by omega,b+1,b+1,hw,hw,by omega,by omega,rfl,E.trans E2,fun jr=>by omega,fun _=>?_⟩)⟩
   .refine⟨?_,E.trans E2⟩;rw[ix,q2,bF c3,Bool.and_false]
   .rw[q2,bT c3]
  .have bI:(b:Int)≠s.size:=by simpa using c2
   obtain⟨y,hy,Cv⟩:=jy (s:=s) (i:=b) (by omega);rw[hL] at hy;refine⟨⟨by omega,by omega⟩,?_⟩;rw[show Int.toNat (b:Int)=b from rfl] at *;rw[Cv];refine aa (fun c3=>?_) (fun c3=>⟨_,by omega,a,b+1,rfl,hw,by omega,by omega,rfl,E,fun _=>⟨fun k K4 fg=>?_,q2⟩,fun jr=>by omega⟩)
   .have aeb:y=46:=by
     have h4:(y.toNat:Int)=46:=by simpa using c3
     exact UInt8.toNat_inj.1 (by rw[show (46:UInt8).toNat=46 from rfl];omega)
    subst aeb;have hp:pieces (L.drop a)=(L.drop a).take (b-a)::pieces ((L.drop a).drop (b-a+1)):=zw (by rw[List.getElem?_drop,show a+(b-a)=b by omega];exact hy) fun k hk=>by
     rw[List.getElem?_drop];exact q1 (a+k) (by omega) (by omega)
    rw[List.drop_drop,show a+(b-a+1)=b+1 by omega] at hp;rw[hp,List.all_cons] at q2;refine⟨⟨by omega,by omega,by omega⟩,?_⟩;refine (Bj _ h6).mono ?_;rintro _ h9 ⟨rfl,E2⟩;rw[kM];refine⟨_,rfl,aa (fun c4=>?_) (fun c4=>⟨_,by omega,b+1,b+1,hw,hw,by omega,by omega,rfl,E.trans E2,fun jr=>⟨fun k _ _=>by omega,?_⟩,fun jr=>by omega⟩)⟩
    .refine⟨?_,E.trans E2⟩;rw[ix,q2,bF c4,Bool.false_and,Bool.and_false]
    .rw[q2,bT c4,Bool.true_and]
   .by_cases Io:k=b
    .subst Io;rw[hy];intro e;cases e;simp at c3
    .exact q1 k K4 (by omega)
 .replace c:=eI c;refine⟨?_,E⟩;rw[ix,hz (by omega),Bool.and_true];first | rfl | (congr 1;rw[decide_eq_decide];omega)
theorem tY(ds:List Dc)(s:Sl)(h:Heap)(hd:DL h s ds):Fn Pz 179 #[.slice s.a s.n s.c] h fun v h'=>v=.int .i64 ((cc ds).length:Nat)/\(cc ds).length<=1099511627776/\h'=h:=by
 apply VQ;unfold aba;have hn:=hd.r.ln;have hm:=hd.r.sm;have hle:∀i,i<=ds.length->(cc (ds.take i)).length<=i*1048576:=fun i hi=>by
  have:=vi (ds.take i) fun d hd2=>(hd.i d (List.mem_of_mem_take hd2)).pf.sm;rw[Yu,Nat.min_eq_left hi] at this;exact this
 have sh:∀i,i<=ds.length->(cc (ds.take i)).length<=1099511627776:=fun i hi=>by
  have:=hle i hi;have:i*1048576<=1048576*1048576:=Nat.mul_le_mul_right _ (by omega);omega
 refine⟨fun q i h' m=>∃b:Nat,i=b/\b<=s.n/\m=s.n-b/\h'=h/\q=((cc (ds.take b)).length:Nat),⟨_,0,rfl,by omega,rfl,rfl,rfl⟩,?_⟩;rintro-nn _ h6 m ⟨b,rfl,hb,rfl,rfl,rfl⟩;refine aa (fun c=>?_) (fun c=>?_)
 .replace c:=bw c;refine hd.r.rw.ax (by omega) (by omega) fun b7 o8 d g t=>?_;replace g:ds[b]?=some d:=g;have yU:=(hd.i d (Yb g)).pf.ln;refine⟨_,t.nth 1 rfl,_,?_,b+1,by rw[bd (by omega) (by omega)];omega,by omega,rfl,rfl,?_⟩
  .omega
  .have h1:=sh (b+1) (by omega);rw[List.take_add_one,g,Option.toList_some,ia,Yh] at h1 ⊢;rw[bd (by omega) (by omega)];omega
 .replace c:=bz c;have h1:=sh ds.length (bu _);rw[vV] at h1;rw[Yj (by omega)];exact⟨rfl,h1,rfl⟩
theorem xJ(a b c:Int)(h:Heap):Fn Pz 180 #[.agg ⟨[.int .i64 a,.int .i64 b,.int .i64 c]⟩] h (RP (rE a b c) h):=by
 apply VP;unfold aaZ Ky;refine (St.refl h).ao fun h4 hs=>?_;refine⟨fun l m h'=>h'=h4/\((a=2/\l=0/\m=40)\/(a≠2/\l=-1000/\m=1000)),⟨_,hs.rd 0 rfl rfl,aQ (fun c=>⟨rfl,.inl ⟨by simpa using c,rfl,rfl⟩⟩) (fun c=>⟨rfl,.inr ⟨by simpa using c,rfl,rfl⟩⟩)⟩,?_⟩;rintro-l m _ ⟨rfl,hlm⟩
 repeat' (first
  | (refine⟨_,hs.rd 0 rfl rfl,?_⟩)
  | (refine aQ (fun _=>?_) (fun _=>?_)))
 all_goals
  refine RP.e ?_ hs.ext;unfold rE;simp only[Bool.false_eq_true,decide_eq_true_eq,beq_iff_eq,false_iff,true_iff] at *;omega
theorem I5(ds:List Dc)(s:Sl)(p:Int)(h:Heap)(hd:DL h s ds)(h0:0<=p)(h1:p<(cc ds).length)(h2:(cc ds).length<=1099511627776):
  Fn Pz 276 #[.slice s.a s.n s.c,.int .i64 p] h fun v h'=>(∃f,(cc ds)[p.toNat]?=some f/\v=.agg ⟨f.cs⟩)/\Ext h h':=by
 apply U3;unfold aai Ko;have hn:=hd.r.ln;have hm:=hd.r.sm;refine (St.refl h).ao fun RU hs=>?_;refine⟨fun x i h' m=>∃b:Nat,i=b/\b<=s.n/\m=s.n-b/\h'=RU/\0<=x/\x+((cc (ds.take b)).length:Nat)=p,⟨_,0,rfl,by omega,rfl,rfl,h0,by show p+((0:Nat):Int)=p;omega⟩,?_⟩;rintro-x _ h7 m ⟨b,rfl,hb,rfl,rfl,kL,MN⟩;refine aa (fun c=>?_) (fun c=>?_)
 .replace c:=bw c;have iy:=hd.r.rw.ext hs.ext;refine iy.ax (by omega) (by omega) fun b8 o9 d g t=>?_;replace g:ds[b]?=some d:=g;have Cs:=hd.i d (Yb g);have yU:=Cs.pf.ln;have hfm:=Cs.pf.sm;have Ge:cc ds=cc (ds.take b)++(d.fs++cc (ds.drop (b+1))):=by
   have e:ds=ds.take b++d::ds.drop (b+1):=by
    have h3:=(List.take_append_drop b ds).symm;have hl:=(Ya.1 g).1;rw[List.drop_eq_getElem_cons hl,(Ya.1 g).2] at h3;exact h3
   conv=>lhs;rw[e]
   unfold cc;rw[List.flatMap_append,List.flatMap_cons]
  refine⟨_,t.nth 1 rfl,aa (fun c2=>?_) (fun c2=>?_)⟩
  .replace c2:=cd c2;refine iy.ax (by omega) (by omega) fun b11 o12 d2 g2 t2=>?_;replace g2:ds[b]?=some d2:=g2;rw[g] at g2;cases g2;refine⟨_,t2.nth 1 rfl,?_⟩;refine (Cs.pf.rw.ext hs.ext).ax kL c2 fun b14 o15 f g3 t3=>?_;refine⟨_,_,_,_,t3,?_⟩;refine hs.put 0 rfl (o:=0) (vs:=f.cs) rfl (show 4<=4 by decide) fun az hs=>?_;refine⟨_,_,_,_,hs.at 0 rfl (o:=0) (n:=4) rfl,⟨f,?_,rfl⟩,hs.ext⟩;have Gc:=(Ya.1 g3).1;rw[Ge,sz (by omega),lg (by omega),<-g3];congr 1;omega
  .replace c2:=eI c2;refine iy.ax (by omega) (by omega) fun b11 o12 d2 g2 t2=>?_;replace g2:ds[b]?=some d2:=g2;rw[g] at g2;cases g2;refine⟨_,t2.nth 1 rfl,s.n-(b+1),by omega,b+1,by rw[bd (by omega) (by omega)];omega,by omega,rfl,rfl,?_⟩;rw[bd (by omega) (by omega)];refine⟨by omega,?_⟩;rw[List.take_add_one,g,Option.toList_some,ia,Yh];omega
 .replace c:=bz c;rw[Yj (by omega)] at MN;omega
theorem Bm(ds:List Dc)(s:Sl)(p:Int)(h:Heap)(hd:DL h s ds):Fn Pz 230 #[.slice s.a s.n s.c,.int .i64 p] h (RP (ic (cc ds) p) h):=by
 apply Vm;unfold aaB;refine aa (fun c=>?_) (fun c=>?_)
 .replace c:=cd c;refine (tY ds s h hd).mono ?_;rintro _ h3 ⟨rfl,hk,rfl⟩;refine⟨_,rfl,aa (fun c2=>?_) (fun c2=>?_)⟩
  .replace c2:=cd c2;refine (I5 ds s p _ hd (by omega) (by omega) hk).mono ?_;rintro _ h9 ⟨⟨f,hf,rfl⟩,E⟩;refine⟨_,_,_,_,rfl,RP.e ⟨fun hb=>⟨by omega,f,hf,by simpa using hb⟩,?_⟩ E⟩;rintro⟨_,f2,Ug,fg⟩;rw[hf] at Ug;cases Ug;simpa using fg
  .replace c2:=eI c2;refine RP.f ?_ .jg;rintro⟨_,f2,Ug,_⟩;have:=(Ya.1 Ug).1;omega
 .replace c:=eI c;exact RP.f (fun hT=>by have:=hT.1;omega) .jg
theorem u9(ds:List Dc)(s:Sl)(d:Dc)(h:Heap)(hd:DL h s ds)(hi:DI h d):
  Fn Pz 182 #[.slice s.a s.n s.c,.agg ⟨[.slice d.hd.a d.hd.n d.hd.c,.slice d.he.a d.he.n d.he.c]⟩] h (RP (nU (cc ds) d.ds d.es) h):=by
 apply VN s d.hd d.he;unfold aaX;have sk:=hi.pd.ln;have hdm:=hi.pd.sm;have nI:=hi.pe.ln;have Iy:=hi.pe.sm;refine (St.refl h).ao fun h3 hs=>?_;refine (tY ds s h3 (hd.ext hs.ext)).mono ?_;rintro _ h6 ⟨rfl,hk,rfl⟩;refine⟨_,rfl,?_⟩;refine aD (n:=d.hd.n) hs (fun i=>∀(j:Nat) (x:Df),j<i->d.ds[j]?=some x -> -1<=min x.x x.y/\max x.x x.y<(cc ds).length /\ -20000<=x.c/\x.c<=20000) (fun j x hj=>by omega) ?_;rintro-i jP dC ⟨hs,hq⟩;refine⟨_,hs.rd 0 rfl rfl,aa (fun c=>?_) (fun c=>?_)⟩
 .replace c:=bw c;refine⟨_,hs.rd 0 rfl rfl,?_⟩;refine (hi.pd.rw.ext hs.ext).ax (by omega) (by omega) fun b o x g t=>?_;replace g:d.ds[i]?=some x:=g;refine⟨_,_,_,t,?_⟩;refine hs.aj (vs:=x.cs) rfl rfl fun az hs=>?_
  repeat' (first
    | (refine⟨_,hs.rd 0 rfl rfl,?_⟩)
    | (refine⟨_,hs.rd 1 rfl rfl,?_⟩)
    | (refine aQ (fun _=>?_) (fun _=>?_))
    | (refine eS (fun _=>?_) (fun _=>?_))
    | (refine dY (fun _=>?_) (fun _=>?_)))
  all_goals first
   | exact RP.f (fun hG=>by have:=hG.d x (Yb g);omega) hs.ext
   | (refine Up.next c (by omega) ⟨hs.drop 1,fun j y hj hy=>?_⟩
      by_cases e:j=i
      .subst e;rw[g] at hy;cases hy;omega
      .exact hq j y (by omega) hy)
 .replace c:=bz c;have hqd:∀x∈d.ds,-1<=min x.x x.y/\max x.x x.y<(cc ds).length /\ -20000<=x.c/\x.c<=20000:=fun x hx=>by
   obtain⟨j,hj⟩:=Yf.1 hx;exact hq j x (by have:=(Ya.1 hj).1;omega) hj
  clear hq;refine aD (n:=d.he.n) hs (fun i=>∀(j:Nat) (x:KN),j<i->d.es[j]?=some x->ic (cc ds) x.x/\ic (cc ds) x.y) (fun j x hj=>by omega) ?_;rintro-i CC dC ⟨hs,hq⟩;refine⟨_,hs.rd 0 rfl rfl,aa (fun c=>?_) (fun c=>?_)⟩
  .replace c:=bw c;refine⟨_,hs.rd 0 rfl rfl,?_⟩;refine (hi.pe.rw.ext hs.ext).ax (by omega) (by omega) fun b o x g t=>?_;replace g:d.es[i]?=some x:=g;refine⟨⟨by omega,by omega⟩,_,t.nth 0 rfl,?_⟩;refine (Bm ds s _ CC (hd.ext hs.ext)).mono ?_;rintro _ km ⟨⟨b1,rfl,nJ⟩,E⟩;have hs:=hs.step E;refine⟨_,rfl,aa (fun c1=>RP.f (fun hG=>cM nJ (bF c1) (hG.e x (Yb g)).1) hs.ext) (fun c1=>?_)⟩;refine⟨_,hs.rd 0 rfl rfl,?_⟩;refine (hi.pe.rw.ext hs.ext).ax (by omega) (by omega) fun b o x' g' t=>?_;replace g':d.es[i]?=some x':=g';rw[g] at g';cases g';refine⟨⟨by omega,by omega⟩,_,t.nth 1 rfl,?_⟩;refine (Bm ds s _ km (hd.ext hs.ext)).mono ?_;rintro _ mO ⟨⟨b2,rfl,jr⟩,E⟩;have hs:=hs.step E;refine⟨_,rfl,aa (fun c2=>RP.f (fun hG=>cM jr (bF c2) (hG.e x (Yb g)).2) hs.ext) (fun c2=>Up.next c (by omega) ⟨hs,fun j y hj hy=>?_⟩)⟩;by_cases e:j=i
   .subst e;rw[g] at hy;cases hy;exact⟨nJ.1 (bT c1),jr.1 (bT c2)⟩
   .exact hq j y (by omega) hy
  .replace c:=bz c;have Ij:∀x∈d.es,ic (cc ds) x.x/\ic (cc ds) x.y:=fun x hx=>by
    obtain⟨j,hj⟩:=Yf.1 hx;exact hq j x (by have:=(Ya.1 hj).1;omega) hj
   refine⟨_,hs.rd 0 rfl rfl,aa (fun c1=>⟨_,hs.rd 0 rfl rfl,?_⟩) (fun c1=>?_)⟩
   .replace c1:=cd c1;refine RP.e ⟨fun hb=>⟨by omega,by have:=cd hb;omega,hqd,Ij⟩,fun hG=>?_⟩ hs.ext;have:=hG.ne;exact decide_eq_true (by omega)
   .replace c1:=eI c1;exact RP.f (fun hG=>by have:=hG.nd;omega) hs.ext
def KK(ds:List Dc):Prop:=∀d∈ds,d.nm.length<=1048576
theorem pT{α:Type}{l:List α}{p:α->Bool}:(l.any p)=false ↔ ∀(j:Nat) (y:α),l[j]?=some y->p y=false:=by
 rw[List.any_eq_false];refine⟨fun h j y hj=>?_,fun h y hy=>?_⟩
 .have:=h y (Yb hj);cases hp:p y<;>simp_all
 .obtain⟨j,hj⟩:=Yf.1 hy;rw[h j y hj];decide
theorem wE(ds:List Dc)(s:Sl)(h:Heap)(hd:DL h s ds)(hN:KK ds):Fn Pz 102 #[.slice s.a s.n s.c] h (RP (oX ds) h):=by
 apply WT;unfold acf;have hn:=hd.r.ln;have hm:=hd.r.sm;refine aa (fun c0=>RP.f (fun hG=>by have:=hG.pn;have:=cd c0;omega) .jg) (fun c0=>?_);replace c0:=eI c0;refine (tY ds s h hd).mono ?_;rintro _ h3 ⟨rfl,hk,rfl⟩;refine⟨_,rfl,aa (fun UA=>RP.f (fun hG=>by have:=hG.pv;have:=cd UA;omega) .jg) (fun UA=>?_)⟩;replace UA:=eI UA;refine⟨fun f i h' m=>∃b:Nat,i=b/\b<=s.n/\m=s.n-b/\St h3 h' []/\f=((cc (ds.take b)).length:Nat)/\∀(j:Nat) (y:Dc),j<b->ds[j]?=some y->DcS ds j y,⟨_,0,rfl,by omega,rfl,St.refl _,rfl,fun j y hj=>by omega⟩,?_⟩;rintro-_ _ h9 m ⟨b,rfl,hb,rfl,hs,rfl,hq⟩;refine aa (fun c=>?_) (fun c=>RP.t ⟨by omega,by omega,fun j y hy=>hq j y (by have:=bz c;have:=(Ya.1 hy).1;omega) hy⟩ hs.ext);replace c:=bw c;refine (hd.r.rw.ext hs.ext).ax (by omega) (by omega) fun b10 TM d g t=>?_;replace g:ds[b]?=some d:=g;have hdm:=Yb g;have Cs:=hd.i d hdm;have yU:=Cs.pf.ln;have hfm:=Cs.pf.sm;refine⟨_,_,_,_,_,t,?_⟩;refine hs.aj (vs:=d.cs) rfl rfl fun gJ hs=>?_;refine aD (n:=b) hs (fun i=>∀(j:Nat) (y:Dc),j<i->ds[j]?=some y->y.nm≠d.nm) (fun j y hj=>by omega) ?_;rintro-k1 nM K4 ⟨hs,ES⟩;refine aa (fun c1=>?_) (fun c1=>?_)
 .replace c1:=bw c1;refine (hd.r.rw.ext hs.ext).ax (by omega) (by omega) fun b24 o25 d2 g2 t2=>?_;replace g2:ds[k1]?=some d2:=g2;refine⟨_,t2.nth 0 rfl,_,hs.rd 0 rfl rfl,sBs (fun e=>?_) (fun e=>Up.next c1 (by omega) ⟨hs,fun j y hj hy=>?_⟩)⟩
  .refine RP.f (fun hG=>?_) hs.ext;have:=pT.1 (hG.pd b d g).pd k1 d2 (by rw[rO,if_pos c1];exact g2);exact eI this e
  .by_cases e2:j=k1
   .subst e2;rw[g2] at hy;cases hy;exact e
   .exact ES j y (by omega) hy
 replace c1:=bz c1;have aeH:((ds.take b).any fun x=>decide (x.nm=d.nm))=false:=pT.2 fun j y hy=>by
  rw[rO] at hy;split at hy
  .exact decide_eq_false (ES j y (by omega) hy)
  .cases hy
 clear ES;refine aD (n:=d.hf.n) hs (fun i=>∀(j:Nat) (y:oW),j<i->d.fs[j]?=some y->KM d.fs j y) (fun j y hj=>by omega) ?_;rintro-k2 pG fg ⟨hs,ij⟩;refine⟨_,hs.rd 0 rfl rfl,aa (fun c2=>?_) (fun c2=>?_)⟩
 .replace c2:=bw c2;refine⟨_,hs.rd 0 rfl rfl,?_⟩;refine (Cs.pf.rw.ext hs.ext).ax (by omega) (by omega) fun b36 o37 f g3 t3=>?_;replace g3:d.fs[k2]?=some f:=g3;refine⟨_,_,_,t3.sub 1 3 rfl,?_⟩;refine (xJ _ _ _ pG).mono ?_;rintro _ RM ⟨⟨b1,rfl,nJ⟩,E⟩;have hs:=hs.step E;refine⟨_,rfl,aa (fun c3=>RP.f (fun hG=>cM nJ (bF c3) ((hG.pd b d g).TI k2 f g3).ps) hs.ext) (fun c3=>?_)⟩;refine⟨_,hs.rd 0 rfl rfl,?_⟩;refine (Cs.pf.rw.ext hs.ext).ax (by omega) (by omega) fun b45 o46 f2 g4 t4=>?_;replace g4:d.fs[k2]?=some f2:=g4;rw[g3] at g4;cases g4;refine⟨_,t4.nth 0 rfl,?_⟩;refine (jL (bs f.nm) RM).mono ?_;rintro _ j7 ⟨rfl,E⟩;have hs:=hs.step E;refine⟨_,rfl,aa (fun c4=>RP.f (fun hG=>?_) hs.ext) (fun c4=>?_)⟩
  .have:=((hG.pd b d g).TI k2 f g3).pw;rw[dp,this] at c4;cases c4
  refine aD (n:=k2) hs (fun i=>∀(j:Nat) (y:oW),j<i->d.fs[j]?=some y->y.nm≠f.nm) (fun j y hj=>by omega) ?_;rintro-j1 Pj hj1 ⟨hs,hq3⟩;refine aa (fun c5=>?_) (fun c5=>?_)
  .replace c5:=bw c5;refine⟨_,hs.rd 0 rfl rfl,?_⟩;refine (Cs.pf.rw.ext hs.ext).ax (by omega) (by omega) fun b57 o58 f3 g5 t5=>?_;replace g5:d.fs[j1]?=some f3:=g5;refine⟨_,t5.nth 0 rfl,_,hs.rd 0 rfl rfl,?_⟩;refine (Cs.pf.rw.ext hs.ext).ax (by omega) (by omega) fun b61 o62 f4 g6 t6=>?_;replace g6:d.fs[k2]?=some f4:=g6;rw[g3] at g6;cases g6;refine⟨_,t6.nth 0 rfl,sBs (fun e=>?_) (fun e=>Up.next c5 (by omega) ⟨hs,fun j y hj hy=>?_⟩)⟩
   .refine RP.f (fun hG=>?_) hs.ext;have:=pT.1 ((hG.pd b d g).TI k2 f g3).pd j1 f3 (by rw[rO,if_pos c5];exact g5);exact eI this e
   .by_cases e2:j=j1
    .subst e2;rw[g5] at hy;cases hy;exact e
    .exact hq3 j y (by omega) hy
  .replace c5:=bz c5;refine Up.next c2 (by omega) ⟨hs,fun j y hj hy=>?_⟩;by_cases e2:j=k2
   .subst e2;rw[g3] at hy;cases hy;refine⟨?_,nJ.1 (bT c3),pT.2 fun j' y' tm=>?_⟩
    .have:=bT c4;rw[dp] at this;exact this
    .rw[rO] at tm;split at tm
     .exact decide_eq_false (hq3 j' y' (by omega) tm)
     .cases tm
   .exact ij j y (by omega) hy
 .replace c2:d.hf.n<=k2:=by have:=eI c2;omega
  have fV:∀k f,d.fs[k]?=some f->KM d.fs k f:=fun k f hf=>ij k f (by have:=(Ya.1 hf).1;omega) hf;refine⟨_,hs.rd 0 rfl rfl,?_⟩;refine (EE (bs d.nm) pG (hN d hdm)).mono ?_;rintro _ Uo ⟨rfl,E⟩;have hs:=hs.step E;refine⟨_,rfl,aa (fun c3=>RP.f (fun hG=>?_) hs.ext) (fun c3=>?_)⟩
  .have:=(hG.pd b d g).pp;rw[dp,this] at c3;cases c3
  have hpp:ix d.nm=true:=by have:=bT c3;rw[dp] at this;exact this
  refine⟨_,hs.rd 0 rfl rfl,aa (fun c4=>RP.f (fun hG=>by have:=(hG.pd b d g).pn;have:=cd c4;omega) hs.ext) (fun c4=>?_)⟩;replace c4:=eI c4;refine⟨_,hs.rd 0 rfl rfl,dY (fun c5=>RP.f (fun hG=>by have:=(hG.pd b d g).pf;omega) hs.ext) (fun c5=>?_)⟩;refine⟨_,_,hs.at 0 rfl (o:=3) (n:=2) rfl,?_⟩;refine (u9 ds s d Uo (hd.ext hs.ext) (Cs.ext hs.ext)).mono ?_;rintro _ h76 ⟨⟨b2,rfl,jr⟩,E⟩;have hs:=hs.step E;refine⟨_,rfl,aa (fun c6=>RP.f (fun hG=>cM jr (bF c6) (hG.pd b d g).pg) hs.ext) (fun c6=>?_)⟩;refine⟨_,hs.rd 0 rfl rfl,s.n-(b+1),by omega,b+1,by rw[bd (by omega) (by omega)];omega,by omega,rfl,hs.drop 1,?_,fun j y hj hy=>?_⟩
  .have h1:(cc (ds.take (b+1))).length<=(cc ds).length:=tT ds (b+1);rw[List.take_add_one,g,Option.toList_some,ia,Yh] at h1 ⊢;rw[bd (by omega) (by omega)];omega
  .by_cases e2:j=b
   .subst e2;rw[g] at hy;cases hy;exact⟨hpp,by omega,by omega,aeH,fV,jr.1 (bT c6)⟩
   .exact hq j y (by omega) hy
theorem St.cut{h0 h:Heap}{L:List It}(hs:St h0 h L)(k:Nat){s:Sl}{e:TypeId}{n:Nat}{rows:List (List Value)}(hk:L[k]?=some (.sl s e n rows))(hn:0<n)(i:Nat)(hi:i<=s.n):
  St h0 h (L.set k (.sl ⟨s.a,i,s.c⟩ e n (rows.take i))):=by
 have gH:=hs.get hk;have Cn:=(hs.rw k hk hn).1;refine hs.gD hk (bu _) (j:=.sl ⟨s.a,i,s.c⟩ e n (rows.take i)) ?_ (fun b hb=>.inr hb) (fun _ _ _=>rfl);have nD:∀r∈rows.take i,r.length=n:=fun r hr=>gH.2 r (List.mem_of_mem_take hr);have fV:(rows.take i).flatten=rows.flatten.take (i*n):=by
  have h5:rows=rows.take i++rows.drop i:=(List.take_append_drop i rows).symm;rw[congrArg List.flatten h5,List.flatten_append,PG (by rw[aO _ nD,Yu,Nat.min_eq_left (by omega)];exact bu _)];rw[Yj (l:=(rows.take i).flatten) (by rw[aO _ nD,Yu,Nat.min_eq_left (by omega)];exact bu _)]
 have dC:i*n<=s.n*n:=Nat.mul_le_mul_right _ hi;refine⟨⟨by rw[aO _ nD,Yu];show min i rows.length*n=i*n;rw[Nat.min_eq_left (by omega)],?_⟩,nD⟩;rcases gH.1.2 with ⟨ha,h2,h3⟩ | ⟨g,cur,ha,Fi,hh,xz,Cu,fL,XG⟩
 .exact .inl ⟨ha,by show i=0;omega,h3⟩
 .refine .inr ⟨g,cur,ha,Fi,hh,by show i<=s.c;omega,Cu,fL,?_⟩;show cur.toList.take (i*n)=_;rw[fV,<-XG,List.take_take,Nat.min_eq_left dC]
theorem qc{xs:List Value}{i:Nat}{v:Value}(h:i<xs.length):aA xs i [v]=xs.set i v:=by
 unfold aA;rw[List.set_eq_take_append_cons_drop,if_pos h];simp
theorem jb(g:Gl)(p:Int)(h:Heap):Fn Pz 103 #[g.v,.int .i64 p] h (RP (0<=p/\p<g.n) h):=by
 apply WR (bs g.nm) g.hr g.hd g.n g.s g.e g.he g.ht;unfold ace;refine (St.refl h).ao fun h9 hs=>?_;refine aa (fun c=>?_) (fun c=>?_)
 .refine⟨_,hs.rd 0 rfl rfl,RP.e ?_ hs.ext⟩;have:=cd c;rw[decide_eq_true_eq];omega
 .exact RP.f (by have:=eI c;omega) hs.ext
structure TB (g:Gl):Prop where
 n:1<=g.n/\g.n<=200
 s:0<=g.s/\g.s<g.n
 e:0<=g.e/\g.e<g.n
 es:∀x∈g.es,0<=x.f/\x.f<g.n/\0<=x.t/\x.t<g.n
theorem yF.R{g:Gl}(h:yF g):TB g:=⟨⟨h.n.1,h.n.2.1⟩,⟨h.n.2.2.1,h.n.2.2.2.2.1⟩,⟨h.n.2.2.2.1,h.n.2.2.2.2.2⟩,fun x hx=>by
 have:=h.e x hx;unfold fp at this;omega⟩
theorem Er(g:Gl)(h:Heap)(hg:GI h g):Fn Pz 44 #[g.v] h (RP (yF g) h):=by
 apply adr (bs g.nm) g.hr g.hd g.n g.s g.e g.he g.ht;unfold W44;have nI:=hg.e.ln;have Iy:=hg.e.sm;have l8:=hg.r.ln;have sk:=hg.d.r.ln;refine (St.refl h).ao fun h9 hs=>?_;refine aD (n:=g.he.n) hs (fun i=>∀j x,j<i->g.es[j]?=some x->fp g x) (fun j x hj=>by omega) ?_;rintro-i uW hi ⟨hs,hq⟩;refine⟨_,hs.rd 0 rfl rfl,aa (fun c=>?_) (fun c=>?_)⟩
 .replace c:=bw c;refine⟨_,hs.rd 0 rfl rfl,?_⟩;refine (hg.e.rw.ext hs.ext).ax (by omega) (by omega) fun b o x gx t=>?_;replace gx:g.es[i]?=some x:=gx;refine⟨_,_,_,_,_,_,t,?_⟩;refine hs.aj (vs:=x.cs) rfl rfl fun Fl hs=>?_;refine⟨_,_,_,_,_,_,_,_,hs.at 1 rfl (o:=0) (n:=8) rfl,_,hs.rd 0 rfl rfl,?_⟩;refine (jb g x.f Fl).mono ?_;rintro _ tB ⟨⟨b1,rfl,nJ⟩,E⟩;have hs:=hs.step E;refine⟨_,rfl,aa (fun c1=>RP.f (fun hG=>by have:=cM nJ (bF c1);have:=hG.e x (Yb gx);unfold fp at this;omega) hs.ext) (fun c1=>?_)⟩;refine⟨_,_,_,_,_,_,_,_,hs.at 1 rfl (o:=0) (n:=8) rfl,_,hs.rd 0 rfl rfl,?_⟩;refine (jb g x.t tB).mono ?_;rintro _ j7 ⟨⟨b2,rfl,jr⟩,E⟩;have hs:=hs.step E;refine⟨_,rfl,aa (fun c2=>RP.f (fun hG=>by have:=cM jr (bF c2);have:=hG.e x (Yb gx);unfold fp at this;omega) hs.ext) (fun c2=>?_)⟩;have f1:=nJ.1 (bT c1);have f2:=jr.1 (bT c2)
  repeat' (first
     | (refine⟨_,hs.rd 0 rfl rfl,?_⟩)
     | (refine⟨_,hs.rd 1 rfl rfl,?_⟩)
     | (refine⟨_,hs.rd 2 rfl rfl,?_⟩)
     | (refine⟨_,_,_,hs.at 0 rfl (o:=1) (n:=3) rfl,?_⟩)
     | (refine⟨_,_,_,hs.at 1 rfl (o:=1) (n:=3) rfl,?_⟩)
     | (refine aQ (fun _=>?_) (fun _=>?_))
     | (refine eS (fun _=>?_) (fun _=>?_))
     | (refine dY (fun _=>?_) (fun _=>?_))
     | (refine aa (fun _=>?_) (fun _=>?_)))
  all_goals first
   | exact RP.f (fun hG=>by have:=hG.e x (Yb gx);unfold fp at this;omega) hs.ext
   | (refine Up.next c (by omega) ⟨hs.drop 1,fun j y hj hy=>?_⟩
      by_cases e:j=i
      .subst e;rw[gx] at hy;cases hy;unfold fp;omega
      .exact hq j y (by omega) hy)
 .replace c:=bz c;refine⟨_,hs.rd 0 rfl rfl,aa (fun c1=>?_) (fun c1=>RP.f (fun hG=>by have:=eI c1;have:=hG.n;omega) hs.ext)⟩;refine⟨_,hs.rd 0 rfl rfl,aa (fun c2=>?_) (fun c2=>RP.f (fun hG=>by have:=eI c2;have:=hG.n;omega) hs.ext)⟩;refine⟨_,_,_,_,_,_,_,_,hs.at 0 rfl (o:=0) (n:=8) rfl,_,hs.rd 0 rfl rfl,?_⟩;refine (jb g g.s uW).mono ?_;rintro _ h76 ⟨⟨b3,rfl,Nb⟩,E⟩;have hs:=hs.step E;refine⟨_,rfl,aa (fun c3=>?_) (fun c3=>RP.f (fun hG=>by have:=cM Nb c3;have:=hG.n;omega) hs.ext)⟩;refine⟨_,_,_,_,_,_,_,_,hs.at 0 rfl (o:=0) (n:=8) rfl,_,hs.rd 0 rfl rfl,?_⟩;refine (jb g g.e h76).mono ?_;rintro _ h88 ⟨⟨b4,rfl,Ul⟩,E⟩;have hs:=hs.step E;refine⟨_,rfl,aa (fun c4=>?_) (fun c4=>RP.f (fun hG=>by have:=cM Ul c4;have:=hG.n;omega) hs.ext)⟩;have f1:=cd c1;have f2:=cd c2;have f3:=Nb.1 c3;have f4:=Ul.1 c4;refine⟨_,hs.rd 0 rfl rfl,RP.e ⟨fun hb=>⟨by omega,by have:=cd hb;omega,fun x hx=>?_⟩,fun hG=>decide_eq_true (by have:=hG.m;omega)⟩ hs.ext⟩;obtain⟨j,hj⟩:=Yf.1 hx;exact hq j x (by have:=(Ya.1 hj).1;omega) hj
structure ApS (g:Gl):Prop where
 s:∀x∈g.es,x.ag=true->x.f≠g.s
 p:∀i x,g.es[i]?=some x->∀k y,g.es[k]?=some y->¬cJ i k x y
theorem NQ(g:Gl)(h:Heap)(hg:GI h g):Fn Pz 45 #[g.v] h (RP (ApS g) h):=by
 apply adq (bs g.nm) g.hr g.hd g.n g.s g.e g.he g.ht;unfold W45 Tv NZ;have nI:=hg.e.ln;have Iy:=hg.e.sm;refine (St.refl h).ao fun h9 hs=>?_;refine aD (n:=g.he.n) hs (fun i=>∀(j:Nat) (x:Ed),j<i->g.es[j]?=some x->(x.ag=true->x.f≠g.s)/\∀k y,g.es[k]?=some y->¬cJ j k x y) (fun j y hj=>by omega) ?_;rintro-i uW hi ⟨hs,hq⟩;refine⟨_,hs.rd 0 rfl rfl,aa (fun c=>?_) (fun c=>RP.t ⟨fun x hx=>?_,fun j x hx=>?_⟩ hs.ext)⟩
 .replace c:=bw c;refine⟨_,hs.rd 0 rfl rfl,?_⟩;refine (hg.e.rw.ext hs.ext).ax (by omega) (by omega) fun b o x gx t=>?_;replace gx:g.es[i]?=some x:=gx;refine⟨_,_,_,_,_,_,t,?_⟩;refine hs.aj (vs:=x.cs) rfl rfl fun Fl hs=>?_;refine⟨_,hs.rd 0 rfl rfl,aa (fun cg=>?_) (fun cg=>?_)⟩;refine⟨_,hs.rd 0 rfl rfl,_,hs.rd 1 rfl rfl,eS (fun cs=>RP.f (fun hG=>hG.s x (Yb gx) cg cs) hs.ext) (fun cs=>?_)⟩;rotate_left;all_goals
   refine aD (n:=g.he.n) hs (fun k=>∀(j:Nat) (y:Ed),j<k->g.es[j]?=some y->¬cJ i j x y) (fun j y hj=>by omega) ?_;rintro-k kP hk ⟨hs,ij⟩;refine⟨_,hs.rd 1 rfl rfl,aa (fun c2=>?_) (fun c2=>?_)⟩
   .replace c2:=bw c2;refine⟨_,hs.rd 1 rfl rfl,?_⟩;refine (hg.e.rw.ext hs.ext).ax (by omega) (by omega) fun b o y gy ty=>?_;replace gy:g.es[k]?=some y:=gy;refine⟨_,_,_,_,_,_,ty,?_⟩;refine hs.aj (vs:=y.cs) rfl rfl fun oJ hs=>?_
    repeat' (first
       | (refine⟨_,hs.rd 0 rfl rfl,?_⟩)
       | (refine⟨_,hs.rd 1 rfl rfl,?_⟩)
       | (refine⟨_,hs.rd 2 rfl rfl,?_⟩)
       | (refine⟨_,_,_,hs.at 0 rfl (o:=1) (n:=3) rfl,?_⟩)
       | (refine⟨_,_,_,hs.at 1 rfl (o:=1) (n:=3) rfl,?_⟩)
       | (refine aQ (fun _=>?_) (fun _=>?_))
       | (refine eS (fun _=>?_) (fun _=>?_))
       | (refine dY (fun _=>?_) (fun _=>?_))
       | (refine aa (fun _=>?_) (fun _=>?_)))
    all_goals first
     | (refine RP.f (fun hG=>hG.p i x gx k y gy ?_) hs.ext;clear hq ij hs hg t ty;unfold cJ;grind)
     | (refine Up.next c2 (by omega) ⟨hs.drop 1,fun j z hj hz=>?_⟩
        by_cases e:j=k
        .subst e;rw[gy] at hz;cases hz;clear hq ij hs hg t ty;unfold cJ;grind
        .exact ij j z (by omega) hz)
   .replace c2:g.he.n<=k:=by have:=eI c2;omega
    refine Up.next c (by omega) ⟨hs.drop 1,fun j z hj hz=>?_⟩;by_cases e:j=i
    .subst e;rw[gx] at hz;cases hz;exact⟨by grind,fun k' y' tm=>ij k' y' (by have:=(Ya.1 tm).1;omega) tm⟩
    .exact hq j z (by omega) hz
 .obtain⟨j,hj⟩:=Yf.1 hx;exact (hq j x (by have:=bz c;have:=(Ya.1 hj).1;omega) hj).1
 .exact (hq j x (by have:=bz c;have:=(Ya.1 hx).1;omega) hx).2
theorem Ly(g:Gl)(h:Heap)(hg:GI h g)(hN:yF g):Fn Pz 47 #[g.v] h (RP (A9 g) h):=by
 apply adn (bs g.nm) g.hr g.hd g.n g.s g.e g.he g.ht;unfold W47 Tu;have nI:=hg.e.ln;have Iy:=hg.e.sm;have OT:=hg.t.ln;have EO:=hg.t.sm;refine (St.refl h).ao fun h9 hs=>?_;refine aD (n:=g.ht.n) hs (fun i=>∀(j:Nat) (x:To),j<i->g.ts[j]?=some x->TmS g j x) (fun j y hj=>by omega) ?_;rintro-i uW hi ⟨hs,hq⟩;refine⟨_,hs.rd 0 rfl rfl,aa (fun c=>?_) (fun c=>RP.t (fun j x hx=>hq j x (by have:=bz c;have:=(Ya.1 hx).1;omega) hx) hs.ext)⟩;replace c:=bw c;refine⟨_,hs.rd 0 rfl rfl,?_⟩;refine (hg.t.rw.ext hs.ext).ax (by omega) (by omega) fun b o x gx t=>?_;replace gx:g.ts[i]?=some x:=gx;have no:∀ {q:Prop},(TmS g i x->q)->A9 g->q:=fun f hT=>f (hT i x gx);refine⟨_,_,_,t,?_⟩;refine hs.aj (vs:=x.cs) rfl rfl fun nM hs=>?_;refine⟨_,_,_,_,_,_,_,_,hs.at 1 rfl (o:=0) (n:=8) rfl,_,hs.rd 0 rfl rfl,?_⟩;refine (jb g x.s nM).mono ?_;rintro _ bA ⟨⟨b1,rfl,nJ⟩,E⟩;have hs:=hs.step E;refine⟨_,rfl,aa (fun c1=>RP.f (no fun hT=>?_) hs.ext) (fun c1=>?_)⟩
 .obtain⟨_,y,hy,hf,_⟩:=hT.e;have:=cM nJ (bF c1);have:=hN.R.es y (Yb hy);omega
 have f1:=nJ.1 (bT c1);refine aQ (fun c2=>?_) (fun c2=>?_);have hw:IntKind.wrap .i64 ((i:Int)-1)=((i-1:Nat):Int):=by rw[bd (by omega) (by omega)];omega
 refine⟨_,hs.rd 0 rfl rfl,_,hs.rd 1 rfl rfl,?_⟩;rw[hw];refine (hg.t.rw.ext hs.ext).ax (by omega) (by omega) fun b o z gz tz=>?_;replace gz:g.ts[i-1]?=some z:=gz;have hl:lW g.ts i=z.s:=by unfold lW;rw[if_neg (by omega),gz]
 refine⟨_,tz.nth 0 rfl,aQ (fun d0=>RP.f (no fun hT=>by have:=hT.o;omega) hs.ext) (fun d0=>?_)⟩;have ho:lW g.ts i<x.s:=by omega
 rotate_left;have ho:lW g.ts i<x.s:=by unfold lW;rw[if_pos (by omega)];omega
 all_goals
  refine⟨_,hs.rd 0 rfl rfl,aQ (fun d1=>RP.f (no fun hT=>by have:=hT.k;omega) hs.ext) (fun d1=>?_)⟩;refine⟨_,hs.rd 0 rfl rfl,aQ (fun d2=>RP.f (no fun hT=>by have:=hT.k;omega) hs.ext) (fun d2=>?_)⟩;refine⟨_,hs.rd 0 rfl rfl,aQ (fun d3=>RP.f (no fun hT=>by have:=hT.e.1;omega) hs.ext) (fun d3=>?_)⟩;refine⟨_,hs.rd 0 rfl rfl,_,hs.rd 1 rfl rfl,aQ (fun d4=>RP.f (no fun hT=>by obtain⟨_,y,hy,_⟩:=hT.e;have:=(Ya.1 hy).1;omega) hs.ext) (fun d4=>?_)⟩;refine⟨_,hs.rd 1 rfl rfl,_,hs.rd 0 rfl rfl,?_⟩;refine (hg.e.rw.ext hs.ext).ax (by omega) (by omega) fun b o y gy ty=>?_;refine⟨_,ty.nth 0 rfl,_,hs.rd 0 rfl rfl,dY (fun d5=>RP.f (no fun hT=>by obtain⟨_,z,hz,hf,_⟩:=hT.e;rw[gy] at hz;cases hz;omega) hs.ext) (fun d5=>⟨_,hs.rd 1 rfl rfl,_,hs.rd 0 rfl rfl,?_⟩)⟩;refine (hg.e.rw.ext hs.ext).ax (by omega) (by omega) fun b o y2 gy2 ty=>?_;rw[gy] at gy2;cases gy2;refine⟨_,ty.nth 5 rfl,aa (fun d6=>RP.f (no fun hT=>by obtain⟨_,z,hz,_,hf⟩:=hT.e;rw[gy] at hz;cases hz;rw[hf] at d6;cases d6) hs.ext) (fun d6=>?_)⟩;refine Up.next c (by omega) ⟨hs.drop 1,fun j z hj hz=>?_⟩;by_cases e:j=i
  .subst e;rw[gx] at hz;cases hz;exact⟨ho,by omega,by omega,y,gy,by omega,d6⟩
  .exact hq j z (by omega) hz
theorem FP(g:Gl)(p q:Int)(h:Heap)(hg:GI h g)(vK:0<=p)(hp1:p<g.es.length)(Ua:0<=q)(ES:q<g.es.length):Fn Pz 183 #[g.v,.int .i64 p,.int .i64 q] h (RBo h):=by
 apply VM (bs g.nm) g.hr g.hd g.n g.s g.e g.he g.ht;unfold aaW Kw;have nI:=hg.e.ln;refine (St.refl h).ao fun h9 hs=>?_;have iy:=hg.e.rw.ext hs.ext;have fL:h.size<h9.size:=iz (hs.rd 0 rfl (i:=0) rfl);refine⟨_,hs.rd 0 rfl rfl,?_⟩;refine iy.ax (by omega) (by omega) fun b1 o1 x _ t1=>?_;refine⟨_,_,_,t1.sub 1 3 rfl,_,hs.rd 0 rfl rfl,?_⟩;refine iy.ax (by omega) (by omega) fun b2 o2 y _ t2=>?_;have jr:b2<h9.size:=iz t2.hd;refine⟨_,_,_,t2.sub 1 3 rfl,?_,?_⟩
 .intro cR e22;have E22:Ext h9 cR:=by rw[e22];exact Ext.push _ _
  refine⟨Xa E22,?_⟩;have hs:St h cR [.af h9.size [.int .i64 0,.int .i64 0,.int .i64 0] 65,.af h.size g.cs 27]:=hs.ao (K:=fun cR=>St h cR [.af h9.size [.int .i64 0,.int .i64 0,.int .i64 0] 65,.af h.size g.cs 27]) (fun _ hs=>hs) cR e22;intro nM e23;have E23:Ext cR nM:=by rw[e23];exact Ext.push _ _
  refine⟨Xa E23,?_⟩;have hs:St h nM [.af cR.size [.int .i64 0,.int .i64 0,.int .i64 0] 65,.af h9.size [.int .i64 0,.int .i64 0,.int .i64 0] 65,.af h.size g.cs 27]:=hs.ao (K:=fun nM=>St h nM [.af cR.size [.int .i64 0,.int .i64 0,.int .i64 0] 65,.af h9.size [.int .i64 0,.int .i64 0,.int .i64 0] 65,.af h.size g.cs 27]) (fun _ hs=>hs) nM e23;obtain⟨k1,k2⟩:=hs.put (K:=fun h'=>St h h' [.af cR.size [.int .i64 0,.int .i64 0,.int .i64 0] 65,.af h9.size [.int .i64 x.a,.int .i64 x.b,.int .i64 x.l] 65,.af h.size g.cs 27]) 1 rfl (o:=0) (vs:=[.int .i64 x.a,.int .i64 x.b,.int .i64 x.l]) (n:=3) rfl (show 3<=3 by decide) (fun h' hs=>hs);refine⟨k1,fun Fm e24=>?_⟩;have hs:=k2 Fm e24;have hB:kx h9.size nM Fm:=by rw[e24];exact kx.bJ (a:=⟨h9.size,0,none⟩) _ _ _
  refine⟨KF hB (fun a ha=>?_),?_⟩
  .simp only[Yr,List.not_mem_nil,or_false] at ha;rcases ha with rfl | rfl
   .show b2≠h9.size;omega
   .show h.size≠h9.size;omega
  refine hs.put 0 rfl (o:=0) (vs:=[.int .i64 y.a,.int .i64 y.b,.int .i64 y.l]) rfl (show 3<=3 by decide) fun lu hs=>?_
  repeat' (first
    | exact .mk hs.ext
    | (refine aa (fun _=>?_) (fun _=>?_))
    | (refine⟨_,hs.rd 0 rfl rfl,?_⟩)
    | (refine⟨_,hs.rd 1 rfl rfl,?_⟩))
 .intro kP e34;have E34:Ext h9 kP:=by rw[e34];exact Ext.push _ _
  refine⟨Xa E34,?_⟩;have hs:St h kP [.af h9.size [.int .i64 0,.int .i64 0,.int .i64 0] 65,.af h.size g.cs 27]:=hs.ao (K:=fun kP=>St h kP [.af h9.size [.int .i64 0,.int .i64 0,.int .i64 0] 65,.af h.size g.cs 27]) (fun _ hs=>hs) kP e34;intro bA e35;have E35:Ext kP bA:=by rw[e35];exact Ext.push _ _
  refine⟨Xa E35,?_⟩;have agt:h9.size<kP.size:=by rw[e34];simp
  have hs:St h bA [.af kP.size [.int .i64 0,.int .i64 0,.int .i64 0] 65,.af h9.size [.int .i64 0,.int .i64 0,.int .i64 0] 65,.af h.size g.cs 27]:=hs.ao (K:=fun bA=>St h bA [.af kP.size [.int .i64 0,.int .i64 0,.int .i64 0] 65,.af h9.size [.int .i64 0,.int .i64 0,.int .i64 0] 65,.af h.size g.cs 27]) (fun _ hs=>hs) bA e35;obtain⟨k1,k2⟩:=hs.put (K:=fun h'=>St h h' [.af kP.size [.int .i64 x.a,.int .i64 x.b,.int .i64 x.l] 65,.af h9.size [.int .i64 0,.int .i64 0,.int .i64 0] 65,.af h.size g.cs 27]) 0 rfl (o:=0) (vs:=[.int .i64 x.a,.int .i64 x.b,.int .i64 x.l]) (n:=3) rfl (show 3<=3 by decide) (fun h' hs=>hs);refine⟨k1,fun fO e36=>?_⟩;have hs:=k2 fO e36;have hB:kx kP.size bA fO:=by rw[e36];exact kx.bJ (a:=⟨kP.size,0,none⟩) _ _ _
  refine⟨KF hB (fun a ha=>?_),?_⟩
  .simp only[Yr,List.not_mem_nil,or_false] at ha;rcases ha with rfl | rfl
   .show b2≠kP.size;omega
   .show h.size≠kP.size;omega
  refine hs.put 1 rfl (o:=0) (vs:=[.int .i64 y.a,.int .i64 y.b,.int .i64 y.l]) rfl (show 3<=3 by decide) fun oK hs=>?_
  repeat' (first
    | exact .mk hs.ext
    | (refine aa (fun _=>?_) (fun _=>?_))
    | (refine⟨_,hs.rd 0 rfl rfl,?_⟩)
    | (refine⟨_,hs.rd 1 rfl rfl,?_⟩))
theorem Xx{h:Heap}{s:Sl}{L:List Int}(hr:Rw h 1 s (L.map aM))(hc:s.n<=s.c){i:Nat}(hi:i<=s.n):Rw h 1 ⟨aN s.a i s.c 1,s.n-i,s.c-i⟩ ((L.drop i).map aM):=by
 have hn:=hr.ln;rw[List.map_drop];by_cases h0:i=s.n
 .rw[List.drop_eq_nil_of_le (by rw[Yc];omega)];exact Rw.empty (by show s.n-i=0;omega)
 .exact hr.from hc (by omega)
theorem GM{s:Sl}{i:Nat}(Gg:s.a=none->s.n=0/\s.c=0)(h:aN s.a i s.c 1=none):s.n-i=0/\s.c-i=0:=by
 unfold aN at h;split at h
 .have:=Gg h;omega
 .cases ha:s.a with
  | none=>have:=Gg ha;omega
  | some a=>rw[ha] at h;cases h
def LOk(g:Gl)(p:Int)(i:Nat)(L:List Int):Prop:=(∀y∈L,0<=y/\y<g.es.length)/\(L=[] ↔ ∀(j:Nat) (x:Ed),j<i->g.es[j]?=some x->x.f≠p)
theorem Jg(g:Gl)(p:Int)(h:Heap)(hg:GI h g):Fn Pz 105 #[g.v,.int .i64 p] h fun v h'=>(∃s:Sl,v=.slice s.a s.n s.c/\(s.n=0 ↔ ∀x∈g.es,x.f≠p))/\Ext h h':=by
 apply WO (bs g.nm) g.hr g.hd g.n g.s g.e g.he g.ht;unfold acb KE;have nI:=hg.e.ln;have Iy:=hg.e.sm;refine (St.refl h).ao fun h9 hs=>?_;have hs:=hs.cn 3 1;refine⟨fun out x h' m=>∃(i:Nat) (L:List Int),x=i/\i<=g.he.n/\m=g.he.n-i/\L.length<=i/\LOk g p i L/\St h h' [.sl out 3 1 (L.map aM),.af h.size g.cs 27],
  ⟨_,0,[],rfl,by omega,rfl,bu _,⟨(fun y hy=>by cases hy),iff_of_true rfl fun j x hj=>by omega⟩,hs⟩,?_⟩
 rintro-out _ tD m ⟨i,L,rfl,hi,rfl,Nf,hL,hs⟩;refine⟨_,hs.rd 1 rfl rfl,aa (fun c=>?_) (fun c=>⟨⟨_,rfl,?_⟩,hs.ext⟩)⟩;rotate_left
 .replace c:=bz c;have xy:=hs.len 0 rfl (by omega);rw[Yc] at xy;have hLe:out.n=0 ↔ L=[]:=by rw[<-List.length_eq_zero_iff];omega
  rw[hLe,hL.2];exact⟨fun hq x hx=>by obtain⟨j,hj⟩:=Yf.1 hx;exact hq j x (by have:=(Ya.1 hj).1;omega) hj,fun hq j x _ hj=>hq x (Yb hj)⟩
 replace c:=bw c;refine⟨_,hs.rd 1 rfl rfl,?_⟩;refine (hg.e.rw.ext hs.ext).ax (by omega) (by omega) fun b18 o19 x gx t=>?_;replace gx:g.es[i]?=some x:=gx;refine⟨_,t.nth 0 rfl,dY (fun cf=>?_) (fun cf=>?_)⟩
 .refine⟨_,by omega,i+1,L,by rw[bd (by omega) (by omega)];omega,by omega,rfl,by omega,⟨hL.1,hL.2.trans ⟨fun hq j y hj hy=>?_,fun hq j y hj hy=>hq j y (by omega) hy⟩⟩,hs⟩;by_cases e:j=i
  .subst e;rw[gx] at hy;cases hy;exact cf
  .exact hq j y (by omega) hy
 have xy:=hs.len 0 rfl (by omega);rw[Yc] at xy
 have ins:∀(a:Nat) (km:Heap),a<=out.n->St h km [.sl out 3 1 (L.map aM),.af h.size g.cs 27]->∀vO:Heap,vO=km.push (.cells ⟨[.int .i64 i]⟩ 3) ->
   App Pz 102 102 (.slice (some ⟨km.size,0,none⟩) 1 1) (.slice (aN out.a a out.c 1) (out.n-a) (out.c-a)) vO fun LS Az=>
    App Pz 102 102 (.slice out.a a out.c) (.slice LS.a LS.n LS.c) Az fun s45 oJ=>∃m47,m47<g.he.n-i/\(∃(i':Nat) (L:List Int),IntKind.wrap .i64 ((i:Int)+1)=i'/\i'<=g.he.n/\m47=g.he.n-i'/\L.length<=i'/\LOk g p i' L/\St h oJ [.sl s45 3 1 (L.map aM),.af h.size g.cs 27]):=by
  intro a km ha hs;refine hs.ao fun vO hs=>?_;have bQ:=hs.dz 1 1 ([(i:Int)].map aM) rfl (bX _) rfl (by decide);refine bQ.gB 0 rfl dt (y:=⟨aN out.a a out.c 1,out.n-a,out.c-a⟩) (Xx (bQ.rows 1 rfl (by omega)) xy.2.1 ha) (bX _) (fun hn=>GM xy.2.2 hn) (by rw[List.all_eq_true];intro v hv;obtain⟨r,hr,QQ⟩:=List.mem_flatten.1 hv;obtain⟨z,_,rfl⟩:=Yp.1 hr;rw[Ye.1 QQ];rfl) (by show (1+(out.n-a))*8<=_;omega) (by show 1+(out.n-a)<=9223372036854775807;omega) fun LS Az X2 hs=>?_;replace hs:St h Az [.sl LS 3 1 (((i:Int)::L.drop a).map aM),.sl out 3 1 (L.map aM),.af h.size g.cs 27]:=hs;have Ff:=hs.cut 1 rfl (by omega) a ha;rw[<-List.map_take] at Ff;replace Ff:St h Az [.sl LS 3 1 (((i:Int)::L.drop a).map aM),.sl ⟨out.a,a,out.c⟩ 3 1 ((L.take a).map aM),.af h.size g.cs 27]:=Ff;have RM:=Ff.len 0 rfl (by omega);refine Ff.gB 1 rfl dt (Ff.rows 0 rfl (by omega)) (bX _) RM.2.2 (by rw[List.all_eq_true];intro v hv;obtain⟨r,hr,QQ⟩:=List.mem_flatten.1 hv;obtain⟨z,_,rfl⟩:=Yp.1 hr;rw[Ye.1 QQ];rfl) (by show (a+LS.n)*8<=_;rw[X2];show (a+(1+(out.n-a)))*8<=_;omega) (by show a+LS.n<=9223372036854775807;rw[X2];show a+(1+(out.n-a))<=_;omega) fun s45 oJ ahK hs=>?_;replace hs:St h oJ [.sl LS 3 1 (((i:Int)::L.drop a).map aM),.sl s45 3 1 ((L.take a).map aM++((i:Int)::L.drop a).map aM),.af h.size g.cs 27]:=hs;rw[<-Ym] at hs;refine⟨g.he.n-(i+1),by omega,i+1,L.take a++((i:Int)::L.drop a),by rw[bd (by omega) (by omega)];omega,by omega,rfl,?_,⟨fun y hy=>?_,iff_of_false (by simp) fun hq=>hq i x (by omega) gx cf⟩,hs.drop 1⟩
  .rw[Yh,jC,Yu,List.length_drop];omega
  .rcases Yk.1 hy with hy | hy
   .exact hL.1 y (List.mem_of_mem_take hy)
   .rcases Yr.1 hy with rfl | hy
    .omega
    .exact hL.1 y (List.mem_of_mem_drop hy)
 refine aD (n:=out.n) hs (fun _=>True) trivial ?_;rintro-a Fl ha ⟨hs,-⟩;have uP:Int.toNat ((a:Nat):Int)=a:=by simp
 have ht2:Int.toNat ((out.n:Nat):Int)=out.n:=by simp
 refine aa (fun c1=>?_) (fun c1=>?_)
 .replace c1:=bw c1;refine⟨_,_,_,_,_,_,_,_,hs.at 1 rfl (o:=0) (n:=8) rfl,?_⟩;refine (hs.rows 0 rfl (by omega)).ax (by omega) (by omega) fun UB TJ y gy ty=>?_;have hy:=hL.1 y (Yb gy);refine⟨_,ty.nth 0 rfl,?_⟩;refine (FP g y i Fl (hg.ext hs.ext) hy.1 hy.2 (by omega) (by omega)).mono ?_;rintro _ km ⟨⟨bb,rfl⟩,E⟩;have hs:=hs.step E;refine⟨_,rfl,aa (fun _=>Up.next c1 (by omega) ⟨hs,trivial⟩) (fun _=>?_)⟩;refine⟨⟨by omega,by omega,by omega⟩,⟨by omega,by omega,by omega⟩,?_⟩;rw[uP,ht2,show Int.toNat 0=0 from rfl,cp,Nat.sub_zero,Nat.sub_zero];exact ins a km (by omega) hs
 .replace c1:=bz c1;refine⟨⟨by omega,by omega,by omega⟩,⟨by omega,by omega,by omega⟩,?_⟩;rw[uP,ht2,show Int.toNat 0=0 from rfl,cp,Nat.sub_zero,Nat.sub_zero];exact ins a Fl (by omega) hs
end Go.VC
end

section
namespace Go.VC
structure EN (es:List Ed) (e:Int) (N n:Nat) (D:List Int):Prop where
 len:D.length=N
 src:mK D e
 r:∀v,mK D v->gL es true e v
 b:∀d∈D,-1<=d/\d+D.count (-1)<=(N:Int)-1
 c:∀x∈es,∀d,0<=x.t->D[x.t.toNat]?=some d->0<=d->d<n->mK D x.f
def N3(es:List Ed)(n k:Nat)(D:List Int):Prop:=∀(j:Nat) (y:Ed),j<k->es[j]?=some y->0<=y.t->D[y.t.toNat]?=some (n:Int)->mK D y.f
theorem FA(N:Nat):(List.replicate N (-1:Int)).count (-1)=N:=by rw[List.count_replicate,if_pos (by simp)]
theorem EN.start{es:List Ed}{e:Int}{N:Nat}(h0:0<=e)(h1:e<N):EN es e N 0 ((List.replicate N (-1:Int)).set e.toNat 0):=by
 have hl:e<(List.replicate N (-1:Int)).length:=by rw[Yg];exact h1
 have hv:∀v,mK ((List.replicate N (-1:Int)).set e.toNat 0) v ↔ v=e:=fun v=>by
  rw[jE h0 hl (by omega)];refine⟨fun h=>h.elim id fun h=>?_,.inl⟩;obtain⟨_,d,hd,h2⟩:=h;have:=List.eq_of_mem_replicate (Yb hd);omega
 have hc:((List.replicate N (-1:Int)).set e.toNat 0).count (-1)+1=N:=by
  rw[List.count_set (by rw[Yg];omega),FA,List.getElem_replicate];simp;omega
 refine⟨by rw[lh,Yg],(hv e).2 rfl,fun v h=>?_,fun d hd=>?_,fun x _ d _ _ Ct YS=>by omega⟩
 .rw[(hv v).1 h];exact .refl
 .rcases List.mem_or_eq_of_mem_set hd with hd | rfl
  .rw[List.eq_of_mem_replicate hd];omega
  .omega
theorem EN.set{es:List Ed}{e:Int}{N n k:Nat}{D:List Int}(h:EN es e N n D)(hk:N3 es n k D){x:Ed}(hx:es[k]?=some x){d:Int}(ht0:0<=x.t)(ht:D[x.t.toNat]?=some (n:Int))(pF:0<=x.f)(hf:D[x.f.toNat]?=some d)(hd:d<0):
  EN es e N n (D.set x.f.toNat (n+1))/\N3 es n (k+1) (D.set x.f.toNat (n+1)):=by
 have fV:=(Ya.1 hf).1;have Ix:=(Ya.1 hf).2;have YS:d=-1:=by have:=(h.b d (Yb hf)).1;omega
 subst YS;have Ao:∀v,mK (D.set x.f.toNat (n+1)) v ↔ v=x.f\/mK D v:=fun v=>jE pF (by omega) (by omega);have gG:0<D.count (-1):=List.count_pos_iff.2 (Yb hf);have M7:(D.set x.f.toNat ((n:Int)+1)).count (-1)+1=D.count (-1):=by
  rw[List.count_set fV,Ix];have:(((n:Int)+1)==(-1:Int))=false:=by simp;omega
  rw[this];simp;omega
 have hub:=(h.b n (Yb ht)).2;have bI:∀ {y:Int} {d:Int},0<=y->(D.set x.f.toNat ((n:Int)+1))[y.toNat]?=some d->d<=n->D[y.toNat]?=some d:=fun {y d} hy hg hle=>by
  by_cases e:y.toNat=x.f.toNat
  .rw[e,Yq fV] at hg;cases hg;omega
  .rwa [Yy (by omega)] at hg
 refine⟨⟨by rw[lh];exact h.len,(Ao e).2 (.inr h.src),fun v hv=>?_,fun d hd=>?_,fun y hy d h0 hg Ct YS=>?_⟩,fun j y hj hy h0 hg=>?_⟩
 .rcases (Ao v).1 hv with rfl | hv
  .exact (h.r x.t ⟨ht0,_,ht,by omega⟩).step ⟨x,Yb hx,rfl,rfl⟩
  .exact h.r v hv
 .rcases List.mem_or_eq_of_mem_set hd with hd | rfl
  .have:=h.b d hd;omega
  .omega
 .exact (Ao y.f).2 (.inr (h.c y hy d h0 (bI h0 hg (by omega)) Ct YS))
 .by_cases e:j=k
  .subst e;rw[hx] at hy;cases hy;exact (Ao x.f).2 (.inl rfl)
  .exact (Ao y.f).2 (.inr (hk j y (by omega) hy h0 (bI h0 hg (by omega))))
theorem N3.skip{es:List Ed}{n k:Nat}{D:List Int}(hk:N3 es n k D){x:Ed}(hx:es[k]?=some x)(h:0<=x.t->D[x.t.toNat]?=some (n:Int)->mK D x.f):N3 es n (k+1) D:=fun j y hj hy h0 hg=>by
 by_cases e:j=k
 .subst e;rw[hx] at hy;cases hy;exact h h0 hg
 .exact hk j y (by omega) hy h0 hg
theorem EN.next{es:List Ed}{e:Int}{N n k:Nat}{D:List Int}(h:EN es e N n D)(hk:N3 es n k D)(hl:es.length<=k):EN es e N (n+1) D:=
 ⟨h.len,h.src,h.r,h.b,fun x hx d h0 hg Ct YS=>by
  obtain⟨j,hj⟩:=Yf.1 hx;by_cases hd:d=n
  .subst hd;exact hk j x (by have:=(Ya.1 hj).1;omega) hj h0 hg
  .exact h.c x hx d h0 hg Ct (by omega)⟩
theorem EN.end_{es:List Ed}{e:Int}{N:Nat}{D:List Int}(h:EN es e N N D)(v:Int):mK D v ↔ gL es true e v:=by
 refine⟨h.r v,fun hr=>?_⟩
 induction hr with
 | refl=>exact h.src
 | step _ hbc ih=>
  obtain⟨x,hx,h1,h2⟩:=hbc;obtain⟨h0,d,hd,Ct⟩:=ih;have hb:=(h.b d (Yb hd)).2;have RU:x.t=_:=h1;have RQ:x.f=_:=h2;rw[<-RQ];rw[<-RU] at hd h0;exact h.c x hx d h0 hd Ct (by omega)
def VB(R:List Bool)(v:Int):Prop:=0<=v/\R[v.toNat]?=some true
def ClB(es:List Ed)(k:Nat)(R:List Bool):Prop:=∀(j:Nat) (y:Ed),j<k->es[j]?=some y->VB R y.f->VB R y.t
structure RE (es:List Ed) (s:Int) (N:Nat) (R:List Bool):Prop where
 len:R.length=N
 src:VB R s
 r:∀v,VB R v->gL es false s v
def RN(es:List Ed)(n k:Nat)(R:List Bool):Prop:=ClB es es.length R\/(n+1<=R.count true/\(ClB es k R\/n+2<=R.count true))
theorem GC{R:List Bool}{b v:Int}(Fi:0<=b)(hb:b.toNat<R.length):VB (R.set b.toNat true) v ↔ v=b\/VB R v:=by
 unfold VB;constructor
 .rintro⟨h0,h1⟩;by_cases e:v=b
  .exact .inl e
  .rw[Yy (by omega)] at h1;exact .inr ⟨h0,h1⟩
 .rintro (rfl | ⟨h0,h1⟩)
  .exact⟨Fi,by rw[Yq hb]⟩
  .by_cases e:v=b
   .subst e;exact⟨Fi,by rw[Yq hb]⟩
   .exact⟨h0,by rw[Yy (by omega)];exact h1⟩
theorem RE.start{es:List Ed}{s:Int}{N:Nat}(h0:0<=s)(h1:s<N):RE es s N ((List.replicate N false).set s.toNat true)/\RN es 0 0 ((List.replicate N false).set s.toNat true):=by
 have hv:∀v,VB ((List.replicate N false).set s.toNat true) v ↔ v=s:=fun v=>by
  rw[GC h0 (by rw[Yg];omega)];refine⟨fun h=>h.elim id fun h=>?_,.inl⟩;have:=List.eq_of_mem_replicate (Yb h.2);cases this
 refine⟨⟨by rw[lh,Yg],(hv s).2 rfl,fun v h=>by rw[(hv v).1 h];exact .refl⟩,.inr ⟨?_,.inl fun j y hj=>by omega⟩⟩;exact List.count_pos_iff.2 (Yb (i:=s.toNat) (by rw[Yq (by rw[Yg];omega)]))
theorem RE.set{es:List Ed}{s:Int}{N n k:Nat}{R:List Bool}(h:RE es s N R)(hn:RN es n k R){x:Ed}(hx:es[k]?=some x)(ht0:0<=x.t)(ht:R[x.t.toNat]?=some false)(pF:0<=x.f)(hf:R[x.f.toNat]?=some true):
  RE es s N (R.set x.t.toNat true)/\RN es n (k+1) (R.set x.t.toNat true):=by
 have EP:=(Ya.1 ht).1;have hte:=(Ya.1 ht).2;have Ao:∀v,VB (R.set x.t.toNat true) v ↔ v=x.t\/VB R v:=fun v=>GC ht0 EP;have M7:(R.set x.t.toNat true).count true=R.count true+1:=by
  rw[List.count_set EP,hte];simp
 refine⟨⟨by rw[lh];exact h.len,(Ao s).2 (.inr h.src),fun v hv=>?_⟩,?_⟩
 .rcases (Ao v).1 hv with rfl | hv
  .exact (h.r x.f ⟨pF,hf⟩).step ⟨x,Yb hx,rfl,rfl⟩
  .exact h.r v hv
 .rcases hn with hn | ⟨h1,_⟩
  .have:=hn k x (Ya.1 hx).1 hx ⟨pF,hf⟩;rw[this.2] at ht;cases ht
  .exact .inr ⟨by omega,.inr (by omega)⟩
theorem RN.skip{es:List Ed}{n k:Nat}{R:List Bool}(hn:RN es n k R){x:Ed}(hx:es[k]?=some x)(h:VB R x.f->VB R x.t):RN es n (k+1) R:=by
 rcases hn with hn | ⟨h1,h2⟩
 .exact .inl hn
 .refine .inr ⟨h1,h2.imp_left fun hc j y hj hy hv=>?_⟩;by_cases e:j=k
  .subst e;rw[hx] at hy;cases hy;exact h hv
  .exact hc j y (by omega) hy hv
theorem RN.next{es:List Ed}{n k:Nat}{R:List Bool}(hn:RN es n k R)(hl:es.length<=k):RN es (n+1) 0 R:=by
 rcases hn with hn | ⟨h1,h2 | h2⟩
 .exact .inl hn
 .exact .inl fun j y hj hy=>h2 j y (by omega) hy
 .exact .inr ⟨by omega,.inl fun j y hj=>by omega⟩
theorem RE.end_{es:List Ed}{s:Int}{N:Nat}{R:List Bool}(h:RE es s N R)(hn:RN es N 0 R)(v:Int):VB R v ↔ gL es false s v:=by
 refine⟨h.r v,fun hr=>?_⟩;have hc:ClB es es.length R:=by
  rcases hn with hn | ⟨h1,_⟩
  .exact hn
  .have:=h.len;have:R.count true<=R.length:=List.count_le_length;omega
 induction hr with
 | refl=>exact h.src
 | step _ hbc ih=>
  obtain⟨x,hx,h1,h2⟩:=hbc;obtain⟨j,hj⟩:=Yf.1 hx;have RU:x.f=_:=h1;have RQ:x.t=_:=h2;rw[<-RQ];exact hc j x (Ya.1 hj).1 hj (by rw[RU];exact ih)
end Go.VC
end

section
namespace Go.VC
open Go.Proofs Go.LexS
theorem ints_set{L:List Int}{i:Nat}(h:i<L.length)(y:Int):aA (L.map (Value.int .i64)) i [.int .i64 y]=(L.set i y).map (Value.int .i64):=by
 rw[qc (by rw[Yc];exact h),List.map_set]
theorem nP{L:List Bool}{i:Nat}(h:i<L.length)(y:Bool):aA (L.map Value.bool) i [.bool y]=(L.set i y).map Value.bool:=by
 rw[qc (by rw[Yc];exact h),List.map_set]
theorem tg:∀L:List Int,L.map (Value.int .i64)=(L.map aM).flatten
 | []=>rfl
 | a::L=>by rw[iM,iM,pI,tg L];rfl
theorem Qy(n:Nat):ak Pz 3 n=(List.replicate n (0:Int)).map (Value.int .i64):=by rw[HN,List.map_replicate]
theorem CS{L:List Int}{i:Nat}(h:i<L.length):∃y,(L.map (Value.int .i64))[i]?=some (.int .i64 y)/\L[i]?=some y:=⟨L[i],by rw[Yd,Yi h];rfl,Yi h⟩
theorem rp{L:List Bool}{i:Nat}(h:i<L.length):∃y,(L.map Value.bool)[i]?=some (.bool y)/\L[i]?=some y:=⟨L[i],by rw[Yd,Yi h];rfl,Yi h⟩
theorem Nz(g:Gl)(h:Heap)(hg:GI h g)(hN:TB g):Fn Pz 104 #[g.v] h fun v h'=>Ext h h'/\∃(s:Sl) (L:List Int),v=.slice s.a s.n s.c/\Rw h' 1 s (L.map aM)/\L.length=g.n.toNat/\∀v,mK L v ↔ gL g.es true g.e v:=by
 apply WQ (bs g.nm) g.hr g.hd g.n g.s g.e g.he g.ht;unfold acd;have nI:=hg.e.ln;have Iy:=hg.e.sm;obtain⟨N,hNn⟩:∃N:Nat,g.n=N:=⟨g.n.toNat,by have:=hN.n;omega⟩;have KZ:=hN.n;have hE:=hN.e;have htN:g.n.toNat=N:=by omega
 refine (St.refl h).ao fun h9 hs=>?_;refine⟨_,hs.rd 0 rfl rfl,⟨by omega,by omega,by omega⟩,?_⟩;rw[Qy];refine hs.ao fun jP hs=>?_;refine⟨fun x h' m=>∃(i:Nat) (L:List Int),x=i/\i<=N/\m=N-i/\(L.length=N/\∀(j:Nat),j<i->L[j]?=some (-1))/\St h h' [.af h9.size (L.map (Value.int .i64)) 3,.af h.size g.cs 27],⟨_,0,_,rfl,by omega,rfl,⟨by rw[Yg];exact htN,fun j hj=>by omega⟩,hs⟩,?_⟩;rintro-_ fx m ⟨i,L,rfl,hi,rfl,⟨hL,hLv⟩,hs⟩;refine⟨_,hs.rd 1 rfl rfl,aa (fun c=>?_) (fun c0=>?_)⟩
 .replace c:=cd c;refine⟨⟨by omega,by omega⟩,?_⟩;rw[show 0+Int.toNat (i:Int)*1=i by simp];refine hs.put 0 rfl (o:=i) (vs:=[.int .i64 (-1)]) rfl (by rw[Yc];show i+1<=_;omega) fun gJ hs=>?_;rw[ints_set (by omega)] at hs;refine⟨_,by omega,i+1,L.set i (-1),by rw[bd (by omega) (by omega)];omega,by omega,rfl,⟨by rw[lh];exact hL,fun j hj=>?_⟩,hs⟩;by_cases e:j=i
  .subst e;rw[Yq (by omega)]
  .rw[Yy (by omega)];exact hLv j (by omega)
 replace c0:=eI c0;have hLr:L=List.replicate N (-1):=y4 fun j=>by
  by_cases hj:j<N
  .rw[hLv j (by omega),List.getElem?_replicate,if_pos hj]
  .rw[Yl (by omega),List.getElem?_replicate,if_neg hj]
 subst hLr;refine⟨_,hs.rd 1 rfl rfl,⟨by omega,by omega⟩,?_⟩;obtain⟨e,he⟩:∃e:Nat,g.e=e:=⟨g.e.toNat,by omega⟩;rw[he,show 0+Int.toNat (e:Int)*1=e by simp];refine hs.put 0 rfl (o:=e) (vs:=[.int .i64 0]) rfl (by rw[Yc];show e+1<=_;omega) fun ko hs=>?_;rw[ints_set (by omega)] at hs;refine⟨fun x h' m=>∃(i:Nat) (L:List Int),x=i/\i<=N/\m=N-i/\EN g.es g.e N i L/\St h h' [.af h9.size (L.map (Value.int .i64)) 3,.af h.size g.cs 27],⟨_,0,_,rfl,by omega,rfl,?_,hs⟩,?_⟩
 .have:=EN.start (es:=g.es) (e:=g.e) (N:=N) (by omega) (by omega);rw[he] at this ⊢;exact this
 rintro-_ Fl m ⟨n,tV,rfl,hn,rfl,en2,hs⟩;have yY:=en2.len;refine⟨_,hs.rd 1 rfl rfl,aa (fun c=>?_) (fun cE=>?_)⟩
 .replace c:=cd c;refine⟨fun x h' m=>∃(i:Nat) (L:List Int),x=i/\i<=g.he.n/\m=g.he.n-i/\(EN g.es g.e N n L/\N3 g.es n i L)/\St h h' [.af h9.size (L.map (Value.int .i64)) 3,.af h.size g.cs 27],⟨_,0,tV,rfl,by omega,rfl,⟨en2,fun j y hj=>by omega⟩,hs⟩,?_⟩;rintro-_ CC m ⟨k,L3,rfl,hk,rfl,⟨Sf,ek⟩,hs⟩;have hL3:=Sf.len;refine⟨_,hs.rd 1 rfl rfl,aa (fun c2=>?_) (fun c2=>⟨_,by omega,n+1,L3,by rw[bd (by omega) (by omega)];omega,by omega,rfl,Sf.next ek (by have:=bz c2;omega),hs⟩)⟩;replace c2:=bw c2;refine⟨_,hs.rd 1 rfl rfl,?_⟩;refine (hg.e.rw.ext hs.ext).ax (by omega) (by omega) fun b o x gx t=>?_;replace gx:g.es[k]?=some x:=gx;have hx:=hN.es x (Yb gx);obtain⟨xt,yP⟩:∃a:Nat,x.t=a:=⟨x.t.toNat,by omega⟩;obtain⟨xf,EL⟩:∃a:Nat,x.f=a:=⟨x.f.toNat,by omega⟩;refine⟨_,_,_,_,_,_,t,?_⟩;refine hs.aj (vs:=x.cs) rfl rfl fun Az hs=>?_;obtain⟨y1,XC,xm⟩:=CS (L:=L3) (i:=xt) (by omega);obtain⟨y2,hy2,xl⟩:=CS (L:=L3) (i:=xf) (by omega);have OS:x.t.toNat=xt:=by omega
  have T7:x.f.toNat=xf:=by omega
  have om:∀ {h':Heap} {L4:List Int},(EN g.es g.e N n L4/\N3 g.es n (k+1) L4)->St h h' [.af h9.size (L4.map (Value.int .i64)) 3,.af h.size g.cs 27]->∃Xq,Xq<g.he.n-k/\∃(i:Nat) (L:List Int),IntKind.wrap .i64 ((k:Int)+1)=i/\i<=g.he.n/\Xq=g.he.n-i/\(EN g.es g.e N n L/\N3 g.es n i L)/\St h h' [.af h9.size (L.map (Value.int .i64)) 3,.af h.size g.cs 27]:=fun h4 hs=>
   ⟨_,by omega,k+1,_,by rw[bd (by omega) (by omega)];omega,by omega,rfl,h4,hs⟩
  refine⟨x.t,hs.rd 0 rfl rfl,⟨by omega,by omega⟩,?_⟩;rw[yP,show 0+Int.toNat (xt:Int)*1=xt by simp];refine⟨y1,hs.rd 1 rfl XC,eS (fun e1=>?_) (fun e1=>om ⟨Sf,ek.skip gx fun _ hg1=>by rw[OS,xm] at hg1;cases hg1;exact absurd rfl e1⟩ (hs.drop 1))⟩;refine⟨x.f,hs.rd 0 rfl rfl,⟨by omega,by omega⟩,?_⟩;rw[EL,show 0+Int.toNat (xf:Int)*1=xf by simp];refine⟨y2,hs.rd 1 rfl hy2,aQ (fun e2=>?_) (fun e2=>om ⟨Sf,ek.skip gx fun _ _=>⟨by omega,y2,by rw[T7];exact xl,by omega⟩⟩ (hs.drop 1))⟩;refine⟨x.f,hs.rd 0 rfl rfl,⟨by omega,by omega⟩,?_⟩;rw[EL,show 0+Int.toNat (xf:Int)*1=xf by simp];refine hs.put 1 rfl (o:=xf) (vs:=[.int .i64 (IntKind.wrap .i64 ((n:Int)+1))]) rfl (by rw[Yc];show xf+1<=_;omega) fun j7 hs=>?_;rw[ints_set (by omega)] at hs;rw[show IntKind.wrap .i64 ((n:Int)+1)=(n:Int)+1 from bd (by omega) (by omega)] at hs;refine om ?_ (hs.drop 1);have:=Sf.set ek gx (by omega) (by rw[OS,xm,e1]) (by omega) (by rw[T7];exact xl) e2;rw[T7] at this;exact this
 .have fV:=tg tV;rw[htN];have bQ:=hs.dz N 1 (tV.map aM) fV (bX _) (by rw[Yc];exact yY) (by show N<=9223372036854775807;omega);have hnN:n=N:=by have:=eI cE;omega
  have Sf:EN g.es g.e N N tV:=by rw[hnN] at en2;exact en2
  exact⟨hs.ext,⟨some ⟨h9.size,0,none⟩,N,N⟩,tV,rfl,bQ.rows 0 rfl (by omega),yY,fun v=>by rw[<-he];exact Sf.end_ v⟩
theorem Qv(n:Nat):ak Pz 4 n=(List.replicate n false).map Value.bool:=HM n
structure acp (g:Gl):Prop where
 f:∀v:Int,0<=v->v<g.n->gL g.es false g.s v
 b:∀v:Int,0<=v->v<g.n->gL g.es true g.e v
 e:∀x∈g.es,x.f≠g.e
theorem yd(g:Gl)(h:Heap)(hg:GI h g)(hN:TB g):Fn Pz 46 #[g.v] h (RP (acp g) h):=by
 apply ado (bs g.nm) g.hr g.hd g.n g.s g.e g.he g.ht;unfold W46;have nI:=hg.e.ln;have Iy:=hg.e.sm;obtain⟨N,hNn⟩:∃N:Nat,g.n=N:=⟨g.n.toNat,by have:=hN.n;omega⟩;have KZ:=hN.n;have hS:=hN.s;have htN:g.n.toNat=N:=by omega
 refine (St.refl h).ao fun h9 hs=>?_;refine⟨_,hs.rd 0 rfl rfl,⟨by omega,by omega,by omega⟩,?_⟩;rw[Qv];refine hs.ao fun jP hs=>?_;refine⟨_,hs.rd 1 rfl rfl,⟨by omega,by omega⟩,?_⟩;obtain⟨s0,mN⟩:∃e:Nat,g.s=e:=⟨g.s.toNat,by omega⟩;rw[mN,show 0+Int.toNat (s0:Int)*1=s0 by simp];refine hs.put 0 rfl (o:=s0) (vs:=[.bool true]) rfl (by rw[Yc,Yg];show s0+1<=_;omega) fun AB hs=>?_;rw[nP (by rw[Yg];omega)] at hs;refine⟨fun x h' m=>∃(i:Nat) (L:List Bool),x=i/\i<=N/\m=N-i/\(RE g.es g.s N L/\RN g.es i 0 L)/\St h h' [.af h9.size (L.map Value.bool) 4,.af h.size g.cs 27],⟨_,0,_,rfl,by omega,rfl,?_,hs⟩,?_⟩
 .have:=RE.start (es:=g.es) (s:=g.s) (N:=N) (by omega) (by omega);rw[htN];rw[mN] at this ⊢;exact this
 rintro-_ gJ m ⟨n,L,rfl,hn,rfl,⟨re1,rn1⟩,hs⟩;have hL:=re1.len;refine⟨_,hs.rd 1 rfl rfl,aa (fun c=>?_) (fun cE=>?_)⟩
 .replace c:=cd c;refine⟨fun x h' m=>∃(i:Nat) (L:List Bool),x=i/\i<=g.he.n/\m=g.he.n-i/\(RE g.es g.s N L/\RN g.es n i L)/\St h h' [.af h9.size (L.map Value.bool) 4,.af h.size g.cs 27],⟨_,0,L,rfl,by omega,rfl,⟨re1,rn1⟩,hs⟩,?_⟩;rintro-_ Fm m ⟨k,L3,rfl,hk,rfl,⟨re3,rn3⟩,hs⟩;have hL3:=re3.len;refine⟨_,hs.rd 1 rfl rfl,aa (fun c2=>?_) (fun c2=>⟨_,by omega,n+1,L3,by rw[bd (by omega) (by omega)];omega,by omega,rfl,⟨re3,rn3.next (by have:=bz c2;omega)⟩,hs⟩)⟩;replace c2:=bw c2;have om:∀ {h':Heap} {L4:List Bool},(RE g.es g.s N L4/\RN g.es n (k+1) L4)->St h h' [.af h9.size (L4.map Value.bool) 4,.af h.size g.cs 27]->∃Xq,Xq<g.he.n-k/\∃(i:Nat) (L:List Bool),IntKind.wrap .i64 ((k:Int)+1)=i/\i<=g.he.n/\Xq=g.he.n-i/\(RE g.es g.s N L/\RN g.es n i L)/\St h h' [.af h9.size (L.map Value.bool) 4,.af h.size g.cs 27]:=fun h4 hs=>
   ⟨_,by omega,k+1,_,by rw[bd (by omega) (by omega)];omega,by omega,rfl,h4,hs⟩
  refine⟨_,hs.rd 1 rfl rfl,?_⟩;have iy:=hg.e.rw.ext hs.ext;refine iy.ax (by omega) (by omega) fun b o x gx t=>?_;replace gx:g.es[k]?=some x:=gx;have hx:=hN.es x (Yb gx);obtain⟨xt,yP⟩:∃a:Nat,x.t=a:=⟨x.t.toNat,by omega⟩;obtain⟨xf,EL⟩:∃a:Nat,x.f=a:=⟨x.f.toNat,by omega⟩;obtain⟨y1,XC,xm⟩:=rp (L:=L3) (i:=xt) (by omega);obtain⟨y2,hy2,xl⟩:=rp (L:=L3) (i:=xf) (by omega);have OS:x.t.toNat=xt:=by omega
  have T7:x.f.toNat=xf:=by omega
  have same:∀ {b:Bool},L3[xt]?=some b->L3.set xt b=L3:=fun {b} hb=>by
   obtain⟨hl,he⟩:=Ya.1 hb;rw[<-he,List.set_getElem_self]
  refine⟨x.t,t.nth 4 rfl,?_⟩;refine⟨_,hs.rd 1 rfl rfl,?_⟩;refine iy.ax (by omega) (by omega) fun b o x' vP t'=>?_;replace vP:g.es[k]?=some x':=vP;rw[gx] at vP;cases vP;refine⟨x.t,t'.nth 4 rfl,⟨by omega,by omega⟩,?_⟩;rw[yP,show 0+Int.toNat (xt:Int)*1=xt by simp];refine⟨y1,hs.rd 0 rfl XC,aa (fun e1=>?_) (fun e1=>?_)⟩
  .refine⟨⟨by omega,by omega⟩,?_⟩;refine hs.put 0 rfl (o:=xt) (vs:=[.bool true]) rfl (by rw[Yc];show xt+1<=_;omega) fun bA hs=>?_;rw[nP (by omega),same (by rw[xm,e1])] at hs;exact om ⟨re3,rn3.skip gx fun _=>⟨by omega,by rw[OS,xm,e1]⟩⟩ hs
  .refine⟨_,hs.rd 1 rfl rfl,?_⟩;refine iy.ax (by omega) (by omega) fun b o x' vP t'=>?_;replace vP:g.es[k]?=some x':=vP;rw[gx] at vP;cases vP;refine⟨x.f,t'.nth 0 rfl,⟨by omega,by omega⟩,?_⟩;rw[EL,show 0+Int.toNat (xf:Int)*1=xf by simp];refine⟨y2,hs.rd 0 rfl hy2,⟨by omega,by omega⟩,?_⟩;refine hs.put 0 rfl (o:=xt) (vs:=[.bool y2]) rfl (by rw[Yc];show xt+1<=_;omega) fun vO hs=>?_;rw[nP (by omega)] at hs;refine om ?_ hs;cases y2 with
   | true=>
    have:=re3.set rn3 gx (by omega) (by rw[OS,xm,e1]) (by omega) (by rw[T7];exact xl);rw[OS] at this;exact this
   | false=>
    rw[same (by rw[xm,e1])];exact⟨re3,rn3.skip gx fun hv=>by have:=hv.2;rw[T7,xl] at this;cases this⟩
 .refine⟨_,_,_,_,_,_,_,_,hs.at 1 rfl (o:=0) (n:=8) rfl,?_⟩;refine (Nz g gJ (hg.ext hs.ext) hN).mono ?_;rintro _ Pj ⟨E,l,tV,rfl,hl,oD,gW⟩;have hnN:n=N:=by have:=eI cE;omega
  have rn2:RN g.es N 0 L:=by rw[hnN] at rn1;exact rn1
  have Ii:=re1.end_ rn2;have hs:=hs.step E;have Cn:=hl.ln;refine⟨_,rfl,?_⟩;refine⟨fun x h' m=>∃i:Nat,x=i/\i<=N/\m=N-i/\h'=Pj/\∀v:Int,0<=v->v<i->gL g.es false g.s v/\gL g.es true g.e v,⟨_,0,rfl,by omega,rfl,rfl,fun v h1 h2=>by omega⟩,?_⟩;rintro-_ II m ⟨i,rfl,hi,rfl,rfl,hq⟩;refine⟨_,hs.rd 1 rfl rfl,aa (fun c=>?_) (fun c=>?_)⟩
  .replace c:=cd c;obtain⟨y1,XC,xm⟩:=rp (L:=L) (i:=i) (by omega);refine⟨⟨by omega,by omega⟩,?_⟩;rw[show 0+Int.toNat (i:Int)*1=i by simp];refine⟨y1,hs.rd 0 rfl XC,aa (fun e1=>RP.f (fun hG=>?_) hs.ext) (fun e1=>?_)⟩
   .have:=((Ii i).2 (hG.f i (by omega) (by omega))).2;rw[show ((i:Int)).toNat=i from rfl,xm] at this;cases this;cases e1
   refine hl.ax (by omega) (by omega) fun b o y gy t=>?_;replace gy:tV[i]?=some y:=gy;refine⟨_,t.nth 0 rfl,aQ (fun e2=>RP.f (fun hG=>?_) hs.ext) (fun e2=>⟨_,by omega,i+1,by rw[bd (by omega) (by omega)];omega,by omega,rfl,rfl,fun v h1 h2=>?_⟩)⟩
   .obtain⟨_,d,hd,Ct⟩:=(gW i).2 (hG.b i (by omega) (by omega));rw[show ((i:Int)).toNat=i from rfl,gy] at hd;cases hd;omega
   .by_cases e:v=(i:Int)
    .subst e;exact⟨(Ii i).1 ⟨by omega,by rw[show ((i:Int)).toNat=i from rfl,xm,bT e1]⟩,(gW i).1 ⟨by omega,y,gy,by omega⟩⟩
    .exact hq v h1 (by omega)
  .refine⟨_,_,_,_,_,_,_,_,hs.at 1 rfl (o:=0) (n:=8) rfl,_,hs.rd 1 rfl rfl,?_⟩;refine (Jg g g.e _ (hg.ext hs.ext)).mono ?_;rintro _ h78 ⟨⟨q,rfl,Ij⟩,E⟩;replace c:=eI c;refine⟨_,rfl,RP.e ?_ (hs.step E).ext⟩;have hb:∀b:Bool,(b=true ↔ q.n=0)->(b=true ↔ acp g):=fun b hb=>hb.trans (Ij.trans ⟨fun he=>⟨fun v h1 h2=>(hq v h1 (by omega)).1,fun v h1 h2=>(hq v h1 (by omega)).2,he⟩,fun hG=>hG.e⟩);refine hb _ ?_;simp
theorem Mh(g:Gl)(h:Heap)(hg:GI h g)(hM:KK g.ds):Fn Pz 43 #[g.v] h (RP (vx g/\oX g.ds) h):=by
 apply ads (bs g.nm) g.hr g.hd g.n g.s g.e g.he g.ht;unfold W43;have l8:=hg.r.ln;have hrm:=hg.r.sm;refine (St.refl h).ao fun h9 hs=>?_;refine aD (n:=g.hr.n) hs (fun i=>∀(j:Nat) (s:Nm),j<i->g.rs[j]?=some s->isWord s=true/\s∉g.rs.take j) (fun j s hj=>by omega) ?_;rintro-i uW hi ⟨hs,hq⟩;refine⟨_,hs.rd 0 rfl rfl,aa (fun c=>?_) (fun c=>?_)⟩
 .replace c:=bw c;refine⟨_,hs.rd 0 rfl rfl,?_⟩;refine (hg.r.rw.ext hs.ext).ax (by omega) (by omega) fun b o x gx t=>?_;replace gx:g.rs[i]?=some x:=gx;refine⟨_,t.nth 0 rfl,?_⟩;refine (jL (bs x) uW).mono ?_;rintro _ cR ⟨rfl,E⟩;have hs:=hs.step E;refine⟨_,rfl,aa (fun c1=>RP.f (fun hG=>?_) hs.ext) (fun c1=>?_)⟩
  .have:=(hG.1.r i x gx).1;rw[dp,this] at c1;cases c1
  refine⟨_,hs.rd 0 rfl rfl,_,hs.rd 0 rfl rfl,?_⟩;refine (hg.r.rw.ext hs.ext).ax (by omega) (by omega) fun b o x2 gx2 t=>?_;replace gx2:g.rs[i]?=some x2:=gx2;rw[gx] at gx2;cases gx2;refine⟨_,t.nth 0 rfl,?_⟩;refine (HZ g.rs g.hr (bs x) cR (hg.r.rw.ext hs.ext) hrm).mono ?_;rintro _ y3 ⟨⟨k,rfl,hk⟩,rfl⟩;replace hk:=hk i (by omega);rw[dp] at hk;have EK:x∈g.rs:=Yb gx;refine⟨_,rfl,fun _ _ _ _ hv=>hv,aQ (fun c2=>RP.f (fun hG=>?_) hs.ext) (fun c2=>Up.next c (by omega) ⟨hs,fun j s hj YB=>?_⟩)⟩
  .rcases hk.1 c2 with h1 | h1
   .exact (hG.1.r i x gx).2 h1
   .exact h1 EK
  .by_cases e:j=i
   .subst e;rw[gx] at YB;cases YB;refine⟨by have:=bT c1;rw[dp] at this;exact this,fun hm=>c2 (hk.2 (.inl hm))⟩
   .exact hq j s (by omega) YB
 .replace c:=bz c;refine⟨_,hs.rd 0 rfl rfl,?_⟩;refine (jL (bs g.nm) uW).mono ?_;rintro _ bA ⟨rfl,E⟩;have hs:=hs.step E;refine⟨_,rfl,aa (fun c1=>⟨_,hs.rd 0 rfl rfl,aQ (fun c2=>⟨_,hs.rd 0 rfl rfl,aQ (fun c3=>⟨_,hs.rd 0 rfl rfl,?_⟩) (fun c3=>RP.f (fun hG=>c3 (by have:=hG.1.n6;omega)) hs.ext)⟩) (fun c2=>RP.f (fun hG=>c2 (by have:=hG.1.n1;omega)) hs.ext)⟩) (fun c1=>RP.f (fun hG=>by rw[dp,hG.1.w] at c1;cases c1) hs.ext)⟩;refine (wE g.ds g.hd bA (hg.d.ext hs.ext) hM).mono ?_;rintro _ Nh ⟨⟨b2,rfl,jr⟩,E⟩;refine⟨_,rfl,RP.e (jr.trans ⟨fun hd=>⟨⟨by rw[dp] at c1;exact c1,by omega,by omega,fun j s hj=>hq j s (by have:=(Ya.1 hj).1;omega) hj⟩,hd⟩,fun hG=>hG.2⟩) (hs.step E).ext⟩
theorem zl(g:Gl)(h:Heap)(hg:GI h g)(hM:KK g.ds):Fn Pz 17 #[g.v] h (RP (ah g) h):=by
 apply adD (bs g.nm) g.hr g.hd g.n g.s g.e g.he g.ht;unfold W17;refine (St.refl h).ao fun h9 hs=>?_;refine⟨_,_,_,_,_,_,_,_,hs.at 0 rfl (o:=0) (n:=8) rfl,?_⟩;refine (Mh g h9 (hg.ext hs.ext) hM).mono ?_;rintro _ az ⟨⟨b1,rfl,nJ⟩,E⟩;have hs:=hs.step E;refine⟨_,rfl,aa (fun c1=>?_) (fun c1=>RP.f (fun hG=>cM nJ c1 ⟨hG.OE,hG.dcl⟩) hs.ext)⟩;refine⟨_,_,_,_,_,_,_,_,hs.at 0 rfl (o:=0) (n:=8) rfl,?_⟩;refine (Er g az (hg.ext hs.ext)).mono ?_;rintro _ xH ⟨⟨b2,rfl,jr⟩,E⟩;have hs:=hs.step E;refine⟨_,rfl,aa (fun c2=>?_) (fun c2=>RP.f (fun hG=>cM jr c2 hG.num) hs.ext)⟩;have hN:=jr.1 c2;refine⟨_,_,_,_,_,_,_,_,hs.at 0 rfl (o:=0) (n:=8) rfl,?_⟩;refine (NQ g xH (hg.ext hs.ext)).mono ?_;rintro _ vO ⟨⟨b3,rfl,Nb⟩,E⟩;have hs:=hs.step E;refine⟨_,rfl,aa (fun c3=>?_) (fun c3=>RP.f (fun hG=>cM Nb c3 ⟨hG.ord.s,hG.ord.p⟩) hs.ext)⟩;refine⟨_,_,_,_,_,_,_,_,hs.at 0 rfl (o:=0) (n:=8) rfl,?_⟩;refine (yd g vO (hg.ext hs.ext) hN.R).mono ?_;rintro _ Pk ⟨⟨b4,rfl,Ul⟩,E⟩;have hs:=hs.step E;refine⟨_,rfl,aa (fun c4=>?_) (fun c4=>RP.f (fun hG=>cM Ul c4 ⟨hG.fwd,hG.bwd,hG.ord.e⟩) hs.ext)⟩;refine⟨_,_,_,_,_,_,_,_,hs.at 0 rfl (o:=0) (n:=8) rfl,?_⟩;refine (Ly g Pk (hg.ext hs.ext) hN).mono ?_;rintro _ tw ⟨⟨b5,rfl,hb5⟩,E⟩;have f1:=nJ.1 c1;have f3:=Nb.1 c3;have f4:=Ul.1 c4;exact⟨_,rfl,RP.e (hb5.trans ⟨fun ht=>⟨f1.1,hN,f1.2,⟨f4.e,f3.s,f3.p⟩,ht,f4.f,f4.b⟩,fun hG=>hG.TH⟩) (hs.step E).ext⟩
theorem IV(g:Gl)(role:Int)(h:Heap)(hg:GI h g)(hM:KK g.ds):Fn Pz 48 #[g.v,.int .i64 role] h (RP (ah g/\0<=role/\role<g.rs.length) h):=by
 apply adm (bs g.nm) g.hr g.hd g.n g.s g.e g.he g.ht;unfold W48;have l8:=hg.r.ln;refine (St.refl h).ao fun h9 hs=>?_;refine⟨_,_,_,_,_,_,_,_,hs.at 0 rfl (o:=0) (n:=8) rfl,?_⟩;refine (zl g h9 (hg.ext hs.ext) hM).mono ?_;rintro _ az ⟨⟨b1,rfl,nJ⟩,E⟩;have hs:=hs.step E;exact⟨_,rfl,aa (fun c1=>aQ (fun c2=>⟨_,hs.rd 0 rfl rfl,RP.e ⟨fun hb=>⟨nJ.1 c1,by omega,by have:=cd hb;omega⟩,fun hG=>decide_eq_true (by omega)⟩ hs.ext⟩) (fun c2=>RP.f (fun hG=>c2 (by omega)) hs.ext)) (fun c1=>RP.f (fun hG=>cM nJ c1 hG.1) hs.ext)⟩
structure Hv where
 role:Int
 send:Bool
 peer:Int
 label:Int
 vs:Sl
def Hv.cs(x:Hv):List Value:=[.int .i64 x.role,.bool x.send,.int .i64 x.peer,.int .i64 x.label,.slice x.vs.a x.vs.n x.vs.c]
end Go.VC
end

section
namespace Go.VC
open Go.LexS

theorem Hb{S:List aX}{p:aX}:(fW S p)[fe S p]?=some p:=by
 classical
 unfold fW;split
 .rename_i h
  induction S with
  | nil=>cases h
  | cons q r ih=>
   rw[fe];split
   .rename_i e;rw[e];rfl
   .rename_i e;rw[List.getElem?_cons_succ];refine ih ?_;rcases Yr.1 h with h | h
    .exact absurd h.symm e
    .exact h
 .rename_i h;rw[jf h,sz (bu _),Nat.sub_self];rfl
def yD(es:List Ed)(role:Int)(S:List aX)(k:Nat)(m:Mv):Prop:=∃(r:Nat) (p:aX),m.f=(r:Int)/\r<k/\S[r]?=some p/\m.ev∈j8 es role p/\∃t:Nat,m.t=(t:Int)/\S[t]?=some (eD es role (jZ es role p m.ev))
theorem yD.ext{es:List Ed}{role:Int}{S:List aX}{k:Nat}{m:Mv}{q:aX}(h:yD es role S k m):yD es role (fW S q) k m:=by
 obtain⟨r,p,h1,h2,h3,h4,t,h5,h6⟩:=h;exact⟨r,p,h1,h2,fD h3,h4,t,h5,fD h6⟩
structure VR (es:List Ed) (role:Int) (S:List aX) (M:List Mv) (i:Nat):Prop where
 a:∀m∈M,yD es role S i m
 b:∀(r:Nat) p,r<i->S[r]?=some p->∀x∈j8 es role p,∃m∈M,m.f=(r:Int)/\m.ev=x
theorem ym{es:List Ed}{role:Int}{i:Nat}{p:aX}:∀(l:List Ev) (S:List aX) (M:List Mv),S[i]?=some p->(∀x∈l,x∈j8 es role p)->(∀m∈M,yD es role S (i+1) m) ->
  (∀(r:Nat) q,r<i->S[r]?=some q->∀x∈j8 es role q,∃m∈M,m.f=(r:Int)/\m.ev=x)->(∀x∈j8 es role p,x∈l\/∃m∈M,m.f=(i:Int)/\m.ev=x) ->
  VR es role (cH es role i p l S M).1 (cH es role i p l S M).2 (i+1)/\∀(j:Nat) q,S[j]?=some q->(cH es role i p l S M).1[j]?=some q
 | [],S,M,hi,hl,hA,hB,hC=>⟨⟨hA,fun r q hr hq x hx=>by
   by_cases e:r=i
   .subst e;show ∃m∈M,_;have gX:S[r]?=some q:=hq;rw[hi] at gX;cases gX;rcases hC x hx with h | h
    .cases h
    .exact h
   .exact hB r q (by omega) hq x hx⟩,fun j q hq=>hq⟩
 | x::l,S,M,hi,hl,hA,hB,hC=>by
  rw[cH];have mc:=(Ya.1 hi).1;have ih:=ym (es:=es) (role:=role) (i:=i) (p:=p) l (fW S (eD es role (jZ es role p x))) (M++[⟨i,x.send,x.peer,x.label,fe S (eD es role (jZ es role p x)),false⟩]) (fD hi) (fun y hy=>hl y (Yn _ hy)) ?_ ?_ ?_
  .exact⟨ih.1,fun j q hq=>ih.2 j q (fD hq)⟩
  .intro m hm;rcases Yk.1 hm with hm | hm
   .exact (hA m hm).ext
   .rw[Ye] at hm;subst hm;exact⟨i,p,rfl,by omega,fD hi,hl x (Yx ..),_,rfl,Hb⟩
  .intro r q hr hq y hy;have nD:r<S.length:=by omega
   have gX:S[r]?=some q:=by
    have h2:=fD (p:=eD es role (jZ es role p x)) (Yi nD);rw[hq] at h2;rw[Yi nD];exact h2.symm ▸ rfl
   obtain⟨m,hm,h1,h2⟩:=hB r q hr gX y hy;exact⟨m,List.mem_append_left _ hm,h1,h2⟩
  .intro y hy;rcases hC y hy with h | ⟨m,hm,h1,h2⟩
   .rcases Yr.1 h with rfl | h
    .exact .inr ⟨_,List.mem_append_right _ (Ye.2 rfl),rfl,rfl⟩
    .exact .inl h
   .exact .inr ⟨m,List.mem_append_left _ hm,h1,h2⟩
theorem sH{es:List Ed}{role:Int}:∀(f i:Nat) (S:List aX) (M:List Mv) {S':List aX} {M':List Mv},VR es role S M i->i<=S.length->du es role f i S M=some (S',M')->VR es role S' M' S'.length/\∀(j:Nat) q,S[j]?=some q->S'[j]?=some q
 | 0,_,_,_,_,_,_,_,h=>by cases h
 | f+1,i,S,M,S',M',hv,hi,h=>by
  rw[du] at h;cases hg:S[i]? with
  | none=>
   rw[hg] at h;cases h;have:i=S.length:=by have:=List.getElem?_eq_none_iff.1 hg;omega
   subst this;exact⟨hv,fun j q hq=>hq⟩
  | some p=>
   rw[hg] at h;replace h:(if (cH es role i p (j8 es role p) S M).1.length>200 then none else du es role f (i+1) (cH es role i p (j8 es role p) S M).1 (cH es role i p (j8 es role p) S M).2)=some (S',M'):=h;have mc:=(Ya.1 hg).1;obtain⟨h1,h2⟩:=ym (es:=es) (role:=role) (i:=i) (p:=p) (j8 es role p) S M hg (fun x hx=>hx) (fun m hm=>by
    obtain⟨r,q,a1,a2,a3⟩:=hv.a m hm;exact⟨r,q,a1,by omega,a3⟩) hv.b (fun x hx=>.inl hx)
   split at h
   .cases h
   .have hi2:=(Ya.1 (h2 i p hg)).1;have ih:=sH f (i+1) _ _ h1 (by omega) h;exact⟨ih.1,fun j q hq=>ih.2 j q (h2 j q hq)⟩
theorem Gy{g:Gl}{role:Int}{S:List aX}{M:List Mv}(h:views g role=some (S,M)):VR g.es role S M S.length/\S[0]?=some (eD g.es role [g.s]):=by
 unfold views at h;obtain⟨h1,h2⟩:=sH 202 0 _ [] ⟨fun m hm=>(by cases hm),fun r _ hr=>(by omega)⟩ (by simp) h;exact⟨h1,h2 0 _ rfl⟩
def Hv.ev(x:Hv):Ev:=⟨x.send,x.peer,x.label⟩
noncomputable def sJ(g:Gl)(role:Int)(p:aX)(x:Hv):aX:=if x.role=role then eD g.es role (jZ g.es role p x.ev) else fun _=>false
noncomputable def nR(g:Gl)(role:Int)(l:List Hv):aX:=l.foldl (sJ g role) (eD g.es role [g.s])
theorem NL{es:List Ed}{role:Int}{j:Nat}:eD es role [] j=false:=by
 have:∀a,¬Qr es role [] a:=fun a h=>by
  induction h with
  | base h=>cases h
  | step _ _ ih=>exact ih
 cases h:eD es role [] j with
 | false=>rfl
 | true=>exact absurd (bK.1 h) (this _)
theorem GJ{es:List Ed}{role:Int}{p:aX}{x:Ev}(h:x∈j8 es role p):∃y,y∈jZ es role p x:=by
 obtain⟨n,hn,h⟩:=List.mem_flatMap.1 ((fq _ _).1 h);obtain⟨a,ha,rfl⟩:=Yp.1 h;exact⟨a.to,List.mem_flatMap.2 ⟨n,hn,vT.2 ⟨a,ha,if_pos rfl⟩⟩⟩
end Go.VC
end

section
namespace Go.VC
open Go.Proofs Go.LexS
def fj(es:List Ed)(s:Int)(i:Nat):Bool:=match es[i]? with | some x=>decide (x.f=s) | none=>false
def av(es:List Ed)(s:Int):List Nat:=(List.range es.length).filter (fj es s)
theorem ay{es:List Ed}{s:Int}{k:Nat}:k∈av es s ↔ ∃x,es[k]?=some x/\x.f=s:=by
 unfold av;rw[List.mem_filter,List.mem_range];constructor
 .rintro⟨h1,h2⟩;unfold fj at h2;rw[Yi h1] at h2;exact⟨_,Yi h1,cd h2⟩
 .rintro⟨x,hx,hf⟩;refine⟨(Ya.1 hx).1,?_⟩;unfold fj;rw[hx];exact decide_eq_true hf
theorem ef(es:List Ed)(s:Int):(av es s).length<=es.length:=iX (List.length_filter_le _ _) (by rw[kv];exact bu _)
theorem Bx(g:Gl)(s:Int)(h:Heap)(hg:GI h g):Fn Pz 55 #[g.v,.int .i64 s] h fun v h'=>Ext h h'/\∃r:Sl,v=.slice r.a r.n r.c/\Rw h' 1 r ((aJ (av g.es s)).map aM):=by
 apply adj (bs g.nm) g.hr g.hd g.n g.s g.e g.he g.ht;unfold W55;have nI:=hg.e.ln;have Iy:=hg.e.sm;refine (St.refl h).ao fun h9 hs=>?_;have hs:=hs.cn 3 1;refine dV (n:=g.he.n) hs (fun i rows=>rows=(aJ ((List.range i).filter (fj g.es s))).map aM) rfl ?_;clear hs;rintro-i out tD rows hi hs rfl;have XU:=hs.len 0 (s:=out) (e:=3) (n:=1) rfl (by omega);rw[Yc,show (aJ ((List.range i).filter (fj g.es s))).length=((List.range i).filter (fj g.es s)).length from Yc _] at XU;have xy:((List.range i).filter (fj g.es s)).length<=i:=iX (List.length_filter_le _ _) (by rw[kv];exact bu _);refine⟨g.he,hs.rd 1 rfl rfl,aQ (fun c=>?_) (fun c=>?_)⟩
 .refine⟨g.he,hs.rd 1 rfl rfl,?_⟩;refine (hg.e.rw.ext hs.ext).ax (by omega) (by omega) fun b o x gx t=>?_;replace gx:g.es[i]?=some x:=gx;have KX:(List.range (i+1)).filter (fj g.es s)=if x.f=s then (List.range i).filter (fj g.es s)++[i] else (List.range i).filter (fj g.es s):=by
   rw[List.range_succ,List.filter_append];have hp:fj g.es s i=decide (x.f=s):=by unfold fj;rw[gx]
   by_cases e:x.f=s
   .rw[if_pos e,List.filter_cons_of_pos (by rw[hp];exact decide_eq_true e)];rfl
   .rw[if_neg e,List.filter_cons_of_neg (by rw[hp,decide_eq_false e];simp)];simp
  refine⟨_,t.hd,eS (fun c2=>?_) (fun c2=>?_)⟩
  .refine hs.app 0 rfl dt (m:=1) [aM (i:Int)] rfl rfl (fun r hr=>by rw[Ye] at hr;rw[hr];rfl) rfl (by omega) (by simp only[maxLen];omega) fun r rM ns hs=>?_;refine A8.next (by omega) (by omega) ⟨_,hs,?_⟩;rw[KX,if_pos c2,nA,Ym];rfl
  .exact A8.next (by omega) (by omega) ⟨_,hs,by rw[KX,if_neg c2]⟩
 .have hie:i=g.es.length:=by omega
  subst hie;exact⟨hs.ext,out,rfl,hs.rows 0 rfl (by omega)⟩
theorem zg(x:Ed)(role:Int)(h:Heap):Fn Pz 56 #[.agg ⟨x.cs⟩,.int .i64 role] h fun v h'=>v=.bool (aG role x).isSome/\Ext h h':=by
 apply adi x.f x.a x.b x.l x.t x.ag;unfold W56;refine (St.refl h).ao fun h7 hs=>?_;refine⟨_,hs.rd 0 rfl rfl,eS (fun c=>?_) (fun c=>⟨_,hs.rd 0 rfl rfl,?_,hs.ext⟩)⟩
 .refine⟨?_,hs.ext⟩;unfold aG;rw[if_pos c.symm];rfl
 .unfold aG;rw[if_neg (Ne.symm c)];by_cases e:x.b=role
  .rw[if_pos e.symm,e,beq_self_eq_true];rfl
  .rw[if_neg (Ne.symm e),beq_eq_false_iff_ne.2 e];rfl
theorem CM(x:Ed)(role:Int)(e:Ev)(hv:aG role x=some e)(h:Heap):Fn Pz 57 #[.agg ⟨x.cs⟩,.int .i64 role] h fun v h'=>v=.agg ⟨aC role e⟩/\Ext h h':=by
 apply adh x.f x.a x.b x.l x.t x.ag;unfold W57 Tt;refine (St.refl h).ao fun h7 hs=>?_;refine hs.ao fun h8 hs=>?_;unfold aG at hv;refine⟨_,hs.rd 1 rfl rfl,eS (fun c=>?_) (fun c=>?_)⟩
 .rw[if_pos c.symm] at hv;cases hv;refine⟨_,hs.rd 1 rfl rfl,_,hs.rd 1 rfl rfl,?_⟩;refine hs.put 0 rfl (o:=0) (vs:=aC role ⟨true,x.b,x.l⟩) rfl (show 5<=5 by decide) fun CD hs=>?_;exact⟨_,_,_,_,⟨none,0,0⟩,hs.at 0 rfl (o:=0) (n:=5) rfl,rfl,hs.ext⟩
 .rw[if_neg (Ne.symm c)] at hv;split at hv
  .cases hv;refine⟨_,hs.rd 1 rfl rfl,_,hs.rd 1 rfl rfl,?_⟩;refine hs.put 0 rfl (o:=0) (vs:=aC role ⟨false,x.a,x.l⟩) rfl (show 5<=5 by decide) fun CD hs=>?_;exact⟨_,_,_,_,⟨none,0,0⟩,hs.at 0 rfl (o:=0) (n:=5) rfl,rfl,hs.ext⟩
  .cases hv
inductive yE (es:List Ed):Int->List Ed->Int->Prop where
 | nil {s:Int}:yE es s [] s
 | snoc {s t:Int} {p:List Ed} {x:Ed}:yE es s p t->x∈es->x.f=t->yE es s (p++[x]) x.t
theorem mG:cu Pz 30 65 3 24=true:=by kernel_rfl
end Go.VC
end

section
namespace Go.VC
def TN(c:Nat):Nat->Nat
 | 0=>0
 | k+1=>c+256*TN c k
def s1(k x:Nat):Nat:=((x/2)&&&TN 0x55 k)+(x&&&TN 0x55 k)
def s2(k x:Nat):Nat:=((x/4)&&&TN 0x33 k)+(x&&&TN 0x33 k)
def s3(k x:Nat):Nat:=(x/16+x)&&&TN 0x0f k
def b1(b:Nat):Nat:=((b/2)&&&0x55)+(b&&&0x55)
def b2(b:Nat):Nat:=((b/4)&&&0x33)+(b&&&0x33)
def b3(b:Nat):Nat:=(b/16+b)&&&0x0f
set_option maxRecDepth 100000 in
theorem f1:∀b,b<256->∀t,t<2->(b/2+128*t)&&&0x55=(b/2)&&&0x55:=by decide
set_option maxRecDepth 100000 in
theorem f2:∀b,b<256->∀t,t<4->(b/4+64*t)&&&0x33=(b/4)&&&0x33:=by decide
set_option maxRecDepth 100000 in
theorem f3:∀b,b<69->∀t,t<5->(b/16+16*t+b)&&&0x0f=b3 b:=by decide
set_option maxRecDepth 100000 in
theorem f4:∀b,b<256->b1 b<256/\b2 (b1 b)<69/\b2 (b1 b)%16<5/\b3 (b2 (b1 b))<9/\(b3 (b2 (b1 b))=0->b=0):=by decide
end Go.VC
end
