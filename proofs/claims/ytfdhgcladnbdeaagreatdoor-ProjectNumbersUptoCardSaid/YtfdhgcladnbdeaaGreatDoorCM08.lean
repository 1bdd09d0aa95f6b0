/- PjKg PjKh PjUe PjUf PjUg PjUh PjKj PjKk PjKi PjUi PjKl PjArgs. -/
import Derived.Test.YtfdhgcladnbdeaaGreatDoorCM07
import Derived.Test.YtfdhgcladnbdeaaGreatDoorRows
set_option linter.all false
set_option maxRecDepth 100000
set_option maxHeartbeats 8000000

section
namespace Go.VC
open Go.Proofs Go.LexS
theorem clos62 (t:To) (b:Nat) (st:Int) (h:Heap) (hb:hc h ⟨b,0,none⟩=some (.int .i64 st)):Fn Pz 62 #[.agg ⟨t.cs⟩,.pointer (some ⟨b,0,none⟩)] h fun v h'=>v=.bool (t.s==st)/\Ext h h':=by
 apply vc62 t.s t.k t.e ⟨b,0,none⟩;unfold W62;refine (St.refl h).newb fun h4 hs=>?_;exact⟨t.s,hs.rd 0 rfl (i:=0) rfl,st,hc_ext hs.ext hb,rfl,hs.ext⟩
theorem call62:callable Pz 62=true:=by kernel_rfl
theorem index61 (g:Gl) (b:Nat) (st:Int) (h:Heap) (hg:GI h g) (hb:hc h ⟨b,0,none⟩=some (.int .i64 st)):Fn Pz 61 #[.slice g.ht.a g.ht.n g.ht.c,.func (.func 62) #[] #[.pointer (some ⟨b,0,none⟩)]] h fun v h'=>Ext h h'/\∃i:Int,v=.int .i64 i/\((i=-1/\∀t∈g.ts,t.s≠st)\/∃(j:Nat) (t:To),i=(j:Int)/\g.ts[j]?=some t/\t.s=st):=by
 apply vc61 g.ht (.func (.func 62) #[] #[.pointer (some ⟨b,0,none⟩)]);unfold W61;have htn:=hg.t.ln;have htm:=hg.t.sm;refine up_loop (n:=g.ht.n) (fun i h'=>Ext h h'/\∀(j:Nat) t,j<i->g.ts[j]?=some t->t.s≠st) ⟨.rfl',fun j t hj=>by omega⟩ ?_;rintro-i h5 hi ⟨E,hq⟩;refine sB_intro (fun c=>?_) (fun c=>?_)
 .replace c:=lt_t c;refine (hg.t.ext E).rw.nbI (by omega) (by omega) fun b6 o7 t gt u=>?_;replace gt:g.ts[i]?=some t:=gt;refine⟨t.s,t.k,t.e,u,?_⟩;show (bif callable Pz 62 then _ else _);rw[call62,cond_true];refine (clos62 t b st h5 (hc_ext E hb)).mono ?_;rintro _ h16 ⟨rfl,E2⟩;refine⟨_,rfl,sBe (fun c2=>⟨E.trans E2,i,rfl,.inr ⟨i,t,rfl,gt,c2⟩⟩) (fun c2=>Up.next c (by omega) ⟨E.trans E2,fun j t' hj gt'=>?_⟩)⟩;by_cases e:j=i
  .subst e;rw[gt] at gt';cases gt';exact c2
  .exact hq j t' (by omega) gt'
 .replace c:=lt_f c;refine⟨E,-1,rfl,.inl ⟨rfl,fun t ht=>?_⟩⟩;obtain⟨j,hj⟩:=Yf.1 ht;exact hq j t (by have:=(Ya.1 hj).1;omega) hj
def oC (g:Gl) (r hd:Sl) (k e:Int) (eo to:Sl):List Value:=[.string (bs g.nm),.slice r.a r.n r.c,.slice hd.a hd.n hd.c,.int .i64 k,.int .i64 0,.int .i64 e,.slice eo.a eo.n eo.c,.slice to.a to.n to.c]
abbrev cnL (gb ob rb:Nat) (g:Gl) (r hd so sn eo to:Sl) (k:Nat) (ord:List Nat) (num:List Int) (es:List Ed) (ts:List To) (B:List It):List It:=
 .sl so 3 1 ((natI ord).map inC) :: .sl sn 3 1 (num.map inC) :: .blk ob (oC g r hd k 0 eo to) 27 :: .sl eo 55 6 (es.map Ed.cs) :: .sl to 63 3 (ts.map To.cs) :: .blk rb z8 27 :: .blk gb g.cs 27::B
theorem app24k:appB Pz 24 55 6 48=true:=by kernel_rfl
theorem app25k:appB Pz 25 63 3 24=true:=by kernel_rfl
theorem tim_row {g:Gl} (hV:ValidS g) {t:To} (ht:t∈g.ts):(gE g t.e.toNat).f=t.s:=by
 obtain⟨i,hi⟩:=Yf.1 ht;obtain⟨_,hk,he,z,hz,hf,_⟩:=hV.tim i t hi;rw[gE_of hz];exact hf
theorem canIn30 (g:Gl) (k s:Nat) (O:List Nat) {h h48 h89:Heap} {rb:Nat} {r hd so0 sO sn eo0 to0:Sl} {ord0:List Nat} {num0:List Int} {Q0:List Nat} {es0:List Ed} {ts0:List To} {B:List It} {lim:Int} {m64:Nat} {I62:Sl->Heap->Nat->Prop}
  (hg:GI h g) (hV:ValidS g) (hk0:ord0[k]?=some s) (hO:O.Perm (outG g.es (s:Int))) (hlim:(lim=-1/\∀t∈g.ts,t.s≠(s:Int))\/∃(j:Nat) (t:To),lim=(j:Int)/\g.ts[j]?=some t/\t.s=(s:Int))
  (hs:St h h89 (.sl sO 3 1 ((natI O).map inC)::cnL h.size h48.size rb g r hd so0 sn eo0 to0 k ord0 num0 es0 ts0 B)) (hC0:CnI g k [] ord0 num0 Q0 es0 ts0) (hlow:∀y∈ts0,y.s<(k:Int))
  (hnext:∀(so' eo' to':Sl) (h':Heap) (ord:List Nat) (num:List Int) (Q:List Nat) (es:List Ed) (ts:List To),St h h' (cnL h.size h48.size rb g r hd so' sn eo' to' (k+1) ord num es ts B)->CnI g (k+1) [] ord num Q es ts->(∀y∈ts,y.s<((k+1:Nat):Int))->∃m,m<m64/\I62 so' h' m) :
  V30a so0 h89 sO h sn lim h48 m64 I62:=by
 have hen:=hg.e.ln;have htn:=hg.t.ln;have hNn:=hV.num.n;have hOnd:O.Nodup:=(hO.nodup_iff).2 (List.Nodup.sublist List.filter_sublist List.nodup_range);have hOlen:O.length<=g.es.length:=by rw[hO.length_eq];exact outG_len _ _
 have hem:=hg.e.sm;have hOm:∀e∈O,∃x,g.es[e]?=some x/\x.f=(s:Int):=fun e he=>outG_mem.1 (hO.subset he);have hu:∀ {t t':To},t∈g.ts->t'∈g.ts->t.s=t'.s->t=t':=fun h1 h2 h3=>tim_uniq hV.tim h1 h2 h3;have hes4:=hV.num.m;unfold V30a;refine⟨fun so x h' μ=>∃(i:Nat) (eo to:Sl) (ord:List Nat) (num:List Int) (Q:List Nat) (es:List Ed) (ts:List To),x=(i:Int)/\μ=O.length-i/\i<=O.length/\St h h' (.sl sO 3 1 ((natI O).map inC)::cnL h.size h48.size rb g r hd so sn eo to k ord num es ts B)/\CnI g k (O.take i) ord num Q es ts/\ord[k]?=some s/\((∀y∈ts,y.s<(k:Int))\/∃t∈g.ts,t.s=(s:Int)/\t.e.toNat∈O.take i),
  ⟨_,0,eo0,to0,ord0,num0,Q0,es0,ts0,rfl,rfl,Nat.zero_le _,hs,hC0,hk0,.inl hlow⟩,?_⟩
 clear hs hC0 hlow hk0;rintro-so _ h95 μ ⟨i,eo,to,ord,num,Q,es,ts,rfl,rfl,hi,hs,hC,hk,htl⟩;have hsO:=(hs.rl 0 rfl (by decide) (by unfold natI;rw[Yc];omega):RL h95 1 sO inC (natI O)).ln;rw[show (natI O).length=O.length from Yc _] at hsO;have hnl:=hC.n.ln;have hol:=hC.n.len;have hesl:es.length=Q.length:=by rw[hC.es,Yc]
 refine sB_intro (fun c=>?_) (fun c=>?_)
 .replace c:=lt_t c;refine (hs.rl 0 rfl (by decide) (by unfold natI;rw[Yc];omega):RL h95 1 sO inC (natI O)).rw.nbI (by omega) (by omega) fun b96 o97 d gd t96=>?_;obtain⟨e,ge,rfl⟩:=natI_get (i:=i) gd;have heO:=Yb ge;obtain⟨x,gx,hxf⟩:=hOm e heO;have hel:=(Ya.1 gx).1;have hxr:=hV.num.e x (Yb gx);unfold EdS at hxr;refine⟨(e:Int),t96.hd,g.he,hs.rd 7 rfl (i:=6) rfl,?_⟩;refine (hg.e.rw.ext hs.ext).nbI (by omega) (by omega) fun b100 o101 x' gx' t100=>?_;replace gx':g.es[e]?=some x':=gx';rw[gx] at gx';cases gx';refine⟨x.f,x.a,x.b,x.l,x.t,x.ag,t100,?_⟩;refine hs.newput (vs:=x.cs) rfl rfl fun h109 hs=>?_;have hti:O.take (i+1)=O.take i++[e]:=take_snoc ge;have hein:e∉O.take i:=fun hc=>by
   obtain⟨j,hj⟩:=Yf.1 hc;have hjl:=(Ya.1 hj).1;rw[Yu] at hjl;rw[Yyf,if_pos (by omega)] at hj;have:=(List.getElem?_inj (by omega) hOnd).1 (hj.trans ge.symm);omega
  refine⟨fun so' h'=>∃(ord':List Nat) (num':List Int),St h h' (.blk h95.size x.cs 55 :: .sl sO 3 1 ((natI O).map inC)::cnL h.size h48.size rb g r hd so' sn eo to k ord' num' es ts B)/\NuI g.n.toNat ord' num'/\NumK num num'/\(∀(i s:Nat),ord[i]?=some s->ord'[i]?=some s)/\ord.length<=ord'.length/\0<=nv num' x.t,?_,?_⟩
  .refine⟨x.t,hs.rd 0 rfl (i:=4) rfl,?_⟩;have hsn:=(hs.rl 3 rfl (by decide) (by omega):RL h109 1 sn inC num).ln;refine (hs.rl 3 rfl (by decide) (by omega):RL h109 1 sn inC num).rw.nbI (by omega) (by omega) fun b112 o113 v gv t112=>?_;refine⟨v,t112.hd,sBi (fun c2=>?_) (fun c2=>?_)⟩
   .have hv1:v=-1:=by
     rcases hC.n.b _ v gv with h1 | ⟨j,h1,_⟩
     .exact h1
     .omega
    subst hv1;have hso:=(hs.rl 2 rfl (by decide) (by unfold natI;rw[Yc];omega):RL h109 1 so inC (natI ord)).ln;rw[show (natI ord).length=ord.length from Yc _] at hso;refine⟨x.t,hs.rd 0 rfl (i:=4) rfl,?_⟩;refine St.set (cs:=inC) (l:=num) hs 3 rfl (by decide) (by omega) (by omega) ((so.n:Nat):Int) rfl rfl (fun b116 o117 h118 hs=>?_) rfl;refine⟨x.t,hs.rd 0 rfl (i:=4) rfl,?_⟩;refine hs.app 2 rfl app42 (m:=1) [inC x.t] rfl rfl (fun r hr=>by rw[Ye] at hr;rw[hr];rfl) rfl (by omega) (by simp only[maxLen];omega) fun s121 h122 n121 hs=>?_;refine⟨ord++[x.t.toNat],num.set x.t.toNat (ord.length:Int),?_,hC.n.push gv,NumK.push gv,fun j z hj=>by rw[Yyi (Ya.1 hj).1];exact hj,by rw[Yh];omega,?_⟩
    .unfold cnL;rw[natI_snoc,Ym,show ((x.t.toNat:Nat):Int)=x.t by omega,<-hso];exact hs
    .unfold nv;rw[Yo,Yq (Ya.1 gv).1];show (0:Int)<=((ord.length:Nat):Int);omega
   .exact⟨ord,num,hs,hC.n,NumK.refl _,fun _ _ h=>h,Yyt _,by rw[nv_of gv];omega⟩
  clear hs;rintro-so' h124 ⟨ord',num',hs,hN',hK,ho,hl,ht0⟩;have hC':=hC.keep hN' hK ho hl fun t ht=>tim_row hV ht;have hk':=ho _ _ hk;have hnl':=hN'.ln;have hol':=hN'.len;have hnf:nv num' x.f=(k:Int):=nv_of (by rw[hxf];exact hN'.a k s hk');have hQl:Q.length<=g.es.length:=nodup_lek g.es.length Q hC.qn fun z hz=>by
   rcases (hC.q z).1 hz with ⟨y,_,h1,_⟩ | h1
   .exact (Ya.1 h1).1
   .obtain⟨y,h1,_⟩:=hOm z (List.mem_of_mem_take h1);exact (Ya.1 h1).1
  have htsl:ts.length<=1000000:=by
   have h1:(ts.map fun y=>y.s.toNat).Nodup:=List.pairwise_map.2 ((hC.tc.and (List.pairwise_of_forall_mem_list fun a ha b hb=>(⟨hC.td a ha,hC.td b hb⟩:(0<=a.s/\a.s<=k)/\0<=b.s/\b.s<=k))).imp fun {a b} hab=>by omega);have h2:=nodup_lek (k+1) _ h1 fun z hz=>by
    obtain⟨y,hy,rfl⟩:=Yp.1 hz;have:=hC.td y hy;omega
   rw[Yc] at h2;have:=hC.kl;omega
  refine⟨fun h'=>∃(to':Sl) (ts':List To),St h h' (.blk h95.size x.cs 55 :: .sl sO 3 1 ((natI O).map inC)::cnL h.size h48.size rb g r hd so' sn eo to' k ord' num' es ts' B)/\(((∀t∈g.ts,t.e.toNat≠e)/\ts'=ts)\/∃t∈g.ts,t.e.toNat=e/\t.s=x.f/\(∀t'∈g.ts,t'.e.toNat=e->t'=t)/\(∀y∈ts,y.s<(k:Int))/\ts'=ts++[⟨k,t.k,(Q.length:Nat)⟩]),?_,?_⟩
  .have hrow:∀t'∈g.ts,t'.e.toNat=e->t'.s=(s:Int):=fun t' ht' he=>by
    have:=tim_row hV ht';rw[he,gE_of gx] at this;omega
   refine sBi (fun c2=>?_) (fun c2=>?_)
   .rcases hlim with ⟨h1,_⟩ | ⟨j,t,rfl,gt,hts⟩
    .omega
    have htm:=Yb gt;have he0:0<=t.e:=(tim_ex hV htm).2.2.1;refine⟨g.ht,hs.rd 8 rfl (i:=7) rfl,?_⟩;have jl:=(Ya.1 gt).1;refine (hg.t.rw.ext hs.ext).nbI (by omega) (by omega) fun b127 o128 t' gt' u=>?_;replace gt':g.ts[j]?=some t':=gt';rw[gt] at gt';cases gt';refine⟨t.e,u.nth 2 rfl,sBe (fun c3=>?_) (fun c3=>?_)⟩
    .refine⟨to,hs.rd 4 rfl (i:=7) rfl,k,hs.rd 4 rfl (i:=3) rfl,g.ht,hs.rd 8 rfl (i:=7) rfl,?_⟩;refine (hg.t.rw.ext hs.ext).nbI (by omega) (by omega) fun b133 o134 t' gt' u=>?_;replace gt':g.ts[j]?=some t':=gt';rw[gt] at gt';cases gt';have heo:=(hs.rl 5 rfl (by decide) (by omega):RL h124 6 eo Ed.cs es).ln;refine⟨t.k,u.nth 1 rfl,eo,hs.rd 4 rfl (i:=6) rfl,fun h137 e137=>?_⟩;rw[heo,hesl] at e137;refine hs.appf 4 6 rfl rfl (cs:=To.cs) (x:=⟨k,t.k,(Q.length:Nat)⟩) app25k e137 rfl rfl htsl (by decide) 7 (show 7<8 by decide) (by decide) fun to' h140 hs=>?_;have hs:St h h140 (.blk h95.size x.cs 55 :: .sl sO 3 1 ((natI O).map inC)::cnL h.size h48.size rb g r hd so' sn eo to' k ord' num' es (ts++[(⟨k,t.k,(Q.length:Nat)⟩:To)]) B):=hs;refine⟨to',_,hs,.inr ⟨t,htm,by rw[c3];rfl,by rw[hts,hxf],fun t' ht' he=>hu ht' htm (by rw[hrow t' ht' he,hts]),?_,rfl⟩⟩;rcases htl with h1 | ⟨t2,h1,h2,h3⟩
     .exact h1
     .have e2:=hu h1 htm (by rw[h2,hts]);subst e2;rw[c3] at h3;exact absurd h3 hein
    .refine⟨to,ts,hs,.inl ⟨fun t' ht' he=>c3 ?_,rfl⟩⟩;have e2:=hu ht' htm (by rw[hrow t' ht' he,hts]);subst e2;omega
   .rcases hlim with ⟨_,h1⟩ | ⟨j,t,rfl,_,_⟩
    .exact⟨to,ts,hs,.inl ⟨fun t' ht' he=>h1 t' ht' (hrow t' ht' he),rfl⟩⟩
    .omega
  clear hs;rintro-h141 ⟨to',ts',hs,hts⟩;have hsn:=(hs.rl 3 rfl (by decide) (by omega):RL h141 1 sn inC num').ln;refine⟨eo,hs.rd 4 rfl (i:=6) rfl,k,hs.rd 4 rfl (i:=3) rfl,x.a,x.b,x.l,hs.at 0 rfl (o:=1) (n:=3) rfl,x.t,hs.rd 0 rfl (i:=4) rfl,?_⟩;refine (hs.rl 3 rfl (by decide) (by omega):RL h141 1 sn inC num').rw.nbI (by omega) (by omega) fun b148 o149 v gv t148=>?_;have hvt:nv num' x.t=v:=nv_of gv;refine⟨v,t148.hd,x.ag,hs.rd 0 rfl (i:=5) rfl,fun h152 e152=>?_⟩;refine hs.appf 4 5 rfl rfl (cs:=Ed.cs) (x:=⟨k,x.a,x.b,x.l,v,x.ag⟩) app24k e152 rfl rfl (by omega) (by decide) 6 (show 6<8 by decide) (by decide) fun eo' h155 hs=>?_;have hm:mE g num' e=⟨k,x.a,x.b,x.l,v,x.ag⟩:=by unfold mE;rw[gE_of gx,hnf,hvt]
  refine⟨_,(show O.length-(i+1)<O.length-i by omega),i+1,eo',to',ord',num',Q++[e],es++[mE g num' e],ts',by rw[w64 (by omega) (by omega)];omega,rfl,by omega,?_,?_,hk',?_⟩
  .rw[hm];exact hs.drop 1
  .rw[hti];exact hC'.edge gx hnf (by rw[hk',hxf];rfl) (by omega) ht0 hein hts
  .rw[hti];rcases hts with ⟨_,rfl⟩ | ⟨t,h1,h2,h3,_⟩
   .rcases htl with h1 | ⟨t2,h1,h2,h3⟩
    .exact .inl h1
    .exact .inr ⟨t2,h1,h2,List.mem_append_left _ h3⟩
   .exact .inr ⟨t,h1,by rw[h3,hxf],by rw[h2];exact List.mem_append_right _ (Ye.2 rfl)⟩
 .replace c:=lt_f c;have hio:i=O.length:=by omega
  subst hio;refine⟨k,hs.rd 3 rfl (i:=3) rfl,?_⟩;refine hs.put 3 rfl (o:=3) (vs:=[.int .i64 (IntKind.wrap .i64 ((k:Int)+1))]) rfl (show 4<=8 by decide) fun h158 hs=>?_;have hkk:=hC.kl;rw[show IntKind.wrap .i64 ((k:Int)+1)=((k+1:Nat):Int) by rw[w64 (by omega) (by omega)];omega] at hs;rw[Yye] at hC;refine hnext so eo to h158 ord num Q es ts (hs.drop 1) (hC.next hk (fun e=>?_) fun y hy=>by have:=hV.num.e y hy;unfold EdS at this;omega) fun y hy=>by have:=hC.td y hy;omega
  exact (hO.mem_iff).trans outG_mem
def CanS_ (g c:Gl):Prop:=∃(ord:List Nat) (num:List Int) (Q:List Nat),c.nm=g.nm/\c.rs=g.rs/\c.ds.length=g.ds.length/\(∀(i:Nat) d d',g.ds[i]?=some d->c.ds[i]?=some d'->DcSm d d') /\
 c.n=(ord.length:Nat)/\c.s=0/\num[g.e.toNat]?=some c.e/\CnI g ord.length [] ord num Q c.es c.ts
theorem CnI.start {g:Gl} (hV:ValidS g):CnI g 0 [] [g.s.toNat] ((List.replicate g.n.toNat (-1)).set g.s.toNat 0) [] [] []:=by
 have hN:=hV.num.n;have hl:g.s.toNat<(List.replicate g.n.toNat (-1:Int)).length:=by rw[Yg];omega
 refine⟨⟨by rw[Yyh,Yg],fun i s hi=>?_,fun s v hv=>?_⟩,rfl,Nat.zero_le _,fun e=>?_,.nil,fun e he=>(by cases he),rfl,fun y hy=>(by cases hy),fun t ht h=>(by cases h),.nil,fun y hy=>(by cases hy)⟩
 .have:=(Ya.1 hi).1;have e1:([g.s.toNat]:List Nat).length=1:=rfl;have:i=0:=by omega
  subst this;cases hi;rw[Yq hl];rfl
 .by_cases e:g.s.toNat=s
  .subst e;rw[Yq hl] at hv;cases hv;exact .inr ⟨0,rfl,rfl⟩
  .rw[Yy e] at hv;exact .inl (List.eq_of_mem_replicate (Yb hv))
 .constructor
  .intro h;cases h
  .rintro (⟨_,_,_,h,_⟩ | h)
   .omega
   .cases h
theorem canOut30 (g:Gl) {h h9 h48 h59 h61:Heap} {r hd sn:Sl} {B:List It} (hg:GI h g) (hV:ValidS g) {R:Value->Heap->Prop}
  (hs:St h h61 (cnL h.size h48.size h9.size g r hd ⟨some ⟨h59.size,0,none⟩,1,1⟩ sn ⟨none,0,0⟩ ⟨none,0,0⟩ 0 [g.s.toNat] ((List.replicate g.n.toNat (-1)).set g.s.toNat 0) [] [] B))
  (hR:∀(h':Heap) (eo to:Sl) (ord:List Nat) (num:List Int) (Q:List Nat) (es:List Ed) (ts:List To) (e:Int),num[g.e.toNat]?=some e->St h h' (.sl eo 55 6 (es.map Ed.cs) :: .sl to 63 3 (ts.map To.cs)::B)->CnI g ord.length [] ord num Q es ts->R (.tuple ⟨[.agg ⟨oC g r hd (ord.length:Nat) e eo to⟩,.int .i64 0]⟩) h') :
  V30b h59 h61 h48 h sn h9 R:=by
 have hNn:=hV.num.n;unfold V30b;refine⟨fun so h' μ=>∃(k:Nat) (eo to:Sl) (ord:List Nat) (num:List Int) (Q:List Nat) (es:List Ed) (ts:List To),μ=g.n.toNat-k/\St h h' (cnL h.size h48.size h9.size g r hd so sn eo to k ord num es ts B)/\CnI g k [] ord num Q es ts/\∀y∈ts,y.s<(k:Int),⟨_,0,_,_,_,_,[],[],[],rfl,hs,CnI.start hV,fun y hy=>(by cases hy)⟩,?_⟩;clear hs;rintro-so h66 μ ⟨k,eo,to,ord,num,Q,es,ts,rfl,hs,hC,hlow⟩;have hol:=hC.n.len;have hnl:=hC.n.ln;have hso:=(hs.rl 0 rfl (by decide) (by unfold natI;rw[Yc];omega):RL h66 1 so inC (natI ord)).ln;rw[show (natI ord).length=ord.length from Yc _] at hso;refine⟨k,hs.rd 2 rfl (i:=3) rfl,sB_intro (fun c=>?_) (fun c=>?_)⟩
 .replace c:=lt_t c;refine⟨k,hs.rd 2 rfl (i:=3) rfl,?_⟩;refine (hs.rl 0 rfl (by decide) (by unfold natI;rw[Yc];omega):RL h66 1 so inC (natI ord)).rw.nbI (by omega) (by omega) fun b69 o70 d gd t=>?_;obtain⟨s,gs,rfl⟩:=natI_get (i:=k) gd;refine⟨(s:Int),t.hd,?_⟩;refine hs.newput (vs:=[.int .i64 (s:Int)]) rfl rfl fun h73 hs=>?_;refine⟨g.ht,hs.rd 7 rfl (i:=7) rfl,?_⟩;refine (index61 g h66.size s h73 (hg.ext hs.ext) (hs.rd 0 rfl (i:=0) rfl)).mono ?_;rintro _ h77 ⟨E,lim,rfl,hlim⟩;have hs:=hs.step E;refine⟨lim,rfl,_,_,_,_,_,_,_,_,hs.at 7 rfl (o:=0) (n:=8) rfl,(s:Int),hs.rd 0 rfl (i:=0) rfl,?_⟩;refine (edges63 g s h77 (hg.ext hs.ext)).mono ?_;rintro _ h89 ⟨sO,O,rfl,hO,hP,_⟩;have hs:=((hs.drop 1).join hO).perm List.perm_append_comm;refine⟨sO,rfl,?_⟩;have hkn:k<g.n.toNat:=by omega
  exact canIn30 g k s O hg hV gs hP hlim hs hC hlow fun so' eo' to' h' ord' num' Q' es' ts' hs' hC' hl'=>⟨_,(show g.n.toNat-(k+1)<g.n.toNat-k by omega),k+1,eo',to',ord',num',Q',es',ts',rfl,hs',hC',hl'⟩
 .replace c:=lt_f c;have hkl:=hC.kl;have hk:k=ord.length:=by omega
  subst hk;have hsn:=(hs.rl 1 rfl (by decide) (by omega):RL h66 1 sn inC num).ln;refine⟨g.e,hs.rd 6 rfl (i:=5) rfl,?_⟩;refine (hs.rl 1 rfl (by decide) (by omega):RL h66 1 sn inC num).rw.nbI (by omega) (by omega) fun b161 o162 v gv t=>?_;refine⟨v,t.hd,?_⟩;refine hs.put 2 rfl (o:=5) (vs:=[.int .i64 v]) rfl (show 6<=8 by decide) fun h164 hs=>?_;refine⟨bs g.nm,r,hd,(ord.length:Nat),0,v,eo,to,hs.at 2 rfl (o:=0) (n:=8) rfl,?_⟩;refine hs.put 5 rfl (o:=0) (vs:=oC g r hd (ord.length:Nat) v eo to) rfl (show 8<=8 by decide) fun h173 hs=>?_;refine⟨bs g.nm,r,hd,(ord.length:Nat),0,v,eo,to,hs.at 5 rfl (o:=0) (n:=8) rfl,?_⟩;refine hR h173 eo to ord num Q es ts v gv ?_ hC;exact hs.sub (.cons _ (.cons _ (.cons _ (.cons_cons _ (.cons_cons _ (.cons _ (.cons _ (List.Sublist.refl _))))))))
theorem canonical30 (g:Gl) (h:Heap) (hg:GI h g) (hx:Gx h) (hV:ValidS g):Fn Pz 30 #[g.v] h fun v h'=>∃c:Gl,v=.tuple ⟨[c.v,.int .i64 0]⟩/\Ext h h'/\GI h' c/\CanS_ g c:=by
 apply vc30 (bs g.nm) g.hr g.hd g.n g.s g.e g.he g.ht;unfold W30;have hNn:=hV.num.n;have hes4:=hV.num.m;refine (St.refl h).newb fun h9 hs=>?_;refine hs.newb fun h10 hs=>?_;refine⟨_,_,_,_,_,_,_,_,hs.at 1 rfl (o:=0) (n:=8) rfl,?_⟩;refine (valid38 g h10 (hg.ext hs.ext) (hx.ext hs.ext)).mono ?_;rintro _ h21 ⟨rfl,E⟩;have hs:=hs.step E;refine⟨_,rfl,sB_intro (fun c=>absurd hV (Yyo (bF c))) (fun _=>?_)⟩;refine⟨_,_,_,_,_,_,_,_,hs.at 1 rfl (o:=0) (n:=8) rfl,?_⟩;refine (copied59 g h21 (hg.ext hs.ext)).mono ?_;rintro _ h48 ⟨r,hd,D,A,rfl,hc,hDl,hDS,hDA⟩;have hs:=hs.join hc;refine⟨bs g.nm,r,hd,0,0,0,⟨none,0,0⟩,⟨none,0,0⟩,rfl,?_⟩;refine hs.newput (vs:=o8 g r hd) rfl rfl fun h50 hs=>?_;refine hs.newb fun h51 hs=>?_;refine⟨g.n,hs.rd 3 rfl (i:=3) rfl,?_⟩;refine (repeat60 g.n (by omega) (by omega) h50.size h51 (hs.rd 0 rfl (i:=0) rfl)).mono ?_;rintro _ h55 ⟨E,sn,rfl,ho⟩;have hs:=hs.gift E ho (inrows _);have hsn:=(hs.rl 0 rfl (by decide) (by rw[Yg];omega):RL h55 1 sn inC (List.replicate g.n.toNat (-1))).ln;rw[Yg] at hsn;refine⟨sn,rfl,g.s,hs.rd 4 rfl (i:=4) rfl,?_⟩;refine St.set (cs:=inC) (l:=List.replicate g.n.toNat (-1)) hs 0 rfl (by decide) (by omega) (by omega) 0 rfl rfl (fun _ _ h59 hs=>?_) rfl;refine⟨g.s,hs.rd 4 rfl (i:=4) rfl,?_⟩;refine hs.newb fun h61 hs=>?_;have hs:=hs.blkS 1 1 ([g.s].map inC) rfl (inrows _) rfl (by decide);have hs:=((hs.eras 2).nil_ 63 3).nil_ 55 6;have hs:=hs.perm (List.perm_append_comm_assoc [_,_] [_,_,_] _);have e0:[g.s].map inC=(natI [g.s.toNat]).map inC:=by
  show [inC g.s]=[inC ((g.s.toNat:Nat):Int)];rw[show ((g.s.toNat:Nat):Int)=g.s by omega]
 rw[e0] at hs;refine canOut30 g (B:=.sl hd 136 5 (D.map Dc.cs) :: .sl r 9 1 (g.rs.map nmC)::A) hg hV hs fun h' eo to ord num Q es ts e ge hs hC=>?_;have hQl:Q.length<=g.es.length:=nodup_lek g.es.length Q hC.qn fun z hz=>by
  rcases (hC.q z).1 hz with ⟨y,_,h1,_⟩ | h1
  .exact (Ya.1 h1).1
  .cases h1
 have hesl:es.length=Q.length:=by rw[hC.es,Yc]
 have htsl:ts.length<=1048576:=by
  have h1:(ts.map fun y=>y.s.toNat).Nodup:=List.pairwise_map.2 ((hC.tc.and (List.pairwise_of_forall_mem_list fun a ha b hb=>(⟨hC.td a ha,hC.td b hb⟩:(0<=a.s/\a.s<=(ord.length:Nat))/\0<=b.s/\b.s<=(ord.length:Nat)))).imp fun {a b} hab=>by omega);have h2:=nodup_lek (ord.length+1) _ h1 fun z hz=>by
   obtain⟨y,hy,rfl⟩:=Yp.1 hz;have:=hC.td y hy;omega
  rw[Yc] at h2;have:=hC.n.len;omega
 refine⟨⟨g.nm,r,hd,(ord.length:Nat),0,e,eo,to,g.rs,D,es,ts⟩,rfl,hs.ext,⟨hs.rl 3 rfl (by decide) hg.r.sm,⟨hs.rl 2 rfl (by decide) (by show D.length<=1048576;have:=hg.d.r.sm;omega),fun d hdm=>?_⟩,hs.rl 0 rfl (by decide) (by show es.length<=1048576;omega),hs.rl 1 rfl (by decide) htsl⟩,ord,num,Q,rfl,rfl,hDl,hDS,rfl,rfl,ge,hC⟩;obtain⟨i,hi⟩:=Yf.1 hdm;have hil:=(Ya.1 hi).1;obtain⟨d0,hd0⟩:=get_some (l:=g.ds) (i:=i) (by rw[<-hDl];exact hil);obtain⟨_,_,q1,q2,q3⟩:=hDS i d0 d hd0 hi;have hI:=hg.d.i d0 (Yb hd0);have hin:∀x∈dItems d,x∈(.sl eo 55 6 (es.map Ed.cs) :: .sl to 63 3 (ts.map To.cs) :: .sl hd 136 5 (D.map Dc.cs) :: .sl r 9 1 (g.rs.map nmC)::A:List It):=fun x hx=>Yn _ (Yn _ (Yn _ (Yn _ (hDA d hdm x hx))));refine⟨hs.rlm (hin _ Yx) (by decide) (by rw[q1];exact hI.pf.sm),hs.rlm (hin _ (Yn _ Yx)) (by decide) (by rw[q2];exact hI.pd.sm),hs.rlm (hin _ (Yn _ (Yn _ Yx))) (by decide) (by rw[q3];exact hI.pe.sm)⟩


/-! ### plain -/
def CpJ (M:List Mv) (n k j:Nat):Prop:=j<=M.length/\∀(i:Nat) y,M[i]?=some y->(i<j ↔ y.f<(n:Int)\/(y.f=(n:Int)/\i<k))
theorem CpJ.end_ {M:List Mv} {n j:Nat} (h:CpJ M n 0 j) (hM:∀y∈M,y.f<(n:Int)):j=M.length:=by
 rcases Nat.lt_or_ge j M.length with c | c
 .obtain⟨x,gx⟩:=get_some (l:=M) (i:=j) c;have:=(h.2 j x gx).2 (.inl (hM x (Yb gx)));omega
 .exact Nat.le_antisymm h.1 c
/-! ### the walk -/
end Go.VC
end

section
namespace Go.VC
open Go.Proofs Go.LexS Go.Maps
theorem mv_ext {x y:Mv} (c:((x.f==y.f)&&((x.send==y.send)&&((x.peer==y.peer)&&((x.label==y.label)&&((x.t==y.t)&&((x.ag==y.ag)&&true))))))=true):x=y:=by
 cases x;cases y;simp only[Bool.and_true,Yt,beq_iff_eq] at c;obtain⟨h1,h2,h3,h4,h5,h6⟩:=c;simp only[Mv.mk.injEq];exact⟨h1,h2,h3,h4,h5,h6⟩
theorem to_ext {x y:To} (c:((x.s==y.s)&&((x.k==y.k)&&((x.e==y.e)&&true)))=true):x=y:=by
 cases x;cases y;simp only[Bool.and_true,Yt,beq_iff_eq] at c;obtain⟨h1,h2,h3⟩:=c;simp only[To.mk.injEq];exact⟨h1,h2,h3⟩
theorem mch_ext {m k:Mch} (h1:m.role=k.role) (h2:m.n=k.n) (h3:m.s=k.s) (h4:m.fin=k.fin) (h5:m.mv=k.mv) (h6:m.li=k.li):m=k:=by
 cases m;cases k;simp only[Mch.mk.injEq];exact⟨h1,h2,h3,h4,h5,h6⟩
theorem same17 (m k:Mch) (sf sm sl tf tm tl:Sl) (h:Heap) (hM:MI h m sf sm sl) (hK:MI h k tf tm tl) :
  Fn Pz 16 #[.agg ⟨mC m sf sm sl⟩,.agg ⟨mC k tf tm tl⟩] h (RP (m=k) h):=by
 apply vc16 m.role m.n m.s sf sm sl k.role k.n k.s tf tm tl;unfold W16;have f1:=hM.pf.ln;have f2:=hK.pf.ln;have m1:=hM.pm.ln;have m2:=hK.pm.ln;have l1:=hM.pl.ln;have l2:=hK.pl.ln;have f3:=hM.pf.sm;have m3:=hM.pm.sm;have l3:=hM.pl.sm;refine (St.refl h).newb fun h13 hs=>?_;refine hs.newb fun h14 hs=>?_;refine⟨_,hs.rd 1 rfl rfl,_,hs.rd 0 rfl rfl,sBn (fun c1=>RP.f (fun e=>c1 (by rw[e])) hs.ext) (fun c1=>?_)⟩;refine⟨_,hs.rd 1 rfl rfl,_,hs.rd 0 rfl rfl,sBn (fun c2=>RP.f (fun e=>c2 (by rw[e])) hs.ext) (fun c2=>?_)⟩;refine⟨_,hs.rd 1 rfl rfl,_,hs.rd 0 rfl rfl,sBn (fun c3=>RP.f (fun e=>c3 (by rw[e])) hs.ext) (fun c3=>?_)⟩;refine⟨sf,hs.rd 1 rfl rfl,tf,hs.rd 0 rfl rfl,sBn (fun c4=>RP.f (fun e=>by rw[<-e] at f2;omega) hs.ext) (fun c4=>?_)⟩;refine⟨sm,hs.rd 1 rfl rfl,tm,hs.rd 0 rfl rfl,sBn (fun c5=>RP.f (fun e=>by rw[<-e] at m2;omega) hs.ext) (fun c5=>?_)⟩;refine⟨sl,hs.rd 1 rfl rfl,tl,hs.rd 0 rfl rfl,sBn (fun c6=>RP.f (fun e=>by rw[<-e] at l2;omega) hs.ext) (fun c6=>?_)⟩;have allEq:∀ {α:Type} {L K:List α} {n:Nat},n=L.length->n=K.length->(∀(j:Nat) x y,j<n->L[j]?=some x->K[j]?=some y->x=y)->L=K:=fun {α L K n} e1 e2 hq=>by
  refine Yyr fun i=>?_;by_cases hil:i<n
  .obtain⟨x,hx⟩:=get_some (l:=L) (i:=i) (by omega);obtain⟨y,hy⟩:=get_some (l:=K) (i:=i) (by omega);rw[hx,hy,hq i x y (by omega) hx hy]
  .rw[Yl (by omega),Yl (by omega)]
 refine up_loopS (n:=sf.n) hs (fun i=>∀(j:Nat) x y,j<i->m.fin[j]?=some x->k.fin[j]?=some y->x=y) (fun j x y hj=>by omega) ?_;clear hs;rintro-i h31 hi ⟨hs,hq⟩;refine⟨sf,hs.rd 1 rfl rfl,sB_intro (fun d=>?_) (fun d=>?_)⟩
 .replace d:=lt_t d;refine⟨sf,hs.rd 1 rfl rfl,?_⟩;refine (hM.pf.rw.ext hs.ext).nbI (by omega) (by omega) fun b34 o35 x gx t=>?_;replace gx:m.fin[i]?=some x:=gx;refine⟨_,t.hd,tf,hs.rd 0 rfl rfl,?_⟩;refine (hK.pf.rw.ext hs.ext).nbI (by omega) (by omega) fun b38 o39 y gy t2=>?_;replace gy:k.fin[i]?=some y:=gy;refine⟨_,t2.hd,sB_intro (fun c=>RP.f (fun e=>by rw[<-e,gx] at gy;cases gy;simp at c) hs.ext) (fun c=>Up.next d (by omega) ⟨hs,fun j x' y' hj hx hy=>?_⟩)⟩;by_cases e:j=i
  .subst e;rw[gx] at hx;rw[gy] at hy;cases hx;cases hy;simpa using c
  .exact hq j x' y' (by omega) hx hy
 have hF:m.fin=k.fin:=allEq f1 (by omega) fun j x y hj=>hq j x y (by have:=lt_f d;omega);clear hq;refine up_loopS (n:=sm.n) hs (fun i=>∀(j:Nat) x y,j<i->m.mv[j]?=some x->k.mv[j]?=some y->x=y) (fun j x y hj=>by omega) ?_;clear hs;rintro-i h46 hi ⟨hs,hq⟩;refine⟨sm,hs.rd 1 rfl rfl,sB_intro (fun d=>?_) (fun d=>?_)⟩
 .replace d:=lt_t d;refine⟨sm,hs.rd 1 rfl rfl,?_⟩;refine (hM.pm.rw.ext hs.ext).nbI (by omega) (by omega) fun b34 o35 x gx t=>?_;replace gx:m.mv[i]?=some x:=gx;refine⟨_,_,_,_,_,_,t,tm,hs.rd 0 rfl rfl,?_⟩;refine (hK.pm.rw.ext hs.ext).nbI (by omega) (by omega) fun b38 o39 y gy t2=>?_;replace gy:k.mv[i]?=some y:=gy;refine⟨_,_,_,_,_,_,t2,sB_intro (fun c=>RP.f (fun e=>by rw[<-e,gx] at gy;cases gy;simp at c) hs.ext) (fun c=>Up.next d (by omega) ⟨hs,fun j x' y' hj hx hy=>?_⟩)⟩;by_cases e:j=i
  .subst e;rw[gx] at hx;rw[gy] at hy;cases hx;cases hy;exact mv_ext (bT c)
  .exact hq j x' y' (by omega) hx hy
 have hG:m.mv=k.mv:=allEq m1 (by omega) fun j x y hj=>hq j x y (by have:=lt_f d;omega);clear hq;refine up_loopS (n:=sl.n) hs (fun i=>∀(j:Nat) x y,j<i->m.li[j]?=some x->k.li[j]?=some y->x=y) (fun j x y hj=>by omega) ?_;clear hs;rintro-i h71 hi ⟨hs,hq⟩;refine⟨sl,hs.rd 1 rfl rfl,sB_intro (fun d=>?_) (fun d=>?_)⟩
 .replace d:=lt_t d;refine⟨sl,hs.rd 1 rfl rfl,?_⟩;refine (hM.pl.rw.ext hs.ext).nbI (by omega) (by omega) fun b34 o35 x gx t=>?_;replace gx:m.li[i]?=some x:=gx;refine⟨_,_,_,t,tl,hs.rd 0 rfl rfl,?_⟩;refine (hK.pl.rw.ext hs.ext).nbI (by omega) (by omega) fun b38 o39 y gy t2=>?_;replace gy:k.li[i]?=some y:=gy;refine⟨_,_,_,t2,sB_intro (fun c=>RP.f (fun e=>by rw[<-e,gx] at gy;cases gy;simp at c) hs.ext) (fun c=>Up.next d (by omega) ⟨hs,fun j x' y' hj hx hy=>?_⟩)⟩;by_cases e:j=i
  .subst e;rw[gx] at hx;rw[gy] at hy;cases hx;cases hy;exact to_ext (bT c)
  .exact hq j x' y' (by omega) hx hy
 have hH:m.li=k.li:=allEq l1 (by omega) fun j x y hj=>hq j x y (by have:=lt_f d;omega);exact RP.t (mch_ext c1 c2 c3 hF hG hH) hs.ext
def t0:To:=⟨0,0,0⟩
structure Vs where
 a:Int
 b:Int
 h:List Ev
def Vs.p (v:Vs):Int × Int:=(v.a,v.b)
/-! ### the queue -/
structure Vt where
 a:Int
 b:Int
 ahead:Int
 x:Ev
def Vt.cs (v:Vt):List Value:=[.int .i64 v.a,.int .i64 v.b,.int .i64 v.ahead,.bool v.x.send,.int .i64 v.x.peer,.int .i64 v.x.label]
/-! ### what tells states apart, al the table tells it -/
/-! ### the machine whose targets are the least ones of their classes -/
section
variable {m:Mch} {C:List Nat}
end
section
variable {m:Mch} {C:List Nat}
end
section
variable {m:Mch} {C:List Nat}
end
section
variable {m:Mch} {C:List Nat}
end
section
variable {m:Mch} {C:List Nat}
end
section
variable {m:Mch} {C:List Nat}
end
section
variable {m:Mch} {C:List Nat}
end
section
variable {m:Mch} {C:List Nat} {cnt:Nat}
end
section
variable {m:Mch} {C:List Nat} {cnt:Nat}
end
section
variable {m:Mch} {C:List Nat} {cnt:Nat}
end
section
variable {m:Mch} {C:List Nat} {cnt:Nat}
variable {c0:Nat} {M:Mch} {Q:List Nat}
end
section
variable {m:Mch} {C:List Nat} {cnt:Nat}
variable {c0:Nat} {M:Mch} {Q:List Nat}
end
section
variable {m:Mch} {C:List Nat} {cnt:Nat}
variable {c0:Nat} {M:Mch} {Q:List Nat}
end
section
variable {m:Mch} {C:List Nat} {cnt:Nat}
variable {c0:Nat} {M:Mch} {Q:List Nat}
end
section
variable {M K:Mch} {R:Nat->Nat->Prop}
theorem srt_ext {α:Type} {P:α->α->Prop} (hi:∀a,¬P a a) (htr:∀a b c,P a b->P b c->P a c):∀ {l k:List α},l.Pairwise P->k.Pairwise P->(∀x,x∈l ↔ x∈k)->l=k
 | [],[],_,_,_=>rfl
 | [],b::k,_,_,h=>by cases (h b).2 Yx
 | a::l,[],_,_,h=>by cases (h a).1 Yx
 | a::l,b::k,h1,h2,h=>by
  rw[List.pairwise_cons] at h1 h2;have hab:a=b:=by
   rcases Yr.1 ((h a).1 Yx) with e | ha
   .exact e
   .rcases Yr.1 ((h b).2 Yx) with e | hb
    .exact e.symm
    .exact absurd (htr _ _ _ (h1.1 b hb) (h2.1 a ha)) (hi a)
  subst hab;rw[srt_ext hi htr h1.2 h2.2 fun x=>⟨fun hx=>by
   rcases Yr.1 ((h x).1 (Yn _ hx)) with e | hx2
   .subst e;exact absurd (h1.1 x hx) (hi x)
   .exact hx2,fun hx=>by
   rcases Yr.1 ((h x).2 (Yn _ hx)) with e | hx2
   .subst e;exact absurd (h2.1 x hx) (hi x)
   .exact hx2⟩]
end
section
variable {M K:Mch} {R:Nat->Nat->Prop}
end
section
variable {m:Mch} {C:List Nat} {cnt c0:Nat} {M:Mch} {Q:List Nat}
end
section
variable {m:Mch} {C:List Nat} {cnt c0:Nat} {M:Mch} {Q:List Nat}
end
section
variable {n:Nat} {to:List Nat}
end
section
variable {n:Nat} {to:List Nat}
end
section
variable {n:Nat} {to:List Nat}
end
section
variable {n:Nat} {to:List Nat}
end
theorem arcsF_all {es:List Ed} {role:Int} {i:Nat} {p:PSet} {P:PSet->Prop} (hc:∀x,P (clo es role (toL es role p x))):∀(l:List Ev) (S:List PSet) (M:List Mv),(∀s∈S,P s)->∀s∈(arcsF es role i p l S M).1,P s
 | [],S,M,h=>h
 | x::r,S,M,h=>by
  rw[arcsF];refine arcsF_all hc r _ _ fun s hs=>?_;unfold rowS at hs;split at hs
  .exact h s hs
  .rcases Yk.1 hs with hs | hs
   .exact h s hs
   .rw[Ye.1 hs];exact hc x
theorem viewsF_all {es:List Ed} {role:Int} {P:PSet->Prop} (hc:∀p x,P (clo es role (toL es role p x))):∀(f i:Nat) (S:List PSet) (M:List Mv) {S':List PSet} {M':List Mv},(∀s∈S,P s)->viewsF es role f i S M=some (S',M')->∀s∈S',P s
 | 0,i,S,M,S',M',_,h=>by cases h
 | f+1,i,S,M,S',M',h1,h=>by
  rw[viewsF] at h;split at h
  .cases h;exact h1
  .rename_i p hp;split at h
   .cases h
   .exact viewsF_all hc f (i+1) _ _ (arcsF_all (hc p) _ _ _ h1) h
theorem views_lt {g:Gl} {role:Int} (hV:ValidS g) {S:List PSet} {M:List Mv} (h:views g role=some (S,M)):∀p∈S,∀j,p j=true->(j:Int)<g.n:=by
 unfold views at h;refine viewsF_all (P:=fun p=>∀j,p j=true->(j:Int)<g.n) (fun p x=>clo_lt hV (toL_lt hV)) 202 0 _ [] (fun s hs=>?_) h;rw[Ye.1 hs];refine clo_lt hV fun x hx=>?_;rw[Ye.1 hx];exact hV.num.R.s
end Go.VC
end

section
namespace Go.VC
open Go.LexS
def renI (σ:Nat->Nat) (v:Int):Int:=((σ v.toNat:Nat):Int)
def renE (σ:Nat->Nat) (y:Ed):Ed:=⟨renI σ y.f,y.a,y.b,y.l,renI σ y.t,y.ag⟩
structure Ren (g c:Gl) (σ:Nat->Nat):Prop where
 n:c.n=g.n
 r:∀i,i<g.n.toNat->σ i<g.n.toNat
 inj:∀i j,i<g.n.toNat->j<g.n.toNat->σ i=σ j->i=j
 s:c.s=renI σ g.s
 e:c.e=renI σ g.e
 ed:∀x,x∈c.es ↔ ∃y∈g.es,x=renE σ y
 ti:∀t∈c.ts,∃u∈g.ts,t.s=renI σ u.s/\t.k=u.k/\∃z,g.es[u.e.toNat]?=some z/\c.es[t.e.toNat]?=some (renE σ z)
 tj:∀u∈g.ts,∃t∈c.ts,t.s=renI σ u.s/\t.k=u.k/\∃z,g.es[u.e.toNat]?=some z/\c.es[t.e.toNat]?=some (renE σ z)
 rs:c.rs=g.rs
def SubN (N:Nat) (p:PSet):Prop:=∀j,p j=true->j<N
open Classical in
noncomputable def renP (N:Nat) (σ:Nat->Nat) (p:PSet):PSet:=fun j=>decide (∃i,i<N/\σ i=j/\p i=true)
theorem renP_iff {N:Nat} {σ:Nat->Nat} {p:PSet} {j:Nat}:renP N σ p j=true ↔ ∃i,i<N/\σ i=j/\p i=true:=by unfold renP;simp
theorem renP_at {g c:Gl} {σ:Nat->Nat} (hR:Ren g c σ) {p:PSet} {i:Nat} (hi:i<g.n.toNat):renP g.n.toNat σ p (σ i)=p i:=by
 cases hp:p i with
 | true=>exact renP_iff.2 ⟨i,hi,rfl,hp⟩
 | false=>
  cases hq:renP g.n.toNat σ p (σ i) with
  | false=>rfl
  | true=>
   obtain⟨k,hk,e,hpk⟩:=renP_iff.1 hq;rw[hR.inj k i hk hi e,hp] at hpk;cases hpk
theorem renP_inj {g c:Gl} {σ:Nat->Nat} (hR:Ren g c σ) {p q:PSet} (hp:SubN g.n.toNat p) (hq:SubN g.n.toNat q) (h:renP g.n.toNat σ p=renP g.n.toNat σ q):p=q:=by
 funext i
 by_cases hi:i<g.n.toNat
 .have h1:=renP_at (p:=p) hR hi;have h2:=renP_at (p:=q) hR hi;rw[<-h1,<-h2,h]
 .have h1:p i=false:=by cases hc:p i with | false=>rfl | true=>exact absurd (hp i hc) hi
  have h2:q i=false:=by cases hc:q i with | false=>rfl | true=>exact absurd (hq i hc) hi
  rw[h1,h2]
theorem renI_inj {g c:Gl} {σ:Nat->Nat} (hR:Ren g c σ) {v w:Int} (hv:0<=v/\v<g.n) (hw:0<=w/\w<g.n) (h:renI σ v=renI σ w):v=w:=by
 unfold renI at h;have:=hR.inj v.toNat w.toNat (by omega) (by omega) (by omega);omega
theorem renI_r {g c:Gl} {σ:Nat->Nat} (hR:Ren g c σ) {v:Int} (hv:0<=v/\v<g.n):0<=renI σ v/\renI σ v<g.n:=by
 have:=hR.r v.toNat (by omega);unfold renI;omega
theorem setI_ren {g c:Gl} {σ:Nat->Nat} (hR:Ren g c σ) (hN:g.n<=200) {p:PSet} {v:Int} (hp:SubN g.n.toNat p):v∈setI (renP g.n.toNat σ p) ↔ ∃w∈setI p,v=renI σ w:=by
 rw[setI_mem];constructor
 .rintro⟨h0,_,h2⟩;obtain⟨i,hi,e,hpi⟩:=renP_iff.1 h2;refine⟨(i:Int),setI_mem.2 ⟨by omega,by omega,hpi⟩,?_⟩;unfold renI;rw[show ((i:Int)).toNat=i from rfl,e];omega
 .rintro⟨w,hw,rfl⟩;obtain⟨h0,_,h2⟩:=setI_mem.1 hw;have hl:=hp _ h2;have hs:=hR.r _ hl;unfold renI;exact⟨by omega,by omega,renP_iff.2 ⟨w.toNat,hl,rfl,h2⟩⟩
theorem ed_r {g:Gl} (hV:ValidS g) {x:Ed} (hx:x∈g.es):(0<=x.f/\x.f<g.n)/\0<=x.t/\x.t<g.n:=by
 have:=hV.num.e x hx;unfold EdS at this;omega
theorem qr_ren {g c:Gl} {σ:Nat->Nat} (hR:Ren g c σ) (hV:ValidS g) {role:Int} {l l':List Int} (hl:∀x∈l,0<=x/\x<g.n) (h:∀v,v∈l' ↔ ∃w∈l,v=renI σ w) {a:Int}:Qr c.es role l' a ↔ ∃w,(0<=w/\w<g.n)/\a=renI σ w/\Qr g.es role l w:=by
 constructor
 .intro hq
  induction hq with
  | base hm=>
   obtain⟨w,hw,e⟩:=(h _).1 hm;exact⟨w,hl w hw,e,.base hw⟩
  | step _ hx ih=>
   obtain⟨w,hw,rfl,hq⟩:=ih;obtain⟨x,hx,hv,hf,rfl⟩:=hx;obtain⟨y,hy,rfl⟩:=(hR.ed x).1 hx;obtain⟨r1,r2⟩:=ed_r hV hy;have:=renI_inj hR r1 hw hf;exact⟨y.t,r2,rfl,.step hq ⟨y,hy,hv,this,rfl⟩⟩
 .rintro⟨w,hw,rfl,hq⟩;clear hw
  induction hq with
  | base hm=>exact .base ((h _).2 ⟨_,hm,rfl⟩)
  | step _ hx ih=>
   obtain⟨y,hy,hv,rfl,rfl⟩:=hx;exact .step ih ⟨renE σ y,(hR.ed _).2 ⟨y,hy,rfl⟩,hv,rfl,rfl⟩
theorem clo_ren {g c:Gl} {σ:Nat->Nat} (hR:Ren g c σ) (hV:ValidS g) {role:Int} {l l':List Int} (hl:∀x∈l,0<=x/\x<g.n) (h:∀v,v∈l' ↔ ∃w∈l,v=renI σ w):clo c.es role l'=renP g.n.toNat σ (clo g.es role l):=by
 funext j
 have hi:clo c.es role l' j=true ↔ renP g.n.toNat σ (clo g.es role l) j=true:=by
  rw[clo_iff,renP_iff,qr_ren hR hV hl h];constructor
  .rintro⟨w,hw,e,hq⟩;unfold renI at e;exact⟨w.toNat,by omega,by omega,clo_iff.2 (by rw[show ((w.toNat:Nat):Int)=w by omega];exact hq)⟩
  .rintro⟨i,hi,e,hq⟩;refine⟨(i:Int),by omega,?_,clo_iff.1 hq⟩;unfold renI;rw[show ((i:Int)).toNat=i from rfl,e]
 cases h1:clo c.es role l' j<;>cases h2:renP g.n.toNat σ (clo g.es role l) j<;>simp_all
theorem clo_sub {g:Gl} (hV:ValidS g) {role:Int} {l:List Int} (hl:∀x∈l,0<=x/\x<g.n):SubN g.n.toNat (clo g.es role l):=fun j hj=>by
 have:=clo_lt hV hl j hj;omega
theorem evs_ren {g c:Gl} {σ:Nat->Nat} (hR:Ren g c σ) (hV:ValidS g) (hW:ValidS c) {role:Int} {p:PSet} (hp:SubN g.n.toNat p):evs c.es role (renP g.n.toNat σ p)=evs g.es role p:=by
 have hN:=hV.num.n;refine srt_ext evLt_irr (fun a b c=>evLt_trans) (sortE_sorted _) (sortE_sorted _) fun x=>?_;show x∈evs c.es role _ ↔ x∈evs g.es role p;rw[evs_in hW,evs_in hV];constructor
 .rintro⟨z,hz,hv,hf⟩;obtain⟨y,hy,rfl⟩:=(hR.ed z).1 hz;obtain⟨w,hw,e⟩:=(setI_ren hR (by omega) hp).1 hf;obtain⟨h0,_,h2⟩:=setI_mem.1 hw;have:=hp _ h2;have:=renI_inj hR (ed_r hV hy).1 (by omega) e;exact⟨y,hy,hv,by rw[this];exact hw⟩
 .rintro⟨y,hy,hv,hf⟩;exact⟨renE σ y,(hR.ed _).2 ⟨y,hy,rfl⟩,hv,(setI_ren hR (by omega) hp).2 ⟨_,hf,rfl⟩⟩
theorem toL_ren {g c:Gl} {σ:Nat->Nat} (hR:Ren g c σ) (hV:ValidS g) {role:Int} {p:PSet} (hp:SubN g.n.toNat p) {e:Ev} (v:Int):v∈toL c.es role (renP g.n.toNat σ p) e ↔ ∃w∈toL g.es role p e,v=renI σ w:=by
 have hN:=hV.num.n;rw[toL_in];constructor
 .rintro⟨z,hz,hv,hf,rfl⟩;obtain⟨y,hy,rfl⟩:=(hR.ed z).1 hz;obtain⟨w,hw,e⟩:=(setI_ren hR (by omega) hp).1 hf;obtain⟨h0,_,h2⟩:=setI_mem.1 hw;have:=hp _ h2;have:=renI_inj hR (ed_r hV hy).1 (by omega) e;exact⟨y.t,toL_in.2 ⟨y,hy,hv,by rw[this];exact hw,rfl⟩,rfl⟩
 .rintro⟨w,hw,rfl⟩;obtain⟨y,hy,hv,hf,rfl⟩:=toL_in.1 hw;exact⟨renE σ y,(hR.ed _).2 ⟨y,hy,rfl⟩,hv,(setI_ren hR (by omega) hp).2 ⟨_,hf,rfl⟩,rfl⟩
theorem rowI_ren {g c:Gl} {σ:Nat->Nat} (hR:Ren g c σ) {q:PSet} (hq:SubN g.n.toNat q):∀(S:List PSet),(∀p∈S,SubN g.n.toNat p)->rowI (S.map (renP g.n.toNat σ)) (renP g.n.toNat σ q)=rowI S q
 | [],_=>rfl
 | p::S,hS=>by
  rw[Yyl,rowI,rowI,rowI_ren hR hq S fun x hx=>hS x (Yn _ hx)];by_cases e:p=q
  .rw[if_pos e,if_pos (by rw[e])]
  .rw[if_neg e,if_neg fun c=>e (renP_inj hR (hS p Yx) hq c)]
theorem rowS_ren {g c:Gl} {σ:Nat->Nat} (hR:Ren g c σ) {q:PSet} (hq:SubN g.n.toNat q) {S:List PSet} (hS:∀p∈S,SubN g.n.toNat p):rowS (S.map (renP g.n.toNat σ)) (renP g.n.toNat σ q)=(rowS S q).map (renP g.n.toNat σ):=by
 unfold rowS;by_cases e:q∈S
 .rw[if_pos e,if_pos (List.mem_map_of_mem e)]
 .rw[if_neg e,if_neg,Ym];rfl;intro c;obtain⟨p,hp,e2⟩:=Yp.1 c;rw[renP_inj hR (hS p hp) hq e2] at hp;exact e hp
theorem rowS_sub {N:Nat} {q:PSet} {S:List PSet} (hS:∀p∈S,SubN N p) (hq:SubN N q):∀p∈rowS S q,SubN N p:=fun p hp=>by
 unfold rowS at hp;split at hp
 .exact hS p hp
 .rcases Yk.1 hp with h | h
  .exact hS p h
  .rw[Ye.1 h];exact hq
theorem arcsF_ren {g c:Gl} {σ:Nat->Nat} (hR:Ren g c σ) (hV:ValidS g) {role:Int} {i:Nat} {p:PSet} (hp:SubN g.n.toNat p):∀(l:List Ev) (S:List PSet) (M:List Mv),(∀q∈S,SubN g.n.toNat q) ->
  arcsF c.es role i (renP g.n.toNat σ p) l (S.map (renP g.n.toNat σ)) M=((arcsF g.es role i p l S M).1.map (renP g.n.toNat σ),(arcsF g.es role i p l S M).2)/\∀q∈(arcsF g.es role i p l S M).1,SubN g.n.toNat q
 | [],S,M,hS=>⟨rfl,hS⟩
 | x::r,S,M,hS=>by
  have hcl:clo c.es role (toL c.es role (renP g.n.toNat σ p) x)=renP g.n.toNat σ (clo g.es role (toL g.es role p x)):=clo_ren hR hV (fun y hy=>toL_lt hV y hy) (toL_ren hR hV hp);have hsub:SubN g.n.toNat (clo g.es role (toL g.es role p x)):=clo_sub hV fun y hy=>toL_lt hV y hy;rw[arcsF,arcsF,hcl,rowS_ren hR hsub hS,rowI_ren hR hsub S hS];exact arcsF_ren hR hV hp r _ _ (rowS_sub hS hsub)
theorem viewsF_ren {g c:Gl} {σ:Nat->Nat} (hR:Ren g c σ) (hV:ValidS g) (hW:ValidS c) {role:Int}:∀(f i:Nat) (S:List PSet) (M:List Mv),(∀q∈S,SubN g.n.toNat q) ->
  viewsF c.es role f i (S.map (renP g.n.toNat σ)) M=(viewsF g.es role f i S M).map (fun q=>(q.1.map (renP g.n.toNat σ),q.2))/\∀S' M',viewsF g.es role f i S M=some (S',M')->∀q∈S',SubN g.n.toNat q
 | 0,_,_,_,_=>⟨rfl,fun _ _ h=>by cases h⟩
 | f+1,i,S,M,hS=>by
  rw[viewsF,viewsF,Yd];cases hg:S[i]? with
  | none=>exact⟨rfl,fun S' M' h=>by cases h;exact hS⟩
  | some p=>
   have hp:=hS p (Yb hg);obtain⟨h1,h2⟩:=arcsF_ren hR hV (i:=i) hp (evs g.es role p) S M hS;show (if (arcsF c.es role i (renP g.n.toNat σ p) (evs c.es role (renP g.n.toNat σ p)) (S.map (renP g.n.toNat σ)) M).1.length>200 then none else viewsF c.es role f (i+1) (arcsF c.es role i (renP g.n.toNat σ p) (evs c.es role (renP g.n.toNat σ p)) (S.map (renP g.n.toNat σ)) M).1 (arcsF c.es role i (renP g.n.toNat σ p) (evs c.es role (renP g.n.toNat σ p)) (S.map (renP g.n.toNat σ)) M).2)=Option.map _ (if (arcsF g.es role i p (evs g.es role p) S M).1.length>200 then none else viewsF g.es role f (i+1) (arcsF g.es role i p (evs g.es role p) S M).1 (arcsF g.es role i p (evs g.es role p) S M).2) /\
    ∀S' M',(if (arcsF g.es role i p (evs g.es role p) S M).1.length>200 then none else viewsF g.es role f (i+1) (arcsF g.es role i p (evs g.es role p) S M).1 (arcsF g.es role i p (evs g.es role p) S M).2)=some (S',M')->∀q∈S',SubN g.n.toNat q
   rw[evs_ren hR hV hW hp,h1];simp only[Yc];by_cases hc:(arcsF g.es role i p (evs g.es role p) S M).1.length>200
   .rw[if_pos hc,if_pos hc];exact⟨rfl,fun _ _ h=>by cases h⟩
   .rw[if_neg hc,if_neg hc];exact viewsF_ren hR hV hW f (i+1) _ _ h2
theorem one_ren {g c:Gl} {σ:Nat->Nat} (st:Int) (v:Int):v∈[renI σ st] ↔ ∃w∈[st],v=renI σ w:=by
 rw[Ye];exact⟨fun h=>⟨st,Ye.2 rfl,h⟩,fun ⟨w,hw,h⟩=>by rw[h,Ye.1 hw]⟩
end Go.VC
end

section
namespace Go.VC
open Go.LexS
theorem views_ren {g c:Gl} {σ:Nat->Nat} (hR:Ren g c σ) (hV:ValidS g) (hW:ValidS c) {role:Int}:views c role=(views g role).map fun q=>(q.1.map (renP g.n.toNat σ),q.2):=by
 have hN:=hV.num.n;have hs:∀x∈[g.s],0<=x/\x<g.n:=fun x hx=>by rw[Ye.1 hx];omega
 unfold views;rw[hR.s,clo_ren hR hV hs fun v=>one_ren (g:=g) (c:=c) g.s v];exact (viewsF_ren hR hV hW 202 0 [clo g.es role [g.s]] [] fun q hq=>by rw[Ye.1 hq];exact clo_sub hV hs).1
theorem firstE_ren {g c:Gl} {σ:Nat->Nat} (hR:Ren g c σ) (hV:ValidS g) (hW:ValidS c) {role st:Int} (h0:0<=st/\st<g.n):firstE c role (renI σ st)=firstE g role st:=by
 have hs:∀x∈[st],0<=x/\x<g.n:=fun x hx=>by rw[Ye.1 hx];exact h0
 unfold firstE;rw[clo_ren hR hV hs fun v=>one_ren (g:=g) (c:=c) st v];exact evs_ren hR hV hW (clo_sub hV hs)
theorem e_ren {g c:Gl} {σ:Nat->Nat} (hR:Ren g c σ) (hV:ValidS g) (p:PSet):renP g.n.toNat σ p c.e.toNat=p g.e.toNat:=by
 have hN:=hV.num.n;rw[hR.e];exact renP_at hR (i:=g.e.toNat) (by omega)
theorem firstB_ren {g c:Gl} {σ:Nat->Nat} (hR:Ren g c σ) (hV:ValidS g) {role st:Int} (h0:0<=st/\st<g.n):firstB c role (renI σ st)=firstB g role st:=by
 have hs:∀x∈[st],0<=x/\x<g.n:=fun x hx=>by rw[Ye.1 hx];exact h0
 unfold firstB;rw[clo_ren hR hV hs fun v=>one_ren (g:=g) (c:=c) st v];exact e_ren hR hV _
theorem ownS_ren {g c:Gl} {σ:Nat->Nat} (hR:Ren g c σ) (hV:ValidS g) {role st:Int} (h0:0<=st/\st<g.n):OwnS_ c role (renI σ st) ↔ OwnS_ g role st:=by
 constructor
 .rintro⟨x,hx,hf,ha⟩;obtain⟨y,hy,rfl⟩:=(hR.ed x).1 hx;exact⟨y,hy,renI_inj hR (ed_r hV hy).1 h0 hf,ha⟩
 .rintro⟨y,hy,rfl,ha⟩;exact⟨renE σ y,(hR.ed _).2 ⟨y,hy,rfl⟩,rfl,ha⟩
theorem tim_r {g:Gl} (hV:ValidS g) {u:To} (hu:u∈g.ts):0<=u.s/\u.s<g.n:=by
 obtain⟨h0,_,_,z,hz,hf⟩:=tim_ex hV hu;have:=(ed_r hV (Yb hz)).1;omega
theorem tmR_ren {g c:Gl} {σ:Nat->Nat} (hR:Ren g c σ) (hV:ValidS g) {x:Ed} (hx:x∈g.es) {t:Ti} (h:TmR g x t):TmR c (renE σ x) t:=by
 rcases h with ⟨u,hu,hus,z,hz,rfl⟩ | ⟨hno,rfl⟩
 .obtain⟨t',ht',h1,h2,z',hz',h3⟩:=hR.tj u hu;rw[hz] at hz';cases hz';refine .inl ⟨t',ht',by rw[h1,hus];rfl,renE σ z,h3,?_⟩;rw[h2];rfl
 .refine .inr ⟨fun t' ht' e=>?_,rfl⟩;obtain⟨u,hu,h1,_⟩:=hR.ti t' ht';rw[h1] at e;exact hno u hu (renI_inj hR (tim_r hV hu) (ed_r hV hx).1 e)
theorem tmR_uniq {g:Gl} (hV:ValidS g) {x:Ed} {t u:Ti} (h:TmR g x t) (k:TmR g x u):t=u:=by
 rcases h with ⟨a,ha,has,z,hz,rfl⟩ | ⟨hno,rfl⟩
 .rcases k with ⟨b,hb,hbs,z',hz',rfl⟩ | ⟨hno,_⟩
  .have e:=tim_uniq hV.tim ha hb (by omega);subst e;rw[hz] at hz';cases hz';rfl
  .exact absurd has (hno a ha)
 .rcases k with ⟨b,hb,hbs,_⟩ | ⟨_,rfl⟩
  .exact absurd hbs (hno b hb)
  .rfl
theorem renI_nat (σ:Nat->Nat) (k:Nat):renI σ (k:Int)=((σ k:Nat):Int):=rfl
theorem own_ren {g c:Gl} {σ:Nat->Nat} (hR:Ren g c σ) (hV:ValidS g) (hW:ValidS c) {role:Int} {k:Nat} (hk:k<g.n.toNat) :
  ((ownE c.es role c.n.toNat).1[σ k]?=some true ↔ (ownE g.es role g.n.toNat).1[k]?=some true)/\((ownE g.es role g.n.toNat).1[k]?=some true->∃t,(ownT g.es g.ts role g.n.toNat)[k]?=some t/\(ownT c.es c.ts role c.n.toNat)[σ k]?=some t):=by
 have hN:=hV.num.n;have hs:=hR.r k hk;have hn:=hR.n;have h1:=own_iff hV (p:=role) (k:=k) (by omega);have h2:=own_iff hW (p:=role) (k:=σ k) (by omega);have h3:=ownS_ren hR hV (role:=role) (st:=(k:Int)) (by omega);rw[renI_nat] at h3;refine⟨h2.trans (h3.trans h1.symm),fun hO=>?_⟩;obtain⟨x,hx,hf,ha⟩:=h1.1 hO;obtain⟨_,t,ht,hT⟩:=own_row2 hV hx ha;obtain⟨_,u,hu,hU⟩:=own_row2 hW (x:=renE σ x) ((hR.ed _).2 ⟨x,hx,rfl⟩) ha;have e:=tmR_uniq hW (tmR_ren hR hV hx hT) hU;subst e;refine⟨t,?_,?_⟩
 .rw[hf] at ht;exact ht
 .have e2:(renE σ x).f.toNat=σ k:=by
   show (renI σ x.f).toNat=σ k;rw[hf,renI_nat];rfl
  rw[e2] at hu;exact hu
theorem elems_ren {g c:Gl} {σ:Nat->Nat} (hR:Ren g c σ) (hN:g.n<=200) {p:PSet} (hp:SubN g.n.toNat p) {j:Nat}:j∈elems (renP g.n.toNat σ p) ↔ ∃k∈elems p,σ k=j:=by
 rw[elems_mem,renP_iff];constructor
 .rintro⟨_,i,hi,e,hpi⟩;exact⟨i,elems_mem.2 ⟨by omega,hpi⟩,e⟩
 .rintro⟨k,hk,rfl⟩;have h1:=(elems_mem.1 hk).2;have h2:=hp k h1;have h3:=hR.r k h2;exact⟨by omega,k,h2,rfl,h1⟩
theorem elems_lt {N:Nat} {p:PSet} (hp:SubN N p) {k:Nat} (hk:k∈elems p):k<N:=hp k (elems_mem.1 hk).2
theorem vw_ren {g c:Gl} {σ:Nat->Nat} (hR:Ren g c σ) (hV:ValidS g) (hW:ValidS c) {role:Int} {p:PSet} (hp:SubN g.n.toNat p):vwG c role (elems (renP g.n.toNat σ p))=vwG g role (elems p):=by
 have hN:=hV.num.n;have hm:=fun j=>elems_ren hR (by omega) hp (j:=j);have hF:∀k∈elems p,firstE c role ((σ k:Nat):Int)=firstE g role (k:Int):=fun k hk=>by
  have:=elems_lt hp hk;rw[<-renI_nat];exact firstE_ren hR hV hW (by omega)
 have hB:∀k∈elems p,firstB c role ((σ k:Nat):Int)=firstB g role (k:Int):=fun k hk=>by
  have:=elems_lt hp hk;rw[<-renI_nat];exact firstB_ren hR hV (by omega)
 have hbad:∀k∈elems p,badV (fun j:Nat=>firstE c role j) (fun j:Nat=>firstB c role j) (elems (renP g.n.toNat σ p)) (σ k)=badV (fun j:Nat=>firstE g role j) (fun j:Nat=>firstB g role j) (elems p) k:=fun k hk=>by
  show (sndAt (firstE c role ((σ k:Nat):Int)) 0&&(firstB c role ((σ k:Nat):Int) || !sndAt (firstE c role ((σ k:Nat):Int)) ((firstE c role ((σ k:Nat):Int)).length-1)||(elems (renP g.n.toNat σ p)).any fun j=>firstB c role (j:Int)||decide (firstE c role ((σ k:Nat):Int)≠firstE c role (j:Int)))) =
   (sndAt (firstE g role (k:Int)) 0&&(firstB g role (k:Int) || !sndAt (firstE g role (k:Int)) ((firstE g role (k:Int)).length-1)||(elems p).any fun j=>firstB g role (j:Int)||decide (firstE g role (k:Int)≠firstE g role (j:Int))))
  rw[hF k hk,hB k hk];congr 2;rw[Bool.eq_iff_iff,List.any_eq_true,List.any_eq_true];constructor
  .rintro⟨j,hj,h⟩;obtain⟨i,hi,rfl⟩:=(hm j).1 hj;refine⟨i,hi,?_⟩;rw[hF i hi,hB i hi] at h;exact h
  .rintro⟨i,hi,h⟩;refine⟨σ i,(hm _).2 ⟨i,hi,rfl⟩,?_⟩;rw[hF i hi,hB i hi];exact h
 have hiff:(∃o,vwG c role (elems (renP g.n.toNat σ p))=some o) ↔ ∃o,vwG g role (elems p)=some o:=by
  unfold vwG;rw[vw_iff,vw_iff];constructor
  .rintro⟨h1,h2⟩;refine⟨fun k hk=>by rw[<-hbad k hk];exact h1 _ ((hm _).2 ⟨k,hk,rfl⟩),fun n hn k hk t u a1 a2 b1 b2=>?_⟩;obtain⟨q1,q2⟩:=own_ren hR hV hW (role:=role) (elems_lt hp hn);obtain⟨r1,r2⟩:=own_ren hR hV hW (role:=role) (elems_lt hp hk);obtain⟨t',s1,s2⟩:=q2 a1;obtain⟨u',s3,s4⟩:=r2 b1;rw[a2] at s1;cases s1;rw[b2] at s3;cases s3;exact h2 _ ((hm _).2 ⟨n,hn,rfl⟩) _ ((hm _).2 ⟨k,hk,rfl⟩) t u (q1.2 a1) s2 (r1.2 b1) s4
  .rintro⟨h1,h2⟩;refine⟨fun j hj=>?_,fun n hn k hk t u a1 a2 b1 b2=>?_⟩
   .obtain⟨i,hi,rfl⟩:=(hm j).1 hj;rw[hbad i hi];exact h1 i hi
   .obtain⟨n0,hn0,rfl⟩:=(hm n).1 hn;obtain⟨k0,hk0,rfl⟩:=(hm k).1 hk;obtain⟨q1,q2⟩:=own_ren hR hV hW (role:=role) (elems_lt hp hn0);obtain⟨r1,r2⟩:=own_ren hR hV hW (role:=role) (elems_lt hp hk0);obtain⟨t',s1,s2⟩:=q2 (q1.1 a1);obtain⟨u',s3,s4⟩:=r2 (r1.1 b1);rw[a2] at s2;cases s2;rw[b2] at s4;cases s4;exact h2 n0 hn0 k0 hk0 t u (q1.1 a1) s1 (r1.1 b1) s3
 cases hg:vwG g role (elems p) with
 | none=>
  cases hc:vwG c role (elems (renP g.n.toNat σ p)) with
  | none=>rfl
  | some o=>
   obtain⟨o',ho'⟩:=hiff.1 ⟨o,hc⟩;rw[hg] at ho';cases ho'
 | some o=>
  obtain⟨o',hc⟩:=hiff.2 ⟨o,hg⟩;rw[hc];by_cases hex:∃n∈elems p,(ownE g.es role g.n.toNat).1[n]?=some true
  .obtain⟨n,hn,hO⟩:=hex;obtain⟨q1,q2⟩:=own_ren hR hV hW (role:=role) (elems_lt hp hn);obtain⟨t,s1,s2⟩:=q2 hO;unfold vwG at hg hc;rw[(viewV_row hg hn).2 t hO s1,(viewV_row hc ((hm _).2 ⟨n,hn,rfl⟩)).2 t (q1.2 hO) s2]
  .have h1:o=ti0:=by
    unfold vwG at hg;exact vw_none hg fun n hn hO=>hex ⟨n,hn,hO⟩
   have h2:o'=ti0:=by
    unfold vwG at hc;refine vw_none hc fun j hj hO=>?_;obtain⟨n,hn,rfl⟩:=(hm j).1 hj;exact hex ⟨n,hn,(own_ren hR hV hW (role:=role) (elems_lt hp hn)).1.1 hO⟩
   rw[h1,h2]
theorem rawL_ren {g c:Gl} {σ:Nat->Nat} (hR:Ren g c σ) (hV:ValidS g) (hW:ValidS c) {role:Int}:∀(S:List PSet) (n:Nat) (M:List Mv) (L:List To),(∀p∈S,SubN g.n.toNat p)->rawL (vwG c role) n (S.map (renP g.n.toNat σ)) M L=rawL (vwG g role) n S M L
 | [],_,_,_,_=>rfl
 | p::S,n,M,L,hS=>by
  rw[Yyl,rawL,rawL,vw_ren hR hV hW (hS p Yx)];cases vwG g role (elems p) with
  | none=>rfl
  | some o=>exact rawL_ren hR hV hW S (n+1) _ _ fun q hq=>hS q (Yn _ hq)
theorem raw_ren {g c:Gl} {σ:Nat->Nat} (hR:Ren g c σ) (hV:ValidS g) (hW:ValidS c) (role:Int):raw c role=raw g role:=by
 unfold raw;by_cases hr:0<=role/\role<g.rs.length
 .rw[if_neg (fun h=>h ⟨hW,hr.1,by rw[hR.rs];exact hr.2⟩),if_neg (fun h=>h ⟨hV,hr⟩),views_ren hR hV hW];cases hv:views g role with
  | none=>rfl
  | some q=>
   obtain⟨S,M⟩:=q;have hS:∀p∈S,SubN g.n.toNat p:=fun p hp j hj=>by
    have:=views_lt hV hv p hp j hj;omega
   show (if M.length>400 then ((none,6):Option Mch × Int) else match rawL (vwG c role) 0 (S.map (renP g.n.toNat σ)) M [] with
    | none=>(none,18)
    | some (M',L)=>(some ⟨role,(S.map (renP g.n.toNat σ)).length,0,(S.map (renP g.n.toNat σ)).map (fun p=>p c.e.toNat),M',L⟩,0))=(if M.length>400 then ((none,6):Option Mch × Int) else match rawL (vwG g role) 0 S M [] with
    | none=>(none,18)
    | some (M',L)=>(some ⟨role,S.length,0,S.map (fun p=>p g.e.toNat),M',L⟩,0))
   rw[rawL_ren hR hV hW S 0 M [] hS,Yc,List.map_map,show ((fun p:PSet=>p c.e.toNat)∘renP g.n.toNat σ)=fun p=>p g.e.toNat from funext fun p=>e_ren hR hV p]
 .rw[if_pos (fun h=>hr ⟨h.2.1,by rw[<-hR.rs];exact h.2.2⟩),if_pos (fun h=>hr h.2)]
theorem proj_ren {g c:Gl} {σ:Nat->Nat} (hR:Ren g c σ) (hV:ValidS g) (hW:ValidS c) (role:Int):proj c role=proj g role:=by
 unfold proj;rw[raw_ren hR hV hW]
theorem nv_some {num:List Int} {v:Int} (h:0<=nv num v):num[v.toNat]?=some (nv num v):=by
 unfold nv at h ⊢;rw[Yo] at h ⊢;cases hc:num[v.toNat]? with
 | none=>rw[hc] at h;replace h:(0:Int) <= -1:=h;omega
 | some d=>rfl
theorem rch_ren {g c:Gl} {σ:Nat->Nat} (hed:∀y∈g.es,renE σ y∈c.es) {bk:Bool} {a b:Int} (h:Rch g.es bk a b):Rch c.es bk (renI σ a) (renI σ b):=by
 induction h with
 | refl=>exact .refl
 | step _ hx ih=>
  obtain⟨x,hx,h1,h2⟩:=hx;refine .step ih ⟨renE σ x,hed x hx,?_,?_⟩
  .rw[<-h1];cases bk<;>rfl
  .rw[<-h2];cases bk<;>rfl
theorem decl_ren {L K:List Dc} (hl:K.length=L.length) (h:∀(i:Nat) d d',L[i]?=some d->K[i]?=some d'->DcSm d d') (hD:DeclS L):DeclS K:=by
 have hmap:∀ {β:Type} (f:Dc->β),(∀d d',DcSm d d'->f d'=f d)->K.map f=L.map f:=fun {β} f hf=>by
  refine Yyr fun i=>?_;rw[Yd,Yd];by_cases hi:i<L.length
  .obtain⟨d,gd⟩:=get_some (l:=L) hi;obtain⟨d',gd'⟩:=get_some (l:=K) (i:=i) (by omega);rw[gd,gd',Option.map_some,Option.map_some,hf d d' (h i d d' gd gd')]
  .rw[Yl (by omega),Yl (by omega)]
 have hfs:=hmap (fun d:Dc=>d.fs) fun d d' hd=>hd.2.2.1;have hnm:=hmap (fun d:Dc=>d.nm) fun d d' hd=>hd.1;have hall:∀i,allF (K.take i)=allF (L.take i):=fun i=>by
  unfold allF;rw[List.flatMap_def,List.flatMap_def,List.map_take,List.map_take,hfs]
 have hall2:allF K=allF L:=by
  unfold allF;rw[List.flatMap_def,List.flatMap_def,hfs]
 refine⟨by rw[hl];exact hD.pn,by rw[hall2];exact hD.pv,fun i d' gd'=>?_⟩;obtain⟨d,gd⟩:=get_some (l:=L) (i:=i) (by have:=(Ya.1 gd').1;omega);obtain⟨e1,e2,e3,e4,e5⟩:=h i d d' gd gd';have hd:=hD.pd i d gd;refine⟨by rw[e1];exact hd.pp,by rw[e3];exact hd.pn,by rw[e2,hall];exact hd.pf,?_,by rw[e3];exact hd.pfs,by rw[hall2,e4,e5];exact hd.pg⟩;have h1:(K.take i).map (fun d:Dc=>d.nm)=(L.take i).map fun d:Dc=>d.nm:=by rw[List.map_take,List.map_take,hnm]
 have h2:=hd.pd;rw[show ((L.take i).any fun x=>decide (x.nm=d.nm))=((L.take i).map fun d:Dc=>d.nm).any fun x=>decide (x=d.nm) by rw[List.any_map];rfl] at h2;rw[show ((K.take i).any fun x=>decide (x.nm=d'.nm))=((K.take i).map fun d:Dc=>d.nm).any fun x=>decide (x=d'.nm) by rw[List.any_map];rfl,h1,e1];exact h2
theorem can_ren {g c:Gl} (hV:ValidS g) (hC:CanS_ g c):∃σ,Ren g c σ/\ValidS c:=by
 obtain⟨ord,num,Q,hnm,hrs,hdl,hds,hn,hs,he,hCn⟩:=hC;have hN:=hV.num.n;have hNu:=hCn.n;have hPe:∀e,e∈Q ↔ ∃x i,g.es[e]?=some x/\i<ord.length/\ord[i]?=some x.f.toNat:=fun e=>by
  rw[hCn.q e];exact⟨fun h=>h.elim id fun h=>(by cases h),.inl⟩
 have hall:∀v:Int,Rch g.es false g.s v->v.toNat∈ord:=fun v hv=>by
  induction hv with
  | refl=>exact Yb hCn.z
  | step _ hx ih=>
   obtain⟨x,hx,h1,h2⟩:=hx;replace h1:x.f=_:=h1;replace h2:x.t=_:=h2;subst h1;subst h2;obtain⟨i,hi⟩:=Yf.1 ih;obtain⟨e,ge⟩:=Yf.1 hx;have heQ:=(hPe e).2 ⟨x,i,ge,(Ya.1 hi).1,hi⟩;have:=(hCn.f e heQ).2.2;rw[gE_of ge] at this;rcases hNu.b _ _ (nv_some this) with h1 | ⟨j,_,h2⟩
   .omega
   .exact Yb h2
 have hA:∀i,i<g.n.toNat->∃j,ord[j]?=some i/\num[i]?=some ((j:Nat):Int):=fun i hi=>by
  have:=hall (i:Int) (hV.fwd _ (by omega) (by omega));obtain⟨j,hj⟩:=Yf.1 this;exact⟨j,hj,hNu.a j i hj⟩
 let σ:Nat->Nat:=fun i=>(num.getD i (-1)).toNat
 have hσ:∀i,i<g.n.toNat->ord[σ i]?=some i/\num[i]?=some ((σ i:Nat):Int):=fun i hi=>by
  obtain⟨j,h1,h2⟩:=hA i hi;have e:σ i=j:=by
   show (num.getD i (-1)).toNat=j;rw[Yo,h2];rfl
  rw[e];exact⟨h1,h2⟩
 have hinj:∀i j,i<g.n.toNat->j<g.n.toNat->σ i=σ j->i=j:=fun i j hi hj e=>by
  have h1:=(hσ i hi).1;rw[e,(hσ j hj).1] at h1;exact (Yyp h1).symm
 have hol:ord.length=g.n.toNat:=by
  refine Nat.le_antisymm hNu.len ?_;have h1:=nodup_lek ord.length ((List.range g.n.toNat).map σ) (List.pairwise_map.2 ((List.nodup_range.and (List.pairwise_of_forall_mem_list (r:=fun a b=>a<g.n.toNat/\b<g.n.toNat) fun a ha b hb=>⟨List.mem_range.1 ha,List.mem_range.1 hb⟩)).imp fun {a b} hab e=>hab.1 (hinj a b hab.2.1 hab.2.2 e))) fun x hx=>by
   obtain⟨i,hi,rfl⟩:=Yp.1 hx;exact (Ya.1 (hσ i (List.mem_range.1 hi)).1).1
  rw[Yc,Yyd] at h1;exact h1
 have hnv:∀v:Int,0<=v/\v<g.n->nv num v=renI σ v:=fun v hv=>nv_of (hσ v.toNat (by omega)).2;have hmE:∀ {e:Nat} {y:Ed},g.es[e]?=some y->mE g num e=renE σ y:=fun {e y} ge=>by
  obtain⟨h1,h2⟩:=ed_r hV (Yb ge);unfold mE renE;rw[gE_of ge,hnv _ h1,hnv _ h2]
 have heQ:∀ {e:Nat} {y:Ed},g.es[e]?=some y->e∈Q:=fun {e y} ge=>by
  obtain⟨h1,_⟩:=ed_r hV (Yb ge);have h2:=(hσ y.f.toNat (by omega)).1;exact (hPe e).2 ⟨y,_,ge,(Ya.1 h2).1,h2⟩
 have hces:∀ {i:Nat} {x:Ed},c.es[i]?=some x->∃e y,Q[i]?=some e/\g.es[e]?=some y/\x=renE σ y:=fun {i x} gx=>by
  rw[hCn.es,Yd] at gx;obtain⟨e,he,rfl⟩:=Yya.1 gx;obtain⟨y,_,gy,_⟩:=(hPe e).1 (Yb he);exact⟨e,y,he,gy,hmE gy⟩
 have hQc:∀ {j e:Nat} {y:Ed},Q[j]?=some e->g.es[e]?=some y->c.es[j]?=some (renE σ y):=fun {j e y} h1 h2=>by
  rw[hCn.es,Yd,h1,Option.map_some,hmE h2]
 have hed:∀x,x∈c.es ↔ ∃y∈g.es,x=renE σ y:=fun x=>by
  constructor
  .intro hx;obtain⟨i,gi⟩:=Yf.1 hx;obtain⟨e,y,_,h2,h3⟩:=hces gi;exact⟨y,Yb h2,h3⟩
  .rintro⟨y,hy,rfl⟩;obtain⟨e,ge⟩:=Yf.1 hy;obtain⟨j,hj⟩:=Yf.1 (heQ ge);exact Yb (hQc hj ge)
 have hcn:c.n=g.n:=by rw[hn,hol];omega
 have hR:Ren g c σ:=by
  refine⟨hcn,fun i hi=>?_,hinj,?_,?_,hed,fun t ht=>?_,fun u hu=>?_,hrs⟩
  .have:=(Ya.1 (hσ i hi).1).1;omega
  .rw[hs,<-hnv g.s (by omega),nv_of (hNu.a 0 _ hCn.z)];rfl
  .rw[<-hnv g.e (by omega),nv_of he]
  .obtain⟨u,hu,h1,h2,j,h3,h4⟩:=hCn.ta t ht;obtain⟨_,_,_,z,gz,_⟩:=tim_ex hV hu;exact⟨u,hu,by rw[h1,hnv _ (tim_r hV hu)],h2,z,gz,by rw[h3];exact hQc h4 gz⟩
  .obtain⟨_,_,_,z,gz,_⟩:=tim_ex hV hu;obtain⟨t,ht,h1,h2,j,h3,h4⟩:=hCn.tb u hu (heQ gz);exact⟨t,ht,by rw[h1,hnv _ (tim_r hV hu)],h2,z,gz,by rw[h3];exact hQc h4 gz⟩
 refine⟨σ,hR,?_⟩;have hesl:c.es.length=Q.length:=by rw[hCn.es,Yc]
 have hQl:Q.length<=g.es.length:=nodup_lek g.es.length Q hCn.qn fun z hz=>by
  obtain⟨y,_,h1,_⟩:=(hPe z).1 hz;exact (Ya.1 h1).1
 have hm:=hV.num.m;refine⟨⟨by rw[hnm];exact hV.nam.w,by rw[hrs];exact hV.nam.n1,by rw[hrs];exact hV.nam.n6,by rw[hrs];exact hV.nam.r⟩,⟨?_,by omega,fun x hx=>?_⟩,decl_ren hdl hds hV.dcl,⟨fun x hx=>?_,fun x hx ha=>?_,fun i x gx k y gy hb=>?_⟩,fun i t gt=>?_,fun v h0 h1=>?_,fun v h0 h1=>?_⟩
 .have h1:=renI_r hR (v:=g.s) (by omega);have h2:=renI_r hR (v:=g.e) (by omega);rw[hR.s,hR.e,hcn];omega
 .obtain⟨y,hy,rfl⟩:=(hed x).1 hx;have hE:=hV.num.e y hy;obtain⟨r1,r2⟩:=ed_r hV hy;have h1:=renI_r hR r1;have h2:=renI_r hR r2;unfold EdS at hE ⊢;rw[hcn,hrs,hdl];exact⟨h1.1,h2.1,hE.2.2.1,hE.2.2.2.1,hE.2.2.2.2.1,h1.2,h2.2,hE.2.2.2.2.2.2.2⟩
 .obtain⟨y,hy,rfl⟩:=(hed x).1 hx;rw[hR.e];exact fun e=>hV.ord.e y hy (renI_inj hR (ed_r hV hy).1 (by omega) e)
 .obtain⟨y,hy,rfl⟩:=(hed x).1 hx;rw[hR.s];exact fun e=>hV.ord.s y hy ha (renI_inj hR (ed_r hV hy).1 (by omega) e)
 .obtain⟨e1,x0,q1,g1,rfl⟩:=hces gx;obtain⟨e2,y0,q2,g2,rfl⟩:=hces gy;have rx:=ed_r hV (Yb g1);have ry:=ed_r hV (Yb g2);refine hV.ord.p e1 x0 g1 e2 y0 g2 ?_;rcases hb with ⟨b1,b2,b3⟩ | ⟨b1,b2,b3⟩
  .refine .inl ⟨fun e=>b1 ?_,renI_inj hR rx.1 ry.1 b2,b3⟩;rw[e,<-q2] at q1;exact (List.getElem?_inj (by rw[<-hesl];exact (Ya.1 gx).1) hCn.qn).1 q1
  .exact .inr ⟨b1,renI_inj hR ry.2 rx.1 b2,b3⟩
 .obtain⟨u,hu,h1,h2,z,gz,h3⟩:=hR.ti t (Yb gt);obtain⟨ui,hui⟩:=Yf.1 hu;obtain⟨_,k1,k2,z',gz',k4,k5⟩:=hV.tim ui u hui;rw[gz] at gz';cases gz';refine⟨?_,by rw[h2];exact k1,?_,renE σ z,h3,by rw[h1,<-k4];rfl,k5⟩
  .have htd:=hCn.td t (Yb gt);unfold lastS;by_cases c0:i=0
   .rw[if_pos c0];omega
   .rw[if_neg c0];have hil:=(Ya.1 gt).1;obtain⟨t0,gt0⟩:=get_some (l:=c.ts) (i:=i-1) (by omega);rw[gt0];obtain⟨hi0,e0⟩:=Ya.1 gt0;obtain⟨hi1,e1⟩:=Ya.1 gt;have:=List.pairwise_iff_getElem.1 hCn.tc (i-1) i hi0 hi1 (by omega);rw[e0,e1] at this;exact this
  .obtain⟨_,_,_,_,j,h5,_⟩:=hCn.ta t (Yb gt);omega
 .obtain⟨i,hi⟩:=get_some (l:=ord) (i:=v.toNat) (by omega);have hin:=hNu.lt (Yb hi);have hv:v=renI σ (i:Int):=by
   rw[<-hnv _ (by omega),nv_of (hNu.a _ _ hi)];omega
  rw[hv,hR.s];exact rch_ren (fun y hy=>(hed _).2 ⟨y,hy,rfl⟩) (hV.fwd _ (by omega) (by omega))
 .obtain⟨i,hi⟩:=get_some (l:=ord) (i:=v.toNat) (by omega);have hin:=hNu.lt (Yb hi);have hv:v=renI σ (i:Int):=by
   rw[<-hnv _ (by omega),nv_of (hNu.a _ _ hi)];omega
  rw[hv,hR.e];exact rch_ren (fun y hy=>(hed _).2 ⟨y,hy,rfl⟩) (hV.bwd _ (by omega) (by omega))
end Go.VC
end

section
namespace Go.VC
open Go.Proofs Go.LexS
def maM (o:Option Mch × Int):Mch:=o.1.getD ⟨0,0,0,[],[],[]⟩
theorem MaR.u {o:Option Mch × Int} {h h':Heap} {v:Value} (E:Ext h h') (hr:MaR o h h' v):∃sf sm sl:Sl,v=.tuple ⟨[.agg ⟨mC (maM o) sf sm sl⟩,.int .i64 o.2]⟩/\St h h' (mL (maM o) sf sm sl):=by
 cases hr with
 | err he h0=>
  subst he;exact⟨⟨none,0,0⟩,⟨none,0,0⟩,⟨none,0,0⟩,rfl,((((St.refl h).step E).nil_ 63 3).nil_ 45 6).nil_ 4 1⟩
 | @ok m sf sm sl he hs=>
  subst he;exact⟨sf,sm,sl,rfl,hs⟩
def McS (m:Mch):Prop:=m.fin.length<=1048576/\m.mv.length<=1048576/\m.li.length<=1048576
theorem mcS_none:McS ⟨0,0,0,[],[],[]⟩:=⟨by decide,by decide,by decide⟩
theorem proj_s {g:Gl} {role:Int} (hr:g.rs.length<=1048576) (hd:g.ds.length<=1048576):McS (maM (proj g role)):=by
 unfold maM;cases h:(proj g role).1 with
 | none=>exact mcS_none
 | some m=>
  have he:proj g role=(some m,0):=by
   unfold proj at h ⊢;split at h
   .rename_i w e hw;cases h;rfl
   .cases h
  obtain⟨hG,_,h3,h4⟩:=proj_law hr hd m he;have h1:=hG.fl;have h2:=hG.n;show McS m;unfold McS;omega
theorem projectNumbers (g:Gl) (role:Int) (h:Heap) (hg:GI h g) (hx:Gx h) (hM:GNm g.ds):Fn Pz 8 #[g.v,.int .i64 role] h fun v h'=>v=.bool true/\Ext h h':=by
 apply vc8 (bs g.nm) g.hr g.hd g.n g.s g.e g.he g.ht;unfold W8;obtain⟨pf,pm,pl⟩:=proj_s (role:=role) hg.r.sm hg.d.r.sm;refine (St.refl h).newb fun h9 hs=>?_;refine (awake10 h9 (hx.ext hs.ext)).mono ?_;rintro _ h12 ⟨rfl,E⟩;have hs:=hs.step E;refine⟨true,rfl,sB_f rfl ?_⟩;refine⟨_,_,_,_,_,_,_,_,hs.at 0 rfl (o:=0) (n:=8) rfl,?_⟩;refine (small21 g role h12 (hg.ext hs.ext) hM).mono ?_;rintro _ h23 ⟨⟨b,rfl,hb⟩,E⟩;have hs:=hs.step E;refine⟨b,rfl,sB_intro (fun _=>⟨rfl,hs.ext⟩) (fun c0=>?_)⟩;obtain⟨hV,hr0,hr1⟩:=hb (bT c0);refine⟨_,_,_,_,_,_,_,_,hs.at 0 rfl (o:=0) (n:=8) rfl,?_⟩;refine (canonical30 g h23 (hg.ext hs.ext) (hx.ext hs.ext) hV).mono ?_;rintro _ h42 ⟨c,rfl,E,hc,hCS⟩;have hs:=hs.step E;obtain⟨σ,hR,hW⟩:=can_ren hV hCS;have hpr:=proj_ren hR hV hW role;refine⟨bs c.nm,c.hr,c.hd,c.n,c.s,c.e,c.he,c.ht,0,rfl,?_⟩;refine (St.refl h42).newput (vs:=c.cs) rfl rfl fun h44 hy=>?_;have hs:=hs.join hy;refine⟨_,_,_,_,_,_,_,_,hs.at 0 rfl (o:=0) (n:=8) rfl,?_⟩;refine (project12 g role h44 (hg.ext hs.ext) (hx.ext hs.ext)).mono ?_;rintro _ h61 ⟨E,hr⟩;obtain⟨f1,m1,l1,rfl,hs1⟩:=hr.u E;have hs:=hs.join hs1;refine⟨_,_,_,f1,m1,l1,_,rfl,?_⟩;refine (St.refl h61).newput (vs:=mC (maM (proj g role)) f1 m1 l1) rfl rfl fun h63 hy2=>?_;have hs:=hs.join hy2;refine⟨bs c.nm,c.hr,c.hd,c.n,c.s,c.e,c.he,c.ht,hs.at 1 rfl (o:=0) (n:=8) rfl,?_⟩;refine (project12 c role h63 (((hc.ext hy.ext).ext hs1.ext).ext hy2.ext) (hx.ext hs.ext)).mono ?_;rintro _ h80 ⟨E,hr⟩;rw[hpr] at hr;obtain⟨f2,m2,l2,rfl,hs2⟩:=hr.u E;have hs:=hs.join hs2;refine⟨_,_,_,f2,m2,l2,_,rfl,?_⟩;refine (St.refl h80).newput (vs:=mC (maM (proj g role)) f2 m2 l2) rfl rfl fun h82 hy3=>?_;have hs:=hs.join hy3;refine sB_t rfl (sB_t (by simp) ?_);refine⟨_,_,_,f1,m1,l1,hs.at 5 rfl (o:=0) (n:=6) rfl,_,_,_,f2,m2,l2,hs.at 9 rfl (o:=0) (n:=6) rfl,?_⟩;refine (same17 _ _ f1 m1 l1 f2 m2 l2 h82 (hs.mi 2 rfl rfl rfl pf pm pl) (hs.mi 6 rfl rfl rfl pf pm pl)).mono ?_;rintro _ h97 ⟨⟨b2,rfl,hb2⟩,E⟩;obtain rfl:b2=true:=hb2.2 rfl;exact⟨true,rfl,rfl,(hs.step E).ext⟩
end Go.VC
end

section
namespace Go.VC
open Go.Proofs Go.LexS Go.RowKit Go.ChangeShapes Go.WideShapes Go.Proofs.YtfdhgcladnbdeaaGreatDoor
theorem bulk_pos {H:Type} (d:DataW H):1<=Rows.uptoBulk d:=by
 cases d with
 | lit l=>cases l<;>simp[Rows.uptoBulk]
 | _=>simp[Rows.uptoBulk]
theorem bulk_part {H:Type}:∀ {l:List (DataW H)} {d:DataW H},d∈l->Rows.uptoBulk d<=Rows.uptoBulkAll l
 | [],_,h=>by cases h
 | x::r,d,h=>by
  rw[Rows.uptoBulkAll];rcases Yr.1 h with rfl | h
  .omega
  .have:=bulk_part h;omega
theorem bulk_len {H:Type}:∀l:List (DataW H),l.length<=Rows.uptoBulkAll l
 | []=>by simp
 | x::r=>by
  have h1:=bulk_pos x;have h2:=bulk_len r;rw[Rows.uptoBulkAll,Yyj];omega
def Rdb (P:Program) (W:World) (t:TypeId) (cs:List Value):Prop:=
 ∃(H:Type) (enc:TypeId × Value->H) (n:Nat) (x:DataW H × List MemPlace),DataW.trod enc P W 0 (fun _=>true) true n t cs=some x/\Rows.uptoBulk x.1<=1048576
theorem Rdb.rdt {P:Program} {W:World} {t:TypeId} {cs:List Value} (h:Rdb P W t cs):Rdt P W t cs:=by
 obtain⟨H,enc,n,x,h1,_⟩:=h;exact⟨H,enc,n,x,h1⟩
theorem rdb_of_trod {H:Type} {enc:TypeId × Value->H} {P:Program} {W:World} {t:TypeId} {v:Value} {d:DataW H} {p:List MemPlace} (h:DataW.Trod enc P W 0 (fun _=>true) true t v d p) (hw:Rows.uptoBulk d<=1048576):Rdb P W t v.cells.toList:=by
 obtain⟨n,h⟩:=h;exact⟨H,enc,n,_,h,hw⟩
theorem Rdb.field {P:Program} {W:World} {t ft:TypeId} {cs:List Value} {i off:Nat} (h:Rdb P W t cs) (hf:fieldAt P t i=some (ft,off)):Rdb P W ft ((cs.drop off).take (P.cellsOf ft)):=by
 unfold fieldAt at hf;split at hf
 .rename_i fs hu;obtain⟨f,h1,h2⟩:=Yya.1 hf;cases h2;obtain⟨H,enc,n,x,h,hw⟩:=h;obtain⟨xs,m,_,hx,hl,hxl,hfi⟩:=DataW.trod_struct hu h;have hlt:i<xs.length:=by rw[hxl];exact (Yyg.1 h1).1
  refine⟨H,enc,m,xs[i],by rw[hfi i f h1,Yi hlt],?_⟩;rw[hx,Rows.uptoBulk] at hw;have:=bulk_part (l:=xs.map (·.1)) (d:=xs[i].1) (Yp.2 ⟨xs[i],List.getElem_mem hlt,rfl⟩);omega
 .cases hf
theorem Rdb.rows {P:Program} {W:World} {t e:TypeId} {cs:List Value} (ht:P.underlying t=some (.slice e)) (h:Rdb P W t cs) (hpos:0<P.cellsOf e) :
  ∃(s:Sl) (rows:List (List Value)),cs=[.slice s.a s.n s.c]/\s.n<=s.c/\s.n<=1048576/\(s.a=none->s.n=0/\s.c=0)/\Rw W.heap (P.cellsOf e) s rows/\∀r∈rows,r.length=P.cellsOf e/\Rdb P W e r:=by
 obtain⟨H,enc,n,x,h,hw⟩:=h;rcases DataW.trod_slice ht h with ⟨rfl,_⟩ | ⟨a,len,cap,elems,rest,m,_,rfl,hx,_,hlc,hcm,hel,helem,_,_⟩
 .exact⟨⟨none,0,0⟩,[],rfl,Yyt _,Nat.zero_le _,fun _=>⟨rfl,rfl⟩,Rw.nil,fun r hr=>by cases hr⟩
 .rw[hx,Rows.uptoBulk] at hw;have hle:len<=1048576:=by
   have:=bulk_len (elems.map (·.1));rw[Yc] at this;omega
  have hwe:∀(i:Nat) (hi:i<elems.length),Rows.uptoBulk elems[i].1<=1048576:=fun i hi=>by
   have:=bulk_part (l:=elems.map (·.1)) (d:=elems[i].1) (Yp.2 ⟨elems[i],List.getElem_mem hi,rfl⟩);omega
  by_cases h0:len=0
  .subst h0;exact⟨⟨some a,0,cap⟩,[],rfl,hlc,hle,fun e=>(by cases e),Rw.empty rfl,fun r hr=>by cases hr⟩
  .have hrow:∀i,i<len->∃r,W.cells? 0 (a.add (i*P.cellsOf e)) (P.cellsOf e)=some r/\Rdb P W e r:=by
    intro i hi;have h1:=helem i hi;rw[Yi (by omega)] at h1;obtain⟨r,hr,hx2⟩:=Option.bind_eq_some_iff.1 h1;exact⟨r,hr,H,enc,m,_,hx2,hwe i (by omega)⟩
   let row:Nat->List Value:=fun i=>(W.cells? 0 (a.add (i*P.cellsOf e)) (P.cellsOf e)).getD []
   have hrow':∀i,i<len->W.cells? 0 (a.add (i*P.cellsOf e)) (P.cellsOf e)=some (row i)/\Rdb P W e (row i):=fun i hi=>by
    obtain⟨r,hr,hx⟩:=hrow i hi;have:row i=r:=by show (W.cells? 0 _ _).getD []=r;rw[hr];rfl
    rw[this];exact⟨hr,hx⟩
   have hget:∀i,i<len->((List.range len).map row)[i]?=some (row i):=fun i hi=>by
    rw[Yd,Yyb hi];rfl
   have hspot:a=⟨a.block,a.off,none⟩:=by
    have hc:=(cells_at (hrow' 0 (by omega)).1);have hl0:0<(row 0).length:=by rw[hc.1];exact hpos
    have:=hc.2 0 _ (Yi hl0);rw[Nat.zero_mul,show (a.add 0).add 0=a from rfl] at this;unfold World.cell? at this;split at this
    .split at this
     .cases this
     .rename_i hs;cases a with
      | mk b o s=>
       cases s with
       | none=>rfl
       | some s=>exact absurd rfl hs
    .cases this
   refine⟨⟨some a,len,cap⟩,(List.range len).map row,rfl,hlc,hle,fun e=>(by cases e),⟨by simp,fun _=>⟨a.block,a.off,by rw[<-hspot],fun i r hi j v hj=>?_⟩⟩,fun r hr=>?_⟩
   .have hil:i<len:=by have:=(Ya.1 hi).1;simpa using this
    rw[hget i hil] at hi;cases hi;have h4:=(cells_at (hrow' i hil).1).2 _ _ hj;rw[hspot] at h4;have e:((⟨a.block,a.off,none⟩:Addr).add (i*P.cellsOf e)).add j=addk ⟨a.block,a.off+i*P.cellsOf e,none⟩ j:=by
     rw[addk_at,add_n,add_n]
    rw[e] at h4;exact h4
   .obtain⟨i,hi,rfl⟩:=Yp.1 hr;have:=hrow' i (List.mem_range.1 hi);exact⟨(cells_at this.1).1,this.2⟩
theorem Rdb.list {α:Type} {P:Program} {W:World} {t e:TypeId} {k:Nat} {v:Value} {cs:α->List Value} {Q:α->Prop} (ht:P.underlying t=some (.slice e)) (hk:P.cellsOf e=k) (hpos:0<k)
  (ho:∀r,Rdb P W e r->∃x,r=cs x/\Q x) (h:Rdb P W t [v]):∃(s:Sl) (L:List α),v=.slice s.a s.n s.c/\RL W.heap k s cs L/\∀x∈L,Q x:=by
 subst hk;obtain⟨s,rows,e1,hc,hm,hna,hrw,hr⟩:=h.rows ht hpos;have key:∀rows:List (List Value),(∀r∈rows,r.length=P.cellsOf e/\Rdb P W e r)->∃L:List α,rows=L.map cs/\∀x∈L,Q x:=by
  intro rows
  induction rows with
  | nil=>intro _;exact⟨[],rfl,fun x hx=>by cases hx⟩
  | cons r rows ih=>
   intro h;obtain⟨x,hx,hq⟩:=ho r (h r (by simp)).2;obtain⟨L,hL,hQ⟩:=ih fun y hy=>h y (Yn _ hy);exact⟨x::L,by rw[hx,hL];rfl,fun y hy=>by rcases Yr.1 hy with rfl | hy;exact hq;exact hQ y hy⟩
 obtain⟨L,rfl,hQ⟩:=key rows hr;have hn:=hrw.ln;exact⟨s,L,by simpa using e1,⟨hrw,hc,hna,by omega⟩,hQ⟩
theorem v3:Pz.underlying 3=some (.int .i64):=by kernel_rfl
theorem v4b:Pz.underlying 4=some .bool:=by kernel_rfl
theorem v9:Pz.underlying 9=some .string:=by kernel_rfl
theorem cz3:Pz.cellsOf 3=1:=by kernel_rfl
theorem cz4:Pz.cellsOf 4=1:=by kernel_rfl
theorem cz9:Pz.cellsOf 9=1:=by kernel_rfl
theorem cz22:Pz.cellsOf 22=1:=by kernel_rfl
theorem cz23:Pz.cellsOf 23=1:=by kernel_rfl
theorem cz24:Pz.cellsOf 24=1:=by kernel_rfl
theorem cz25:Pz.cellsOf 25=1:=by kernel_rfl
theorem cz27:Pz.cellsOf 27=8:=by kernel_rfl
theorem cz53:Pz.cellsOf 53=3:=by kernel_rfl
theorem cz55:Pz.cellsOf 55=6:=by kernel_rfl
theorem cz63:Pz.cellsOf 63=3:=by kernel_rfl
theorem cz130:Pz.cellsOf 130=1:=by kernel_rfl
theorem cz131:Pz.cellsOf 131=1:=by kernel_rfl
theorem cz132:Pz.cellsOf 132=1:=by kernel_rfl
theorem cz134:Pz.cellsOf 134=2:=by kernel_rfl
theorem cz136:Pz.cellsOf 136=5:=by kernel_rfl
theorem cz182:Pz.cellsOf 182=3:=by kernel_rfl
theorem cz184:Pz.cellsOf 184=4:=by kernel_rfl
theorem cz187:Pz.cellsOf 187=3:=by kernel_rfl
theorem cz189:Pz.cellsOf 189=2:=by kernel_rfl
theorem vs22:Pz.underlying 22=some (.slice 9):=by kernel_rfl
theorem vs23:Pz.underlying 23=some (.slice 136):=by kernel_rfl
theorem vs24:Pz.underlying 24=some (.slice 55):=by kernel_rfl
theorem vs25:Pz.underlying 25=some (.slice 63):=by kernel_rfl
theorem vs130:Pz.underlying 130=some (.slice 184):=by kernel_rfl
theorem vs131:Pz.underlying 131=some (.slice 187):=by kernel_rfl
theorem vs132:Pz.underlying 132=some (.slice 189):=by kernel_rfl
theorem va189:Pz.underlying 189=some (.array 2 3):=by kernel_rfl
theorem Rdb.str {P:Program} {W:World} {t:TypeId} {cs:List Value} (ht:P.underlying t=some .string) (h:Rdb P W t cs):∃s:ByteArray,cs=[.string s]/\s.size<=1048576:=by
 obtain⟨H,enc,n,x,h,hw⟩:=h;obtain⟨m,h1,hx,_⟩:=DataW.trod_string ht h;refine⟨m,h1,?_⟩;rw[hx,Rows.uptoBulk] at hw;have e:m.data.toList.length=m.size:=rfl;omega
theorem open_name {W:World} {r:List Value} (h:Rdb Pz W 9 r):∃x:Nm,r=nmC x/\True:=by
 obtain⟨s,e,_⟩:=h.rdt.str v9;exact⟨s.data.toList,by rw[e];rfl,trivial⟩
theorem open_field {W:World} {r:List Value} (h:Rdb Pz W 184 r):∃x:Fld,r=x.cs/\True:=by
 have hl:=h.rdt.flen (i:=0) (ft:=9) (off:=0) (by kernel_rfl);rw[cz184] at hl
 match r,hl with
 | [x0,x1,x2,x3],_=>
  have f0:=h.rdt.field (i:=0) (ft:=9) (off:=0) (by kernel_rfl);have f1:=h.rdt.field (i:=1) (ft:=182) (off:=1) (by kernel_rfl);rw[cz9] at f0;rw[cz182] at f1;have g0:=f1.field (i:=0) (ft:=3) (off:=0) (by kernel_rfl);have g1:=f1.field (i:=1) (ft:=3) (off:=1) (by kernel_rfl);have g2:=f1.field (i:=2) (ft:=3) (off:=2) (by kernel_rfl);rw[cz3] at g0 g1 g2;obtain⟨s,e0,_⟩:=f0.str v9;obtain⟨k1,e1,_⟩:=g0.int v3;obtain⟨k2,e2,_⟩:=g1.int v3;obtain⟨k3,e3,_⟩:=g2.int v3;simp only[List.drop_zero,List.take_succ_cons,Yyk,List.drop_succ_cons,List.cons.injEq,and_true] at e0 e1 e2 e3;subst e0 e1 e2 e3;exact⟨⟨s.data.toList,k1,k2,k3⟩,rfl,trivial⟩
theorem open_three {W:World} {t:TypeId} {r:List Value} (hc:Pz.cellsOf t=3) (h0:fieldAt Pz t 0=some (3,0)) (h1:fieldAt Pz t 1=some (3,1)) (h2:fieldAt Pz t 2=some (3,2)) (h:Rdt Pz W t r) :
  ∃a b c:Int,r=[.int .i64 a,.int .i64 b,.int .i64 c]:=by
 have hl:=h.flen h0;rw[hc] at hl
 match r,hl with
 | [x0,x1,x2],_=>
  have f0:=h.field h0;have f1:=h.field h1;have f2:=h.field h2;rw[cz3] at f0 f1 f2;obtain⟨k0,e0,_⟩:=f0.int v3;obtain⟨k1,e1,_⟩:=f1.int v3;obtain⟨k2,e2,_⟩:=f2.int v3;simp only[List.drop_zero,List.take_succ_cons,Yyk,List.drop_succ_cons,List.cons.injEq,and_true] at e0 e1 e2;subst e0 e1 e2;exact⟨k0,k1,k2,rfl⟩
theorem open_diff {W:World} {r:List Value} (h:Rdb Pz W 187 r):∃x:Df,r=x.cs/\True:=by
 obtain⟨a,b,c,e⟩:=open_three cz187 (by kernel_rfl) (by kernel_rfl) (by kernel_rfl) h.rdt;exact⟨⟨a,b,c⟩,e,trivial⟩
theorem open_timeout {W:World} {r:List Value} (h:Rdb Pz W 63 r):∃x:To,r=x.cs/\True:=by
 obtain⟨a,b,c,e⟩:=open_three cz63 (by kernel_rfl) (by kernel_rfl) (by kernel_rfl) h.rdt;exact⟨⟨a,b,c⟩,e,trivial⟩
theorem open_pair {W:World} {r:List Value} (h:Rdb Pz W 189 r):∃x:Eqs,r=x.cs/\True:=by
 obtain⟨hl,ha⟩:=h.rdt.array va189;rw[cz189] at hl;rw[cz3] at ha
 match r,hl with
 | [x0,x1],_=>
  obtain⟨k0,e0,_⟩:=(ha 0 (by omega)).int v3;obtain⟨k1,e1,_⟩:=(ha 1 (by omega)).int v3;simp only[Nat.zero_mul,Nat.one_mul,List.drop_zero,List.take_succ_cons,Yyk,List.drop_succ_cons,List.cons.injEq,and_true] at e0 e1;subst e0 e1;exact⟨⟨k0,k1⟩,rfl,trivial⟩
theorem open_edge {W:World} {r:List Value} (h:Rdb Pz W 55 r):∃x:Ed,r=x.cs/\True:=by
 have hl:=h.rdt.flen (i:=0) (ft:=3) (off:=0) (by kernel_rfl);rw[cz55] at hl
 match r,hl with
 | [x0,x1,x2,x3,x4,x5],_=>
  have f0:=h.rdt.field (i:=0) (ft:=3) (off:=0) (by kernel_rfl);have f1:=h.rdt.field (i:=1) (ft:=53) (off:=1) (by kernel_rfl);have f2:=h.rdt.field (i:=2) (ft:=3) (off:=4) (by kernel_rfl);have f3:=h.rdt.field (i:=3) (ft:=4) (off:=5) (by kernel_rfl);rw[cz3] at f0 f2;rw[cz53] at f1;rw[cz4] at f3;obtain⟨a,b,c,e1⟩:=open_three cz53 (by kernel_rfl) (by kernel_rfl) (by kernel_rfl) f1;obtain⟨k0,e0,_⟩:=f0.int v3;obtain⟨k2,e2,_⟩:=f2.int v3;obtain⟨k3,e3⟩:=f3.bool v4b;simp only[List.drop_zero,List.take_succ_cons,Yyk,List.drop_succ_cons,List.cons.injEq,and_true] at e0 e1 e2 e3;obtain⟨e1a,e1b,e1c⟩:=e1;subst e0 e1a e1b e1c e2 e3;exact⟨⟨k0,a,b,c,k2,k3⟩,rfl,trivial⟩
theorem open_decl {W:World} {r:List Value} (h:Rdb Pz W 136 r):∃x:Dc,r=x.cs/\DI W.heap x/\x.nm.length<=1048576:=by
 have hl:=h.rdt.flen (i:=0) (ft:=9) (off:=0) (by kernel_rfl);rw[cz136] at hl
 match r,hl with
 | [x0,x1,x2,x3,x4],_=>
  have f0:=h.field (i:=0) (ft:=9) (off:=0) (by kernel_rfl);have f1:=h.field (i:=1) (ft:=130) (off:=1) (by kernel_rfl);have f2:=h.rdt.field (i:=2) (ft:=3) (off:=2) (by kernel_rfl);have f3:=h.field (i:=3) (ft:=134) (off:=3) (by kernel_rfl);rw[cz9] at f0;rw[cz130] at f1;rw[cz3] at f2;rw[cz134] at f3;have g0:=f3.field (i:=0) (ft:=131) (off:=0) (by kernel_rfl);have g1:=f3.field (i:=1) (ft:=132) (off:=1) (by kernel_rfl);rw[cz131] at g0;rw[cz132] at g1;obtain⟨s,e0,hs0⟩:=f0.str v9;obtain⟨sf,fs,e1,hf,_⟩:=Rdb.list vs130 cz184 (by omega) (fun r hr=>open_field hr) f1;obtain⟨k,e2,_⟩:=f2.int v3;obtain⟨sd,ds,e3,hd,_⟩:=Rdb.list vs131 cz187 (by omega) (fun r hr=>open_diff hr) g0;obtain⟨se,es,e4,he,_⟩:=Rdb.list vs132 cz189 (by omega) (fun r hr=>open_pair hr) g1;simp only[List.drop_zero,List.take_succ_cons,Yyk,List.drop_succ_cons,List.cons.injEq,and_true] at e0 e2;subst e0 e1 e2 e3 e4;exact⟨⟨s.data.toList,sf,k,sd,se,fs,ds,es⟩,rfl,⟨hf,hd,he⟩,hs0⟩
theorem open_global {W:World} {cs:List Value} (h:Rdb Pz W 27 cs):∃g:Gl,cs=g.cs/\GI W.heap g/\∀d∈g.ds,d.nm.length<=1048576:=by
 have hl:=h.rdt.flen (i:=0) (ft:=9) (off:=0) (by kernel_rfl);rw[cz27] at hl
 match cs,hl with
 | [x0,x1,x2,x3,x4,x5,x6,x7],_=>
  have f0:=h.rdt.field (i:=0) (ft:=9) (off:=0) (by kernel_rfl);have f1:=h.field (i:=1) (ft:=22) (off:=1) (by kernel_rfl);have f2:=h.field (i:=2) (ft:=23) (off:=2) (by kernel_rfl);have f3:=h.rdt.field (i:=3) (ft:=3) (off:=3) (by kernel_rfl);have f4:=h.rdt.field (i:=4) (ft:=3) (off:=4) (by kernel_rfl);have f5:=h.rdt.field (i:=5) (ft:=3) (off:=5) (by kernel_rfl);have f6:=h.field (i:=6) (ft:=24) (off:=6) (by kernel_rfl);have f7:=h.field (i:=7) (ft:=25) (off:=7) (by kernel_rfl);rw[cz9] at f0;rw[cz22] at f1;rw[cz23] at f2;rw[cz3] at f3 f4 f5;rw[cz24] at f6;rw[cz25] at f7;obtain⟨s,e0,_⟩:=f0.str v9;obtain⟨sr,rs,e1,hr,_⟩:=Rdb.list vs22 cz9 (by omega) (fun r hr=>open_name hr) f1;obtain⟨sd,ds,e2,hd,hdi⟩:=Rdb.list vs23 cz136 (by omega) (fun r hr=>open_decl hr) f2;obtain⟨k3,e3,_⟩:=f3.int v3;obtain⟨k4,e4,_⟩:=f4.int v3;obtain⟨k5,e5,_⟩:=f5.int v3;obtain⟨se,es,e6,he,_⟩:=Rdb.list vs24 cz55 (by omega) (fun r hr=>open_edge hr) f6;obtain⟨st,ts,e7,ht,_⟩:=Rdb.list vs25 cz63 (by omega) (fun r hr=>open_timeout hr) f7;simp only[List.drop_zero,List.take_succ_cons,Yyk,List.drop_succ_cons,List.cons.injEq,and_true] at e0 e3 e4 e5;subst e0 e1 e2 e3 e4 e5 e6 e7;exact⟨⟨s.data.toList,sr,sd,k3,k4,k5,se,st,rs,ds,es,ts⟩,rfl,⟨hr,⟨hd,fun d hm=>(hdi d hm).1⟩,he,ht⟩,fun d hm=>(hdi d hm).2⟩
end Go.VC
end
