/- FkG FkH FkI FkJ FkArgs. -/
import Derived.Test.YtibmnldhlgcnjaaGreatDoorDM09
import Derived.Test.YtibmnldhlgcnjaaGreatDoorRows
set_option linter.all false
set_option maxRecDepth 100000
set_option maxHeartbeats 8000000

section
namespace Go.VC
open Go.Proofs Go.LexS Go.Maps
theorem cls_5 (L:List Mch) (k:Int) (Q:List Cf):(clsS L k Q).1=0\/(clsS L k Q).1=5:=by
 unfold clsS;cases fstI (fun c=>(levS L k Q c).isSome=true) Q with
 | none=>exact .inl rfl
 | some i=>
  dsimp only;cases (Q[i]?).bind (levS L k Q) with
  | none=>exact .inl rfl
  | some q=>exact .inr rfl
theorem cls_0 {L:List Mch} {k:Int} {Q:List Cf} (h:(clsS L k Q).1=0) {c:Cf} (hc:c∈Q):levS L k Q c=none:=by
 unfold clsS at h;cases hf:fstI (fun c=>(levS L k Q c).isSome=true) Q with
 | none=>
  have h1:=fstI_no hf hc;cases hl:levS L k Q c with
  | none=>rfl
  | some q=>exact absurd (by rw[hl];rfl) h1
 | some i=>
  rw[hf] at h;dsimp only at h;obtain⟨c,gc,hs⟩:=fstI_ex hf;obtain⟨q,hq⟩:=Option.isSome_iff_exists.1 hs;rw[gc,Option.bind_some,hq] at h;exact absurd h (show ¬((5:Int)=0) by decide)
open Classical in
theorem lev_inv {L:List Mch} {k:Int} {Q:List Cf} {c:Cf} (h:levS L k Q c=none) {q:Nat × Nat} (hq:q∈stepsS L k c.1 c.2):nxS L c q∈Q:=by
 unfold levS at h;have h2:=List.find?_eq_none.1 h q hq;rw[decide_eq_true_eq] at h2;exact Classical.not_not.1 h2
theorem chk_cases {L:List Mch} {k:Int} {Q:List Cf} (hV:SysV L):((chkV L k Q).2=23/\1<=(chkV L k Q).1.1/\(chkV L k Q).1.1<=5)\/(chkV L k Q=(flt0,0)/\ChkP L k Q 5):=by
 by_cases h1:k<1\/4<k\/20000<Q.length
 .rw[chk_1 hV h1];exact .inl ⟨rfl,by decide,by decide⟩
 have p1:ChkP L k Q 1:=⟨fun _=>h1,fun h=>by omega,fun h=>by omega,fun h=>by omega,fun h=>by omega⟩;cases h2:fstI (fun c=>¬ProS L k c.1 c.2) Q with
 | some i=>rw[chk_2 hV p1 h2];exact .inl ⟨rfl,(show (1:Int)<=2 by decide),(show (2:Int)<=5 by decide)⟩
 | none=>
  have p2:ChkP L k Q 2:=⟨fun _=>h1,fun _=>h2,fun h=>by omega,fun h=>by omega,fun h=>by omega⟩;cases h3:fstI (fun c=>badS L k c.1 c.2≠0) Q with
  | some i=>rw[chk_3 hV p2 h3];exact .inl ⟨rfl,(show (1:Int)<=3 by decide),(show (3:Int)<=5 by decide)⟩
  | none=>
   have p3:ChkP L k Q 3:=⟨fun _=>h1,fun _=>h2,fun _=>h3,fun h=>by omega,fun h=>by omega⟩;by_cases h4:(startS L,startB L)∈Q
   .have p4:ChkP L k Q 4:=⟨fun _=>h1,fun _=>h2,fun _=>h3,fun _=>h4,fun h=>by omega⟩;rcases cls_5 L k Q with h5 | h5
    .have p5:ChkP L k Q 5:=⟨fun _=>h1,fun _=>h2,fun _=>h3,fun _=>h4,fun _=>h5⟩;exact .inr ⟨chk_0 hV p5,p5⟩
    .rw[chk_5 hV p4 (by rw[h5];decide)];exact .inl ⟨rfl,by show 1<=(clsS L k Q).1;rw[h5];decide,by show (clsS L k Q).1<=5;rw[h5];decide⟩
   .rw[chk_4 hV p3 h4];exact .inl ⟨rfl,(show (1:Int)<=4 by decide),(show (4:Int)<=5 by decide)⟩
theorem right_mem {L:List Mch} {k:Int} {Q:List Cf} (hP:ChkP L k Q 5):∀ {n:Nat} {l:List (Nat × Nat)} {c:Cf},l.length=n->runS L k l=some c->c∈Q
 | 0,l,c,hn,hr=>by
  obtain rfl:=List.length_eq_zero_iff.1 hn;have h2:some ((startS L,(List.replicate (L.length*L.length) bx0).map Bx.l):Cf)=some c:=hr;rw[bxs0] at h2;rw[<-Yyp h2];exact hP.d (by omega)
 | n+1,l,c,hn,hr=>by
  obtain⟨l',q,rfl⟩:∃l' q,l=l'++[q]:=⟨l.dropLast,l.getLast (by intro e;rw[e] at hn;cases hn),(List.dropLast_concat_getLast _).symm⟩;rw[Yh,Yv] at hn;rw[runS_snoc] at hr;cases h0:runS L k l' with
  | none=>rw[h0] at hr;cases hr
  | some c0=>
   rw[h0] at hr;have hc0:=right_mem (n:=n) hP (by omega) h0;obtain⟨hq,rfl⟩:=stp_inv hr;exact lev_inv (cls_0 (hP.e (by omega)) hc0) hq
theorem right_pro {L:List Mch} {k:Int} {Q:List Cf} (hP:ChkP L k Q 5) {c:Cf} (hc:c∈Q):ProS L k c.1 c.2:=Classical.not_not.1 (fstI_no (hP.b (by omega)) hc)
theorem right_bad {L:List Mch} {k:Int} {Q:List Cf} (hP:ChkP L k Q 5) {c:Cf} (hc:c∈Q):badS L k c.1 c.2=0:=Classical.not_not.1 (fstI_no (hP.c (by omega)) hc)
theorem fst_get {Q:List Qe} {j:Nat} {d:Cf} (h:(Q.map Prod.fst)[j]?=some d):∃e,Q[j]?=some e/\e.1=d:=by
 rw[Yd] at h;cases g:Q[j]? with
 | none=>rw[g] at h;cases h
 | some e=>rw[g] at h;cases h;exact⟨e,rfl,rfl⟩
theorem sea_p4 {L:List Mch} {k:Int} {lm:Nat} {Q:List Qe} (hs:Sea L k lm Q.length Q) (hk:1<=k/\k<=4) (hl2:lm<=20000) {n:Nat} (h1:1<=n):ChkP L k ((Q.map Prod.fst).take n) 4:=by
 have hg:∀ {j:Nat} {d:Cf},((Q.map Prod.fst).take n)[j]?=some d->∃e,Q[j]?=some e/\e.1=d:=fun {j d} h=>by
  by_cases hj:j<n
  .rw[List.getElem?_take_of_lt hj] at h;exact fst_get h
  .rw[List.getElem?_take_eq_none (by omega)] at h;cases h
 refine⟨fun _ hx=>?_,fun _=>fstI_none fun j d hd=>?_,fun _=>fstI_none fun j d hd=>?_,fun _=>?_,fun h=>by omega⟩
 .have:=hs.l;rw[Yu,Yc] at hx;omega
 .obtain⟨e,ge,rfl⟩:=hg hd;exact fun h=>h (hs.p e (Yb ge))
 .obtain⟨e,ge,rfl⟩:=hg hd;exact fun h=>h (hs.d j e (Ya.1 ge).1 ge).1
 .refine Yb (i:=0) ?_;rw[List.getElem?_take_of_lt (by omega),Yd,hs.s];rfl
theorem safe_chk {L:List Mch} {k:Int} {lm:Nat} {Q:List Cf} (hV:SysV L) (hk:1<=k/\k<=4) (hl:1<=lm) (hl2:lm<=20000) (h:exS L k lm=.safe Q):chkV L k Q=(flt0,0):=by
 have hok:=exS_ok (lim:=lm) hV hk hl;rw[h] at hok;obtain⟨Q',hs,rfl⟩:=hok;have h0:0<Q'.length:=(Ya.1 hs.s).1;have p4:=sea_p4 hs hk hl2 (n:=Q'.length) (by omega);rw[Yj (by rw[Yc];exact Yyt _)] at p4;refine chk_0 hV ⟨fun _=>p4.a (by omega),fun _=>p4.b (by omega),fun _=>p4.c (by omega),fun _=>p4.d (by omega),fun _=>?_⟩;rw[cls_none fun j d hd=>lev_none fun q hq=>?_]
 .rfl
 .obtain⟨e,ge,rfl⟩:=fst_get hd;obtain⟨m,e',gm,he,-⟩:=(hs.d j e (Ya.1 ge).1 ge).2 q hq;rw[<-he];exact List.mem_map_of_mem (Yb gm)
theorem cut_chk {L:List Mch} {k:Int} {lm:Nat} {Q:List Cf} (hV:SysV L) (hk:1<=k/\k<=4) (hl:1<=lm) (hl2:lm<=20000) (h:exS L k lm=.safe Q) {n:Nat} (h1:1<=n) (hn:n<Q.length):(chkV L k (Q.take n)).2=23/\(chkV L k (Q.take n)).1.1=5:=by
 have hok:=exS_ok (lim:=lm) hV hk hl;rw[h] at hok;obtain⟨Q',hs,rfl⟩:=hok;have p4:=sea_p4 hs hk hl2 h1;rcases cls_5 L k ((Q'.map Prod.fst).take n) with h5 | h5
 .exfalso;have p5:ChkP L k ((Q'.map Prod.fst).take n) 5:=⟨fun _=>p4.a (by omega),fun _=>p4.b (by omega),fun _=>p4.c (by omega),fun _=>p4.d (by omega),fun _=>h5⟩;rw[Yc] at hn;obtain⟨e,ge⟩:=get_some hn;have hm:=right_mem p5 rfl (hs.r e (Yb ge));obtain⟨j,gj⟩:=Yf.1 hm;have hj:j<n:=by
   have:=(Ya.1 gj).1;rw[Yu] at this;omega
  rw[List.getElem?_take_of_lt hj] at gj;have gn:(Q'.map Prod.fst)[n]?=some e.1:=by rw[Yd,ge];rfl
  have hjl:j<(Q'.map Prod.fst).length:=(Ya.1 gj).1;have:=(List.getElem?_inj hjl hs.n).1 (gj.trans gn.symm);omega
 .rw[chk_5 hV p4 (by rw[h5];decide)];exact⟨rfl,h5⟩
theorem nodup_le:∀ {X Q:List Cf},X.Nodup->(∀x∈X,x∈Q)->X.length<=Q.length
 | [],_,_,_=>Nat.zero_le _
 | x::r,Q,hn,hs=>by
  rw[List.nodup_cons] at hn;have hx:=hs x Yx;have h1:=nodup_le (X:=r) (Q:=Q.erase x) hn.2 fun y hy=>(List.mem_erase_of_ne (fun e=>by subst e;exact hn.1 hy)).2 (hs y (Yn _ hy));rw[List.length_erase_of_mem hx] at h1;have:=List.length_pos_of_mem hx;rw[Yyj];omega
theorem exI_in {L:List Mch} {lim:Nat} {e:Qe} {Q:List Cf} (hl:Q.length<=lim):∀ {X:List (Nat × Nat)} {Z:List Qe},(Z.map Prod.fst).Nodup->(∀z∈Z,z.1∈Q)->(∀q∈X,nxS L e.1 q∈Q)->∃Z',exI L lim e X Z=some Z'/\(Z'.map Prod.fst).Nodup/\∀z∈Z',z.1∈Q
 | [],Z,hn,hz,_=>⟨Z,rfl,hn,hz⟩
 | q::r,Z,hn,hz,hx=>by
  rw[exI];by_cases hi:nxS L e.1 q∈Z.map Prod.fst
  .rw[if_pos hi];exact exI_in hl hn hz fun y hy=>hx y (Yn _ hy)
  .rw[if_neg hi];have h1:=nodup_le (X:=nxS L e.1 q::Z.map Prod.fst) (Q:=Q) (List.nodup_cons.2 ⟨hi,hn⟩) fun y hy=>by
    rcases Yr.1 hy with rfl | hy
    .exact hx q Yx
    .obtain⟨z,hz1,rfl⟩:=Yp.1 hy;exact hz z hz1
   rw[Yyj,Yc] at h1;rw[if_neg (by omega)];refine exI_in hl ?_ (fun z hz1=>?_) fun y hy=>hx y (Yn _ hy)
   .rw[Ym];refine List.nodup_append.2 ⟨hn,by simp,fun a ha b hb=>?_⟩;rw[Yyl,List.map_nil,Ye] at hb;subst hb;exact fun e=>by subst e;exact hi ha
   .rcases Yk.1 hz1 with hz1 | hz1
    .exact hz z hz1
    .rw[Ye.1 hz1];exact hx q Yx
theorem exO_in {L:List Mch} {k:Int} {lim:Nat} {Q:List Cf} (hl:Q.length<=lim) (hP:ChkP L k Q 5):∀ {f i:Nat} {Z:List Qe},(Z.map Prod.fst).Nodup->(∀z∈Z,z.1∈Q)->∃R,exO L k lim f i Z=.safe R/\∀c∈R,c∈Q
 | 0,i,Z,hn,hz=>⟨_,rfl,fun c hc=>by obtain⟨z,h1,rfl⟩:=Yp.1 hc;exact hz z h1⟩
 | f+1,i,Z,hn,hz=>by
  rw[exO];cases hq:Z[i]? with
  | none=>exact⟨_,rfl,fun c hc=>by obtain⟨z,h1,rfl⟩:=Yp.1 hc;exact hz z h1⟩
  | some e=>
   dsimp only;have he:=hz e (Yb hq);rw[if_neg (fun h=>h (right_bad hP he))];obtain⟨Z',h1,h2,h3⟩:=exI_in (e:=e) hl hn hz fun q hq=>lev_inv (cls_0 (hP.e (by omega)) he) hq;rw[h1];exact exO_in hl hP h2 h3
theorem right_safe {L:List Mch} {k:Int} {Q:List Cf} (hP:ChkP L k Q 5):∃R,exS L k Q.length=.safe R/\(∀c∈R,c∈Q)/\R.length<=Q.length:=by
 have hd:=hP.d (by omega);obtain⟨R,h1,h2⟩:=exO_in (L:=L) (k:=k) (Yyt Q.length) hP (f:=Q.length+1) (i:=0) (Z:=q0 L) (by simp[q0]) (fun z hz=>by rw[Ye.1 hz];exact hd);have h1:exS L k Q.length=.safe R:=h1;exact⟨R,h1,h2,(exS_mono (List.length_pos_of_mem hd) (Yyt _) h1 (fun h=>by cases h)).2 R rfl⟩
end Go.VC
end

section
namespace Go.VC
open Go.Proofs Go.LexS Go.Maps
def mkO (o:RV × Int) (k:Int):(Int × List Cf) × Int:=if o.2≠0 then ((0,[]),o.2) else if o.1.v=2 then ((0,[]),23) else if o.1.v=3 then ((0,[]),6) else ((k,o.1.Q),0)
def MkR (o:(Int × List Cf) × Int) (h:Heap) (v:Value) (h':Heap):Prop:=∃(cs:Sl) (C:List Cr),v=.tuple ⟨[.agg ⟨[.int .i64 o.1.1,.slice cs.a cs.n cs.c]⟩,.int .i64 o.2]⟩/\Ext h h'/\CtI h' cs C/\C.map Cr.cf=o.1.2
theorem CtI.nil {h:Heap}:CtI h ⟨none,0,0⟩ []:=⟨⟨Rw.nil,Yyt _,fun _=>⟨rfl,rfl⟩,Nat.zero_le _⟩,fun c hc=>by cases hc⟩
theorem make11 (L:List MR) (s:Sl) (k lim:Int) (h:Heap) (hS:SyI h s L) :
  Fn Pz 11 #[.slice s.a s.n s.c,.int .i64 k,.int .i64 lim] h (MkR (mkO (expV (L.map MR.m) k lim) k) h):=by
 apply vc11 s k lim;unfold W11;refine (St.refl h).newb fun h1 hs=>?_;have e1:=explore13 L s k lim h1 (hS.ext hs.ext);generalize expV (L.map MR.m) k lim=o at e1 ⊢;refine e1.mono ?_;rintro _ h9 ⟨cf,mo,tr,A,rfl,hs1,hR⟩;have hs:=hs.join hs1;refine⟨_,cf,mo,_,tr,_,rfl,?_⟩;refine hs.newput (vs:=resA o.1.v cf mo o.1.k tr) rfl rfl fun h11 hs=>?_;refine sBn (fun c=>?_) (fun c=>?_);have e:mkO o k=((0,[]),o.2):=if_pos c;rw[e];refine hs.put 1 rfl (o:=0) (vs:=[.int .i64 0,.slice none 0 0]) rfl (show 2<=2 by decide) fun h12 hs=>?_;rotate_left;refine⟨o.1.v,hs.rd 0 rfl (i:=0) rfl,sBe (fun c2=>?_) (fun c2=>?_)⟩;have e:mkO o k=((0,[]),23):=by unfold mkO;rw[if_neg (fun h=>h c),if_pos c2]
 rw[e];refine hs.put 1 rfl (o:=0) (vs:=[.int .i64 0,.slice none 0 0]) rfl (show 2<=2 by decide) fun h12 hs=>?_;rotate_left;refine⟨o.1.v,hs.rd 0 rfl (i:=0) rfl,sBe (fun c3=>?_) (fun c3=>?_)⟩;have e:mkO o k=((0,[]),6):=by unfold mkO;rw[if_neg (fun h=>h c),if_neg c2,if_pos c3]
 rw[e];refine hs.put 1 rfl (o:=0) (vs:=[.int .i64 0,.slice none 0 0]) rfl (show 2<=2 by decide) fun h12 hs=>?_;rotate_left;have e:mkO o k=((k,o.1.Q),0):=by unfold mkO;rw[if_neg (fun h=>h c),if_neg c2,if_neg c3]
 rw[e];refine⟨cf,hs.rd 0 rfl (i:=1) rfl,?_⟩;refine hs.put 1 rfl (o:=0) (vs:=[.int .i64 k,.slice cf.a cf.n cf.c]) rfl (show 2<=2 by decide) fun h24 hs=>?_;have hRI:=hR.at hs (memP (P:=[_,_]));obtain⟨C,q1,q2,q3⟩:=hRI.c;exact⟨k,cf,hs.at 1 rfl (o:=0) (n:=2) rfl,cf,C,rfl,hs.ext,⟨q1,q2⟩,q3⟩;all_goals first | exact⟨0,⟨none,0,0⟩,hs.at 1 rfl (o:=0) (n:=2) rfl,⟨none,0,0⟩,[],rfl,hs.ext,CtI.nil,rfl⟩
theorem mk_safe {n:Nat} {Q:List Cf} {k:Int}:mkO ((Res.safe Q).rv n,0) k=((k,Q),0):=by
 rfl
theorem awakeC9 (h:Heap) (hx:Gx h):Fn Pz 9 #[] h fun v h'=>v=.bool true/\Ext h h':=by
 apply vc9;unfold W9;refine (example34 true h).mono ?_;rintro _ h10 ⟨E10,hr,hd,he,rfl,hg⟩;refine⟨_,hr,hd,_,_,_,he,⟨none,0,0⟩,rfl,?_⟩;refine (all43 (exGl true hr hd he ⟨none,0,0⟩) h10 hg (hx.ext E10) (ex_valid _ _ _ _ _) xL (hg.r.ln.symm) (by decide) (fun i m hi=>?_)).mono ?_
 .match i,hi with
  | 0,hi=>cases hi;exact⟨xproj _ _ _ _ _ _ _ (by decide) (by decide) (xr0_raw _ _ _ _) xm0_min,by decide,by decide,by decide⟩
  | 1,hi=>cases hi;exact⟨xproj _ _ _ _ _ _ _ (by decide) (by decide) (xm1_raw _ _ _ _) xm1_min,by decide,by decide,by decide⟩
  | 2,hi=>cases hi;exact⟨xproj _ _ _ _ _ _ _ (by decide) (by decide) (xm2_raw _ _ _ _) xm2_min,by decide,by decide,by decide⟩
  | n+3,hi=>exact absurd hi (by simp[xL])
 rintro _ h14 ⟨s,L,rfl,E14,hL,hS⟩;have E0:=E10.trans E14;refine⟨s,0,rfl,?_⟩;have e1:=make11 L s 1 1000 h14 hS;have hv:expV (L.map MR.m) 1 1000=(⟨1,xRes,mostS 3 xRes,0,[]⟩,0):=by
  rw[hL];unfold expV;rw[if_neg (fun h=>by rcases h with h | h | h;exact h xsys;all_goals omega),if_neg (by omega)];show ((exS xL 1 1000).rv 3,(0:Int))=_;rw[xsearch];rfl
 have hm:mkO (expV (L.map MR.m) 1 1000) 1=((1,xRes),0):=by
  rw[hv];exact mk_safe (n:=3)
 rw[hm] at e1;refine e1.mono ?_;rintro _ h19 ⟨cs,C,rfl,E19,hC,hQ⟩;have hQ:C.map Cr.cf=xRes:=hQ;have hCl:C.length=12:=by have:=congrArg List.length hQ;rw[Yc] at this;rw[this];exact xres_len
 have hcn:=hC.r.ln;have hS:=hS.ext E19;have E0:=E0.trans E19;refine⟨1,cs,0,rfl,?_⟩;refine (St.refl h19).newput (vs:=[.int .i64 1,.slice cs.a cs.n cs.c]) rfl rfl fun h21 hs=>?_;refine⟨1,cs,hs.at 0 rfl (o:=0) (n:=2) rfl,?_⟩;have e2:=check15 L C s cs 1 h21 (hS.ext hs.ext) (hC.ext hs.ext);rw[hQ,hL,safe_chk xsys (by decide) (by decide) (by decide) xsearch] at e2;refine e2.mono ?_;rintro _ h30 ⟨rfl,E30⟩;have hs:=hs.step E30;refine⟨0,0,0,0,0,rfl,?_⟩;refine hs.newput (vs:=fltC flt0) rfl rfl fun h32 hs=>?_;refine sB_f rfl (sB_f rfl (sB_f rfl ⟨0,hs.rd 0 rfl (i:=0) rfl,sB_f rfl ⟨cs,hs.rd 1 rfl (i:=1) rfl,sB_f (decide_eq_false (by omega)) ?_⟩⟩));refine⟨cs,hs.rd 1 rfl (i:=1) rfl,cs,hs.rd 1 rfl (i:=1) rfl,?_⟩;have hw:IntKind.wrap .i64 ((cs.n:Int)-1)=((11:Nat):Int):=by rw[w64 (by omega) (by omega)];omega
 have hcc:=hC.r.cap;rw[hw];refine⟨⟨by omega,by omega,by omega⟩,?_⟩;obtain⟨t,ht⟩:∃t:Sl,t=⟨subA cs.a (Int.toNat 0) cs.c 2,Int.toNat ((11:Nat):Int)-Int.toNat 0,cs.c-Int.toNat 0⟩:=⟨_,rfl⟩;have hT:∀ {h':Heap},Ext h19 h'->CtI h' t (C.take 11):=fun {h'} E=>⟨by rw[ht];exact (hC.ext E).r.cut0 11 (by omega),fun c hc=>(hC.ext E).i c (List.mem_of_mem_take hc)⟩;rw[show subA cs.a (Int.toNat 0) cs.c 2=t.a by rw[ht],show Int.toNat ((11:Nat):Int)-Int.toNat 0=t.n by rw[ht],show cs.c-Int.toNat 0=t.c by rw[ht]];refine hs.put 1 rfl (o:=1) (vs:=[.slice t.a t.n t.c]) rfl (show 1+1<=2 by decide) fun h37 hs=>?_;refine⟨1,t,hs.at 1 rfl (o:=0) (n:=2) rfl,?_⟩;have e3:=check15 L (C.take 11) s t 1 h37 (hS.ext hs.ext) (hT hs.ext);have hQ2:(C.take 11).map Cr.cf=xRes.take 11:=by rw[List.map_take,hQ]
 have hcut:=cut_chk xsys (by decide) (by decide) (by decide) xsearch (n:=11) (by decide) (by rw[xres_len];decide);rw[hQ2,hL] at e3;refine e3.mono ?_;rintro _ h46 ⟨rfl,E46⟩;have hs:=hs.step E46;generalize chkV xL 1 (xRes.take 11)=o at hcut ⊢;refine⟨_,_,_,_,_,rfl,?_⟩;refine hs.put 0 rfl (o:=0) (vs:=fltC o.1) rfl (show 4<=4 by decide) fun h47 hs=>?_;refine sBe (fun _=>⟨o.1.1,hs.rd 0 rfl (i:=0) rfl,by rw[hcut.2];rfl,E0.trans hs.ext⟩) (fun c=>absurd hcut.1 c)

theorem run_pre {L:List Mch} {k:Int} {X:List (Nat × Nat)}:∀ {n:Nat} {Y:List (Nat × Nat)} {c:Cf},Y.length=n->runS L k (X++Y)=some c->∃d,runS L k X=some d
 | 0,Y,c,hn,hr=>by
  obtain rfl:=List.length_eq_zero_iff.1 hn;rw[Yw] at hr;exact⟨c,hr⟩
 | n+1,Y,c,hn,hr=>by
  obtain⟨Y',q,rfl⟩:∃Y' q,Y=Y'++[q]:=⟨Y.dropLast,Y.getLast (by intro e;rw[e] at hn;cases hn),(List.dropLast_concat_getLast _).symm⟩;rw[Yh,Yv] at hn;rw[<-Yz,runS_snoc] at hr;cases h0:runS L k (X++Y') with
  | none=>rw[h0] at hr;cases hr
  | some d=>exact run_pre (n:=n) (by omega) h0
theorem run_at {L:List Mch} {k:Int} {X:List (Nat × Nat)} {c d:Cf} {i:Nat} {q:Nat × Nat} (hr:runS L k X=some c) (gq:X[i]?=some q) (hd:runS L k (X.take i)=some d):q∈stepsS L k d.1 d.2/\runS L k (X.take (i+1))=some (nxS L d q):=by
 rw[<-List.take_append_drop (i+1) X] at hr;obtain⟨d',h1⟩:=run_pre rfl hr;have h2:=h1;rw[take_snoc gq,runS_snoc,hd,Option.bind_some] at h2;obtain⟨hq,rfl⟩:=stp_inv h2;exact⟨hq,h1⟩
theorem covers24 (L:List MR) (s:Sl) (C:List Cr) (cs:Sl) (k:Int) (X:List (Nat × Nat)) (xs:Sl) (c:Cf) (h:Heap) (hS:SyI h s L) (hC:CtI h cs C) (hX:RL h 2 xs stpC X) (hV:SysV (L.map MR.m)) (hP:ChkP (L.map MR.m) k (C.map Cr.cf) 5) (hrun:runS (L.map MR.m) k X=some c) :
  Fn Pz 24 #[.slice s.a s.n s.c,.agg ⟨[.int .i64 k,.slice cs.a cs.n cs.c]⟩,.slice xs.a xs.n xs.c] h fun v h'=>v=.tuple ⟨[.int .i64 (xs.n:Int),.int .i64 0]⟩/\Ext h h':=by
 apply vc24 s k cs xs;unfold W24 V24a;have hcn:=hC.r.ln;have hcm:=hC.r.sm;have hxn:=hX.ln;have hxm:=hX.sm;have hk:=hP.a (by omega);have hpa:=pro_all (hP.b (by omega));refine (St.refl h).newb fun h3 hs=>?_;refine (start14 L s h3 (hS.ext hs.ext)).mono ?_;rintro _ h8 ⟨ss,sb,S,B,e,A1,rfl,hs1,hM,hv1,-⟩;obtain⟨rfl,rfl,rfl⟩:=hv1 hV;have hs:=hs.join hs1;refine⟨ss,sb,0,rfl,?_⟩;refine hs.newput (vs:=[.slice ss.a ss.n ss.c,.slice sb.a sb.n sb.c]) rfl rfl fun h10 hs=>?_;refine sB_f rfl ⟨k,hs.rd 1 rfl (i:=0) rfl,sBi (fun c1=>absurd (.inl c1) hk) (fun c1=>⟨k,hs.rd 1 rfl (i:=0) rfl,sBi (fun c2=>absurd (.inr (.inl c2)) hk) (fun c2=>?_)⟩)⟩;refine hs.mmake 104 fun h15 E15 hs=>⟨_,rfl,?_⟩;refine⟨cs,hs.rd 2 rfl (i:=1) rfl,?_⟩;have hA1:CfN A1 ss sb (startS (L.map MR.m)) (List.replicate ((L.map MR.m).length*(L.map MR.m).length) bx0):=fun h0 hh A' hA hs=>(hM.mono hA).cfi hs;refine⟨fun x h' μ=>∃(i:Nat) (N:List (ByteArray × Bool)),x=(i:Int)/\μ=C.length-i/\i<=C.length/\KyOk N ((C.take i).map Cr.cf) /\
  St h h' ([.mp h10.size (N.map kyV),.blk h8.size [.slice ss.a ss.n ss.c,.slice sb.a sb.n sb.c] 52,.blk h.size [.int .i64 k,.slice cs.a cs.n cs.c] 31]++A1),⟨_,0,[],rfl,rfl,Nat.zero_le _,.nil,hs⟩,?_⟩
 clear hs;rintro-_ h21 μ ⟨i,N,rfl,rfl,hi,hN,hs⟩;refine sBi (fun c1=>?_) (fun c1=>?_)
 .obtain⟨d,gd⟩:=get_some (l:=C) (i:=i) (by omega);have hdm:=Yb gd;refine (hC.r.rw.ext hs.ext).nbI (by omega) (by omega) fun b8 o9 d' gd' t=>?_;rw[Ys] at gd';replace gd':C[i]?=some d':=gd';rw[gd] at gd';cases gd';refine⟨d.c1,d.c2,t,?_⟩;refine hs.newput (vs:=[.slice d.c1.a d.c1.n d.c1.c,.slice d.c2.a d.c2.n d.c2.c]) rfl rfl fun h27 hs=>?_;refine⟨d.c1,d.c2,hs.at 0 rfl (o:=0) (n:=2) rfl,?_⟩;refine (key54 d.c1 d.c2 d.S d.B h27 ((hC.ext hs.ext).i d hdm) (enc_pro (hpa d hdm))).mono ?_;rintro _ h32 ⟨rfl,E⟩;have hs:=hs.step E;refine⟨_,rfl,?_⟩;have hkok:kokB (kyC d.cf):=ky_ok (c:=d.cf) (hpa d hdm);refine hs.mput M92 (cv:=Value.bool) (l:=N) (a:=kyC d.cf) 1 rfl hN.ok hN.nd hkok true fun h33 hs=>?_;refine⟨_,(show C.length-(i+1)<C.length-i by omega),i+1,mset N (kyC d.cf) true,by rw[w64 (by omega) (by omega)];omega,rfl,by omega,?_,hs.drop 1⟩;rw[take_snoc gd,Ym];exact hN.put hkok
 have hie:i=C.length:=by omega
 subst hie;rw[Yye] at hN;have hpro0:=xpro_start hV ⟨(show 1<=k by omega),(show k<=4 by omega)⟩;refine⟨ss,sb,hs.at 1 rfl (o:=0) (n:=2) rfl,?_⟩;refine (key54 ss sb _ _ h21 (hA1.at hs (memP (P:=[_,_,_]))) (enc_pro hpro0)).mono ?_;rintro _ h39 ⟨rfl,E⟩;have hs:=hs.step E;refine⟨_,rfl,?_⟩;have hkok:kokB (kyC (startS (L.map MR.m),(List.replicate ((L.map MR.m).length*(L.map MR.m).length) bx0).map Bx.l)):=ky_ok (c:=(_,_)) hpro0;rw[bxs0] at hkok ⊢;obtain⟨b,hb,hbm⟩:=kys hN (startS (L.map MR.m),startB (L.map MR.m));have hb1:=hbm.2 (hP.d (by omega));subst hb1;refine hs.mlook M92 (cv:=Value.bool) (l:=N) (a:=kyC (startS (L.map MR.m),startB (L.map MR.m))) 0 rfl hN.ok hN.nd hkok false ?_;refine⟨true,by rw[hb];rfl,sB_f rfl ?_⟩;refine⟨fun x h' μ=>∃(i:Nat) (c1 c2:Sl) (S:List Int) (B:List Bx) (A:List It),x=(i:Int)/\μ=X.length-i/\i<=X.length/\runS (L.map MR.m) k (X.take i)=some (S,B.map Bx.l)/\CfN A c1 c2 S B /\
  St h h' ([.mp h10.size (N.map kyV),.blk h8.size [.slice c1.a c1.n c1.c,.slice c2.a c2.n c2.c] 52,.blk h.size [.int .i64 k,.slice cs.a cs.n cs.c] 31]++A),⟨_,0,ss,sb,_,_,A1,rfl,rfl,Nat.zero_le _,by rw[Yyk];rfl,hA1,hs⟩,?_⟩
 clear hs hA1 hM hs1 hv1 hb hbm hkok hpro0 hi c1;rintro-_ h47 μ ⟨i,c1,c2,S,B,A,rfl,rfl,hi,hr,hCN,hs⟩;refine sBi (fun c3=>?_) (fun c3=>?_)
 .obtain⟨⟨a,b⟩,gz⟩:=get_some (l:=X) (i:=i) (by omega);obtain⟨hq,hr2⟩:=run_at hrun gz hr;have hm1:=right_mem hP rfl hr;have hm2:=right_mem hP rfl hr2;have hdo:=do_of (right_pro hP hm1) hq;have hpr2:=right_pro hP hm2;refine (hX.rw.ext hs.ext).nbI (by omega) (by omega) fun b22 o23 z gz' t=>?_;rw[Ys,gz] at gz';cases gz';refine⟨(a:Int),(b:Int),t,?_⟩;refine hs.newput (vs:=[.int .i64 (a:Int),.int .i64 (b:Int)]) rfl rfl fun h53 hs=>?_;refine⟨k,hs.rd 3 rfl (i:=0) rfl,c1,c2,hs.at 2 rfl (o:=0) (n:=2) rfl,(a:Int),(b:Int),hs.at 0 rfl (o:=0) (n:=2) rfl,?_⟩;have e1:=do27 L s k c1 c2 S B (a:Int) (b:Int) h53 (hS.ext hs.ext) (hCN.at hs (memP (P:=[_,_,_,_])));rw[show doS (L.map MR.m) k S (B.map Bx.l) (a:Int) (b:Int)=(0,nxS (L.map MR.m) (S,B.map Bx.l) (a,b)) from hdo] at e1;generalize nxS (L.map MR.m) (S,B.map Bx.l) (a,b)=y at *;refine e1.mono ?_;rintro _ h63 ⟨ts,tb,T,A2,rfl,hT,hs2,hM2⟩;have hs:=hs.join hs2;have hC2:CfN A2 ts tb y.1 T:=fun h0 hh A' hA hs=>(hM2.mono hA).cfi hs;have hy:((y.1,T.map Bx.l):Cf)=y:=by rw[hT]
  refine⟨ts,tb,0,rfl,?_⟩;refine hs.newput (vs:=[.slice ts.a ts.n ts.c,.slice tb.a tb.n tb.c]) rfl rfl fun h65 hs=>?_;refine sB_t rfl ⟨ts,tb,hs.at 0 rfl (o:=0) (n:=2) rfl,?_⟩;refine (key54 ts tb y.1 T h65 (hC2.at hs fun i hi=>Yn _ (List.mem_append_right _ hi)) (enc_pro (by rw[hT];exact hpr2))).mono ?_;rintro _ h70 ⟨rfl,E70⟩;have hs:=hs.step E70;refine⟨_,rfl,?_⟩;rw[hy];obtain⟨b2,hb2,hbm2⟩:=kys hN y;have hb3:=hbm2.2 hm2;subst hb3;refine hs.mlook M92 (cv:=Value.bool) (l:=N) (a:=kyC y) 2 rfl hN.ok hN.nd (ky_ok (c:=y) hpr2) false ?_;refine⟨true,by rw[hb2];rfl,sB_f rfl (sB_f rfl ⟨ts,tb,hs.at 0 rfl (o:=0) (n:=2) rfl,?_⟩)⟩;refine hs.put 3 rfl (o:=0) (vs:=[.slice ts.a ts.n ts.c,.slice tb.a tb.n tb.c]) rfl (show 2<=2 by decide) fun h80 hs=>?_;refine⟨_,(show X.length-(i+1)<X.length-i by omega),i+1,ts,tb,y.1,T,A++A2,by rw[w64 (by omega) (by omega)];omega,rfl,by omega,by rw[hy];exact hr2,hC2.mono fun i hi=>List.mem_append_right _ hi,hs.drop 2⟩
 .exact⟨rfl,hs.ext⟩
theorem certifySound7 (L:List MR) (s:Sl) (C:List Cr) (cs:Sl) (k:Int) (D:List Int) (ds:Sl) (h:Heap) (hx:Gx h) (hS:SyI h s L) (hC:CtI h cs C) (hD:RL h 1 ds u8C D) (hDb:∀b∈D,0<=b/\b<256) :
  Fn Pz 7 #[.slice s.a s.n s.c,.agg ⟨[.int .i64 k,.slice cs.a cs.n cs.c]⟩,.slice ds.a ds.n ds.c] h fun v h'=>v=.bool true/\Ext h h':=by
 apply vc7 s k cs ds;unfold W7;have hcn:=hC.r.ln;have hcm:=hC.r.sm;refine (St.refl h).newb fun h3 hs=>?_;refine (awakeC9 h3 (hx.ext hs.ext)).mono ?_;rintro _ h6 ⟨rfl,E6⟩;have hs:=hs.step E6;refine⟨true,rfl,sB_f rfl ⟨k,cs,hs.at 0 rfl (o:=0) (n:=2) rfl,?_⟩⟩;refine (smallC16 L s C cs k h6 (hS.ext hs.ext) (hC.ext hs.ext)).mono ?_;rintro _ h11 ⟨b,rfl,hb,E11⟩;have hs:=hs.step E11;refine⟨b,rfl,sB_intro (fun c=>⟨rfl,hs.ext⟩) (fun c=>sB_intro (fun c2=>⟨rfl,hs.ext⟩) (fun c2=>⟨k,cs,hs.at 0 rfl (o:=0) (n:=2) rfl,?_⟩))⟩;have h120:=hb (by cases b with | true=>rfl | false=>cases c);refine (own17 C cs k h11 (hC.ext hs.ext)).mono ?_;rintro _ h17 ⟨o,rfl,E17,hO⟩;have hs:=hs.step E17;have hold:atC h17 ⟨h.size,0,none⟩ [.int .i64 k,.slice cs.a cs.n cs.c]:=hs.at 0 rfl (o:=0) (n:=2) rfl;have E0:=hs.ext;have hS:=hS.ext E0;have hD:=hD.ext E0;have hon:=hO.r.ln;clear hs;refine⟨k,o,rfl,?_⟩;refine (St.refl h17).newput (vs:=[.int .i64 k,.slice o.a o.n o.c]) rfl rfl fun h19 hs=>?_;refine⟨k,o,hs.at 0 rfl (o:=0) (n:=2) rfl,?_⟩;refine (check15 L C s o k h19 (hS.ext hs.ext) (hO.ext hs.ext)).mono ?_;rintro _ h28 ⟨rfl,E28⟩;have hs:=hs.step E28;by_cases hV:SysV (L.map MR.m);rotate_left
 .rw[chk_v hV];refine⟨0,0,0,0,1,rfl,?_⟩;refine hs.newput (vs:=fltC flt0) rfl rfl fun h30 hs=>?_;refine sB_t rfl (sB_f rfl (sB_t rfl ?_));refine (refSys23 L s h30 (hS.ext hs.ext)).mono ?_;rintro _ h33 ⟨⟨b2,rfl,hb2⟩,E33⟩;refine⟨b2,rfl,?_,E0.trans (hs.ext.trans E33)⟩;cases b2 with
  | true=>exact absurd (hb2.1 rfl) hV
  | false=>rfl
 rcases chk_cases (k:=k) (Q:=C.map Cr.cf) hV with ⟨h23,-,-⟩ | ⟨hok,hP⟩
 .generalize chkV (L.map MR.m) k (C.map Cr.cf)=o2 at *;refine⟨_,_,_,_,_,rfl,?_⟩;refine hs.newput (vs:=fltC o2.1) rfl rfl fun h30 hs=>?_;exact sBn (fun _=>sBe (fun _=>⟨rfl,E0.trans hs.ext⟩) (fun c=>absurd h23 c)) (fun c=>by rw[h23] at c;exact absurd c (by decide))
 rw[hok];have hk:=hP.a (by omega);refine⟨0,0,0,0,0,rfl,?_⟩;refine hs.newput (vs:=fltC flt0) rfl rfl fun h30 hs=>?_;refine sB_f rfl ?_;refine (refSys23 L s h30 (hS.ext hs.ext)).mono ?_;rintro _ h36 ⟨⟨b2,rfl,hb2⟩,E36⟩;have hs:=hs.step E36;obtain rfl:=hb2.2 hV;refine⟨true,rfl,sB_f rfl ⟨k,(atC_ext hs.ext hold).hd,sBi (fun c=>absurd (.inl c) hk) (fun k1=>⟨k,(atC_ext hs.ext hold).hd,sBi (fun c=>absurd (.inr (.inl c)) hk) (fun k2=>⟨k,(atC_ext hs.ext hold).hd,?_⟩)⟩)⟩⟩;have hk4:1<=k/\k<=4:=⟨by omega,by omega⟩;refine (walk26 L s k D ds h36 (hS.ext hs.ext) hV hk4 (hD.ext hs.ext) hDb).mono ?_;rintro _ h44 ⟨out,ts,tb,S,T,l,A,rfl,hsA,hM,hPr,hout,hrun,hll⟩;have hs:=hs.join hsA;have hcm1:=right_mem hP rfl hrun;have hcb:=right_bad hP hcm1;refine⟨out,ts,tb,rfl,?_⟩;refine hs.newput (vs:=[.slice ts.a ts.n ts.c,.slice tb.a tb.n tb.c]) rfl rfl fun h46 hs=>?_;have hs:=hs.nil_ 43 2;refine⟨fun q x h' μ=>∃i:Nat,x=(i:Int)/\μ=l.length-i/\i<=l.length/\St h17 h' ([.sl q 43 2 ((l.take i).map stpC),.blk h44.size [.slice ts.a ts.n ts.c,.slice tb.a tb.n tb.c] 28,.blk h28.size (fltC flt0) 45,.blk h17.size [.int .i64 k,.slice o.a o.n o.c] 31]++A),⟨_,0,rfl,rfl,Nat.zero_le _,by rw[Yyk];exact hs⟩,?_⟩;clear hs hsA;rintro-q _ h52 μ ⟨i,rfl,rfl,hi,hs⟩;have hor:=hs.rlm (cs:=stpC) (X:=l) (memP (P:=[_,_,_,_]) _ hout) (by omega) hll;have horn:=hor.ln;have hqn:=(hs.rows 0 (s:=q) (cs:=stpC) rfl (by omega)).ln;rw[Yu] at hqn;refine sBi (fun c1=>?_) (fun c1=>?_)
 .obtain⟨⟨a,b⟩,gz⟩:=get_some (l:=l) (i:=i) (by omega);refine hor.rw.nbI (by omega) (by omega) fun b22 o23 z gz' t=>?_;rw[Ys,gz] at gz';cases gz';refine⟨(a:Int),(b:Int),t,?_⟩;refine hs.app 0 (s:=q) (n:=2) (rows:=(l.take i).map stpC) rfl app35 (m:=1) [stpC (a,b)] rfl rfl (fun r hr=>by rw[Ye] at hr;rw[hr];rfl) rfl (by omega) (by simp only[maxLen];omega) fun r2 h59 nr hs=>?_;refine⟨_,(show l.length-(i+1)<l.length-i by omega),i+1,by rw[w64 (by omega) (by omega)];omega,rfl,by omega,?_⟩;rw[take_snoc gz,Ym];exact hs
 have hil:i=l.length:=by omega
 subst hil;rw[Yye] at hs;refine⟨k,o,hs.at 3 rfl (o:=0) (n:=2) rfl,?_⟩;refine (covers24 L s C o k l q _ h52 (hS.ext hs.ext) (hO.ext hs.ext) (hs.rl 0 rfl (by omega) hll) hV hP hrun).mono ?_;rintro _ h66 ⟨rfl,E66⟩;have hs:=hs.step E66;refine⟨_,_,rfl,k,(atC_ext hs.ext hold).hd,ts,tb,hs.at 1 rfl (o:=0) (n:=2) rfl,?_⟩;refine (bad38 L s k ts tb S T h66 (hS.ext hs.ext) ((hM.mono (memP (P:=[_,_,_,_]))).cfi hs)).mono ?_;rintro _ h73 ⟨E73,bv,ev,rfl,hbv,-⟩;obtain⟨rfl,rfl⟩:=hbv hPr;have hs:=hs.step E73;refine⟨_,_,rfl,k,(atC_ext hs.ext hold).hd,cs,(atC_ext hs.ext hold).nth 1 rfl,?_⟩;obtain⟨R,hR1,hR2,hR3⟩:=right_safe hP;have hcl:(C.map Cr.cf).length=cs.n:=by rw[Yc];exact hcn.symm
 rw[hcl] at hR1 hR3;have hQ0:=List.length_pos_of_mem hcm1;have e1:=explore13 L s k (cs.n:Int) h73 (hS.ext hs.ext);rw[expV_ok hV hk4.1 hk4.2 (by omega) (by omega),hR1] at e1;refine e1.mono ?_;rintro _ h83 ⟨cf,mo,tr,A3,rfl,hs3,hRI⟩;have hs:=hs.join hs3;refine⟨1,cf,mo,0,tr,0,rfl,?_⟩;refine hs.newput (vs:=resA 1 cf mo 0 tr) rfl rfl fun h85 hs=>?_;have hmA:∀i∈A3,i∈(.blk h83.size (resA 1 cf mo 0 tr) 74::(([.sl q 43 2 (l.map stpC),.blk h44.size [.slice ts.a ts.n ts.c,.slice tb.a tb.n tb.c] 28,.blk h28.size (fltC flt0) 45,.blk h17.size [.int .i64 k,.slice o.a o.n o.c] 31]++A)++A3):List It):=fun i hi=>Yn _ (List.mem_append_right _ hi);obtain⟨C3,q1,q2,q3⟩:=(hRI.at hs hmA).c;have q3:C3.map Cr.cf=R:=q3;have hcfn:=q1.ln;have hcfs:=q1.sm;have hC3l:C3.length=R.length:=by rw[<-q3,Yc]
 refine sB_f rfl (sBn (fun c=>absurd rfl c) (fun _=>sB_f rfl (sBn (fun c=>absurd hcb c) (fun _=>sB_f rfl ⟨1,hs.rd 0 rfl (i:=0) rfl,sB_f rfl ⟨cf,hs.rd 0 rfl (i:=1) rfl,cs,(atC_ext hs.ext hold).nth 1 rfl,sBi (fun c=>absurd c (by omega)) (fun _=>⟨cf,hs.rd 0 rfl (i:=1) rfl,?_⟩)⟩⟩))));refine up_loop (n:=cf.n) (fun i h'=>Ext h85 h'/\St h17 h' (.blk h83.size (resA 1 cf mo 0 tr) 74::(([.sl q 43 2 (l.map stpC),.blk h44.size [.slice ts.a ts.n ts.c,.slice tb.a tb.n tb.c] 28,.blk h28.size (fltC flt0) 45,.blk h17.size [.int .i64 k,.slice o.a o.n o.c] 31]++A)++A3))) ⟨.rfl',hs⟩ ?_;clear hs;rintro-i h94 hi ⟨E94,hs⟩;refine sB_intro (fun c=>?_) (fun c=>⟨rfl,E0.trans hs.ext⟩);replace c:=lt_t c;obtain⟨y,gy⟩:=get_some (l:=C3) (i:=i) (by omega);have hym:=Yb gy;refine⟨o,hs.rd 4 rfl (i:=1) rfl,?_⟩;refine⟨fun fo x h' μ=>∃j:Nat,x=(j:Int)/\μ=C.length-j/\j<=C.length/\(fo=true ↔ ∃(t:Nat) (d:Cr),t<j/\C[t]?=some d/\d.cf=y.cf)/\Ext h85 h'/\St h17 h' (.blk h83.size (resA 1 cf mo 0 tr) 74::(([.sl q 43 2 (l.map stpC),.blk h44.size [.slice ts.a ts.n ts.c,.slice tb.a tb.n tb.c] 28,.blk h28.size (fltC flt0) 45,.blk h17.size [.int .i64 k,.slice o.a o.n o.c] 31]++A)++A3)),⟨_,0,rfl,rfl,Nat.zero_le _,iff_of_false (by decide) (fun ⟨t,d,ht,_⟩=>absurd ht (Nat.not_lt_zero _)),E94,hs⟩,?_⟩;clear hs E94;rintro-fo _ h101 μ ⟨j,rfl,rfl,hj,hfo,E101,hs⟩;refine sBi (fun c3=>?_) (fun c3=>?_)
 .refine sB_intro (fun c4=>?_) (fun c4=>?_)
  .refine⟨_,(show C.length-(j+1)<C.length-j by omega),j+1,by rw[w64 (by omega) (by omega)];omega,rfl,by omega,iff_of_true rfl ?_,E101,hs⟩;obtain⟨t,d,ht,h1,h2⟩:=hfo.1 c4;exact⟨t,d,by omega,h1,h2⟩
  .refine⟨cf,hs.rd 0 rfl (i:=1) rfl,?_⟩;refine (q1.rw.ext E101).nbI (by omega) (by omega) fun b1 o1 y' gy' t1=>?_;rw[Ys,gy] at gy';cases gy';refine⟨y.c1,y.c2,t1,o,hs.rd 4 rfl (i:=1) rfl,?_⟩;obtain⟨d,gd⟩:=get_some (l:=C) (i:=j) (by omega);refine (hO.r.rw.ext hs.ext).nbI (by omega) (by omega) fun b2 o2 d' gd' t2=>?_;rw[Ys,gd] at gd';cases gd';refine⟨d.c1,d.c2,t2,?_⟩;refine (equal32 y.c1 y.c2 d.c1 d.c2 y.S d.S y.B d.B h101 ((q2 y hym).ext E101) ((hO.ext hs.ext).i d (Yb gd))).mono ?_;rintro _ h115 ⟨⟨b3,rfl,hb3⟩,E115⟩;refine⟨b3,rfl,_,(show C.length-(j+1)<C.length-j by omega),j+1,by rw[w64 (by omega) (by omega)];omega,rfl,by omega,⟨fun e=>?_,fun ⟨t,d',ht,h1,h2⟩=>?_⟩,E101.trans E115,hs.step E115⟩
   .have he:=hb3.1 e;exact⟨j,d,by omega,gd,Prod.ext he.1.symm he.2.symm⟩
   .by_cases e:t=j
    .subst e;rw[gd] at h1;cases h1;exact hb3.2 ⟨(congrArg Prod.fst h2).symm,(congrArg Prod.snd h2).symm⟩
    .have:=hfo.2 ⟨t,d',by omega,h1,h2⟩;rw[this] at c4;cases c4
 .have hjl:j=C.length:=by omega
  subst hjl;have hyR:y.cf∈C.map Cr.cf:=hR2 _ (by rw[<-q3];exact List.mem_map_of_mem hym);obtain⟨d,hd,he⟩:=Yp.1 hyR;obtain⟨t,gt⟩:=Yf.1 hd;have hf:=hfo.2 ⟨t,d,(Ya.1 gt).1,gt,he⟩;subst hf;exact sB_f rfl (Up.next c (by omega) ⟨E101,hs⟩)
end Go.VC
end

section
namespace Go.VC
open Go.Proofs Go.LexS Go.RowKit Go.ChangeShapes Go.WideShapes Go.Proofs.YtibmnldhlgcnjaaGreatDoor
theorem bulk_pos {H:Type} (d:DataW H):1<=Rows.uptoBulk d:=by
 cases d with
 | lit l=>cases l<;>simp[Rows.uptoBulk]
 | _=>simp[Rows.uptoBulk]
theorem bulk_part {H:Type}:∀ {l:List (DataW H)} {d:DataW H},d∈l->Rows.uptoBulk d<=Rows.uptoBulkAll l
 | [],_,h=>by cases h
 | x::r,d,h=>by
  rw[Rows.uptoBulkAll];rcases Yr.1 h with rfl | h
  .omega
  .have:=bulk_part h;omega
theorem bulk_len {H:Type}:∀l:List (DataW H),l.length<=Rows.uptoBulkAll l
 | []=>by simp
 | x::r=>by
  have h1:=bulk_pos x;have h2:=bulk_len r;rw[Rows.uptoBulkAll,Yyj];omega
def Rdb (P:Program) (W:World) (t:TypeId) (cs:List Value):Prop:=
 ∃(H:Type) (enc:TypeId × Value->H) (n:Nat) (x:DataW H × List MemPlace),DataW.trod enc P W 0 (fun _=>true) true n t cs=some x/\Rows.uptoBulk x.1<=1048576
theorem Rdb.rdt {P:Program} {W:World} {t:TypeId} {cs:List Value} (h:Rdb P W t cs):Rdt P W t cs:=by
 obtain⟨H,enc,n,x,h1,_⟩:=h;exact⟨H,enc,n,x,h1⟩
theorem rdb_of_trod {H:Type} {enc:TypeId × Value->H} {P:Program} {W:World} {t:TypeId} {v:Value} {d:DataW H} {p:List MemPlace} (h:DataW.Trod enc P W 0 (fun _=>true) true t v d p) (hw:Rows.uptoBulk d<=1048576):Rdb P W t v.cells.toList:=by
 obtain⟨n,h⟩:=h;exact⟨H,enc,n,_,h,hw⟩
theorem Rdb.field {P:Program} {W:World} {t ft:TypeId} {cs:List Value} {i off:Nat} (h:Rdb P W t cs) (hf:fieldAt P t i=some (ft,off)):Rdb P W ft ((cs.drop off).take (P.cellsOf ft)):=by
 unfold fieldAt at hf;split at hf
 .rename_i fs hu;obtain⟨f,h1,h2⟩:=Yya.1 hf;cases h2;obtain⟨H,enc,n,x,h,hw⟩:=h;obtain⟨xs,m,_,hx,hl,hxl,hfi⟩:=DataW.trod_struct hu h;have hlt:i<xs.length:=by rw[hxl];exact (Yyg.1 h1).1
  refine⟨H,enc,m,xs[i],by rw[hfi i f h1,Yi hlt],?_⟩;rw[hx,Rows.uptoBulk] at hw;have:=bulk_part (l:=xs.map (·.1)) (d:=xs[i].1) (Yp.2 ⟨xs[i],List.getElem_mem hlt,rfl⟩);omega
 .cases hf
theorem Rdb.array {P:Program} {W:World} {t e:TypeId} {n:Nat} {cs:List Value} (ht:P.underlying t=some (.array n e)) (h:Rdb P W t cs) :
  cs.length=P.cellsOf t/\∀i,i<n->Rdb P W e ((cs.drop (i*P.cellsOf e)).take (P.cellsOf e)):=by
 obtain⟨H,enc,m,x,h,hw⟩:=h;obtain⟨xs,k,_,hx,hl,hxl,hf⟩:=DataW.trod_array ht h;refine⟨hl,fun i hi=>?_⟩;have hlt:i<xs.length:=by omega
 refine⟨H,enc,k,xs[i],by rw[hf i hi,Yi hlt],?_⟩;rw[hx,Rows.uptoBulk] at hw;have:=bulk_part (l:=xs.map (·.1)) (d:=xs[i].1) (Yp.2 ⟨xs[i],List.getElem_mem hlt,rfl⟩);omega
theorem Rdb.rows {P:Program} {W:World} {t e:TypeId} {cs:List Value} (ht:P.underlying t=some (.slice e)) (h:Rdb P W t cs) (hpos:0<P.cellsOf e) :
  ∃(s:Sl) (rows:List (List Value)),cs=[.slice s.a s.n s.c]/\s.n<=s.c/\s.n<=1048576/\(s.a=none->s.n=0/\s.c=0)/\Rw W.heap (P.cellsOf e) s rows/\∀r∈rows,r.length=P.cellsOf e/\Rdb P W e r:=by
 obtain⟨H,enc,n,x,h,hw⟩:=h;rcases DataW.trod_slice ht h with ⟨rfl,_⟩ | ⟨a,len,cap,elems,rest,m,_,rfl,hx,_,hlc,hcm,hel,helem,_,_⟩
 .exact⟨⟨none,0,0⟩,[],rfl,Yyt _,Nat.zero_le _,fun _=>⟨rfl,rfl⟩,Rw.nil,fun r hr=>by cases hr⟩
 .rw[hx,Rows.uptoBulk] at hw;have hle:len<=1048576:=by
   have:=bulk_len (elems.map (·.1));rw[Yc] at this;omega
  have hwe:∀(i:Nat) (hi:i<elems.length),Rows.uptoBulk elems[i].1<=1048576:=fun i hi=>by
   have:=bulk_part (l:=elems.map (·.1)) (d:=elems[i].1) (Yp.2 ⟨elems[i],List.getElem_mem hi,rfl⟩);omega
  by_cases h0:len=0
  .subst h0;exact⟨⟨some a,0,cap⟩,[],rfl,hlc,hle,fun e=>(by cases e),Rw.empty rfl,fun r hr=>by cases hr⟩
  .have hrow:∀i,i<len->∃r,W.cells? 0 (a.add (i*P.cellsOf e)) (P.cellsOf e)=some r/\Rdb P W e r:=by
    intro i hi;have h1:=helem i hi;rw[Yi (by omega)] at h1;obtain⟨r,hr,hx2⟩:=Option.bind_eq_some_iff.1 h1;exact⟨r,hr,H,enc,m,_,hx2,hwe i (by omega)⟩
   let row:Nat->List Value:=fun i=>(W.cells? 0 (a.add (i*P.cellsOf e)) (P.cellsOf e)).getD []
   have hrow':∀i,i<len->W.cells? 0 (a.add (i*P.cellsOf e)) (P.cellsOf e)=some (row i)/\Rdb P W e (row i):=fun i hi=>by
    obtain⟨r,hr,hx⟩:=hrow i hi;have:row i=r:=by show (W.cells? 0 _ _).getD []=r;rw[hr];rfl
    rw[this];exact⟨hr,hx⟩
   have hget:∀i,i<len->((List.range len).map row)[i]?=some (row i):=fun i hi=>by
    rw[Yd,Yyb hi];rfl
   have hspot:a=⟨a.block,a.off,none⟩:=by
    have hc:=(cells_at (hrow' 0 (by omega)).1);have hl0:0<(row 0).length:=by rw[hc.1];exact hpos
    have:=hc.2 0 _ (Yi hl0);rw[Nat.zero_mul,show (a.add 0).add 0=a from rfl] at this;unfold World.cell? at this;split at this
    .split at this
     .cases this
     .rename_i hs;cases a with
      | mk b o s=>
       cases s with
       | none=>rfl
       | some s=>exact absurd rfl hs
    .cases this
   refine⟨⟨some a,len,cap⟩,(List.range len).map row,rfl,hlc,hle,fun e=>(by cases e),⟨by simp,fun _=>⟨a.block,a.off,by rw[<-hspot],fun i r hi j v hj=>?_⟩⟩,fun r hr=>?_⟩
   .have hil:i<len:=by have:=(Ya.1 hi).1;simpa using this
    rw[hget i hil] at hi;cases hi;have h4:=(cells_at (hrow' i hil).1).2 _ _ hj;rw[hspot] at h4;have e:((⟨a.block,a.off,none⟩:Addr).add (i*P.cellsOf e)).add j=addk ⟨a.block,a.off+i*P.cellsOf e,none⟩ j:=by
     rw[addk_at,add_n,add_n]
    rw[e] at h4;exact h4
   .obtain⟨i,hi,rfl⟩:=Yp.1 hr;have:=hrow' i (List.mem_range.1 hi);exact⟨(cells_at this.1).1,this.2⟩
theorem Rdb.list {α:Type} {P:Program} {W:World} {t e:TypeId} {k:Nat} {v:Value} {cs:α->List Value} {Q:α->Prop} (ht:P.underlying t=some (.slice e)) (hk:P.cellsOf e=k) (hpos:0<k)
  (ho:∀r,Rdb P W e r->∃x,r=cs x/\Q x) (h:Rdb P W t [v]):∃(s:Sl) (L:List α),v=.slice s.a s.n s.c/\RL W.heap k s cs L/\∀x∈L,Q x:=by
 subst hk;obtain⟨s,rows,e1,hc,hm,hna,hrw,hr⟩:=h.rows ht hpos;have key:∀rows:List (List Value),(∀r∈rows,r.length=P.cellsOf e/\Rdb P W e r)->∃L:List α,rows=L.map cs/\∀x∈L,Q x:=by
  intro rows
  induction rows with
  | nil=>intro _;exact⟨[],rfl,fun x hx=>by cases hx⟩
  | cons r rows ih=>
   intro h;obtain⟨x,hx,hq⟩:=ho r (h r (by simp)).2;obtain⟨L,hL,hQ⟩:=ih fun y hy=>h y (Yn _ hy);exact⟨x::L,by rw[hx,hL];rfl,fun y hy=>by rcases Yr.1 hy with rfl | hy;exact hq;exact hQ y hy⟩
 obtain⟨L,rfl,hQ⟩:=key rows hr;have hn:=hrw.ln;exact⟨s,L,by simpa using e1,⟨hrw,hc,hna,by omega⟩,hQ⟩
theorem v3:Pz.underlying 3=some (.int .i64):=by kernel_rfl
theorem v4b:Pz.underlying 4=some .bool:=by kernel_rfl
theorem cz3:Pz.cellsOf 3=1:=by kernel_rfl
theorem cz4:Pz.cellsOf 4=1:=by kernel_rfl
theorem cz95:Pz.cellsOf 95=1:=by kernel_rfl
theorem cz96:Pz.cellsOf 96=1:=by kernel_rfl
theorem cz90:Pz.cellsOf 90=1:=by kernel_rfl
theorem cz98:Pz.cellsOf 98=6:=by kernel_rfl
theorem cz230:Pz.cellsOf 230=3:=by kernel_rfl
theorem cz110:Pz.cellsOf 110=6:=by kernel_rfl
theorem vs95:Pz.underlying 95=some (.slice 4):=by kernel_rfl
theorem vs96:Pz.underlying 96=some (.slice 110):=by kernel_rfl
theorem vs90:Pz.underlying 90=some (.slice 230):=by kernel_rfl
theorem Rdb.sl {P:Program} {W:World} {t e:TypeId} {cs:List Value} (ht:P.underlying t=some (.slice e)) (h:Rdb P W t cs):∃s:Sl,cs=[.slice s.a s.n s.c]:=by
 obtain⟨H,enc,n,x,h,_⟩:=h;rcases DataW.trod_slice ht h with ⟨rfl,_⟩ | ⟨a,len,cap,elems,rest,m,_,rfl,_⟩
 .exact⟨⟨none,0,0⟩,rfl⟩
 .exact⟨⟨some a,len,cap⟩,rfl⟩
theorem open_three {W:World} {t:TypeId} {r:List Value} (hc:Pz.cellsOf t=3) (h0:fieldAt Pz t 0=some (3,0)) (h1:fieldAt Pz t 1=some (3,1)) (h2:fieldAt Pz t 2=some (3,2)) (h:Rdt Pz W t r) :
  ∃a b c:Int,r=[.int .i64 a,.int .i64 b,.int .i64 c]:=by
 have hl:=h.flen h0;rw[hc] at hl
 match r,hl with
 | [x0,x1,x2],_=>
  have f0:=h.field h0;have f1:=h.field h1;have f2:=h.field h2;rw[cz3] at f0 f1 f2;obtain⟨k0,e0,_⟩:=f0.int v3;obtain⟨k1,e1,_⟩:=f1.int v3;obtain⟨k2,e2,_⟩:=f2.int v3;simp only[List.drop_zero,List.take_succ_cons,Yyk,List.drop_succ_cons,List.cons.injEq,and_true] at e0 e1 e2;subst e0 e1 e2;exact⟨k0,k1,k2,rfl⟩
theorem open_boolv {W:World} {r:List Value} (h:Rdb Pz W 4 r):∃x:Bool,r=bC x/\True:=by
 obtain⟨k,e⟩:=h.rdt.bool v4b;exact⟨k,e,trivial⟩
theorem open_limit {W:World} {r:List Value} (h:Rdb Pz W 230 r):∃x:To,r=x.cs/\True:=by
 obtain⟨a,b,c,e⟩:=open_three cz230 (by kernel_rfl) (by kernel_rfl) (by kernel_rfl) h.rdt;exact⟨⟨a,b,c⟩,e,trivial⟩
theorem open_move {W:World} {r:List Value} (h:Rdb Pz W 110 r):∃x:Mv,r=x.cs/\True:=by
 have hl:=h.rdt.flen (i:=0) (ft:=3) (off:=0) (by kernel_rfl);rw[cz110] at hl
 match r,hl with
 | [x0,x1,x2,x3,x4,x5],_=>
  have f0:=h.rdt.field (i:=0) (ft:=3) (off:=0) (by kernel_rfl);have f1:=h.rdt.field (i:=1) (ft:=4) (off:=1) (by kernel_rfl);have f2:=h.rdt.field (i:=2) (ft:=3) (off:=2) (by kernel_rfl);have f3:=h.rdt.field (i:=3) (ft:=3) (off:=3) (by kernel_rfl);have f4:=h.rdt.field (i:=4) (ft:=3) (off:=4) (by kernel_rfl);have f5:=h.rdt.field (i:=5) (ft:=4) (off:=5) (by kernel_rfl);rw[cz3] at f0 f2 f3 f4;rw[cz4] at f1 f5;obtain⟨k0,e0,_⟩:=f0.int v3;obtain⟨k1,e1⟩:=f1.bool v4b;obtain⟨k2,e2,_⟩:=f2.int v3;obtain⟨k3,e3,_⟩:=f3.int v3;obtain⟨k4,e4,_⟩:=f4.int v3;obtain⟨k5,e5⟩:=f5.bool v4b;simp only[List.drop_zero,List.take_succ_cons,Yyk,List.drop_succ_cons,List.cons.injEq,and_true] at e0 e1 e2 e3 e4 e5;subst e0 e1 e2 e3 e4 e5;exact⟨⟨k0,k1,k2,k3,k4,k5⟩,rfl,trivial⟩
theorem open_machine {W:World} {r:List Value} (h:Rdb Pz W 98 r):∃(m:Mch) (sf sm sl:Sl),r=mC m sf sm sl/\MI W.heap m sf sm sl:=by
 have hl:=h.rdt.flen (i:=0) (ft:=3) (off:=0) (by kernel_rfl);rw[cz98] at hl
 match r,hl with
 | [x0,x1,x2,x3,x4,x5],_=>
  have f0:=h.rdt.field (i:=0) (ft:=3) (off:=0) (by kernel_rfl);have f1:=h.rdt.field (i:=1) (ft:=3) (off:=1) (by kernel_rfl);have f2:=h.rdt.field (i:=2) (ft:=3) (off:=2) (by kernel_rfl);have f3:=h.field (i:=3) (ft:=95) (off:=3) (by kernel_rfl);have f4:=h.field (i:=4) (ft:=96) (off:=4) (by kernel_rfl);have f5:=h.field (i:=5) (ft:=90) (off:=5) (by kernel_rfl);rw[cz3] at f0 f1 f2;rw[cz95] at f3;rw[cz96] at f4;rw[cz90] at f5;obtain⟨k0,e0,_⟩:=f0.int v3;obtain⟨k1,e1,_⟩:=f1.int v3;obtain⟨k2,e2,_⟩:=f2.int v3;obtain⟨sf,lf,e3,hf,_⟩:=Rdb.list vs95 cz4 (by omega) (fun r hr=>open_boolv hr) (show Rdb Pz W 95 [x3] from f3);obtain⟨sm,lm,e4,hm,_⟩:=Rdb.list vs96 cz110 (by omega) (fun r hr=>open_move hr) (show Rdb Pz W 96 [x4] from f4);obtain⟨sl,ll,e5,hl,_⟩:=Rdb.list vs90 cz230 (by omega) (fun r hr=>open_limit hr) (show Rdb Pz W 90 [x5] from f5);simp only[List.drop_zero,List.take_succ_cons,Yyk,List.drop_succ_cons,List.cons.injEq,and_true] at e0 e1 e2;subst e0 e1 e2 e3 e4 e5;exact⟨⟨k0,k1,k2,lf,lm,ll⟩,sf,sm,sl,rfl,⟨hf,hm,hl⟩⟩
theorem cz5:Pz.cellsOf 5=1:=by kernel_rfl
theorem vsS54:Pz.underlying 54=some (.slice 5):=by kernel_rfl
theorem v5u:Pz.underlying 5=some (.int .u8):=by kernel_rfl
theorem vsS22:Pz.underlying 22=some (.slice 98):=by kernel_rfl
theorem vsS25:Pz.underlying 25=some (.slice 3):=by kernel_rfl
theorem vsS26:Pz.underlying 26=some (.slice 25):=by kernel_rfl
theorem vsS35:Pz.underlying 35=some (.slice 28):=by kernel_rfl
theorem v49:Pz.underlying 49=some (.array 2 5):=by kernel_rfl
theorem czS25:Pz.cellsOf 25=1:=by kernel_rfl
theorem czS26:Pz.cellsOf 26=1:=by kernel_rfl
theorem czS28:Pz.cellsOf 28=2:=by kernel_rfl
theorem czS35:Pz.cellsOf 35=1:=by kernel_rfl
theorem czS37:Pz.cellsOf 37=2:=by kernel_rfl
theorem czS49:Pz.cellsOf 49=2:=by kernel_rfl
theorem open_mr {W:World} {r:List Value} (h:Rdb Pz W 98 r):∃x:MR,r=x.cs/\MI W.heap x.m x.f x.g x.l:=by
 obtain⟨m,f,g,l,e,hm⟩:=open_machine h;exact⟨⟨m,f,g,l⟩,e,hm⟩
theorem open_sys {W:World} {v:Value} (h:Rdb Pz W 22 [v]):∃(s:Sl) (L:List MR),v=.slice s.a s.n s.c/\SyI W.heap s L:=by
 obtain⟨s,L,e,hr,hq⟩:=Rdb.list vsS22 cz98 (by omega) (fun r hr=>open_mr hr) h;exact⟨s,L,e,hr,hq⟩
theorem open_u8n {W:World} {r:List Value} (h:Rdb Pz W 5 r):∃x:Int,r=u8C x/\(0<=x/\x<256):=by
 obtain⟨n,e,hw⟩:=h.rdt.int v5u;have h3:(decide (IntKind.u8.min<=n)&&decide (n<=IntKind.u8.max))=true:=hw;rw[Yt] at h3;have h4:(0:Int)<=n:=Yyn h3.1;have h5:n<=(255:Int):=Yyn h3.2;exact⟨n,e,h4,by omega⟩
theorem open_u8s {W:World} {v:Value} (h:Rdb Pz W 54 [v]):∃(s:Sl) (L:List Int),v=.slice s.a s.n s.c/\(RL W.heap 1 s u8C L/\∀n∈L,0<=n/\n<256):=by
 obtain⟨s,L,e,hr,hb⟩:=Rdb.list vsS54 cz5 (by omega) (fun r hr=>open_u8n hr) h;exact⟨s,L,e,hr,hb⟩
theorem open_u8x2 {W:World} {r:List Value} (h:Rdb Pz W 49 r):∃a b:Int,r=[.int .u8 a,.int .u8 b]/\(0<=a/\a<256)/\(0<=b/\b<256):=by
 obtain⟨hl,hf⟩:=h.array v49;rw[czS49] at hl;rw[cz5] at hf
 match r,hl with
 | [x0,x1],_=>
  obtain⟨a,e0,h0⟩:=open_u8n (show Rdb Pz W 5 [x0] from hf 0 (by omega));obtain⟨b,e1,h1⟩:=open_u8n (show Rdb Pz W 5 [x1] from hf 1 (by omega));simp only[u8C,List.cons.injEq,and_true] at e0 e1;subst e0 e1;exact⟨a,b,rfl,h0,h1⟩
theorem open_intn {W:World} {r:List Value} (h:Rdb Pz W 3 r):∃x:Int,r=inC x/\True:=by
 obtain⟨n,e,_⟩:=h.rdt.int v3;exact⟨n,e,trivial⟩
theorem open_intl {W:World} {v:Value} (h:Rdb Pz W 25 [v]):∃(s:Sl) (L:List Int),v=.slice s.a s.n s.c/\RL W.heap 1 s inC L:=by
 obtain⟨s,L,e,hr,_⟩:=Rdb.list vsS25 cz3 (by omega) (fun r hr=>open_intn hr) h;exact⟨s,L,e,hr⟩
theorem open_box {W:World} {r:List Value} (h:Rdb Pz W 25 r):∃q:Bx,r=q.cs/\RL W.heap 1 q.s inC q.l:=by
 obtain⟨s,rfl⟩:=Rdb.sl vsS25 h;obtain⟨s',L,e,hr⟩:=open_intl h;exact⟨⟨s',L⟩,by rw[e];rfl,hr⟩
theorem open_config {W:World} {r:List Value} (h:Rdb Pz W 28 r):∃c:Cr,r=c.cs/\CfI W.heap c.c1 c.c2 c.S c.B:=by
 have hl:=h.rdt.flen (i:=0) (ft:=25) (off:=0) (by kernel_rfl);rw[czS28] at hl
 match r,hl with
 | [x0,x1],_=>
  have f0:=h.field (i:=0) (ft:=25) (off:=0) (by kernel_rfl);have f1:=h.field (i:=1) (ft:=26) (off:=1) (by kernel_rfl);rw[czS25] at f0;rw[czS26] at f1;obtain⟨ss,S,e0,hS⟩:=open_intl (show Rdb Pz W 25 [x0] from f0);obtain⟨sb,B,e1,hB,hB2⟩:=Rdb.list vsS26 czS25 (by omega) (fun r hr=>open_box hr) (show Rdb Pz W 26 [x1] from f1);subst e0 e1;exact⟨⟨ss,sb,S,B⟩,rfl,⟨hS,hB,hB2⟩⟩
theorem open_cert {W:World} {r:List Value} (h:Rdb Pz W 37 r):∃(k:Int) (cs:Sl) (C:List Cr),r=[.int .i64 k,.slice cs.a cs.n cs.c]/\CtI W.heap cs C:=by
 have hl:=h.rdt.flen (i:=0) (ft:=3) (off:=0) (by kernel_rfl);rw[czS37] at hl
 match r,hl with
 | [x0,x1],_=>
  have f0:=h.field (i:=0) (ft:=3) (off:=0) (by kernel_rfl);have f1:=h.field (i:=1) (ft:=35) (off:=1) (by kernel_rfl);rw[cz3] at f0;rw[czS35] at f1;obtain⟨k,e0,_⟩:=open_intn (show Rdb Pz W 3 [x0] from f0);obtain⟨cs,C,e1,hC,hC2⟩:=Rdb.list vsS35 czS28 (by omega) (fun r hr=>open_config hr) (show Rdb Pz W 35 [x1] from f1);simp only[inC,List.cons.injEq,and_true] at e0;subst e0 e1;exact⟨k,cs,C,rfl,⟨hC,hC2⟩⟩
/-! ### with their ranges -/
end Go.VC
end
