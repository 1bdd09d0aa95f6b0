/- FkH FkI FkArgs. -/
import Derived.Test.YtibmnldhlgcnjaaGreatDoorFM09
import Derived.Test.YtibmnldhlgcnjaaGreatDoorRows
set_option linter.all false
set_option maxRecDepth 100000
set_option maxHeartbeats 8000000

section
namespace Go.VC
open Go.Proofs Go.LexS Go.Maps
def mkO (o:RV × Int) (k:Int):(Int × List Cf) × Int:=if o.2≠0 then ((0,[]),o.2) else if o.1.v=2 then ((0,[]),23) else if o.1.v=3 then ((0,[]),6) else ((k,o.1.Q),0)
def MkR (o:(Int × List Cf) × Int) (h:Heap) (v:Value) (h':Heap):Prop:=∃(cs:Sl) (C:List Cr),v=.tuple ⟨[.agg ⟨[.int .i64 o.1.1,.slice cs.a cs.n cs.c]⟩,.int .i64 o.2]⟩/\Ext h h'/\CtI h' cs C/\C.map Cr.cf=o.1.2
theorem CtI.nil {h:Heap}:CtI h ⟨none,0,0⟩ []:=⟨⟨Rw.nil,Yyt _,fun _=>⟨rfl,rfl⟩,Nat.zero_le _⟩,fun c hc=>by cases hc⟩
theorem make11 (L:List MR) (s:Sl) (k lim:Int) (h:Heap) (hS:SyI h s L) :
  Fn Pz 11 #[.slice s.a s.n s.c,.int .i64 k,.int .i64 lim] h (MkR (mkO (expV (L.map MR.m) k lim) k) h):=by
 apply vc11 s k lim;unfold W11;refine (St.refl h).newb fun h1 hs=>?_;have e1:=explore13 L s k lim h1 (hS.ext hs.ext);generalize expV (L.map MR.m) k lim=o at e1 ⊢;refine e1.mono ?_;rintro _ h9 ⟨cf,mo,tr,A,rfl,hs1,hR⟩;have hs:=hs.join hs1;refine⟨_,cf,mo,_,tr,_,rfl,?_⟩;refine hs.newput (vs:=resA o.1.v cf mo o.1.k tr) rfl rfl fun h11 hs=>?_;refine sBn (fun c=>?_) (fun c=>?_);have e:mkO o k=((0,[]),o.2):=if_pos c;rw[e];refine hs.put 1 rfl (o:=0) (vs:=[.int .i64 0,.slice none 0 0]) rfl (show 2<=2 by decide) fun h12 hs=>?_;rotate_left;refine⟨o.1.v,hs.rd 0 rfl (i:=0) rfl,sBe (fun c2=>?_) (fun c2=>?_)⟩;have e:mkO o k=((0,[]),23):=by unfold mkO;rw[if_neg (fun h=>h c),if_pos c2]
 rw[e];refine hs.put 1 rfl (o:=0) (vs:=[.int .i64 0,.slice none 0 0]) rfl (show 2<=2 by decide) fun h12 hs=>?_;rotate_left;refine⟨o.1.v,hs.rd 0 rfl (i:=0) rfl,sBe (fun c3=>?_) (fun c3=>?_)⟩;have e:mkO o k=((0,[]),6):=by unfold mkO;rw[if_neg (fun h=>h c),if_neg c2,if_pos c3]
 rw[e];refine hs.put 1 rfl (o:=0) (vs:=[.int .i64 0,.slice none 0 0]) rfl (show 2<=2 by decide) fun h12 hs=>?_;rotate_left;have e:mkO o k=((k,o.1.Q),0):=by unfold mkO;rw[if_neg (fun h=>h c),if_neg c2,if_neg c3]
 rw[e];refine⟨cf,hs.rd 0 rfl (i:=1) rfl,?_⟩;refine hs.put 1 rfl (o:=0) (vs:=[.int .i64 k,.slice cf.a cf.n cf.c]) rfl (show 2<=2 by decide) fun h24 hs=>?_;have hRI:=hR.at hs (memP (P:=[_,_]));obtain⟨C,q1,q2,q3⟩:=hRI.c;exact⟨k,cf,hs.at 1 rfl (o:=0) (n:=2) rfl,cf,C,rfl,hs.ext,⟨q1,q2⟩,q3⟩;all_goals first | exact⟨0,⟨none,0,0⟩,hs.at 1 rfl (o:=0) (n:=2) rfl,⟨none,0,0⟩,[],rfl,hs.ext,CtI.nil,rfl⟩
theorem mk_safe {n:Nat} {Q:List Cf} {k:Int}:mkO ((Res.safe Q).rv n,0) k=((k,Q),0):=by
 rfl
theorem awakeC9 (h:Heap) (hx:Gx h):Fn Pz 9 #[] h fun v h'=>v=.bool true/\Ext h h':=by
 apply vc9;unfold W9;refine (example34 true h).mono ?_;rintro _ h10 ⟨E10,hr,hd,he,rfl,hg⟩;refine⟨_,hr,hd,_,_,_,he,⟨none,0,0⟩,rfl,?_⟩;refine (all43 (exGl true hr hd he ⟨none,0,0⟩) h10 hg (hx.ext E10) (ex_valid _ _ _ _ _) xL (hg.r.ln.symm) (by decide) (fun i m hi=>?_)).mono ?_
 .match i,hi with
  | 0,hi=>cases hi;exact⟨xproj _ _ _ _ _ _ _ (by decide) (by decide) (xr0_raw _ _ _ _) xm0_min,by decide,by decide,by decide⟩
  | 1,hi=>cases hi;exact⟨xproj _ _ _ _ _ _ _ (by decide) (by decide) (xm1_raw _ _ _ _) xm1_min,by decide,by decide,by decide⟩
  | 2,hi=>cases hi;exact⟨xproj _ _ _ _ _ _ _ (by decide) (by decide) (xm2_raw _ _ _ _) xm2_min,by decide,by decide,by decide⟩
  | n+3,hi=>exact absurd hi (by simp[xL])
 rintro _ h14 ⟨s,L,rfl,E14,hL,hS⟩;have E0:=E10.trans E14;refine⟨s,0,rfl,?_⟩;have e1:=make11 L s 1 1000 h14 hS;have hv:expV (L.map MR.m) 1 1000=(⟨1,xRes,mostS 3 xRes,0,[]⟩,0):=by
  rw[hL];unfold expV;rw[if_neg (fun h=>by rcases h with h | h | h;exact h xsys;all_goals omega),if_neg (by omega)];show ((exS xL 1 1000).rv 3,(0:Int))=_;rw[xsearch];rfl
 have hm:mkO (expV (L.map MR.m) 1 1000) 1=((1,xRes),0):=by
  rw[hv];exact mk_safe (n:=3)
 rw[hm] at e1;refine e1.mono ?_;rintro _ h19 ⟨cs,C,rfl,E19,hC,hQ⟩;have hQ:C.map Cr.cf=xRes:=hQ;have hCl:C.length=12:=by have:=congrArg List.length hQ;rw[Yc] at this;rw[this];exact xres_len
 have hcn:=hC.r.ln;have hS:=hS.ext E19;have E0:=E0.trans E19;refine⟨1,cs,0,rfl,?_⟩;refine (St.refl h19).newput (vs:=[.int .i64 1,.slice cs.a cs.n cs.c]) rfl rfl fun h21 hs=>?_;refine⟨1,cs,hs.at 0 rfl (o:=0) (n:=2) rfl,?_⟩;have e2:=check15 L C s cs 1 h21 (hS.ext hs.ext) (hC.ext hs.ext);rw[hQ,hL,safe_chk xsys (by decide) (by decide) (by decide) xsearch] at e2;refine e2.mono ?_;rintro _ h30 ⟨rfl,E30⟩;have hs:=hs.step E30;refine⟨0,0,0,0,0,rfl,?_⟩;refine hs.newput (vs:=fltC flt0) rfl rfl fun h32 hs=>?_;refine sB_f rfl (sB_f rfl (sB_f rfl ⟨0,hs.rd 0 rfl (i:=0) rfl,sB_f rfl ⟨cs,hs.rd 1 rfl (i:=1) rfl,sB_f (decide_eq_false (by omega)) ?_⟩⟩));refine⟨cs,hs.rd 1 rfl (i:=1) rfl,cs,hs.rd 1 rfl (i:=1) rfl,?_⟩;have hw:IntKind.wrap .i64 ((cs.n:Int)-1)=((11:Nat):Int):=by rw[w64 (by omega) (by omega)];omega
 have hcc:=hC.r.cap;rw[hw];refine⟨⟨by omega,by omega,by omega⟩,?_⟩;obtain⟨t,ht⟩:∃t:Sl,t=⟨subA cs.a (Int.toNat 0) cs.c 2,Int.toNat ((11:Nat):Int)-Int.toNat 0,cs.c-Int.toNat 0⟩:=⟨_,rfl⟩;have hT:∀ {h':Heap},Ext h19 h'->CtI h' t (C.take 11):=fun {h'} E=>⟨by rw[ht];exact (hC.ext E).r.cut0 11 (by omega),fun c hc=>(hC.ext E).i c (List.mem_of_mem_take hc)⟩;rw[show subA cs.a (Int.toNat 0) cs.c 2=t.a by rw[ht],show Int.toNat ((11:Nat):Int)-Int.toNat 0=t.n by rw[ht],show cs.c-Int.toNat 0=t.c by rw[ht]];refine hs.put 1 rfl (o:=1) (vs:=[.slice t.a t.n t.c]) rfl (show 1+1<=2 by decide) fun h37 hs=>?_;refine⟨1,t,hs.at 1 rfl (o:=0) (n:=2) rfl,?_⟩;have e3:=check15 L (C.take 11) s t 1 h37 (hS.ext hs.ext) (hT hs.ext);have hQ2:(C.take 11).map Cr.cf=xRes.take 11:=by rw[List.map_take,hQ]
 have hcut:=cut_chk xsys (by decide) (by decide) (by decide) xsearch (n:=11) (by decide) (by rw[xres_len];decide);rw[hQ2,hL] at e3;refine e3.mono ?_;rintro _ h46 ⟨rfl,E46⟩;have hs:=hs.step E46;generalize chkV xL 1 (xRes.take 11)=o at hcut ⊢;refine⟨_,_,_,_,_,rfl,?_⟩;refine hs.put 0 rfl (o:=0) (vs:=fltC o.1) rfl (show 4<=4 by decide) fun h47 hs=>?_;refine sBe (fun _=>⟨o.1.1,hs.rd 0 rfl (i:=0) rfl,by rw[hcut.2];rfl,E0.trans hs.ext⟩) (fun c=>absurd hcut.1 c)
theorem certifyMissing5 (L:List MR) (s:Sl) (C:List Cr) (cs:Sl) (k:Int) (D:List Int) (ds:Sl) (h:Heap) (hx:Gx h) (hS:SyI h s L) (hC:CtI h cs C) (hD:RL h 1 ds u8C D) (hDb:∀b∈D,0<=b/\b<256) :
  Fn Pz 5 #[.slice s.a s.n s.c,.agg ⟨[.int .i64 k,.slice cs.a cs.n cs.c]⟩,.slice ds.a ds.n ds.c] h fun v h'=>v=.bool true/\Ext h h':=by
 apply vc5 s k cs ds;unfold W5;have hcn:=hC.r.ln;have hcm:=hC.r.sm;refine (St.refl h).newb fun h3 hs=>?_;refine (awakeC9 h3 (hx.ext hs.ext)).mono ?_;rintro _ h6 ⟨rfl,E6⟩;have hs:=hs.step E6;refine⟨true,rfl,sB_f rfl ⟨k,cs,hs.at 0 rfl (o:=0) (n:=2) rfl,?_⟩⟩;refine (smallC16 L s C cs k h6 (hS.ext hs.ext) (hC.ext hs.ext)).mono ?_;rintro _ h11 ⟨b,rfl,hb,E11⟩;have hs:=hs.step E11;refine⟨b,rfl,sB_intro (fun c=>⟨rfl,hs.ext⟩) (fun c=>sB_intro (fun c2=>⟨rfl,hs.ext⟩) (fun c2=>?_))⟩;have h120:=hb (by cases b with | true=>rfl | false=>cases c);refine (refSys23 L s h11 (hS.ext hs.ext)).mono ?_;rintro _ h14 ⟨⟨b2,rfl,hb2⟩,E14⟩;have hs:=hs.step E14;refine⟨b2,rfl,sB_intro (fun c=>⟨rfl,hs.ext⟩) (fun c=>?_)⟩;have hV:=hb2.1 (by cases b2 with | true=>rfl | false=>cases c);refine⟨k,hs.rd 0 rfl (i:=0) rfl,sBi (fun _=>⟨rfl,hs.ext⟩) (fun k1=>⟨k,hs.rd 0 rfl (i:=0) rfl,sBi (fun _=>⟨rfl,hs.ext⟩) (fun k2=>⟨k,hs.rd 0 rfl (i:=0) rfl,?_⟩)⟩)⟩;have hk:1<=k/\k<=4:=⟨by omega,by omega⟩;refine (walk26 L s k D ds h14 (hS.ext hs.ext) hV hk (hD.ext hs.ext) hDb).mono ?_;rintro _ h22 ⟨out,ts,tb,S,T,l,A,rfl,hsA,hM,hPr,-,hrun,-⟩;have hT:=hM.cfi hsA;have hs:=hs.step hsA.ext;refine⟨out,ts,tb,rfl,?_⟩;have hold:atC h22 ⟨h.size,0,none⟩ [.int .i64 k,.slice cs.a cs.n cs.c]:=hs.at 0 rfl (o:=0) (n:=2) rfl;have E0:=hs.ext;have hS:=hS.ext E0;have hC:=hC.ext E0;clear hs hsA hM;refine (St.refl h22).newput (vs:=[.slice ts.a ts.n ts.c,.slice tb.a tb.n tb.c]) rfl rfl fun h24 hs=>?_;refine⟨k,(atC_ext hs.ext hold).hd,?_⟩;refine hs.newput (vs:=[.int .i64 k,.slice none 0 0]) rfl rfl fun h27 hs=>?_;refine⟨cs,(atC_ext hs.ext hold).nth 1 rfl,?_⟩;have hs:=hs.nil_ 52 2;obtain⟨P,hP⟩:∃P:Cr->Bool,P=fun c=>decide (c.cf≠(S,T.map Bx.l)):=⟨_,rfl⟩;refine⟨fun x h' μ=>∃(i:Nat) (o:Sl),x=(i:Int)/\μ=C.length-i/\i<=C.length/\St h22 h' [.sl o 52 2 (((C.take i).filter P).map Cr.cs),.blk h24.size [.int .i64 k,.slice o.a o.n o.c] 31,.blk h22.size [.slice ts.a ts.n ts.c,.slice tb.a tb.n tb.c] 28],⟨_,0,⟨none,0,0⟩,rfl,rfl,Nat.zero_le _,by rw[Yyk];exact hs⟩,?_⟩;clear hs;rintro-_ h33 μ ⟨i,o,rfl,rfl,hi,hs⟩;have hon:=(hs.rows 0 (s:=o) (cs:=Cr.cs) rfl (by omega)).ln;have hfl:((C.take i).filter P).length<=120:=Yys (List.length_filter_le _ _) (by rw[Yu];omega);refine sBi (fun c1=>?_) (fun c1=>?_)
 .obtain⟨d,gd⟩:=get_some (l:=C) (i:=i) (by omega);have hdm:=Yb gd;refine⟨cs,(atC_ext hs.ext hold).nth 1 rfl,?_⟩;refine (hC.r.rw.ext hs.ext).nbI (by omega) (by omega) fun b8 o9 d' gd' t=>?_;rw[Ys] at gd';replace gd':C[i]?=some d':=gd';rw[gd] at gd';cases gd';refine⟨d.c1,d.c2,t,ts,tb,hs.at 2 rfl (o:=0) (n:=2) rfl,?_⟩;refine (sameC19 d.c1 d.c2 ts tb d.S S d.B T h33 ((hC.ext hs.ext).i d hdm) (hT.ext hs.ext)).mono ?_;rintro _ h43 ⟨⟨b3,rfl,hb3⟩,E43⟩;have hs:=hs.step E43;refine⟨b3,rfl,sB_intro (fun c2=>?_) (fun c2=>?_)⟩
  .have hne:d.cf≠(S,T.map Bx.l):=fun e=>by rw[hb3.2 ⟨congrArg Prod.fst e,congrArg Prod.snd e⟩] at c2;cases c2
   have hp:P d=true:=by rw[hP];exact decide_eq_true hne
   refine⟨o,hs.rd 1 rfl (i:=1) rfl,cs,(atC_ext hs.ext hold).nth 1 rfl,?_⟩;clear t;refine (hC.r.rw.ext hs.ext).nbI (by omega) (by omega) fun b8 o9 d' gd' t=>?_;rw[Ys] at gd';replace gd':C[i]?=some d':=gd';rw[gd] at gd';cases gd';refine⟨d.c1,d.c2,t,?_⟩;refine VC.newb fun h50 E50 o50=>?_;have hs:=hs.more E50 (i:=.blk h43.size (Cr.cs d) 52) o50 fun b hb=>by cases hb;exact Yyt _
   refine⟨E50.sm,?_⟩;refine hs.appended 1 (s:=o) (n:=2) (rows:=((C.take i).filter P).map Cr.cs) rfl app29 (m:=1) (news:=[Cr.cs d]) (hs.at 0 rfl (n:=2) rfl) rfl (fun r hr=>by rw[Ye] at hr;rw[hr];rfl) rfl (by omega) (by simp only[maxLen];omega) fun r2 h52 nr hs=>?_;refine hs.put 2 rfl (o:=1) (vs:=[.slice r2.a r2.n r2.c]) rfl (show 1+1<=2 by decide) fun h53 hs=>?_;refine⟨_,(show C.length-(i+1)<C.length-i by omega),i+1,r2,by rw[w64 (by omega) (by omega)];omega,rfl,by omega,?_⟩;rw[take_snoc gd,List.filter_append,List.filter_cons_of_pos hp,List.filter_nil,Ym];exact hs.drop 1
  .have hb4:=hb3.1 (by cases b3 with | true=>rfl | false=>cases c2);have he:d.cf=(S,T.map Bx.l):=Prod.ext hb4.1 hb4.2;have hp:¬P d=true:=by rw[hP];exact fun h=>Yyn h he
   refine⟨_,(show C.length-(i+1)<C.length-i by omega),i+1,o,by rw[w64 (by omega) (by omega)];omega,rfl,by omega,?_⟩;rw[take_snoc gd,List.filter_append,List.filter_cons_of_neg hp,List.filter_nil,Yw];exact hs
 .have hil:i=C.length:=by omega
  subst hil;rw[Yye] at hs;obtain⟨F,hF⟩:∃F,F=C.filter P:=⟨_,rfl⟩;rw[<-hF] at hs;have hFm:∀c∈F,c∈C/\c.cf≠(S,T.map Bx.l):=fun c hc=>by
   rw[hF,List.mem_filter,hP] at hc;exact⟨hc.1,Yyn hc.2⟩
  have hFl:F.length<=C.length:=by rw[hF];exact List.length_filter_le _ _
  refine⟨k,o,hs.at 1 rfl (o:=0) (n:=2) rfl,?_⟩;have hCF:CtI h33 o F:=⟨hs.rl 0 rfl (by omega) (by omega),fun c hc=>(hC.ext hs.ext).i c (hFm c hc).1⟩;have hcc:(chkV (L.map MR.m) k (F.map Cr.cf)).2=23/\1<=(chkV (L.map MR.m) k (F.map Cr.cf)).1.1/\(chkV (L.map MR.m) k (F.map Cr.cf)).1.1<=5:=by
   rcases chk_cases (k:=k) (Q:=F.map Cr.cf) hV with h | ⟨-,hp⟩
   .exact h
   .have hm:=right_mem hp rfl hrun;obtain⟨c,hc,e⟩:=Yp.1 hm;exact absurd e (hFm c hc).2
  have e1:=check15 L F s o k h33 (hS.ext hs.ext) hCF;generalize chkV (L.map MR.m) k (F.map Cr.cf)=o2 at hcc e1;refine e1.mono ?_;rintro _ h64 ⟨rfl,E64⟩;have hs:=hs.step E64;refine⟨_,_,_,_,_,rfl,?_⟩;refine hs.newput (vs:=fltC o2.1) rfl rfl fun h66 hs=>?_;exact sBe (fun _=>⟨o2.1.1,hs.rd 0 rfl (i:=0) rfl,sBi (fun _=>⟨o2.1.1,hs.rd 0 rfl (i:=0) rfl,by rw[decide_eq_true hcc.2.2],E0.trans hs.ext⟩) (fun c=>absurd hcc.2.1 c)⟩) (fun c=>absurd hcc.1 c)
end Go.VC
end

section
namespace Go.VC
open Go.Proofs Go.LexS Go.RowKit Go.ChangeShapes Go.WideShapes Go.Proofs.YtibmnldhlgcnjaaGreatDoor
theorem bulk_pos {H:Type} (d:DataW H):1<=Rows.uptoBulk d:=by
 cases d with
 | lit l=>cases l<;>simp[Rows.uptoBulk]
 | _=>simp[Rows.uptoBulk]
theorem bulk_part {H:Type}:∀ {l:List (DataW H)} {d:DataW H},d∈l->Rows.uptoBulk d<=Rows.uptoBulkAll l
 | [],_,h=>by cases h
 | x::r,d,h=>by
  rw[Rows.uptoBulkAll];rcases Yr.1 h with rfl | h
  .omega
  .have:=bulk_part h;omega
theorem bulk_len {H:Type}:∀l:List (DataW H),l.length<=Rows.uptoBulkAll l
 | []=>by simp
 | x::r=>by
  have h1:=bulk_pos x;have h2:=bulk_len r;rw[Rows.uptoBulkAll,Yyj];omega
def Rdb (P:Program) (W:World) (t:TypeId) (cs:List Value):Prop:=
 ∃(H:Type) (enc:TypeId × Value->H) (n:Nat) (x:DataW H × List MemPlace),DataW.trod enc P W 0 (fun _=>true) true n t cs=some x/\Rows.uptoBulk x.1<=1048576
theorem Rdb.rdt {P:Program} {W:World} {t:TypeId} {cs:List Value} (h:Rdb P W t cs):Rdt P W t cs:=by
 obtain⟨H,enc,n,x,h1,_⟩:=h;exact⟨H,enc,n,x,h1⟩
theorem rdb_of_trod {H:Type} {enc:TypeId × Value->H} {P:Program} {W:World} {t:TypeId} {v:Value} {d:DataW H} {p:List MemPlace} (h:DataW.Trod enc P W 0 (fun _=>true) true t v d p) (hw:Rows.uptoBulk d<=1048576):Rdb P W t v.cells.toList:=by
 obtain⟨n,h⟩:=h;exact⟨H,enc,n,_,h,hw⟩
theorem Rdb.field {P:Program} {W:World} {t ft:TypeId} {cs:List Value} {i off:Nat} (h:Rdb P W t cs) (hf:fieldAt P t i=some (ft,off)):Rdb P W ft ((cs.drop off).take (P.cellsOf ft)):=by
 unfold fieldAt at hf;split at hf
 .rename_i fs hu;obtain⟨f,h1,h2⟩:=Yya.1 hf;cases h2;obtain⟨H,enc,n,x,h,hw⟩:=h;obtain⟨xs,m,_,hx,hl,hxl,hfi⟩:=DataW.trod_struct hu h;have hlt:i<xs.length:=by rw[hxl];exact (Yyg.1 h1).1
  refine⟨H,enc,m,xs[i],by rw[hfi i f h1,Yi hlt],?_⟩;rw[hx,Rows.uptoBulk] at hw;have:=bulk_part (l:=xs.map (·.1)) (d:=xs[i].1) (Yp.2 ⟨xs[i],List.getElem_mem hlt,rfl⟩);omega
 .cases hf
theorem Rdb.array {P:Program} {W:World} {t e:TypeId} {n:Nat} {cs:List Value} (ht:P.underlying t=some (.array n e)) (h:Rdb P W t cs) :
  cs.length=P.cellsOf t/\∀i,i<n->Rdb P W e ((cs.drop (i*P.cellsOf e)).take (P.cellsOf e)):=by
 obtain⟨H,enc,m,x,h,hw⟩:=h;obtain⟨xs,k,_,hx,hl,hxl,hf⟩:=DataW.trod_array ht h;refine⟨hl,fun i hi=>?_⟩;have hlt:i<xs.length:=by omega
 refine⟨H,enc,k,xs[i],by rw[hf i hi,Yi hlt],?_⟩;rw[hx,Rows.uptoBulk] at hw;have:=bulk_part (l:=xs.map (·.1)) (d:=xs[i].1) (Yp.2 ⟨xs[i],List.getElem_mem hlt,rfl⟩);omega
theorem Rdb.rows {P:Program} {W:World} {t e:TypeId} {cs:List Value} (ht:P.underlying t=some (.slice e)) (h:Rdb P W t cs) (hpos:0<P.cellsOf e) :
  ∃(s:Sl) (rows:List (List Value)),cs=[.slice s.a s.n s.c]/\s.n<=s.c/\s.n<=1048576/\(s.a=none->s.n=0/\s.c=0)/\Rw W.heap (P.cellsOf e) s rows/\∀r∈rows,r.length=P.cellsOf e/\Rdb P W e r:=by
 obtain⟨H,enc,n,x,h,hw⟩:=h;rcases DataW.trod_slice ht h with ⟨rfl,_⟩ | ⟨a,len,cap,elems,rest,m,_,rfl,hx,_,hlc,hcm,hel,helem,_,_⟩
 .exact⟨⟨none,0,0⟩,[],rfl,Yyt _,Nat.zero_le _,fun _=>⟨rfl,rfl⟩,Rw.nil,fun r hr=>by cases hr⟩
 .rw[hx,Rows.uptoBulk] at hw;have hle:len<=1048576:=by
   have:=bulk_len (elems.map (·.1));rw[Yc] at this;omega
  have hwe:∀(i:Nat) (hi:i<elems.length),Rows.uptoBulk elems[i].1<=1048576:=fun i hi=>by
   have:=bulk_part (l:=elems.map (·.1)) (d:=elems[i].1) (Yp.2 ⟨elems[i],List.getElem_mem hi,rfl⟩);omega
  by_cases h0:len=0
  .subst h0;exact⟨⟨some a,0,cap⟩,[],rfl,hlc,hle,fun e=>(by cases e),Rw.empty rfl,fun r hr=>by cases hr⟩
  .have hrow:∀i,i<len->∃r,W.cells? 0 (a.add (i*P.cellsOf e)) (P.cellsOf e)=some r/\Rdb P W e r:=by
    intro i hi;have h1:=helem i hi;rw[Yi (by omega)] at h1;obtain⟨r,hr,hx2⟩:=Option.bind_eq_some_iff.1 h1;exact⟨r,hr,H,enc,m,_,hx2,hwe i (by omega)⟩
   let row:Nat->List Value:=fun i=>(W.cells? 0 (a.add (i*P.cellsOf e)) (P.cellsOf e)).getD []
   have hrow':∀i,i<len->W.cells? 0 (a.add (i*P.cellsOf e)) (P.cellsOf e)=some (row i)/\Rdb P W e (row i):=fun i hi=>by
    obtain⟨r,hr,hx⟩:=hrow i hi;have:row i=r:=by show (W.cells? 0 _ _).getD []=r;rw[hr];rfl
    rw[this];exact⟨hr,hx⟩
   have hget:∀i,i<len->((List.range len).map row)[i]?=some (row i):=fun i hi=>by
    rw[Yd,Yyb hi];rfl
   have hspot:a=⟨a.block,a.off,none⟩:=by
    have hc:=(cells_at (hrow' 0 (by omega)).1);have hl0:0<(row 0).length:=by rw[hc.1];exact hpos
    have:=hc.2 0 _ (Yi hl0);rw[Nat.zero_mul,show (a.add 0).add 0=a from rfl] at this;unfold World.cell? at this;split at this
    .split at this
     .cases this
     .rename_i hs;cases a with
      | mk b o s=>
       cases s with
       | none=>rfl
       | some s=>exact absurd rfl hs
    .cases this
   refine⟨⟨some a,len,cap⟩,(List.range len).map row,rfl,hlc,hle,fun e=>(by cases e),⟨by simp,fun _=>⟨a.block,a.off,by rw[<-hspot],fun i r hi j v hj=>?_⟩⟩,fun r hr=>?_⟩
   .have hil:i<len:=by have:=(Ya.1 hi).1;simpa using this
    rw[hget i hil] at hi;cases hi;have h4:=(cells_at (hrow' i hil).1).2 _ _ hj;rw[hspot] at h4;have e:((⟨a.block,a.off,none⟩:Addr).add (i*P.cellsOf e)).add j=addk ⟨a.block,a.off+i*P.cellsOf e,none⟩ j:=by
     rw[addk_at,add_n,add_n]
    rw[e] at h4;exact h4
   .obtain⟨i,hi,rfl⟩:=Yp.1 hr;have:=hrow' i (List.mem_range.1 hi);exact⟨(cells_at this.1).1,this.2⟩
theorem Rdb.list {α:Type} {P:Program} {W:World} {t e:TypeId} {k:Nat} {v:Value} {cs:α->List Value} {Q:α->Prop} (ht:P.underlying t=some (.slice e)) (hk:P.cellsOf e=k) (hpos:0<k)
  (ho:∀r,Rdb P W e r->∃x,r=cs x/\Q x) (h:Rdb P W t [v]):∃(s:Sl) (L:List α),v=.slice s.a s.n s.c/\RL W.heap k s cs L/\∀x∈L,Q x:=by
 subst hk;obtain⟨s,rows,e1,hc,hm,hna,hrw,hr⟩:=h.rows ht hpos;have key:∀rows:List (List Value),(∀r∈rows,r.length=P.cellsOf e/\Rdb P W e r)->∃L:List α,rows=L.map cs/\∀x∈L,Q x:=by
  intro rows
  induction rows with
  | nil=>intro _;exact⟨[],rfl,fun x hx=>by cases hx⟩
  | cons r rows ih=>
   intro h;obtain⟨x,hx,hq⟩:=ho r (h r (by simp)).2;obtain⟨L,hL,hQ⟩:=ih fun y hy=>h y (Yn _ hy);exact⟨x::L,by rw[hx,hL];rfl,fun y hy=>by rcases Yr.1 hy with rfl | hy;exact hq;exact hQ y hy⟩
 obtain⟨L,rfl,hQ⟩:=key rows hr;have hn:=hrw.ln;exact⟨s,L,by simpa using e1,⟨hrw,hc,hna,by omega⟩,hQ⟩
theorem v3:Pz.underlying 3=some (.int .i64):=by kernel_rfl
theorem v4b:Pz.underlying 4=some .bool:=by kernel_rfl
theorem cz3:Pz.cellsOf 3=1:=by kernel_rfl
theorem cz4:Pz.cellsOf 4=1:=by kernel_rfl
theorem cz95:Pz.cellsOf 95=1:=by kernel_rfl
theorem cz96:Pz.cellsOf 96=1:=by kernel_rfl
theorem cz90:Pz.cellsOf 90=1:=by kernel_rfl
theorem cz98:Pz.cellsOf 98=6:=by kernel_rfl
theorem cz230:Pz.cellsOf 230=3:=by kernel_rfl
theorem cz110:Pz.cellsOf 110=6:=by kernel_rfl
theorem vs95:Pz.underlying 95=some (.slice 4):=by kernel_rfl
theorem vs96:Pz.underlying 96=some (.slice 110):=by kernel_rfl
theorem vs90:Pz.underlying 90=some (.slice 230):=by kernel_rfl
theorem Rdb.sl {P:Program} {W:World} {t e:TypeId} {cs:List Value} (ht:P.underlying t=some (.slice e)) (h:Rdb P W t cs):∃s:Sl,cs=[.slice s.a s.n s.c]:=by
 obtain⟨H,enc,n,x,h,_⟩:=h;rcases DataW.trod_slice ht h with ⟨rfl,_⟩ | ⟨a,len,cap,elems,rest,m,_,rfl,_⟩
 .exact⟨⟨none,0,0⟩,rfl⟩
 .exact⟨⟨some a,len,cap⟩,rfl⟩
theorem open_three {W:World} {t:TypeId} {r:List Value} (hc:Pz.cellsOf t=3) (h0:fieldAt Pz t 0=some (3,0)) (h1:fieldAt Pz t 1=some (3,1)) (h2:fieldAt Pz t 2=some (3,2)) (h:Rdt Pz W t r) :
  ∃a b c:Int,r=[.int .i64 a,.int .i64 b,.int .i64 c]:=by
 have hl:=h.flen h0;rw[hc] at hl
 match r,hl with
 | [x0,x1,x2],_=>
  have f0:=h.field h0;have f1:=h.field h1;have f2:=h.field h2;rw[cz3] at f0 f1 f2;obtain⟨k0,e0,_⟩:=f0.int v3;obtain⟨k1,e1,_⟩:=f1.int v3;obtain⟨k2,e2,_⟩:=f2.int v3;simp only[List.drop_zero,List.take_succ_cons,Yyk,List.drop_succ_cons,List.cons.injEq,and_true] at e0 e1 e2;subst e0 e1 e2;exact⟨k0,k1,k2,rfl⟩
theorem open_boolv {W:World} {r:List Value} (h:Rdb Pz W 4 r):∃x:Bool,r=bC x/\True:=by
 obtain⟨k,e⟩:=h.rdt.bool v4b;exact⟨k,e,trivial⟩
theorem open_limit {W:World} {r:List Value} (h:Rdb Pz W 230 r):∃x:To,r=x.cs/\True:=by
 obtain⟨a,b,c,e⟩:=open_three cz230 (by kernel_rfl) (by kernel_rfl) (by kernel_rfl) h.rdt;exact⟨⟨a,b,c⟩,e,trivial⟩
theorem open_move {W:World} {r:List Value} (h:Rdb Pz W 110 r):∃x:Mv,r=x.cs/\True:=by
 have hl:=h.rdt.flen (i:=0) (ft:=3) (off:=0) (by kernel_rfl);rw[cz110] at hl
 match r,hl with
 | [x0,x1,x2,x3,x4,x5],_=>
  have f0:=h.rdt.field (i:=0) (ft:=3) (off:=0) (by kernel_rfl);have f1:=h.rdt.field (i:=1) (ft:=4) (off:=1) (by kernel_rfl);have f2:=h.rdt.field (i:=2) (ft:=3) (off:=2) (by kernel_rfl);have f3:=h.rdt.field (i:=3) (ft:=3) (off:=3) (by kernel_rfl);have f4:=h.rdt.field (i:=4) (ft:=3) (off:=4) (by kernel_rfl);have f5:=h.rdt.field (i:=5) (ft:=4) (off:=5) (by kernel_rfl);rw[cz3] at f0 f2 f3 f4;rw[cz4] at f1 f5;obtain⟨k0,e0,_⟩:=f0.int v3;obtain⟨k1,e1⟩:=f1.bool v4b;obtain⟨k2,e2,_⟩:=f2.int v3;obtain⟨k3,e3,_⟩:=f3.int v3;obtain⟨k4,e4,_⟩:=f4.int v3;obtain⟨k5,e5⟩:=f5.bool v4b;simp only[List.drop_zero,List.take_succ_cons,Yyk,List.drop_succ_cons,List.cons.injEq,and_true] at e0 e1 e2 e3 e4 e5;subst e0 e1 e2 e3 e4 e5;exact⟨⟨k0,k1,k2,k3,k4,k5⟩,rfl,trivial⟩
theorem open_machine {W:World} {r:List Value} (h:Rdb Pz W 98 r):∃(m:Mch) (sf sm sl:Sl),r=mC m sf sm sl/\MI W.heap m sf sm sl:=by
 have hl:=h.rdt.flen (i:=0) (ft:=3) (off:=0) (by kernel_rfl);rw[cz98] at hl
 match r,hl with
 | [x0,x1,x2,x3,x4,x5],_=>
  have f0:=h.rdt.field (i:=0) (ft:=3) (off:=0) (by kernel_rfl);have f1:=h.rdt.field (i:=1) (ft:=3) (off:=1) (by kernel_rfl);have f2:=h.rdt.field (i:=2) (ft:=3) (off:=2) (by kernel_rfl);have f3:=h.field (i:=3) (ft:=95) (off:=3) (by kernel_rfl);have f4:=h.field (i:=4) (ft:=96) (off:=4) (by kernel_rfl);have f5:=h.field (i:=5) (ft:=90) (off:=5) (by kernel_rfl);rw[cz3] at f0 f1 f2;rw[cz95] at f3;rw[cz96] at f4;rw[cz90] at f5;obtain⟨k0,e0,_⟩:=f0.int v3;obtain⟨k1,e1,_⟩:=f1.int v3;obtain⟨k2,e2,_⟩:=f2.int v3;obtain⟨sf,lf,e3,hf,_⟩:=Rdb.list vs95 cz4 (by omega) (fun r hr=>open_boolv hr) (show Rdb Pz W 95 [x3] from f3);obtain⟨sm,lm,e4,hm,_⟩:=Rdb.list vs96 cz110 (by omega) (fun r hr=>open_move hr) (show Rdb Pz W 96 [x4] from f4);obtain⟨sl,ll,e5,hl,_⟩:=Rdb.list vs90 cz230 (by omega) (fun r hr=>open_limit hr) (show Rdb Pz W 90 [x5] from f5);simp only[List.drop_zero,List.take_succ_cons,Yyk,List.drop_succ_cons,List.cons.injEq,and_true] at e0 e1 e2;subst e0 e1 e2 e3 e4 e5;exact⟨⟨k0,k1,k2,lf,lm,ll⟩,sf,sm,sl,rfl,⟨hf,hm,hl⟩⟩
theorem cz5:Pz.cellsOf 5=1:=by kernel_rfl
theorem vsS54:Pz.underlying 54=some (.slice 5):=by kernel_rfl
theorem v5u:Pz.underlying 5=some (.int .u8):=by kernel_rfl
theorem vsS22:Pz.underlying 22=some (.slice 98):=by kernel_rfl
theorem vsS25:Pz.underlying 25=some (.slice 3):=by kernel_rfl
theorem vsS26:Pz.underlying 26=some (.slice 25):=by kernel_rfl
theorem vsS35:Pz.underlying 35=some (.slice 28):=by kernel_rfl
theorem v49:Pz.underlying 49=some (.array 2 5):=by kernel_rfl
theorem czS25:Pz.cellsOf 25=1:=by kernel_rfl
theorem czS26:Pz.cellsOf 26=1:=by kernel_rfl
theorem czS28:Pz.cellsOf 28=2:=by kernel_rfl
theorem czS35:Pz.cellsOf 35=1:=by kernel_rfl
theorem czS37:Pz.cellsOf 37=2:=by kernel_rfl
theorem czS49:Pz.cellsOf 49=2:=by kernel_rfl
theorem open_mr {W:World} {r:List Value} (h:Rdb Pz W 98 r):∃x:MR,r=x.cs/\MI W.heap x.m x.f x.g x.l:=by
 obtain⟨m,f,g,l,e,hm⟩:=open_machine h;exact⟨⟨m,f,g,l⟩,e,hm⟩
theorem open_sys {W:World} {v:Value} (h:Rdb Pz W 22 [v]):∃(s:Sl) (L:List MR),v=.slice s.a s.n s.c/\SyI W.heap s L:=by
 obtain⟨s,L,e,hr,hq⟩:=Rdb.list vsS22 cz98 (by omega) (fun r hr=>open_mr hr) h;exact⟨s,L,e,hr,hq⟩
theorem open_u8n {W:World} {r:List Value} (h:Rdb Pz W 5 r):∃x:Int,r=u8C x/\(0<=x/\x<256):=by
 obtain⟨n,e,hw⟩:=h.rdt.int v5u;have h3:(decide (IntKind.u8.min<=n)&&decide (n<=IntKind.u8.max))=true:=hw;rw[Yt] at h3;have h4:(0:Int)<=n:=Yyn h3.1;have h5:n<=(255:Int):=Yyn h3.2;exact⟨n,e,h4,by omega⟩
theorem open_u8s {W:World} {v:Value} (h:Rdb Pz W 54 [v]):∃(s:Sl) (L:List Int),v=.slice s.a s.n s.c/\(RL W.heap 1 s u8C L/\∀n∈L,0<=n/\n<256):=by
 obtain⟨s,L,e,hr,hb⟩:=Rdb.list vsS54 cz5 (by omega) (fun r hr=>open_u8n hr) h;exact⟨s,L,e,hr,hb⟩
theorem open_u8x2 {W:World} {r:List Value} (h:Rdb Pz W 49 r):∃a b:Int,r=[.int .u8 a,.int .u8 b]/\(0<=a/\a<256)/\(0<=b/\b<256):=by
 obtain⟨hl,hf⟩:=h.array v49;rw[czS49] at hl;rw[cz5] at hf
 match r,hl with
 | [x0,x1],_=>
  obtain⟨a,e0,h0⟩:=open_u8n (show Rdb Pz W 5 [x0] from hf 0 (by omega));obtain⟨b,e1,h1⟩:=open_u8n (show Rdb Pz W 5 [x1] from hf 1 (by omega));simp only[u8C,List.cons.injEq,and_true] at e0 e1;subst e0 e1;exact⟨a,b,rfl,h0,h1⟩
theorem open_intn {W:World} {r:List Value} (h:Rdb Pz W 3 r):∃x:Int,r=inC x/\True:=by
 obtain⟨n,e,_⟩:=h.rdt.int v3;exact⟨n,e,trivial⟩
theorem open_intl {W:World} {v:Value} (h:Rdb Pz W 25 [v]):∃(s:Sl) (L:List Int),v=.slice s.a s.n s.c/\RL W.heap 1 s inC L:=by
 obtain⟨s,L,e,hr,_⟩:=Rdb.list vsS25 cz3 (by omega) (fun r hr=>open_intn hr) h;exact⟨s,L,e,hr⟩
theorem open_box {W:World} {r:List Value} (h:Rdb Pz W 25 r):∃q:Bx,r=q.cs/\RL W.heap 1 q.s inC q.l:=by
 obtain⟨s,rfl⟩:=Rdb.sl vsS25 h;obtain⟨s',L,e,hr⟩:=open_intl h;exact⟨⟨s',L⟩,by rw[e];rfl,hr⟩
theorem open_config {W:World} {r:List Value} (h:Rdb Pz W 28 r):∃c:Cr,r=c.cs/\CfI W.heap c.c1 c.c2 c.S c.B:=by
 have hl:=h.rdt.flen (i:=0) (ft:=25) (off:=0) (by kernel_rfl);rw[czS28] at hl
 match r,hl with
 | [x0,x1],_=>
  have f0:=h.field (i:=0) (ft:=25) (off:=0) (by kernel_rfl);have f1:=h.field (i:=1) (ft:=26) (off:=1) (by kernel_rfl);rw[czS25] at f0;rw[czS26] at f1;obtain⟨ss,S,e0,hS⟩:=open_intl (show Rdb Pz W 25 [x0] from f0);obtain⟨sb,B,e1,hB,hB2⟩:=Rdb.list vsS26 czS25 (by omega) (fun r hr=>open_box hr) (show Rdb Pz W 26 [x1] from f1);subst e0 e1;exact⟨⟨ss,sb,S,B⟩,rfl,⟨hS,hB,hB2⟩⟩
theorem open_cert {W:World} {r:List Value} (h:Rdb Pz W 37 r):∃(k:Int) (cs:Sl) (C:List Cr),r=[.int .i64 k,.slice cs.a cs.n cs.c]/\CtI W.heap cs C:=by
 have hl:=h.rdt.flen (i:=0) (ft:=3) (off:=0) (by kernel_rfl);rw[czS37] at hl
 match r,hl with
 | [x0,x1],_=>
  have f0:=h.field (i:=0) (ft:=3) (off:=0) (by kernel_rfl);have f1:=h.field (i:=1) (ft:=35) (off:=1) (by kernel_rfl);rw[cz3] at f0;rw[czS35] at f1;obtain⟨k,e0,_⟩:=open_intn (show Rdb Pz W 3 [x0] from f0);obtain⟨cs,C,e1,hC,hC2⟩:=Rdb.list vsS35 czS28 (by omega) (fun r hr=>open_config hr) (show Rdb Pz W 35 [x1] from f1);simp only[inC,List.cons.injEq,and_true] at e0;subst e0 e1;exact⟨k,cs,C,rfl,⟨hC,hC2⟩⟩
/-! ### with their ranges -/
end Go.VC
end
