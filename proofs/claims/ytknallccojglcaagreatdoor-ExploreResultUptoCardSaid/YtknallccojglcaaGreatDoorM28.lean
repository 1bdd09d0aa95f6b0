/- KeO KeR0 KwVeF KeR KwArgs. -/
import Derived.Test.YtknallccojglcaaGreatDoorM27
import Derived.Test.YtknallccojglcaaGreatDoorRows
set_option linter.unusedVariables false
set_option linter.unusedSimpArgs false
set_option maxRecDepth 100000

section
namespace Go.VC
open Go.Proofs Go.LexS
def cstP (n:Nat) (k:Int) (S:List Int) (BL:List (List Int)) (p:Nat) (m:Mch):List Nat:=(List.range m.mv.length).filter (posB n k S BL p m)
def cstS (L:List Mch) (k:Int) (c:Cf):List (Nat × Nat):=(List.range L.length).flatMap fun p=>match L[p]? with
 | some m=>(cstP L.length k c.1 c.2 p m).map fun i=>(p,i)
 | none=>[]
def cstB (L:List Mch) (k:Int) (c:Cf):Bool:=(List.range L.length).all fun p=>match L[p]? with
 | some m=>decide ((cstP L.length k c.1 c.2 p m).Pairwise fun a b=>¬evLt (evI m b) (evI m a))
 | none=>true
theorem cst_eq {L:List Mch} {k:Int} {c:Cf} (hV:SysV L) (h:cstB L k c=true):stepsS L k c.1 c.2=cstS L k c:=by
 unfold stepsS cstS;rw[List.flatMap_def,List.flatMap_def];congr 1;refine List.map_congr_left fun p hp=>?_;unfold stepsR;unfold cstB at h;rw[List.all_eq_true] at h;have hp1:=h p hp;cases gm:L[p]? with
 | none=>rfl
 | some m=>
  rw[gm] at hp1;dsimp only at hp1 ⊢;rw[stepsP_of (hV.m p m gm).2.1.d rfl (Yyn hp1)];rfl
def cexp (m:Mch) (s peer label:Int):Bool:=m.mv.any fun x=>decide (x.f=s)&&(!x.send&&(decide (x.peer=peer)&&decide (x.label=label)))
theorem cexp_ok {m:Mch} {s peer label:Int} (h:cexp m s peer label=true):ExpM m s peer label:=by
 unfold cexp at h;rw[List.any_eq_true] at h;obtain⟨x,hx,h⟩:=h;simp only[Yt,decide_eq_true_eq,Bool.not_eq_true'] at h;exact⟨s,.base (Ye.2 rfl),x,hx,h.1,⟨h.2.1,h.2.2.1⟩,h.2.2.2⟩
def cbox (L:List Mch) (c:Cf):Bool:=(List.range c.2.length).all fun i=>match c.2[i]? with
 | some (b::_)=>match L[i%L.length]?,c.1[i%L.length]? with
  | some m,some s=>cexp m s ((i/L.length:Nat):Int) b
  | _,_=>true
 | _=>true
def cfin (L:List Mch) (c:Cf):Bool:=((List.range c.1.length).all fun p=>match c.1[p]?,L[p]? with
 | some s,some m=>decide (m.fin[s.toNat]?=some true)
 | _,_=>true)&&c.2.all fun b=>b.isEmpty
def cok (L:List Mch) (k:Int) (c:Cf):Bool:=cstB L k c&&(cbox L c&&(!(cstS L k c).isEmpty||cfin L c))
theorem cok_ok {L:List Mch} {k:Int} {c:Cf} (hV:SysV L) (h:cok L k c=true):badS L k c.1 c.2=0/\stepsS L k c.1 c.2=cstS L k c:=by
 unfold cok at h;simp only[Yt] at h;obtain⟨h1,h2,h3⟩:=h;have hst:=cst_eq hV h1;refine⟨badS_0 ?_ ?_,hst⟩
 ·rintro⟨i,b,l,m,s,g1,g2,g3,g4⟩;unfold cbox at h2;rw[List.all_eq_true] at h2;have:=h2 i (List.mem_range.2 (Ya.1 g1).1);rw[g1] at this;dsimp only at this;rw[g2,g3] at this;exact g4 (cexp_ok this)
 ·rw[Bool.or_eq_true] at h3;rcases h3 with h3 | h3
  ·refine .inr fun h=>?_;rw[<-hst,h] at h3;cases h3
  ·refine .inl ?_;unfold cfin at h3;rw[Yt,List.all_eq_true,List.all_eq_true] at h3;refine⟨fun p s m g1 g2=>?_,fun b hb=>List.isEmpty_iff.1 (h3.2 b hb)⟩;have:=h3.1 p (List.mem_range.2 (Ya.1 g1).1);rw[g1,g2] at this;exact Yyn this
def exC (L:List Mch) (k:Int) (lim:Nat):Nat->Nat->List Qe->Option (List Cf)
 | 0,_,_=>none
 | f+1,i,Q=>match Q[i]? with
  | none=>some (Q.map Prod.fst)
  | some e=>if cok L k e.1=true then match exI L lim e (cstS L k e.1) Q with
   | none=>none
   | some Q'=>exC L k lim f (i+1) Q'
   else none
theorem exC_eq {L:List Mch} {k:Int} {lim:Nat} (hV:SysV L):∀(f i:Nat) (Q:List Qe) (R:List Cf),exC L k lim f i Q=some R->exO L k lim f i Q=.safe R
 | 0,_,_,_,h=>by cases h
 | f+1,i,Q,R,h=>by
  rw[exC] at h;rw[exO];cases hq:Q[i]? with
  | none=>rw[hq] at h;cases h;rfl
  | some e=>
   rw[hq] at h;dsimp only at h ⊢;split at h
   ·rename_i hc;obtain⟨h1,h2⟩:=cok_ok hV hc;rw[if_neg (fun hn=>hn h1),h2];cases hi:exI L lim e (cstS L k e.1) Q with
    | none=>rw[hi] at h;cases h
    | some Q'=>rw[hi] at h;exact exC_eq hV f (i+1) Q' R h
   ·cases h
theorem exC_mono {L:List Mch} {k:Int} {lim:Nat}:∀(f i:Nat) (Q:List Qe) (R:List Cf),exC L k lim f i Q=some R->exC L k lim (f+1) i Q=some R
 | 0,_,_,_,h=>by cases h
 | f+1,i,Q,R,h=>by
  rw[exC] at h;rw[exC];cases hq:Q[i]? with
  | none=>rw[hq] at h;exact h
  | some e=>
   rw[hq] at h;dsimp only at h ⊢;split at h
   ·rename_i hc;rw[if_pos hc];cases hi:exI L lim e (cstS L k e.1) Q with
    | none=>rw[hi] at h;cases h
    | some Q'=>rw[hi] at h;exact exC_mono f (i+1) Q' R h
   ·cases h
theorem exC_more {L:List Mch} {k:Int} {lim:Nat} (f i:Nat) (Q:List Qe) (R:List Cf) (h:exC L k lim f i Q=some R):∀d,exC L k lim (f+d) i Q=some R
 | 0=>h
 | d+1=>exC_mono _ _ _ _ (exC_more f i Q R h d)
def xRes:List Cf:=((exC xL 1 1000 20 0 (q0 xL)).getD [])
theorem xres_eq:exC xL 1 1000 20 0 (q0 xL)=some xRes:=by kernel_rfl
theorem xres_len:xRes.length=12:=by kernel_rfl
theorem xres_most:mostS 3 xRes=[0,1,0,0,0,1,0,1,0]:=by kernel_rfl
theorem xsearch:exS xL 1 1000=.safe xRes:=exC_eq xsys _ _ _ _ (exC_more 20 0 (q0 xL) xRes xres_eq 981)
theorem awake11 (h:Heap) (hx:Gx h):Fn Pz 11 #[] h fun v h'=>v=.bool true/\Ext h h':=by
 apply vc11;unfold W11;refine (example34 true h).mono ?_;rintro _ h10 ⟨E10,hr,hd,he,rfl,hg⟩;refine⟨_,hr,hd,_,_,_,he,⟨none,0,0⟩,rfl,?_⟩;refine (all43 (exGl true hr hd he ⟨none,0,0⟩) h10 hg (hx.ext E10) (ex_valid _ _ _ _ _) xL (hg.r.ln.symm) (by decide) (fun i m hi=>?_)).mono ?_
 ·match i,hi with
  | 0,hi=>cases hi;exact⟨xproj _ _ _ _ _ _ _ (by decide) (by decide) (xr0_raw _ _ _ _) xm0_min,by decide,by decide,by decide⟩
  | 1,hi=>cases hi;exact⟨xproj _ _ _ _ _ _ _ (by decide) (by decide) (xm1_raw _ _ _ _) xm1_min,by decide,by decide,by decide⟩
  | 2,hi=>cases hi;exact⟨xproj _ _ _ _ _ _ _ (by decide) (by decide) (xm2_raw _ _ _ _) xm2_min,by decide,by decide,by decide⟩
  | n+3,hi=>exact absurd hi (by simp[xL])
 rintro _ h14 ⟨s,L,rfl,E14,hL,hS⟩;have E0:=E10.trans E14;refine⟨s,0,rfl,?_⟩;refine (explore13 L s 1 1000 h14 hS).mono ?_;rw[hL];have hv:expV xL 1 1000=(⟨1,xRes,mostS 3 xRes,0,[]⟩,0):=by
  unfold expV;rw[if_neg (fun h=>by rcases h with h | h | h;exact h xsys;all_goals omega),if_neg (by omega)];show ((exS xL 1 1000).rv 3,(0:Int))=_;rw[xsearch];rfl
 rw[hv];rintro _ h22 ⟨cf,mo,tr,A,rfl,hs,hR⟩;refine⟨_,cf,mo,_,tr,_,rfl,?_⟩;refine hs.newput (vs:=resA 1 cf mo 0 tr) rfl rfl fun h24 hs=>?_;have hI:=hR.at hs mem1;obtain⟨C,hc1,hc2,hc3⟩:=hI.c;have hcl:C.length=12:=by have:=congrArg List.length hc3;rw[Yc] at this;rw[this];exact xres_len
 have hcn:=hc1.ln;have hm:=hI.m;rw[show (RV.mk 1 xRes (mostS 3 xRes) 0 []).m=[0,1,0,0,0,1,0,1,0] from xres_most] at hm;have hmn:mo.n=9:=hm.ln;refine sB_t rfl (sB_t rfl ⟨1,hs.rd 0 rfl (i:=0) rfl,sB_t rfl ⟨cf,hs.rd 0 rfl (i:=1) rfl,sB_t (by rw[hcn,hcl];rfl) ⟨mo,hs.rd 0 rfl (i:=2) rfl,sB_t (by rw[hmn];rfl) ⟨mo,hs.rd 0 rfl (i:=2) rfl,?_⟩⟩⟩⟩);refine hm.rw.nbI (by omega) (by omega) fun b o q gq t=>?_;cases gq;exact⟨1,t.hd,rfl,E0.trans hs.ext⟩
set_option maxHeartbeats 1600000 in
theorem same15 (r:RV) (c1 m1 t1 c2 m2 t2:Sl) (h:Heap) (h1:ResI h c1 m1 t1 r) (h2:ResI h c2 m2 t2 r) :
  Fn Pz 15 #[.agg ⟨resA r.v c1 m1 r.k t1⟩,.agg ⟨resA r.v c2 m2 r.k t2⟩] h fun v h'=>v=.bool true/\Ext h h':=by
 apply vc15 r.v c1 m1 r.k t1 r.v c2 m2 r.k t2;unfold W15;obtain⟨C1,k1,k2,k3⟩:=h1.c;obtain⟨C2,q1,q2,q3⟩:=h2.c;have n1:=k1.ln;have n2:=q1.ln;have hl:C1.length=C2.length:=by
  have:=congrArg List.length (k3.trans q3.symm)
  rwa [Yc,Yc] at this
 have n3:=h1.t.ln;have n4:=h2.t.ln;have s1:=k1.sm;have s2:=h1.t.sm;refine (St.refl h).newb fun h11 hs=>?_;refine hs.newb fun h12 hs=>?_;refine⟨r.v,hs.rd 1 rfl (i:=0) rfl,r.v,hs.rd 0 rfl (i:=0) rfl,sBn (fun c=>absurd rfl c) (fun _=>?_)⟩;refine⟨r.k,hs.rd 1 rfl (i:=3) rfl,r.k,hs.rd 0 rfl (i:=3) rfl,sBn (fun c=>absurd rfl c) (fun _=>?_)⟩;refine⟨c1,hs.rd 1 rfl (i:=1) rfl,c2,hs.rd 0 rfl (i:=1) rfl,sBn (fun c=>absurd (show (c1.n:Int)=c2.n by omega) c) (fun _=>?_)⟩;refine⟨m1,hs.rd 1 rfl (i:=2) rfl,m2,hs.rd 0 rfl (i:=2) rfl,?_⟩;refine (same34 r.m r.m m1 m2 h12 (h1.m.ext hs.ext) (h2.m.ext hs.ext)).mono ?_;rintro _ h23 ⟨⟨b,rfl,hb⟩,E⟩;have hs:=hs.step E;refine⟨b,rfl,sB_f (by rw[hb.2 rfl];rfl) ?_⟩;refine⟨t1,hs.rd 1 rfl (i:=4) rfl,t2,hs.rd 0 rfl (i:=4) rfl,sBn (fun c=>absurd (show (t1.n:Int)=t2.n by omega) c) (fun _=>?_)⟩;refine⟨c1,hs.rd 1 rfl (i:=1) rfl,?_⟩;refine up_loopS (n:=c1.n) hs (fun _=>True) trivial ?_;rintro-i h31 hi ⟨hs,-⟩;refine sB_intro (fun c=>?_) (fun c=>?_)
 ·replace c:=lt_t c;obtain⟨d1,g1⟩:=get_some (l:=C1) (i:=i) (by omega);obtain⟨d2,g2⟩:=get_some (l:=C2) (i:=i) (by omega);refine⟨c1,hs.rd 1 rfl (i:=1) rfl,?_⟩;refine (k1.rw.ext hs.ext).nbI (by omega) (by omega) fun b33 o34 d gd t=>?_;replace gd:C1[i]?=some d:=gd;rw[g1] at gd;cases gd;refine⟨d1.c1,d1.c2,t,c2,hs.rd 0 rfl (i:=1) rfl,?_⟩;refine (q1.rw.ext hs.ext).nbI (by omega) (by omega) fun b38 o39 d gd t2=>?_;replace gd:C2[i]?=some d:=gd;rw[g2] at gd;cases gd;refine⟨d2.c1,d2.c2,t2,?_⟩;refine (sameC19 d1.c1 d1.c2 d2.c1 d2.c2 d1.S d2.S d1.B d2.B h31 ((k2 d1 (Yb g1)).ext hs.ext) ((q2 d2 (Yb g2)).ext hs.ext)).mono ?_;rintro _ h44 ⟨⟨b,rfl,hb⟩,E⟩;have he:d1.cf=d2.cf:=by
   have e1:(C1.map Cr.cf)[i]?=some d1.cf:=by rw[Yd,g1];rfl
   have e2:(C2.map Cr.cf)[i]?=some d2.cf:=by rw[Yd,g2];rfl
   rw[k3] at e1;rw[q3] at e2;rw[e1] at e2;exact Yyp e2
  refine⟨b,rfl,sB_f (by rw[hb.2 ⟨congrArg Prod.fst he,congrArg Prod.snd he⟩];rfl) (Up.next c (by omega) ⟨hs.step E,trivial⟩)⟩
 ·refine⟨t1,hs.rd 1 rfl (i:=4) rfl,?_⟩;refine up_loopS (n:=t1.n) hs (fun _=>True) trivial ?_;rintro-j h51 hj ⟨hs,-⟩;refine sB_intro (fun c=>?_) (fun c=>⟨rfl,hs.ext⟩);replace c:=lt_t c;obtain⟨⟨a,b⟩,g1⟩:=get_some (l:=r.t) (i:=j) (by omega);refine⟨t1,hs.rd 1 rfl (i:=4) rfl,?_⟩;refine (h1.t.rw.ext hs.ext).nbI (by omega) (by omega) fun b53 o54 z gz t=>?_;replace gz:r.t[j]?=some z:=gz;rw[g1] at gz;cases gz;refine⟨(a:Int),(b:Int),t,t2,hs.rd 0 rfl (i:=4) rfl,?_⟩;refine (h2.t.rw.ext hs.ext).nbI (by omega) (by omega) fun b58 o59 z gz t2=>?_;replace gz:r.t[j]?=some z:=gz;rw[g1] at gz;cases gz;refine⟨(a:Int),(b:Int),t2,sB_f (by simp) (Up.next c (by omega) ⟨hs,trivial⟩)⟩
theorem exploreResult3 (L:List MR) (s:Sl) (k lim:Int) (h:Heap) (hx:Gx h) (hS:SyI h s L) :
  Fn Pz 3 #[.slice s.a s.n s.c,.int .i64 k,.int .i64 lim] h fun v h'=>v=.bool true/\Ext h h':=by
 apply vc3 s k lim;unfold W3 V3a;refine (awake11 h hx).mono ?_;rintro _ h3 ⟨rfl,E3⟩;refine⟨true,rfl,sB_f rfl ?_⟩;refine (fewC13 L s ⟨none,0,0⟩ ⟨none,0,0⟩ [] [] h3 (hS.ext E3) CfI.none_).mono ?_;rintro _ h6 ⟨⟨b,rfl,hb⟩,E⟩;have E:=E3.trans E;refine⟨b,rfl,sB_intro (fun c=>⟨rfl,E⟩) (fun c=>?_)⟩;have e1:=explore13 L s k lim h6 (hS.ext E);have e2:=fun h' (E:Ext h h')=>explore14 L s k lim h' (hS.ext E);generalize expV (L.map MR.m) k lim=o at *;refine sBi (fun c1=>sBi (fun c2=>⟨rfl,E⟩) (fun c2=>?_)) (fun c1=>?_);all_goals
  refine e1.mono ?_;rintro _ h14 ⟨cf,mo,tr,A,rfl,hs,hR⟩;refine⟨_,cf,mo,_,tr,_,rfl,?_⟩;refine hs.newput (vs:=resA o.1.v cf mo o.1.k tr) rfl rfl fun h16 hs=>?_;refine (e2 h16 (E.trans hs.ext)).mono ?_;rintro _ h24 ⟨cf2,mo2,tr2,A2,rfl,hs2,hR2⟩;have hs:=hs.join hs2;refine⟨_,cf2,mo2,_,tr2,_,rfl,?_⟩;refine hs.newput (vs:=resA o.1.v cf2 mo2 o.1.k tr2) rfl rfl fun h26 hs=>sB_t (by simp) ?_;refine⟨_,cf,mo,_,tr,hs.at 1 rfl (o:=0) (n:=5) rfl,_,cf2,mo2,_,tr2,hs.at 0 rfl (o:=0) (n:=5) rfl,?_⟩;refine (same15 o.1 cf mo tr cf2 mo2 tr2 h26 (hR.at hs fun i hi=>Yn _ (List.mem_append_left _ (Yn _ hi))) (hR2.at hs fun i hi=>Yn _ (List.mem_append_right _ hi))).mono ?_;rintro _ h39 ⟨rfl,E39⟩;exact⟨true,rfl,rfl,E.trans (hs.ext.trans E39)⟩

end Go.VC
end

section
namespace Go.VC
open Go.Proofs

end Go.VC
end

section
namespace Go.VC
open Go.Proofs Go.LexS

end Go.VC
end

section
namespace Go.VC
open Go.Proofs Go.LexS Go.RowKit Go.ChangeShapes Go.WideShapes Go.Proofs.YtknallccojglcaaGreatDoor
theorem bulk_pos {H:Type} (d:DataW H):1<=Rows.uptoBulk d:=by
 cases d with
 | lit l=>cases l<;>simp[Rows.uptoBulk]
 | _=>simp[Rows.uptoBulk]
theorem bulk_part {H:Type}:∀ {l:List (DataW H)} {d:DataW H},d∈l->Rows.uptoBulk d<=Rows.uptoBulkAll l
 | [],_,h=>by cases h
 | x::r,d,h=>by
  rw[Rows.uptoBulkAll];rcases Yr.1 h with rfl | h
  ·omega
  ·have:=bulk_part h;omega
theorem bulk_len {H:Type}:∀l:List (DataW H),l.length<=Rows.uptoBulkAll l
 | []=>by simp
 | x::r=>by
  have h1:=bulk_pos x;have h2:=bulk_len r;rw[Rows.uptoBulkAll,Yyj];omega
def Rdb (P:Program) (W:World) (t:TypeId) (cs:List Value):Prop:=
 ∃(H:Type) (enc:TypeId × Value->H) (n:Nat) (x:DataW H × List MemPlace),DataW.trod enc P W 0 (fun _=>true) true n t cs=some x/\Rows.uptoBulk x.1<=1048576
theorem Rdb.rdt {P:Program} {W:World} {t:TypeId} {cs:List Value} (h:Rdb P W t cs):Rdt P W t cs:=by
 obtain⟨H,enc,n,x,h1,_⟩:=h;exact⟨H,enc,n,x,h1⟩
theorem rdb_of_trod {H:Type} {enc:TypeId × Value->H} {P:Program} {W:World} {t:TypeId} {v:Value} {d:DataW H} {p:List MemPlace} (h:DataW.Trod enc P W 0 (fun _=>true) true t v d p) (hw:Rows.uptoBulk d<=1048576):Rdb P W t v.cells.toList:=by
 obtain⟨n,h⟩:=h;exact⟨H,enc,n,_,h,hw⟩
theorem Rdb.field {P:Program} {W:World} {t ft:TypeId} {cs:List Value} {i off:Nat} (h:Rdb P W t cs) (hf:fieldAt P t i=some (ft,off)):Rdb P W ft ((cs.drop off).take (P.cellsOf ft)):=by
 unfold fieldAt at hf;split at hf
 ·rename_i fs hu;obtain⟨f,h1,h2⟩:=Yya.1 hf;cases h2;obtain⟨H,enc,n,x,h,hw⟩:=h;obtain⟨xs,m,_,hx,hl,hxl,hfi⟩:=DataW.trod_struct hu h;have hlt:i<xs.length:=by rw[hxl];exact (Yyg.1 h1).1
  refine⟨H,enc,m,xs[i],by rw[hfi i f h1,Yi hlt],?_⟩;rw[hx,Rows.uptoBulk] at hw;have:=bulk_part (l:=xs.map (·.1)) (d:=xs[i].1) (Yp.2 ⟨xs[i],List.getElem_mem hlt,rfl⟩);omega
 ·cases hf
theorem Rdb.rows {P:Program} {W:World} {t e:TypeId} {cs:List Value} (ht:P.underlying t=some (.slice e)) (h:Rdb P W t cs) (hpos:0<P.cellsOf e) :
  ∃(s:Sl) (rows:List (List Value)),cs=[.slice s.a s.n s.c]/\s.n<=s.c/\s.n<=1048576/\(s.a=none->s.n=0/\s.c=0)/\Rw W.heap (P.cellsOf e) s rows/\∀r∈rows,r.length=P.cellsOf e/\Rdb P W e r:=by
 obtain⟨H,enc,n,x,h,hw⟩:=h;rcases DataW.trod_slice ht h with ⟨rfl,_⟩ | ⟨a,len,cap,elems,rest,m,_,rfl,hx,_,hlc,hcm,hel,helem,_,_⟩
 ·exact⟨⟨none,0,0⟩,[],rfl,Yyt _,Nat.zero_le _,fun _=>⟨rfl,rfl⟩,Rw.nil,fun r hr=>by cases hr⟩
 ·rw[hx,Rows.uptoBulk] at hw;have hle:len<=1048576:=by
   have:=bulk_len (elems.map (·.1));rw[Yc] at this;omega
  have hwe:∀(i:Nat) (hi:i<elems.length),Rows.uptoBulk elems[i].1<=1048576:=fun i hi=>by
   have:=bulk_part (l:=elems.map (·.1)) (d:=elems[i].1) (Yp.2 ⟨elems[i],List.getElem_mem hi,rfl⟩);omega
  by_cases h0:len=0
  ·subst h0;exact⟨⟨some a,0,cap⟩,[],rfl,hlc,hle,fun e=>(by cases e),Rw.empty rfl,fun r hr=>by cases hr⟩
  ·have hrow:∀i,i<len->∃r,W.cells? 0 (a.add (i*P.cellsOf e)) (P.cellsOf e)=some r/\Rdb P W e r:=by
    intro i hi;have h1:=helem i hi;rw[Yi (by omega)] at h1;obtain⟨r,hr,hx2⟩:=Option.bind_eq_some_iff.1 h1;exact⟨r,hr,H,enc,m,_,hx2,hwe i (by omega)⟩
   let row:Nat->List Value:=fun i=>(W.cells? 0 (a.add (i*P.cellsOf e)) (P.cellsOf e)).getD []
   have hrow':∀i,i<len->W.cells? 0 (a.add (i*P.cellsOf e)) (P.cellsOf e)=some (row i)/\Rdb P W e (row i):=fun i hi=>by
    obtain⟨r,hr,hx⟩:=hrow i hi;have:row i=r:=by show (W.cells? 0 _ _).getD []=r;rw[hr];rfl
    rw[this];exact⟨hr,hx⟩
   have hget:∀i,i<len->((List.range len).map row)[i]?=some (row i):=fun i hi=>by
    rw[Yd,Yyb hi];rfl
   have hspot:a=⟨a.block,a.off,none⟩:=by
    have hc:=(cells_at (hrow' 0 (by omega)).1);have hl0:0<(row 0).length:=by rw[hc.1];exact hpos
    have:=hc.2 0 _ (Yi hl0);rw[Nat.zero_mul,show (a.add 0).add 0=a from rfl] at this;unfold World.cell? at this;split at this
    ·split at this
     ·cases this
     ·rename_i hs;cases a with
      | mk b o s=>
       cases s with
       | none=>rfl
       | some s=>exact absurd rfl hs
    ·cases this
   refine⟨⟨some a,len,cap⟩,(List.range len).map row,rfl,hlc,hle,fun e=>(by cases e),⟨by simp,fun _=>⟨a.block,a.off,by rw[<-hspot],fun i r hi j v hj=>?_⟩⟩,fun r hr=>?_⟩
   ·have hil:i<len:=by have:=(Ya.1 hi).1;simpa using this
    rw[hget i hil] at hi;cases hi;have h4:=(cells_at (hrow' i hil).1).2 _ _ hj;rw[hspot] at h4;have e:((⟨a.block,a.off,none⟩:Addr).add (i*P.cellsOf e)).add j=addk ⟨a.block,a.off+i*P.cellsOf e,none⟩ j:=by
     rw[addk_at,add_n,add_n]
    rw[e] at h4;exact h4
   ·obtain⟨i,hi,rfl⟩:=Yp.1 hr;have:=hrow' i (List.mem_range.1 hi);exact⟨(cells_at this.1).1,this.2⟩
theorem Rdb.list {α:Type} {P:Program} {W:World} {t e:TypeId} {k:Nat} {v:Value} {cs:α->List Value} {Q:α->Prop} (ht:P.underlying t=some (.slice e)) (hk:P.cellsOf e=k) (hpos:0<k)
  (ho:∀r,Rdb P W e r->∃x,r=cs x/\Q x) (h:Rdb P W t [v]):∃(s:Sl) (L:List α),v=.slice s.a s.n s.c/\RL W.heap k s cs L/\∀x∈L,Q x:=by
 subst hk;obtain⟨s,rows,e1,hc,hm,hna,hrw,hr⟩:=h.rows ht hpos;have key:∀rows:List (List Value),(∀r∈rows,r.length=P.cellsOf e/\Rdb P W e r)->∃L:List α,rows=L.map cs/\∀x∈L,Q x:=by
  intro rows
  induction rows with
  | nil=>intro _;exact⟨[],rfl,fun x hx=>by cases hx⟩
  | cons r rows ih=>
   intro h;obtain⟨x,hx,hq⟩:=ho r (h r (by simp)).2;obtain⟨L,hL,hQ⟩:=ih fun y hy=>h y (Yn _ hy);exact⟨x::L,by rw[hx,hL];rfl,fun y hy=>by rcases Yr.1 hy with rfl | hy;exact hq;exact hQ y hy⟩
 obtain⟨L,rfl,hQ⟩:=key rows hr;have hn:=hrw.ln;exact⟨s,L,by simpa using e1,⟨hrw,hc,hna,by omega⟩,hQ⟩
theorem v3:Pz.underlying 3=some (.int .i64):=by kernel_rfl
theorem v4b:Pz.underlying 4=some .bool:=by kernel_rfl
theorem cz3:Pz.cellsOf 3=1:=by kernel_rfl
theorem cz4:Pz.cellsOf 4=1:=by kernel_rfl
theorem cz85:Pz.cellsOf 85=1:=by kernel_rfl
theorem cz86:Pz.cellsOf 86=1:=by kernel_rfl
theorem cz75:Pz.cellsOf 75=1:=by kernel_rfl
theorem cz88:Pz.cellsOf 88=6:=by kernel_rfl
theorem cz199:Pz.cellsOf 199=3:=by kernel_rfl
theorem cz116:Pz.cellsOf 116=6:=by kernel_rfl
theorem vs85:Pz.underlying 85=some (.slice 4):=by kernel_rfl
theorem vs86:Pz.underlying 86=some (.slice 116):=by kernel_rfl
theorem vs75:Pz.underlying 75=some (.slice 199):=by kernel_rfl
theorem open_three {W:World} {t:TypeId} {r:List Value} (hc:Pz.cellsOf t=3) (h0:fieldAt Pz t 0=some (3,0)) (h1:fieldAt Pz t 1=some (3,1)) (h2:fieldAt Pz t 2=some (3,2)) (h:Rdt Pz W t r) :
  ∃a b c:Int,r=[.int .i64 a,.int .i64 b,.int .i64 c]:=by
 have hl:=h.flen h0;rw[hc] at hl
 match r,hl with
 | [x0,x1,x2],_=>
  have f0:=h.field h0;have f1:=h.field h1;have f2:=h.field h2;rw[cz3] at f0 f1 f2;obtain⟨k0,e0,_⟩:=f0.int v3;obtain⟨k1,e1,_⟩:=f1.int v3;obtain⟨k2,e2,_⟩:=f2.int v3;simp only[List.drop_zero,List.take_succ_cons,Yyk,List.drop_succ_cons,List.cons.injEq,and_true] at e0 e1 e2;subst e0 e1 e2;exact⟨k0,k1,k2,rfl⟩
theorem open_boolv {W:World} {r:List Value} (h:Rdb Pz W 4 r):∃x:Bool,r=bC x/\True:=by
 obtain⟨k,e⟩:=h.rdt.bool v4b;exact⟨k,e,trivial⟩
theorem open_limit {W:World} {r:List Value} (h:Rdb Pz W 199 r):∃x:To,r=x.cs/\True:=by
 obtain⟨a,b,c,e⟩:=open_three cz199 (by kernel_rfl) (by kernel_rfl) (by kernel_rfl) h.rdt;exact⟨⟨a,b,c⟩,e,trivial⟩
theorem open_move {W:World} {r:List Value} (h:Rdb Pz W 116 r):∃x:Mv,r=x.cs/\True:=by
 have hl:=h.rdt.flen (i:=0) (ft:=3) (off:=0) (by kernel_rfl);rw[cz116] at hl
 match r,hl with
 | [x0,x1,x2,x3,x4,x5],_=>
  have f0:=h.rdt.field (i:=0) (ft:=3) (off:=0) (by kernel_rfl);have f1:=h.rdt.field (i:=1) (ft:=4) (off:=1) (by kernel_rfl);have f2:=h.rdt.field (i:=2) (ft:=3) (off:=2) (by kernel_rfl);have f3:=h.rdt.field (i:=3) (ft:=3) (off:=3) (by kernel_rfl);have f4:=h.rdt.field (i:=4) (ft:=3) (off:=4) (by kernel_rfl);have f5:=h.rdt.field (i:=5) (ft:=4) (off:=5) (by kernel_rfl);rw[cz3] at f0 f2 f3 f4;rw[cz4] at f1 f5;obtain⟨k0,e0,_⟩:=f0.int v3;obtain⟨k1,e1⟩:=f1.bool v4b;obtain⟨k2,e2,_⟩:=f2.int v3;obtain⟨k3,e3,_⟩:=f3.int v3;obtain⟨k4,e4,_⟩:=f4.int v3;obtain⟨k5,e5⟩:=f5.bool v4b;simp only[List.drop_zero,List.take_succ_cons,Yyk,List.drop_succ_cons,List.cons.injEq,and_true] at e0 e1 e2 e3 e4 e5;subst e0 e1 e2 e3 e4 e5;exact⟨⟨k0,k1,k2,k3,k4,k5⟩,rfl,trivial⟩
theorem open_machine {W:World} {r:List Value} (h:Rdb Pz W 88 r):∃(m:Mch) (sf sm sl:Sl),r=mC m sf sm sl/\MI W.heap m sf sm sl:=by
 have hl:=h.rdt.flen (i:=0) (ft:=3) (off:=0) (by kernel_rfl);rw[cz88] at hl
 match r,hl with
 | [x0,x1,x2,x3,x4,x5],_=>
  have f0:=h.rdt.field (i:=0) (ft:=3) (off:=0) (by kernel_rfl);have f1:=h.rdt.field (i:=1) (ft:=3) (off:=1) (by kernel_rfl);have f2:=h.rdt.field (i:=2) (ft:=3) (off:=2) (by kernel_rfl);have f3:=h.field (i:=3) (ft:=85) (off:=3) (by kernel_rfl);have f4:=h.field (i:=4) (ft:=86) (off:=4) (by kernel_rfl);have f5:=h.field (i:=5) (ft:=75) (off:=5) (by kernel_rfl);rw[cz3] at f0 f1 f2;rw[cz85] at f3;rw[cz86] at f4;rw[cz75] at f5;obtain⟨k0,e0,_⟩:=f0.int v3;obtain⟨k1,e1,_⟩:=f1.int v3;obtain⟨k2,e2,_⟩:=f2.int v3;obtain⟨sf,lf,e3,hf,_⟩:=Rdb.list vs85 cz4 (by omega) (fun r hr=>open_boolv hr) (show Rdb Pz W 85 [x3] from f3);obtain⟨sm,lm,e4,hm,_⟩:=Rdb.list vs86 cz116 (by omega) (fun r hr=>open_move hr) (show Rdb Pz W 86 [x4] from f4);obtain⟨sl,ll,e5,hl,_⟩:=Rdb.list vs75 cz199 (by omega) (fun r hr=>open_limit hr) (show Rdb Pz W 75 [x5] from f5);simp only[List.drop_zero,List.take_succ_cons,Yyk,List.drop_succ_cons,List.cons.injEq,and_true] at e0 e1 e2;subst e0 e1 e2 e3 e4 e5;exact⟨⟨k0,k1,k2,lf,lm,ll⟩,sf,sm,sl,rfl,⟨hf,hm,hl⟩⟩
theorem vsS22:Pz.underlying 22=some (.slice 88):=by kernel_rfl
theorem v44:Pz.underlying 44=some (.array 2 5):=by kernel_rfl
theorem open_mr {W:World} {r:List Value} (h:Rdb Pz W 88 r):∃x:MR,r=x.cs/\MI W.heap x.m x.f x.g x.l:=by
 obtain⟨m,f,g,l,e,hm⟩:=open_machine h;exact⟨⟨m,f,g,l⟩,e,hm⟩
theorem open_sys {W:World} {v:Value} (h:Rdb Pz W 22 [v]):∃(s:Sl) (L:List MR),v=.slice s.a s.n s.c/\SyI W.heap s L:=by
 obtain⟨s,L,e,hr,hq⟩:=Rdb.list vsS22 cz88 (by omega) (fun r hr=>open_mr hr) h;exact⟨s,L,e,hr,hq⟩
end Go.VC
end
