/- SyZ SyZa SxArgs SxArgs3. -/
import Derived.Test.YtajglkbckhgboaaGreatDoorDM10
import Derived.Test.YtajglkbckhgboaaGreatDoorRows
set_option linter.all false
set_option maxRecDepth 100000
set_option maxHeartbeats 8000000

section
namespace Go.VC
open Go.Proofs Go.LexS
structure UC (h:Heap) (g:Gl) (role:Int) (ev en ar:Sl) (E:List (Sl × List Ev)) (B:List Bool) (MS:List (Sl × List lj)):Prop where
 rv:Rw h 1 ev ((E.map Prod.fst).map dv)
 rn:Rw h 1 en (B.map bC)
 ra:Rw h 1 ar ((MS.map Prod.fst).map dv)
 re:∀q∈E,Rw h 5 q.1 (q.2.map (aC role))
 rm:∀q∈MS,Rw h 4 q.1 (q.2.map rC)
theorem UC.ext{h h':Heap}{g:Gl}{role:Int}{ev en ar:Sl}{E:List (Sl × List Ev)}{B:List Bool}{MS:List (Sl × List lj)}(hm:UC h g role ev en ar E B MS)(X:Ext h h'):UC h' g role ev en ar E B MS:=
 ⟨hm.rv.ext X,hm.rn.ext X,hm.ra.ext X,fun q hq=>(hm.re q hq).ext X,fun q hq=>(hm.rm q hq).ext X⟩
structure VfP (g:Gl) (role:Int) (E:List (Sl × List Ev)) (B:List Bool) (MS:List (Sl × List lj)):Prop where
 e:∀s:Nat,s<g.n.toNat->∃q,E[s]?=some q/\q.2=ai g role (s:Nat)
 b:∀s:Nat,s<g.n.toNat->B[s]?=some (aV g role (s:Nat))
 m:∀s:Nat,s<g.n.toNat->∃q,MS[s]?=some q/\q.2.map cK=dq g role s
 p:∀q∈MS,∀a∈q.2,a.2.2.n=a.2.1.path.length
 l:∀q∈MS,q.2.length<=1048576
 le:∀s:Int,(ai g role s).length<=400
theorem TE.neg{K:List Ev}{L:List lj}{out:Int}(h:TE K L out):out>=0 ↔ cC K (L.map cK)≠none:=by
 unfold cC;rcases h with ⟨rfl,h⟩ | ⟨o,y,rfl,_,h⟩
 .rw[h];simp
 .rw[h];simp
def UD(g:Gl)(role:Int)(s t:Nat):Prop:=¬yJ g role (s:Nat) (t:Nat)/\cC (ai g role (t:Nat)) (dq g role s)=none
theorem nY{g:Gl}{role:Int}{l:List Nat}{sl ev en ar:Sl}{E:List (Sl × List Ev)}{B:List Bool}{MS:List (Sl × List lj)}{h uT jP:Heap}{i s m:Nat}{I:Int->Heap->Nat->Prop}
  (hg:GI h g) (hV:ah g) (hl:Rw h 1 sl ((aJ l).map aM)) (O4:l.length<=4096) (bt:∀z∈l,z<g.n.toNat) (hm:UC h g role ev en ar E B MS) (hp:VfP g role E B MS) (hs:l[i]?=some s)
  (dB:St h uT [.af jP.size [.slice ev.a ev.n ev.c,.slice en.a en.n en.c] 109,.af h.size g.cs 27])
  (hI:(∀t∈l,UD g role s t)->∀h',St h h' [.af jP.size [.slice ev.a ev.n ev.c,.slice en.a en.n en.c] 109,.af h.size g.cs 27]->∃m2,m2<m/\I (IntKind.wrap .i64 ((i:Int)+1)) h' m2) :
  NW uT sl h (i:Nat) role (RP (FV g role l) h) ar jP m I:=by
 unfold NW;have hn:=hl.ln;rw[show (aJ l).length=l.length from Yc _] at hn;have yS:=Yb hs;have dA:=bt s yS;have mc:=(Ya.1 hs).1;have rd:∀ {k t:Nat} {h':Heap} {K:Nat->Nat->Prop},l[k]?=some t->Ext h h'->(∀b o,hc h' ⟨b,o+Int.toNat (k:Int)*1,none⟩=some (.int .i64 (t:Nat))->K b o)->NB sl.a fun b o=>(0<=(k:Int)/\(k:Int)<(sl.n:Nat))/\K b o:=fun {k t h' K} gt X hK=>by
  have nH:=(Ya.1 gt).1;have gI:(aJ l)[k]?=some (t:Int):=by unfold aJ;rw[Yd,gt];rfl
  refine (hl.ext X).ax (by omega) (by omega) fun b o d gd u=>?_;replace gd:(aJ l)[k]?=some d:=gd;rw[gI] at gd;cases gd;exact hK b o (u.nth 0 rfl)
 refine aD (n:=sl.n) dB (fun k=>∀t∈l.take k,UD g role s t) (fun t ht=>by rw[iY] at ht;cases ht) ?_;clear dB;rintro-k IH hk ⟨dB,hq⟩;refine aQ (fun c=>?_) (fun c=>?_)
 .obtain⟨t,gt⟩:=get_some (l:=l) (i:=k) (by omega);have EO:=Yb gt;have uP:=bt t EO;have no:¬UD g role s t->∀h',Ext h h'->RP (FV g role l) h (.bool false) h':=fun bM h' E'=>RP.f (fun hf=>bM ((hf s yS).2 t EO)) E';refine⟨_,_,_,_,_,_,_,_,dB.at 1 rfl (o:=0) (n:=8) rfl,rd hs dB.ext fun b o u=>⟨_,u,rd gt dB.ext fun b2 o2 u2=>⟨_,u2,?_⟩⟩⟩;refine (wF g role (s:Nat) (t:Nat) IH (hg.ext dB.ext) hV).mono ?_;rintro _ Zb ⟨⟨bv,rfl,hbv⟩,E2⟩;have ff:=dB.step E2;refine⟨bv,rfl,aa (fun c2=>no (fun hf=>hf.1 (hbv.1 c2)) Zb ff.ext) (fun c2=>?_)⟩;have dU:¬yJ g role (s:Nat) (t:Nat):=cM hbv c2;have ik:=hm.ext ff.ext;obtain⟨qa,XR,aem⟩:=hp.m s dA;obtain⟨qe,Ij,MY⟩:=hp.e t uP;have n1:=hm.ra.ln;have n2:=hm.rv.ln;have l1:=(Ya.1 XR).1;have l2:=(Ya.1 Ij).1;rw[Yc] at n1 n2;refine rd hs ff.ext fun b o u=>⟨_,u,?_⟩;refine ik.ra.ax (by omega) (by omega) fun b88 o89 d gd u3=>?_;replace gd:(MS.map Prod.fst)[s]?=some d:=gd;rw[Yd,XR] at gd;cases gd;refine⟨qa.1,u3.nth 0 rfl,ev,ff.rd 0 rfl (i:=0) rfl,rd gt ff.ext fun b o u=>⟨_,u,?_⟩⟩;refine ik.rv.ax (by omega) (by omega) fun b95 o96 d gd u4=>?_;replace gd:(E.map Prod.fst)[t]?=some d:=gd;rw[Yd,Ij] at gd;cases gd;refine⟨qe.1,u4.nth 0 rfl,?_⟩;have hle:=hp.le (t:Nat);refine (HR role qe.2 qa.2 qa.1 qe.1 Zb (ik.rm qa (Yb XR)) (ik.re qe (Yb Ij)) (hp.l qa (Yb XR)) (by rw[MY];omega) (hp.p qa (Yb XR))).mono ?_;rintro _ afF ⟨⟨out,rfl,ET⟩,E3⟩;have M3:=ET.neg;rw[aem,MY] at M3;have H7:=ff.step E3;refine⟨out,rfl,E3.sm,aQ (fun c3=>?_) (fun c3=>?_)⟩
  .exact no (fun hf=>(M3.1 c3) hf.2) afF H7.ext
  .have XW:cC (ai g role (t:Nat)) (dq g role s)=none:=Classical.byContradiction fun h9=>c3 (M3.2 h9);refine Up.next (by omega) (by omega) ⟨H7,fun z hz=>?_⟩;rw[ae gt,Yk,Ye] at hz;rcases hz with hz | rfl
   .exact hq z hz
   .exact⟨dU,XW⟩
 .rw[Yj (by omega)] at hq;exact hI hq IH dB
theorem y8(g:Gl)(role:Int)(l:List Nat)(sl ev en ar:Sl)(E:List (Sl × List Ev))(B:List Bool)(MS:List (Sl × List lj))(h:Heap)(hg:GI h g)(hV:ah g)(hl:Rw h 1 sl ((aJ l).map aM))(O4:l.length<=4096)(bt:∀z∈l,z<g.n.toNat)(hm:UC h g role ev en ar E B MS)(hp:VfP g role E B MS):
  Fn Pz 86 #[g.v,.int .i64 role,.slice sl.a sl.n sl.c,.agg ⟨[.slice ev.a ev.n ev.c,.slice en.a en.n en.c]⟩,.slice ar.a ar.n ar.c] h (RP (FV g role l) h):=by
 apply acN (bs g.nm) g.hr g.hd g.n g.s g.e g.he g.ht role sl ev en ar;unfold W86;have hn:=hl.ln;rw[show (aJ l).length=l.length from Yc _] at hn;refine (St.refl h).ao fun jP hs=>?_;refine hs.ao fun CD hs=>?_;have hs:St h CD [.af jP.size [.slice ev.a ev.n ev.c,.slice en.a en.n en.c] 109,.af h.size g.cs 27]:=hs;have rd:∀ {k t:Nat} {h':Heap} {K:Nat->Nat->Prop},l[k]?=some t->Ext h h'->(∀b o,hc h' ⟨b,o+Int.toNat (k:Int)*1,none⟩=some (.int .i64 (t:Nat))->K b o)->NB sl.a fun b o=>(0<=(k:Int)/\(k:Int)<(sl.n:Nat))/\K b o:=fun {k t h' K} gt X hK=>by
  have nH:=(Ya.1 gt).1;have gI:(aJ l)[k]?=some (t:Int):=by unfold aJ;rw[Yd,gt];rfl
  refine (hl.ext X).ax (by omega) (by omega) fun b o d gd u=>?_;replace gd:(aJ l)[k]?=some d:=gd;rw[gI] at gd;cases gd;exact hK b o (u.nth 0 rfl)
 have rdE:∀ {t:Nat} {h':Heap} {K:Nat->Nat->Prop},t<g.n.toNat->Ext h h'->(∀(q:Sl × List Ev) b o,q∈E->q.2=ai g role (t:Nat)->hc h' ⟨b,o+Int.toNat (t:Int)*1,none⟩=some (.slice q.1.a q.1.n q.1.c)->K b o)->NB ev.a fun b o=>(0<=(t:Int)/\(t:Int)<(ev.n:Nat))/\K b o:=fun {t h' K} ht X hK=>by
  obtain⟨qe,Ij,MY⟩:=hp.e t ht;have n2:=hm.rv.ln;have l2:=(Ya.1 Ij).1;rw[Yc] at n2;refine (hm.ext X).rv.ax (by omega) (by omega) fun b o d gd u=>?_;replace gd:(E.map Prod.fst)[t]?=some d:=gd;rw[Yd,Ij] at gd;cases gd;exact hK qe b o (Yb Ij) MY (u.nth 0 rfl)
 refine⟨fun sm x h' μ=>∃i:Nat,x=(i:Int)/\sl.n-i=μ/\i<=sl.n/\St h h' [.af jP.size [.slice ev.a ev.n ev.c,.slice en.a en.n en.c] 109,.af h.size g.cs 27]/\(sm=true ↔ ∃u∈l.take i,a8 (ai g role (u:Nat)) 0=true),⟨_,0,rfl,rfl,Nat.zero_le _,hs,⟨fun h9=>(by cases h9),fun ⟨u,hu,_⟩=>(by rw[iY] at hu;cases hu)⟩⟩,?_⟩;clear hs;rintro-sm _ gJ μ ⟨i,rfl,rfl,hi,hs,yS⟩;have xp:i<sl.n->IntKind.wrap .i64 ((i:Int)+1)=((i+1:Nat):Int):=fun hi=>by rw[bd (by omega) (by omega)];omega
 refine aQ (fun c=>?_) (fun c=>?_)
 .obtain⟨t,gt⟩:=get_some (l:=l) (i:=i) (by omega);have uP:=bt t (Yb gt);refine aa (fun c2=>?_) (fun c2=>?_)
  .refine⟨_,(show sl.n-(i+1)<sl.n-i by omega),i+1,xp (by omega),rfl,by omega,hs,⟨fun _=>?_,fun _=>rfl⟩⟩;obtain⟨u,hu,h9⟩:=yS.1 c2;exact⟨u,by rw[ae gt];exact List.mem_append_left _ hu,h9⟩
  .refine⟨ev,hs.rd 0 rfl (i:=0) rfl,rd gt hs.ext fun b o u=>⟨_,u,rdE uP hs.ext fun q b o hq ij u2=>⟨q.1,u2,?_⟩⟩⟩;refine (G5 role q.2 q.1 gJ ((hm.ext hs.ext).re q hq)).mono ?_;rintro _ _ ⟨rfl,rfl⟩;refine⟨_,rfl,_,(show sl.n-(i+1)<sl.n-i by omega),i+1,xp (by omega),rfl,by omega,hs,?_⟩;rw[ij];constructor
   .intro h9;exact⟨t,by rw[ae gt];exact List.mem_append_right _ (Ye.2 rfl),h9⟩
   .rintro⟨u,hu,h9⟩;rw[ae gt,Yk,Ye] at hu;rcases hu with hu | rfl
    .rw[yS.2 ⟨u,hu,h9⟩] at c2;cases c2
    .exact h9
 .rw[Yj (by omega)] at yS;refine aD (n:=sl.n) hs (fun i=>∀s∈l.take i,((∃u∈l,a8 (ai g role (u:Nat)) 0=true)->aV g role (s:Nat)=false/\(∃z,l[0]?=some z/\ai g role (s:Nat)=ai g role (z:Nat))/\ai g role (s:Nat)≠[]/\a8 (ai g role (s:Nat)) ((ai g role (s:Nat)).length-1)=true)/\∀t∈l,UD g role s t) (fun e he=>by rw[iY] at he;cases he) ?_;clear hs;rintro-i bA hi ⟨hs,hq⟩;refine aQ (fun c2=>?_) (fun c2=>?_)
  .obtain⟨t,gt⟩:=get_some (l:=l) (i:=i) (by omega);have EO:=Yb gt;have uP:=bt t EO;obtain⟨z,gz⟩:=get_some (l:=l) (i:=0) (by omega);have xm:=bt z (Yb gz);have om:((∃u∈l,a8 (ai g role (u:Nat)) 0=true)->aV g role (t:Nat)=false/\(∃z,l[0]?=some z/\ai g role (t:Nat)=ai g role (z:Nat))/\ai g role (t:Nat)≠[]/\a8 (ai g role (t:Nat)) ((ai g role (t:Nat)).length-1)=true)->(∀y∈l,UD g role t y)->∀h',St h h' [.af jP.size [.slice ev.a ev.n ev.c,.slice en.a en.n en.c] 109,.af h.size g.cs 27]->∃m2,m2<sl.n-i/\Up sl.n (fun i h'=>St h h' [.af jP.size [.slice ev.a ev.n ev.c,.slice en.a en.n en.c] 109,.af h.size g.cs 27]/\∀s∈l.take i,((∃u∈l,a8 (ai g role (u:Nat)) 0=true)->aV g role (s:Nat)=false/\(∃z,l[0]?=some z/\ai g role (s:Nat)=ai g role (z:Nat))/\ai g role (s:Nat)≠[]/\a8 (ai g role (s:Nat)) ((ai g role (s:Nat)).length-1)=true)/\∀t∈l,UD g role s t) (IntKind.wrap .i64 ((i:Int)+1)) h' m2:=fun a1 a2 h' cj=>by
    refine Up.next (by omega) (by omega) ⟨cj,fun y hy=>?_⟩;rw[ae gt,Yk,Ye] at hy;rcases hy with hy | rfl
    .exact hq y hy
    .exact⟨a1,a2⟩
   refine⟨ev,hs.rd 0 rfl (i:=0) rfl,rd gt hs.ext fun b o u=>⟨_,u,rdE uP hs.ext fun q b o hqE ij u2=>⟨q.1,u2,?_⟩⟩⟩;have hle:=hp.le (t:Nat);have MW:=(hm.ext hs.ext).re q hqE;have lq:=MW.ln;rw[ij] at lq;refine aa (fun c3=>?_) (fun c3=>?_)
   .have XI:=yS.1 c3;have no:∀h',Ext h h'->¬(aV g role (t:Nat)=false/\(∃z,l[0]?=some z/\ai g role (t:Nat)=ai g role (z:Nat))/\ai g role (t:Nat)≠[]/\a8 (ai g role (t:Nat)) ((ai g role (t:Nat)).length-1)=true)->RP (FV g role l) h (.bool false) h':=fun h' E' bM=>RP.f (fun hf=>bM ((hf t EO).1 XI)) E';refine⟨en,hs.rd 0 rfl (i:=1) rfl,rd gt hs.ext fun b44 o45 u3=>⟨_,u3,?_⟩⟩;have n3:=hm.rn.ln;have hB:=hp.b t uP;have l3:=(Ya.1 hB).1;refine (hm.ext hs.ext).rn.ax (by omega) (by omega) fun b47 o48 d gd u4=>?_;replace gd:B[t]?=some d:=gd;rw[hB] at gd;cases gd;refine⟨_,u4.nth 0 rfl,aa (fun c4=>no bA hs.ext (fun hf=>by rw[hf.1] at c4;cases c4)) (fun c4=>?_)⟩;refine⟨ev,hs.rd 0 rfl (i:=0) rfl,rd (k:=0) gz hs.ext fun b51 o52 u5=>⟨_,u5,rdE xm hs.ext fun q0 b o aeo aep u6=>⟨q0.1,u6,?_⟩⟩⟩;refine (DV role q.2 q0.2 q.1 q0.1 bA MW ((hm.ext hs.ext).re q0 aeo) (by rw[ij];omega)).mono ?_;rintro _ uT ⟨rfl,E2⟩;have bQ:=hs.step E2;rw[ij,aep];refine⟨_,rfl,E2.sm,aa (fun c5=>no uT bQ.ext (fun hf=>?_)) (fun c5=>?_)⟩
    .obtain⟨z',K9,e9⟩:=hf.2.1;rw[gz] at K9;cases K9;rw[decide_eq_true e9] at c5;cases c5
    .have heq:ai g role (t:Nat)=ai g role (z:Nat):=by simpa using c5
     refine eS (fun c6=>no uT bQ.ext (fun hf=>hf.2.2.1 (List.length_eq_zero_iff.1 (by omega)))) (fun c6=>?_);have hw:IntKind.wrap .i64 ((q.1.n:Int)-1)=((q.1.n-1:Nat):Int):=by rw[bd (by omega) (by omega)];omega
     rw[hw];refine (MW.ext E2).ax (by omega) (by omega) fun b60 o61 y gy u7=>?_;replace gy:q.2[q.1.n-1]?=some y:=gy;rw[ij] at gy;refine⟨_,u7.nth 1 rfl,?_⟩;have O5:a8 (ai g role (t:Nat)) ((ai g role (t:Nat)).length-1)=y.send:=by
      unfold a8;rw[<-lq,gy]
     refine aa (fun c7=>no uT bQ.ext (fun hf=>?_)) (fun c7=>?_)
     .rw[O5] at hf;rw[hf.2.2.2] at c7;cases c7
     .refine nY hg hV hl O4 bt hm hp gt bQ (om fun _=>⟨c4,⟨z,gz,heq⟩,fun e9=>?_,by rw[O5];simpa using c7⟩);rw[e9] at lq;exact c6 (by rw[lq];rfl)
   .refine nY hg hV hl O4 bt hm hp gt hs (om fun hf=>?_);rw[yS.2 hf] at c3;cases c3
  .rw[Yj (by omega)] at hq;exact RP.t (fun s hs=>hq s hs) hs.ext
theorem Fq(g:Gl)(role:Int)(h:Heap)(hg:GI h g)(hx:Gm h)(bM:¬rQ g role):Fn Pz 41 #[g.v,.int .i64 role] h fun v h'=>v=.tuple ⟨[.agg ⟨fc.cs⟩,.int .i64 1073741824,.int .i64 1]⟩/\Ext h h':=by
 apply UR (bs g.nm) g.hr g.hd g.n g.s g.e g.he g.ht role;unfold W41;refine (St.refl h).ao fun h9 hs=>?_;refine hs.ao fun cw hs=>?_;refine⟨_,_,_,_,_,_,_,_,hs.at 1 rfl (o:=0) (n:=8) rfl,?_⟩;refine (k6 g role cw (hg.ext hs.ext) (hx.ext hs.ext)).mono ?_;rintro _ cR (⟨_,rfl,E⟩ | ⟨Rk,_⟩)
 .refine⟨none,1,rfl,?_⟩;have hs:=hs.step E;refine hs.aj (vs:=[.pointer none]) rfl rfl fun Fm hs=>?_;refine dY (fun _=>?_) (fun c=>absurd c (by decide));refine hs.put 1 rfl (o:=0) (vs:=fc.cs) rfl (bu 14) fun lu hs=>?_;refine vG (w:=fc) (Q:=fun cs=>(Value.tuple ⟨[.agg ⟨cs⟩,.int .i64 1073741824,.int .i64 1]⟩=.tuple ⟨[.agg ⟨fc.cs⟩,.int .i64 1073741824,.int .i64 1]⟩/\Ext h lu)) (hs.at 1 rfl (o:=0) (n:=14) rfl) ?_;exact⟨rfl,hs.ext⟩
 .exact absurd Rk bM
theorem D3(g:Gl)(role:Int)(h:Heap)(hg:GI h g)(hx:Gm h)(bM:¬rQ g role):Fn Pz 19 #[g.v,.int .i64 role] h fun v h'=>v=.tuple ⟨[.agg ⟨fc.cs⟩,.int .i64 1]⟩/\Ext h h':=by
 apply VJ (bs g.nm) g.hr g.hd g.n g.s g.e g.he g.ht role;unfold W19;refine (St.refl h).ao fun h9 hs=>?_;refine hs.ao fun cw hs=>?_;refine⟨_,_,_,_,_,_,_,_,hs.at 1 rfl (o:=0) (n:=8) rfl,?_⟩;refine (Fq g role cw (hg.ext hs.ext) (hx.ext hs.ext) bM).mono ?_;rintro _ fO ⟨rfl,E⟩;refine⟨0,0,aH,aH,0,false,0,0,aH,0,false,0,0,aH,1073741824,1,rfl,?_⟩;have hs:=hs.step E;refine hs.aj (vs:=fc.cs) rfl rfl fun tB hs=>?_;refine dY (fun _=>?_) (fun c=>absurd c (by decide));refine hs.put 1 rfl (o:=0) (vs:=fc.cs) rfl (bu 14) fun sw hs=>?_;refine vG (w:=fc) (Q:=fun cs=>(Value.tuple ⟨[.agg ⟨cs⟩,.int .i64 1]⟩=.tuple ⟨[.agg ⟨fc.cs⟩,.int .i64 1]⟩/\Ext h sw)) (hs.at 1 rfl (o:=0) (n:=14) rfl) ?_;exact⟨rfl,hs.ext⟩
theorem VfP.of{g:Gl}(hV:ah g){role:Int}{E:List (Sl × List Ev)}{B:List Bool}{MS:List (Sl × List lj)}{R:List It}(hA:AhM g role E B g.n.toNat)(hM:DG g role (dq g role) R MS)(hl:∀q∈MS,q.2.length<=160000){h0 h:Heap}{L:List It}(hs:St h0 h L)(hR:∀i∈R,i∈L):VfP g role E B MS:=by
 refine⟨fun s dA=>?_,fun s dA=>?_,fun s dA=>?_,fun q hq a ha=>?_,fun q hq=>by have:=hl q hq;omega,fun s=>pS hV⟩
 .have h1:=aU hA.e dA;rw[Yd] at h1;obtain⟨q,hq,e⟩:=rP.1 h1;exact⟨q,hq,e⟩
 .exact aU hA.b dA
 .obtain⟨q,hq⟩:=get_some (l:=MS) (i:=s) (by rw[hM.l];exact dA);exact⟨q,hq,hM.s s q hq⟩
 .have h1:=(hM.p q hq a ha).1;have h2:Rw h 3 a.2.2 (a.2.1.path.map Ac.cs):=hs.vF (e:=65) (hR _ h1) (by decide);exact h2.ln
theorem zq{lu hX hB:Heap}{g:Gl}{role:Int}{h nM:Heap}{ss ev en ar:Sl}{E:List (Sl × List Ev)}{B:List Bool}{MS:List (Sl × List lj)}{R:List It}{Q:List SR}{K:Value->Heap->Prop}
  (hs:St lu hX (.af hB.size [.slice none 0 0,.slice none 0 0] 109::(Ld ev en role E B++(.sl ar 211 1 ((MS.map Prod.fst).map dv)::(MS.map (nest 213 4 rC)++R))))) (hg:GI lu g) (hV:ah g) (kg:aY lu ⟨h.size,0,none⟩ g.cs) (kl:h.size<lu.size)
  (Uj:hc lu ⟨nM.size,0,none⟩=some (.slice ss.a ss.n ss.c)) (bL:Rw lu 1 ss (Q.map SR.cs)) (cN:∀q∈Q,Rw lu 1 q.s ((bW q.p).map aM)) (oB:∀q∈Q,rF g q.p) (hQ:Q.length<=200)
  (hA:AhM g role E B g.n.toNat) (hM:DG g role (dq g role) R MS) (hl:∀q∈MS,q.2.length<=160000)
  (hK:∀(bv:Bool) h',(bv=true ↔ ∀q∈Q,FV g role (elems q.p))->Ext lu h'->K (.tuple ⟨[.bool bv,.int .i64 0]⟩) h') :
  Kn hX hB ev en h nM role ar K:=by
 unfold Kn;have hP:=VfP.of hV hA hM hl hs (fun i hi=>Yn _ (List.mem_append_right _ (Yn _ (List.mem_append_right _ hi))));have hs9:=hs;refine hs.put 0 rfl (o:=0) (vs:=[.slice ev.a ev.n ev.c,.slice en.a en.n en.c]) rfl (show 2<=2 by decide) fun j7 hs=>⟨bB hs9 hs (aK kl bc),?_⟩;replace hs:St lu j7 (.af hB.size [.slice ev.a ev.n ev.c,.slice en.a en.n en.c] 109::(Ld ev en role E B++(.sl ar 211 1 ((MS.map Prod.fst).map dv)::(MS.map (nest 213 4 rC)++R)))):=hs;have hm:UC j7 g role ev en ar E B MS:=by
  have dC:∀ {i:It},i∈Ld ev en role E B->i∈(.af hB.size [.slice ev.a ev.n ev.c,.slice en.a en.n en.c] 109::(Ld ev en role E B++(.sl ar 211 1 ((MS.map Prod.fst).map dv)::(MS.map (nest 213 4 rC)++R)))):=fun hi=>Yn _ (List.mem_append_left _ hi);have YC:∀ {i:It},i∈(.sl ar 211 1 ((MS.map Prod.fst).map dv)::(MS.map (nest 213 4 rC)++R))->i∈(.af hB.size [.slice ev.a ev.n ev.c,.slice en.a en.n en.c] 109::(Ld ev en role E B++(.sl ar 211 1 ((MS.map Prod.fst).map dv)::(MS.map (nest 213 4 rC)++R)))):=fun hi=>Yn _ (List.mem_append_right _ hi);refine⟨hs.vF (e:=57) (dC ?_) (by decide),hs.vF (e:=4) (dC ?_) (by decide),hs.vF (e:=211) (YC Yx) (by decide),fun q hq=>hs.vF (e:=33) (dC ?_) (by decide),fun q hq=>hs.vF (e:=213) (YC (Yn _ (List.mem_append_left _ (Yp.2 ⟨q,hq,rfl⟩)))) (by decide)⟩
  .unfold Ld;exact Yx
  .unfold Ld;exact Yn _ Yx
  .unfold Ld;exact Yn _ (Yn _ (Yp.2 ⟨q,hq,rfl⟩))
 have ki:=bL.ln;have kb:aY j7 ⟨hB.size,0,none⟩ [.slice ev.a ev.n ev.c,.slice en.a en.n en.c]:=hs.at 0 rfl (o:=0) (n:=2) rfl;have E50:=hs.ext;clear hs hs9;refine aD (n:=ss.n) (St.refl j7) (fun i=>∀q∈Q.take i,FV g role (elems q.p)) (fun e he=>by rw[iY] at he;cases he) ?_;rintro-i Pj hi ⟨dB,hq⟩;have PN:=E50.trans dB.ext;refine⟨ss,aw PN Uj,aQ (fun c=>?_) (fun c=>?_)⟩
 .refine⟨_,_,_,_,_,_,_,_,mF PN kg,ss,aw PN Uj,?_⟩;refine (bL.ext PN).ax (by omega) (by omega) fun b66 o67 q gq t=>?_;replace gq:Q[i]?=some q:=gq;have KY:=Yb gq;refine⟨q.s,t.nth 0 rfl,ev,en,mF dB.ext kb,?_⟩;refine (y8 g role (elems q.p) q.s ev en ar E B MS Pj (hg.ext PN) hV ((cN q KY).ext PN) (xY _) (fun z hz=>by have:=(oB q KY).1 z (br.1 hz).2;omega) (hm.ext dB.ext) hP).mono ?_;rintro _ h73 ⟨⟨bv,rfl,hbv⟩,E2⟩;refine⟨bv,rfl,aa (fun c2=>?_) (fun c2=>?_)⟩
  .refine hK false h73 ⟨fun h9=>(by cases h9),fun cA=>?_⟩ (PN.trans E2);rw[hbv.2 (cA q KY)] at c2;cases c2
  .refine Up.next (by omega) (by omega) ⟨dB.step E2,fun z hz=>?_⟩;rw[ae gq,Yk,Ye] at hz;rcases hz with hz | rfl
   .exact hq z hz
   .exact hbv.1 (by simpa using c2)
 .rw[Yj (by omega)] at hq;exact hK true Pj ⟨fun _=>hq,fun _=>rfl⟩ PN
theorem uj(g:Gl)(role:Int)(h:Heap)(hg:GI h g)(hM:KK g.ds):Fn Pz 37 #[g.v,.int .i64 role] h fun v h'=>UI g role (FV g role) h h' v:=by
 apply adx (bs g.nm) g.hr g.hd g.n g.s g.e g.he g.ht role;unfold W37;refine (St.refl h).ao fun h9 hs=>?_;refine⟨_,_,_,_,_,_,_,_,hs.at 0 rfl (o:=0) (n:=8) rfl,?_⟩;refine (zk g role h9 (hg.ext hs.ext) hM).mono ?_;intro v nM Ih;cases Ih with
 | bad hG E=>
  refine⟨⟨none,0,0⟩,⟨none,0,0⟩,⟨none,0,0⟩,1,rfl,?_⟩;refine (hs.step E).aj (vs:=P5) rfl rfl fun lu hs=>?_;exact dY (fun _=>.bad hG hs.ext) (fun c=>absurd c (by decide))
 | lim hG hv E=>
  refine⟨⟨none,0,0⟩,⟨none,0,0⟩,⟨none,0,0⟩,6,rfl,?_⟩;refine (hs.step E).aj (vs:=P5) rfl rfl fun lu hs=>?_;exact dY (fun _=>.lim hG hv hs.ext) (fun c=>absurd c (by decide))
 | ok hG ss fs cD Q M A hv hsQ hA hB hQ Y5=>
 have hV:=hG.1;refine⟨ss,fs,cD,0,rfl,?_⟩;have hs:=hs.join hsQ;refine hs.aj (vs:=[.slice ss.a ss.n ss.c,.slice fs.a fs.n fs.c,.slice cD.a cD.n cD.c]) rfl rfl fun lu hs=>?_;refine dY (fun c=>absurd rfl c) (fun _=>?_);have kg:aY lu ⟨h.size,0,none⟩ g.cs:=hs.at 1 rfl (o:=0) (n:=8) rfl;have kl:h.size<lu.size:=iz (kg.nth 0 rfl);have Uj:hc lu ⟨nM.size,0,none⟩=some (.slice ss.a ss.n ss.c):=hs.rd 0 rfl (i:=0) rfl;have bL:Rw lu 1 ss (Q.map SR.cs):=hs.rows 2 rfl (by decide);have cN:∀q∈Q,Rw lu 1 q.s ((bW q.p).map aM):=fun q hq=>hs.vF (e:=3) (Yn _ (List.mem_append_right _ (Yn _ (Yn _ (Yn _ (hA q hq)))))) (by decide);have E25:=hs.ext;have xC:=hg.ext E25;have fin:∀(bv:Bool) h',(bv=true ↔ ∀q∈Q,FV g role (elems q.p))->Ext lu h'->UI g role (FV g role) h h' (.tuple ⟨[.bool bv,.int .i64 0]⟩):=fun bv h' hb E=>by
  refine .ok hG hv (hb.trans ⟨fun h9 p hp=>?_,fun h9 q hq=>h9 _ (Yp.2 ⟨q,hq,rfl⟩)⟩) (E25.trans E);obtain⟨q,hq,rfl⟩:=Yp.1 hp;exact h9 q hq
 have s0:=St.refl lu;refine⟨_,_,_,_,_,_,_,_,kg,_,_,_,_,_,_,_,_,kg,?_,fun Nj aga=>?_⟩
 .refine (CW g role lu xC hM hG).mono ?_;rintro _ CA ⟨ev,en,E,B,rfl,xr,hAh⟩;refine⟨ev,en,rfl,xr.ext.sm,?_,fun js e75=>?_⟩
  .refine (kY g role CA (xC.ext xr.ext) hV).mono ?_;rintro _ Ay ⟨ob,MS,R,rfl,hsB,Ax,nK⟩;refine⟨⟨some ⟨ob,0,none⟩,g.n.toNat,g.n.toNat⟩,rfl,hsB.ext.sm,fun Zd e49=>?_⟩;have s1:=xr.join hsB;have s2:=s1.sS e49;exact⟨bB s1 s2 (aK kl (aK kl bc)),zq s2 xC hV kg kl Uj bL cN hB hQ hAh Ax nK fin⟩
  .have s1:=xr.sS e75;refine⟨bB xr s1 (aK kl (aK kl bc)),?_⟩;refine (kY g role js (xC.ext s1.ext) hV).mono ?_;rintro _ h78 ⟨ob,MS,R,rfl,hsB,Ax,nK⟩;exact⟨⟨some ⟨ob,0,none⟩,g.n.toNat,g.n.toNat⟩,rfl,hsB.ext.sm,zq (s1.join hsB) xC hV kg kl Uj bL cN hB hQ hAh Ax nK fin⟩
 .have s1:=s0.sS aga;refine⟨bB s0 s1 (aK kl (aK kl bc)),?_⟩;refine (CW g role Nj (xC.ext s1.ext) hM hG).mono ?_;rintro _ afD ⟨ev,en,E,B,rfl,xr,hAh⟩;refine⟨ev,en,rfl,xr.ext.sm,?_⟩;have s2:=s1.join xr;refine (kY g role afD (xC.ext s2.ext) hV).mono ?_;rintro _ Ni ⟨ob,MS,R,rfl,hsB,Ax,nK⟩;refine⟨⟨some ⟨ob,0,none⟩,g.n.toNat,g.n.toNat⟩,rfl,hsB.ext.sm,zq (s2.join hsB) xC hV kg kl Uj bL cN hB hQ hAh Ax nK fin⟩
theorem uk(g:Gl)(role:Int)(h:Heap)(hg:GI h g)(hx:Gx h)(hM:KK g.ds):Fn Pz 11 #[g.v,.int .i64 role] h fun v h'=>v=.bool true/\Ext h h':=by
 apply adH (bs g.nm) g.hr g.hd g.n g.s g.e g.he g.ht role;unfold W11;refine (St.refl h).ao fun h9 hs=>?_;refine (NP h9 (hx.ext hs.ext)).mono ?_;rintro _ CD ⟨rfl,E⟩;have hs:=hs.step E;refine⟨true,rfl,im rfl ?_⟩;refine⟨_,_,_,_,_,_,_,_,hs.at 0 rfl (o:=0) (n:=8) rfl,?_⟩;refine (Zt g CD (hg.ext hs.ext)).mono ?_;rintro _ nM ⟨rfl,E⟩;have hs:=hs.step E;refine⟨_,rfl,aa (fun _=>⟨rfl,hs.ext⟩) (fun _=>?_)⟩;refine⟨_,_,_,_,_,_,_,_,hs.at 0 rfl (o:=0) (n:=8) rfl,?_⟩;refine (FH g role nM (hg.ext hs.ext) (hx.ext hs.ext)).mono ?_;intro v bA r1;have E1:Ext nM bA:=by cases r1<;>assumption
 have hs:=hs.step E1;have k1:∃(b1:Bool) (e1:Int),v=.tuple ⟨[.bool b1,.int .i64 e1]⟩/\((¬rQ g role/\b1=false/\e1=1)\/(rQ g role/\views g role=none/\b1=false/\e1=6)\/(rQ g role/\e1=0/\∃S M,views g role=some (S,M)/\(b1=true ↔ ∀p∈S,Gs g role (elems p)))):=by
  cases r1 with
  | bad hG _=>exact⟨_,_,rfl,.inl ⟨hG,rfl,rfl⟩⟩
  | lim hG hv _=>exact⟨_,_,rfl,.inr (.inl ⟨hG,hv,rfl,rfl⟩)⟩
  | ok hG hv hb _=>exact⟨_,_,rfl,.inr (.inr ⟨hG,rfl,_,_,hv,hb⟩)⟩
 clear r1;obtain⟨b1,e1,rfl,k1⟩:=k1;refine⟨b1,e1,rfl,_,_,_,_,_,_,_,_,hs.at 0 rfl (o:=0) (n:=8) rfl,?_⟩;refine (uj g role bA (hg.ext hs.ext) hM).mono ?_;intro v mO r2;have E2:Ext bA mO:=by cases r2<;>assumption
 have hs:=hs.step E2;have k2:∃(b2:Bool) (e2:Int),v=.tuple ⟨[.bool b2,.int .i64 e2]⟩/\((¬rQ g role/\b2=false/\e2=1)\/(rQ g role/\views g role=none/\b2=false/\e2=6)\/(rQ g role/\e2=0/\∃S M,views g role=some (S,M)/\(b2=true ↔ ∀p∈S,FV g role (elems p)))):=by
  cases r2 with
  | bad hG _=>exact⟨_,_,rfl,.inl ⟨hG,rfl,rfl⟩⟩
  | lim hG hv _=>exact⟨_,_,rfl,.inr (.inl ⟨hG,hv,rfl,rfl⟩)⟩
  | ok hG hv hb _=>exact⟨_,_,rfl,.inr (.inr ⟨hG,rfl,_,_,hv,hb⟩)⟩
 clear r2;obtain⟨b2,e2,rfl,k2⟩:=k2;refine⟨b2,e2,rfl,_,_,_,_,_,_,_,_,hs.at 0 rfl (o:=0) (n:=8) rfl,?_⟩;by_cases hG:rQ g role
 .have hV:=hG.1;refine (Qb g role mO (hg.ext hs.ext) (hx.ext hs.ext) hV hG.2).mono ?_;intro v Gi hr;have k3:∃(w:Wt) (ec:Int),v=.tuple ⟨[.agg ⟨w.cs⟩,.int .i64 ec]⟩/\Ext mO Gi/\∃W n,dj g role W n/\(ec=0 ↔ n=bh):=by
   cases hr with
   | ok hF E=>exact⟨fc,0,rfl,E,_,_,hF,⟨fun _=>rfl,fun _=>rfl⟩⟩
   | @err v W n hF hn hw=>
    obtain⟨w,e1,e2,e3,e4,rfl,L,bQ⟩:=hw;exact⟨w,18,rfl,bQ.ext,_,_,hF,⟨fun h9=>absurd h9 (by decide),fun h9=>absurd h9 hn⟩⟩
  obtain⟨w,ec,rfl,E3,W,n,hF,hec⟩:=k3;have hs:=hs.step E3;refine⟨w.k,w.r,w.f,w.s,w.e.r,w.e.s,w.e.p,w.e.l,aH,w.o.r,w.o.s,w.o.p,w.o.l,aH,ec,rfl,?_⟩;refine hs.aj (vs:=w.cs) rfl rfl fun IG hs=>?_;rcases k1 with ⟨bM,_⟩ | ⟨_,hv,rfl,rfl⟩ | ⟨_,rfl,S,M,hv,nJ⟩
  .exact absurd hG bM
  .rcases k2 with ⟨bM,_⟩ | ⟨_,_,rfl,rfl⟩ | ⟨_,rfl,S,M,vJ,_⟩
   .exact absurd hG bM
   .exact gR rfl (gR rfl (gR rfl ⟨rfl,hs.ext⟩))
   .rw[hv] at vJ;cases vJ
  .rcases k2 with ⟨bM,_⟩ | ⟨_,vJ,_⟩ | ⟨_,rfl,S',M',vJ,jr⟩
   .exact absurd hG bM
   .rw[hv] at vJ;cases vJ
   .rw[hv] at vJ;cases vJ;have xu:=sF hV hv;have M4:(∀p∈S,Gs g role (elems p)) ↔ ∀p∈S,FV g role (elems p):=by
     have:∀p∈S,(Gs g role (elems p) ↔ FV g role (elems p)):=fun p hp=>Nq hV fun s hs=>by
      have:=sG hV hv p hp (xu p hp) s (br.1 hs).2;omega
     exact⟨fun h9 p hp=>(this p hp).1 (h9 p hp),fun h9 p hp=>(this p hp).2 (h9 p hp)⟩
    have aeP:b1=b2:=by
     rw[Bool.eq_iff_iff,nJ,jr];exact M4
    have aeB:=DJ hV hv hF;refine gR rfl (gR (by rw[aeP];simp) (im rfl ⟨?_,hs.ext⟩));have:(b1==(ec==0))=true:=by
     rw[beq_iff_eq,Bool.eq_iff_iff,nJ,aeB,beq_iff_eq];exact hec.symm
    rw[this]
 .refine (D3 g role mO (hg.ext hs.ext) (hx.ext hs.ext) hG).mono ?_;rintro _ Gi ⟨rfl,E3⟩;have hs:=hs.step E3;refine⟨0,0,aH,aH,0,false,0,0,aH,0,false,0,0,aH,1,rfl,?_⟩;refine hs.aj (vs:=fc.cs) rfl rfl fun IG hs=>?_;rcases k1 with ⟨_,rfl,rfl⟩ | ⟨bM,_⟩ | ⟨bM,_⟩
  .rcases k2 with ⟨_,rfl,rfl⟩ | ⟨bM,_⟩ | ⟨bM,_⟩
   .exact gR rfl (gR rfl (gR rfl ⟨rfl,hs.ext⟩))
   .exact absurd bM hG
   .exact absurd bM hG
  .exact absurd bM hG
  .exact absurd bM hG
end Go.VC
end

section
namespace Go.VC
open Go.Proofs Go.LexS Go.RowKit Go.ChangeShapes Go.WideShapes Go.Proofs.YtajglkbckhgboaaGreatDoor
theorem Jt{H:Type}(d:DataW H):1<=Rows.uptoBulk d:=by
 cases d with
 | lit l=>cases l<;>simp[Rows.uptoBulk]
 | _=>simp[Rows.uptoBulk]
theorem gZ{H:Type}:∀ {l:List (DataW H)} {d:DataW H},d∈l->Rows.uptoBulk d<=Rows.uptoBulkAll l
 | [],_,h=>by cases h
 | x::r,d,h=>by
  rw[Rows.uptoBulkAll];rcases Yr.1 h with rfl | h
  .omega
  .have:=gZ h;omega
theorem yi{H:Type}:∀l:List (DataW H),l.length<=Rows.uptoBulkAll l
 | []=>by simp
 | x::r=>by
  have h1:=Jt x;have h2:=yi r;rw[Rows.uptoBulkAll,jC];omega
def jY(P:Program)(W:World)(t:TypeId)(cs:List Value):Prop:=
 ∃(H:Type) (enc:TypeId × Value->H) (n:Nat) (x:DataW H × List MemPlace),DataW.trod enc P W 0 (fun _=>true) true n t cs=some x/\Rows.uptoBulk x.1<=1048576
theorem jY.um{P:Program}{W:World}{t:TypeId}{cs:List Value}(h:jY P W t cs):vv P W t cs:=by
 obtain⟨H,enc,n,x,h1,_⟩:=h;exact⟨H,enc,n,x,h1⟩
theorem og{H:Type}{enc:TypeId × Value->H}{P:Program}{W:World}{t:TypeId}{v:Value}{d:DataW H}{p:List MemPlace}(h:DataW.Trod enc P W 0 (fun _=>true) true t v d p)(hw:Rows.uptoBulk d<=1048576):jY P W t v.cells.toList:=by
 obtain⟨n,h⟩:=h;exact⟨H,enc,n,_,h,hw⟩
theorem jY.field{P:Program}{W:World}{t ft:TypeId}{cs:List Value}{i off:Nat}(h:jY P W t cs)(hf:fieldAt P t i=some (ft,off)):jY P W ft ((cs.drop off).take (P.cellsOf ft)):=by
 unfold fieldAt at hf;split at hf
 .rename_i fs hu;obtain⟨f,h1,h2⟩:=rP.1 hf;cases h2;obtain⟨H,enc,n,x,h,hw⟩:=h;obtain⟨xs,m,_,hx,hl,Gc,bZ⟩:=DataW.trod_struct hu h;have bt:i<xs.length:=by rw[Gc];exact (vU.1 h1).1
  refine⟨H,enc,m,xs[i],by rw[bZ i f h1,Yi bt],?_⟩;rw[hx,Rows.uptoBulk] at hw;have:=gZ (l:=xs.map (·.1)) (d:=xs[i].1) (Yp.2 ⟨xs[i],List.getElem_mem bt,rfl⟩);omega
 .cases hf
theorem jY.rows{P:Program}{W:World}{t e:TypeId}{cs:List Value}(ht:P.underlying t=some (.slice e))(h:jY P W t cs)(gG:0<P.cellsOf e):
  ∃(s:Sl) (rows:List (List Value)),cs=[.slice s.a s.n s.c]/\s.n<=s.c/\s.n<=1048576/\(s.a=none->s.n=0/\s.c=0)/\Rw W.heap (P.cellsOf e) s rows/\∀r∈rows,r.length=P.cellsOf e/\jY P W e r:=by
 obtain⟨H,enc,n,x,h,hw⟩:=h;rcases DataW.trod_slice ht h with ⟨rfl,_⟩ | ⟨a,len,cap,elems,rest,m,_,rfl,hx,_,X9,Cu,Uh,YL,_,_⟩
 .exact⟨⟨none,0,0⟩,[],rfl,bu _,Nat.zero_le _,fun _=>⟨rfl,rfl⟩,Rw.nil,fun r hr=>by cases hr⟩
 .rw[hx,Rows.uptoBulk] at hw;have hle:len<=1048576:=by
   have:=yi (elems.map (·.1));rw[Yc] at this;omega
  have hwe:∀(i:Nat) (hi:i<elems.length),Rows.uptoBulk elems[i].1<=1048576:=fun i hi=>by
   have:=gZ (l:=elems.map (·.1)) (d:=elems[i].1) (Yp.2 ⟨elems[i],List.getElem_mem hi,rfl⟩);omega
  by_cases h0:len=0
  .subst h0;exact⟨⟨some a,0,cap⟩,[],rfl,X9,hle,fun e=>(by cases e),Rw.empty rfl,fun r hr=>by cases hr⟩
  .have bL:∀i,i<len->∃r,W.cells? 0 (a.add (i*P.cellsOf e)) (P.cellsOf e)=some r/\jY P W e r:=by
    intro i hi;have h1:=YL i hi;rw[Yi (by omega)] at h1;obtain⟨r,hr,Ak⟩:=Option.bind_eq_some_iff.1 h1;exact⟨r,hr,H,enc,m,_,Ak,hwe i (by omega)⟩
   let row:Nat->List Value:=fun i=>(W.cells? 0 (a.add (i*P.cellsOf e)) (P.cellsOf e)).getD []
   have Ie:∀i,i<len->W.cells? 0 (a.add (i*P.cellsOf e)) (P.cellsOf e)=some (row i)/\jY P W e (row i):=fun i hi=>by
    obtain⟨r,hr,hx⟩:=bL i hi;have:row i=r:=by show (W.cells? 0 _ _).getD []=r;rw[hr];rfl
    rw[this];exact⟨hr,hx⟩
   have gH:∀i,i<len->((List.range len).map row)[i]?=some (row i):=fun i hi=>by
    rw[Yd,vk hi];rfl
   have OV:a=⟨a.block,a.off,none⟩:=by
    have hc:=(rk (Ie 0 (by omega)).1);have oE:0<(row 0).length:=by rw[hc.1];exact gG
    have:=hc.2 0 _ (Yi oE);rw[Nat.zero_mul,show (a.add 0).add 0=a from rfl] at this;unfold World.cell? at this;split at this
    .split at this
     .cases this
     .rename_i hs;cases a with
      | mk b o s=>
       cases s with
       | none=>rfl
       | some s=>exact absurd rfl hs
    .cases this
   refine⟨⟨some a,len,cap⟩,(List.range len).map row,rfl,X9,hle,fun e=>(by cases e),⟨by simp,fun _=>⟨a.block,a.off,by rw[<-OV],fun i r hi j v hj=>?_⟩⟩,fun r hr=>?_⟩
   .have mc:i<len:=by have:=(Ya.1 hi).1;simpa using this
    rw[gH i mc] at hi;cases hi;have h4:=(rk (Ie i mc).1).2 _ _ hj;rw[OV] at h4;have e:((⟨a.block,a.off,none⟩:Addr).add (i*P.cellsOf e)).add j=fT ⟨a.block,a.off+i*P.cellsOf e,none⟩ j:=by
     rw[eU,CX,CX]
    rw[e] at h4;exact h4
   .obtain⟨i,hi,rfl⟩:=Yp.1 hr;have:=Ie i (List.mem_range.1 hi);exact⟨(rk this.1).1,this.2⟩
theorem jY.list{α:Type}{P:Program}{W:World}{t e:TypeId}{k:Nat}{v:Value}{cs:α->List Value}{Q:α->Prop}(ht:P.underlying t=some (.slice e))(hk:P.cellsOf e=k)(gG:0<k)
  (ho:∀r,jY P W e r->∃x,r=cs x/\Q x) (h:jY P W t [v]):∃(s:Sl) (L:List α),v=.slice s.a s.n s.c/\RL W.heap k s cs L/\∀x∈L,Q x:=by
 subst hk;obtain⟨s,rows,e1,hc,hm,Gg,iy,hr⟩:=h.rows ht gG;have key:∀rows:List (List Value),(∀r∈rows,r.length=P.cellsOf e/\jY P W e r)->∃L:List α,rows=L.map cs/\∀x∈L,Q x:=by
  intro rows
  induction rows with
  | nil=>intro _;exact⟨[],rfl,fun x hx=>by cases hx⟩
  | cons r rows ih=>
   intro h;obtain⟨x,hx,hq⟩:=ho r (h r (by simp)).2;obtain⟨L,hL,hQ⟩:=ih fun y hy=>h y (Yn _ hy);exact⟨x::L,by rw[hx,hL];rfl,fun y hy=>by rcases Yr.1 hy with rfl | hy;exact hq;exact hQ y hy⟩
 obtain⟨L,rfl,hQ⟩:=key rows hr;have hn:=iy.ln;exact⟨s,L,by simpa using e1,⟨iy,hc,Gg,by omega⟩,hQ⟩
theorem v3:Pz.underlying 3=some (.int .i64):=by kernel_rfl
theorem v4b:Pz.underlying 4=some .bool:=by kernel_rfl
theorem v9:Pz.underlying 9=some .string:=by kernel_rfl
theorem Uy:Pz.cellsOf 3=1:=by kernel_rfl
theorem cz4:Pz.cellsOf 4=1:=by kernel_rfl
theorem cz9:Pz.cellsOf 9=1:=by kernel_rfl
theorem agf:Pz.cellsOf 22=1:=by kernel_rfl
theorem age:Pz.cellsOf 23=1:=by kernel_rfl
theorem agd:Pz.cellsOf 24=1:=by kernel_rfl
theorem agc:Pz.cellsOf 25=1:=by kernel_rfl
theorem agb:Pz.cellsOf 27=8:=by kernel_rfl
theorem ZK:Pz.cellsOf 65=3:=by kernel_rfl
theorem ZJ:Pz.cellsOf 67=6:=by kernel_rfl
theorem ZI:Pz.cellsOf 149=3:=by kernel_rfl
theorem ZP:Pz.cellsOf 166=1:=by kernel_rfl
theorem ZO:Pz.cellsOf 167=1:=by kernel_rfl
theorem ZN:Pz.cellsOf 49=1:=by kernel_rfl
theorem ZM:Pz.cellsOf 169=2:=by kernel_rfl
theorem Px:Pz.cellsOf 171=5:=by kernel_rfl
theorem ZL:Pz.cellsOf 258=3:=by kernel_rfl
theorem Pw:Pz.cellsOf 260=4:=by kernel_rfl
theorem Pv:Pz.cellsOf 263=3:=by kernel_rfl
theorem Pu:Pz.cellsOf 52=2:=by kernel_rfl
theorem acy:Pz.underlying 22=some (.slice 9):=by kernel_rfl
theorem acx:Pz.underlying 23=some (.slice 171):=by kernel_rfl
theorem acw:Pz.underlying 24=some (.slice 67):=by kernel_rfl
theorem acv:Pz.underlying 25=some (.slice 149):=by kernel_rfl
theorem UP:Pz.underlying 166=some (.slice 260):=by kernel_rfl
theorem UO:Pz.underlying 167=some (.slice 263):=by kernel_rfl
theorem UN:Pz.underlying 49=some (.slice 52):=by kernel_rfl
theorem WW:Pz.underlying 52=some (.array 2 3):=by kernel_rfl
theorem jY.str{P:Program}{W:World}{t:TypeId}{cs:List Value}(ht:P.underlying t=some .string)(h:jY P W t cs):∃s:ByteArray,cs=[.string s]/\s.size<=1048576:=by
 obtain⟨H,enc,n,x,h,hw⟩:=h;obtain⟨m,h1,hx,_⟩:=DataW.trod_string ht h;refine⟨m,h1,?_⟩;rw[hx,Rows.uptoBulk] at hw;have e:m.data.toList.length=m.size:=rfl;omega
theorem Ea{W:World}{r:List Value}(h:jY Pz W 9 r):∃x:Nm,r=Es x/\True:=by
 obtain⟨s,e,_⟩:=h.um.str v9;exact⟨s.data.toList,by rw[e];rfl,trivial⟩
theorem zz{W:World}{r:List Value}(h:jY Pz W 260 r):∃x:oW,r=x.cs/\True:=by
 have hl:=h.um.IZ (i:=0) (ft:=9) (off:=0) (by kernel_rfl);rw[Pw] at hl
 match r,hl with
 | [x0,x1,x2,x3],_=>
  have f0:=h.um.field (i:=0) (ft:=9) (off:=0) (by kernel_rfl);have f1:=h.um.field (i:=1) (ft:=258) (off:=1) (by kernel_rfl);rw[cz9] at f0;rw[ZL] at f1;have g0:=f1.field (i:=0) (ft:=3) (off:=0) (by kernel_rfl);have g1:=f1.field (i:=1) (ft:=3) (off:=1) (by kernel_rfl);have g2:=f1.field (i:=2) (ft:=3) (off:=2) (by kernel_rfl);rw[Uy] at g0 g1 g2;obtain⟨s,e0,_⟩:=f0.str v9;obtain⟨k1,e1,_⟩:=g0.int v3;obtain⟨k2,e2,_⟩:=g1.int v3;obtain⟨k3,e3,_⟩:=g2.int v3;simp only[List.drop_zero,List.take_succ_cons,iY,List.drop_succ_cons,List.cons.injEq,and_true] at e0 e1 e2 e3;subst e0 e1 e2 e3;exact⟨⟨s.data.toList,k1,k2,k3⟩,rfl,trivial⟩
theorem kH{W:World}{t:TypeId}{r:List Value}(hc:Pz.cellsOf t=3)(h0:fieldAt Pz t 0=some (3,0))(h1:fieldAt Pz t 1=some (3,1))(h2:fieldAt Pz t 2=some (3,2))(h:vv Pz W t r):
  ∃a b c:Int,r=[.int .i64 a,.int .i64 b,.int .i64 c]:=by
 have hl:=h.IZ h0;rw[hc] at hl
 match r,hl with
 | [x0,x1,x2],_=>
  have f0:=h.field h0;have f1:=h.field h1;have f2:=h.field h2;rw[Uy] at f0 f1 f2;obtain⟨k0,e0,_⟩:=f0.int v3;obtain⟨k1,e1,_⟩:=f1.int v3;obtain⟨k2,e2,_⟩:=f2.int v3;simp only[List.drop_zero,List.take_succ_cons,iY,List.drop_succ_cons,List.cons.injEq,and_true] at e0 e1 e2;subst e0 e1 e2;exact⟨k0,k1,k2,rfl⟩
theorem Ec{W:World}{r:List Value}(h:jY Pz W 263 r):∃x:Df,r=x.cs/\True:=by
 obtain⟨a,b,c,e⟩:=kH Pv (by kernel_rfl) (by kernel_rfl) (by kernel_rfl) h.um;exact⟨⟨a,b,c⟩,e,trivial⟩
theorem uv{W:World}{r:List Value}(h:jY Pz W 149 r):∃x:To,r=x.cs/\True:=by
 obtain⟨a,b,c,e⟩:=kH ZI (by kernel_rfl) (by kernel_rfl) (by kernel_rfl) h.um;exact⟨⟨a,b,c⟩,e,trivial⟩
theorem open_pair{W:World}{r:List Value}(h:jY Pz W 52 r):∃x:KN,r=x.cs/\True:=by
 obtain⟨hl,ha⟩:=h.um.array WW;rw[Pu] at hl;rw[Uy] at ha
 match r,hl with
 | [x0,x1],_=>
  obtain⟨k0,e0,_⟩:=(ha 0 (by omega)).int v3;obtain⟨k1,e1,_⟩:=(ha 1 (by omega)).int v3;simp only[Nat.zero_mul,Nat.one_mul,List.drop_zero,List.take_succ_cons,iY,List.drop_succ_cons,List.cons.injEq,and_true] at e0 e1;subst e0 e1;exact⟨⟨k0,k1⟩,rfl,trivial⟩
theorem Eb{W:World}{r:List Value}(h:jY Pz W 67 r):∃x:Ed,r=x.cs/\True:=by
 have hl:=h.um.IZ (i:=0) (ft:=3) (off:=0) (by kernel_rfl);rw[ZJ] at hl
 match r,hl with
 | [x0,x1,x2,x3,x4,x5],_=>
  have f0:=h.um.field (i:=0) (ft:=3) (off:=0) (by kernel_rfl);have f1:=h.um.field (i:=1) (ft:=65) (off:=1) (by kernel_rfl);have f2:=h.um.field (i:=2) (ft:=3) (off:=4) (by kernel_rfl);have f3:=h.um.field (i:=3) (ft:=4) (off:=5) (by kernel_rfl);rw[Uy] at f0 f2;rw[ZK] at f1;rw[cz4] at f3;obtain⟨a,b,c,e1⟩:=kH ZK (by kernel_rfl) (by kernel_rfl) (by kernel_rfl) f1;obtain⟨k0,e0,_⟩:=f0.int v3;obtain⟨k2,e2,_⟩:=f2.int v3;obtain⟨k3,e3⟩:=f3.bool v4b;simp only[List.drop_zero,List.take_succ_cons,iY,List.drop_succ_cons,List.cons.injEq,and_true] at e0 e1 e2 e3;obtain⟨e1a,e1b,e1c⟩:=e1;subst e0 e1a e1b e1c e2 e3;exact⟨⟨k0,a,b,c,k2,k3⟩,rfl,trivial⟩
theorem Ee{W:World}{r:List Value}(h:jY Pz W 171 r):∃x:Dc,r=x.cs/\DI W.heap x/\x.nm.length<=1048576:=by
 have hl:=h.um.IZ (i:=0) (ft:=9) (off:=0) (by kernel_rfl);rw[Px] at hl
 match r,hl with
 | [x0,x1,x2,x3,x4],_=>
  have f0:=h.field (i:=0) (ft:=9) (off:=0) (by kernel_rfl);have f1:=h.field (i:=1) (ft:=166) (off:=1) (by kernel_rfl);have f2:=h.um.field (i:=2) (ft:=3) (off:=2) (by kernel_rfl);have f3:=h.field (i:=3) (ft:=169) (off:=3) (by kernel_rfl);rw[cz9] at f0;rw[ZP] at f1;rw[Uy] at f2;rw[ZM] at f3;have g0:=f3.field (i:=0) (ft:=167) (off:=0) (by kernel_rfl);have g1:=f3.field (i:=1) (ft:=49) (off:=1) (by kernel_rfl);rw[ZO] at g0;rw[ZN] at g1;obtain⟨s,e0,mN⟩:=f0.str v9;obtain⟨sf,fs,e1,hf,_⟩:=jY.list UP Pw (by omega) (fun r hr=>zz hr) f1;obtain⟨k,e2,_⟩:=f2.int v3;obtain⟨sd,ds,e3,hd,_⟩:=jY.list UO Pv (by omega) (fun r hr=>Ec hr) g0;obtain⟨se,es,e4,he,_⟩:=jY.list UN Pu (by omega) (fun r hr=>open_pair hr) g1;simp only[List.drop_zero,List.take_succ_cons,iY,List.drop_succ_cons,List.cons.injEq,and_true] at e0 e2;subst e0 e1 e2 e3 e4;exact⟨⟨s.data.toList,sf,k,sd,se,fs,ds,es⟩,rfl,⟨hf,hd,he⟩,mN⟩
theorem wQ{W:World}{cs:List Value}(h:jY Pz W 27 cs):∃g:Gl,cs=g.cs/\GI W.heap g/\∀d∈g.ds,d.nm.length<=1048576:=by
 have hl:=h.um.IZ (i:=0) (ft:=9) (off:=0) (by kernel_rfl);rw[agb] at hl
 match cs,hl with
 | [x0,x1,x2,x3,x4,x5,x6,x7],_=>
  have f0:=h.um.field (i:=0) (ft:=9) (off:=0) (by kernel_rfl);have f1:=h.field (i:=1) (ft:=22) (off:=1) (by kernel_rfl);have f2:=h.field (i:=2) (ft:=23) (off:=2) (by kernel_rfl);have f3:=h.um.field (i:=3) (ft:=3) (off:=3) (by kernel_rfl);have f4:=h.um.field (i:=4) (ft:=3) (off:=4) (by kernel_rfl);have f5:=h.um.field (i:=5) (ft:=3) (off:=5) (by kernel_rfl);have f6:=h.field (i:=6) (ft:=24) (off:=6) (by kernel_rfl);have f7:=h.field (i:=7) (ft:=25) (off:=7) (by kernel_rfl);rw[cz9] at f0;rw[agf] at f1;rw[age] at f2;rw[Uy] at f3 f4 f5;rw[agd] at f6;rw[agc] at f7;obtain⟨s,e0,_⟩:=f0.str v9;obtain⟨sr,rs,e1,hr,_⟩:=jY.list acy cz9 (by omega) (fun r hr=>Ea hr) f1;obtain⟨sd,ds,e2,hd,Cs⟩:=jY.list acx Px (by omega) (fun r hr=>Ee hr) f2;obtain⟨k3,e3,_⟩:=f3.int v3;obtain⟨k4,e4,_⟩:=f4.int v3;obtain⟨k5,e5,_⟩:=f5.int v3;obtain⟨se,es,e6,he,_⟩:=jY.list acw ZJ (by omega) (fun r hr=>Eb hr) f6;obtain⟨st,ts,e7,ht,_⟩:=jY.list acv ZI (by omega) (fun r hr=>uv hr) f7;simp only[List.drop_zero,List.take_succ_cons,iY,List.drop_succ_cons,List.cons.injEq,and_true] at e0 e3 e4 e5;subst e0 e1 e2 e3 e4 e5 e6 e7;exact⟨⟨s.data.toList,sr,sd,k3,k4,k5,se,st,rs,ds,es,ts⟩,rfl,⟨hr,⟨hd,fun d hm=>(Cs d hm).1⟩,he,ht⟩,fun d hm=>(Cs d hm).2⟩

end Go.VC
end
