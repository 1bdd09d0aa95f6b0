/- SxM10 SxM11 SxM12 SxM13 SxM14 SxM15 SxM16 SxKa SxKb SxKc SxKd SxKe SxKf SxKg SxKh SxKj SxKk SxM17 SxM19 SxM20 SyH SyK SxM21 SxM22 SyA SyB SyC SyM SyO SyP SyQ SyR SyS. -/
import Derived.Test.YtajglkbckhgboaaGreatDoorGM08
set_option linter.all false
set_option maxRecDepth 100000
set_option maxHeartbeats 8000000

section
namespace Go.VC
open Go.Proofs Go.LexS
theorem sM{a:Addr}{F:Addr->Prop}(h:F a):NC (some a) F:=h
theorem Pc{h aD h2 cw h1:Heap}{b:Nat}{g:Gl}{role:Int}{X:An}{IN:List Ka}{lf:Sl}{R:Value->Heap->Prop}
  (hs:St h aD (qH h2.size cw.size h1.size h.size b IN lf (List.replicate g.n.toNat 0) au [])) (hA:vP h b g role X) (hV:af g) (hI:Tw g IN)
  (hK:∀(im:Heap) (q:Sl) (LF:List Int) (Q:List Nat),St h im (qH h2.size cw.size h1.size h.size b IN lf LF q Q)->nP g (r6 X) LF Q Q.length 1000->IG im h cw h1 R) :
  R3 aD cw h g.n h2 h1 R:=by
 unfold R3;have hN:=hV.num.n;have Eg:=(hs.len 2 (s:=lf) (e:=3) (n:=1) (rows:=(List.replicate g.n.toNat 0).map aO) rfl (by omega)).1;rw[Yc,Yg] at Eg;refine⟨lf,hs.rd 1 rfl (i:=0) rfl,?_⟩;refine⟨fun q x h' μ=>∃(s:Nat) (LF:List Int) (Q:List Nat),x=(s:Int)/\μ=g.n.toNat-s/\s<=g.n.toNat/\St h h' (qH h2.size cw.size h1.size h.size b IN lf LF q Q)/\LF.length=g.n.toNat/\(∀t:Nat,t<s->(r6 X t/\LF[t]?=some 0/\t∈Q)\/(¬r6 X t/\LF[t]?=some df/\t∉Q))/\(∀t∈Q,t<s)/\Q.Nodup/\Q.length<=s,
  ⟨_,0,_,[],rfl,rfl,Nat.zero_le _,hs,by rw[Yg],fun t ht=>by omega,fun t ht=>(by cases ht),.nil,bc _⟩,?_⟩
 clear hs;rintro-q _ nD μ ⟨s,LF,Q,rfl,rfl,iA,hs,LS,dt,hQs,zR,hQl⟩;refine aM (fun c=>?_) (fun c=>?_)
 .refine⟨lf,hs.rd 1 rfl (i:=0) rfl,?_⟩;refine hs.set 2 rfl (by omega) (x:=(s:Int)) (by omega) (by omega) df rfl rfl (fun b17 Sy oo hs=>?_) rfl;have hs:St h oo (qH h2.size cw.size h1.size h.size b IN lf (LF.set s df) q Q):=hs;refine⟨some ⟨b,0,none⟩,hs.rd 5 rfl (i:=0) rfl,sM ⟨X.cn,ax hs.ext hA.r.f,?_⟩⟩;have BZ:=hA.r.rf.ln;have hnf:=hA.nf;refine (hA.r.rf.ext hs.ext).rw.aA (by omega) (by omega) fun b54 o55 f gf u=>?_;replace gf:X.fi[s]?=some f:=gf;have fO:=hA.r.re f (Yb gf);refine⟨f.s,f.b,u,?_⟩;refine (GN f.l f.b f.s oo (fO.ext hs.ext).rw fO.sm).mono ?_;rintro _ Qf ⟨rfl,E⟩;replace hs:=hs.step E;have yC:r6 X s ↔ K7 f=true:=⟨fun ⟨f',h1,h2⟩=>by rw[gf] at h1;cases h1;exact h2,fun h9=>⟨f,gf,h9⟩⟩;have Xd:∀(v:Int) (t:Nat),t<s->((LF.set s df).set s v)[t]?=LF[t]?:=fun v t ht=>by rw[Yy (by omega),Yy (by omega)]
  refine⟨_,rfl,aa (fun c2=>?_) (fun c2=>?_)⟩
  .refine⟨lf,hs.rd 1 rfl (i:=0) rfl,?_⟩;refine hs.set 2 rfl (by omega) (x:=(s:Int)) (by omega) (by omega) (0:Int) rfl rfl (fun b17 Sy J4 hs=>?_) rfl;have hs:St h J4 (qH h2.size cw.size h1.size h.size b IN lf ((LF.set s df).set s 0) q Q):=hs;have nz:=(hs.len 0 (s:=q) (e:=3) (n:=1) (rows:=(aw Q).map aO) rfl (by omega)).1;rw[Yc] at nz;have Pv:q.n=Q.length:=by unfold aw at nz;rwa [Yc] at nz
   refine hs.app 0 rfl dv (m:=1) [aO (s:Int)] rfl rfl (fun r hr=>by rw[Ye] at hr;rw[hr];rfl) rfl (by omega) (by simp only[maxLen];omega) fun s66 h67 n66 hs=>?_;refine⟨_,?_,s+1,(LF.set s df).set s 0,Q++[s],by rw[a7 (by omega) (by omega)];omega,rfl,by omega,?_,by rw[jR,jR];exact LS,fun t ht=>?_,fun t ht=>?_,?_,by rw[Yh,Yv];omega⟩
   .omega
   .have e9:(aw (Q++[s])).map aO=(aw Q).map aO++[aO (s:Int)]:=by rw[jz,Ym];rfl
    unfold qH;rw[e9];exact hs
   .by_cases e:t=s
    .subst e;exact .inl ⟨yC.2 c2,Yq (by rw[jR];omega),by simp⟩
    .rw[Xd 0 t (by omega),Yk,Ye];exact (dt t (by omega)).imp (fun ⟨h1,h2,h3⟩=>⟨h1,h2,.inl h3⟩) (fun ⟨h1,h2,h3⟩=>⟨h1,h2,fun h9=>h9.elim h3 e⟩)
   .rcases Yk.1 ht with ht | ht
    .have:=hQs t ht;omega
    .rw[Ye] at ht;omega
   .rw[List.nodup_append];exact⟨zR,by simp,fun a ha b hb e=>by rw[Ye] at hb;have:=hQs a ha;omega⟩
  .refine⟨_,?_,s+1,LF.set s df,Q,by rw[a7 (by omega) (by omega)];omega,rfl,by omega,hs,by rw[jR];exact LS,fun t ht=>?_,fun t ht=>?_,zR,by omega⟩
   .omega
   .by_cases e:t=s
    .subst e;exact .inr ⟨fun h9=>(by rw[yC] at h9;unfold K7 at h9;rw[h9] at c2;cases c2),Yq (by omega),fun h9=>by have:=hQs t h9;omega⟩
    .rw[Yy (by omega)];exact dt t (by omega)
   .have:=hQs t ht;omega
 .have:s=g.n.toNat:=by omega
  subst this;exact Ro hs hV hI (.init LS dt hQs zR) hK
theorem DX{b:Nat}{g:Gl}{role:Int}{X:An}{h:Heap}{R:Value->Heap->Prop}(hA:vP h b g role X)(hV:af g)
  (hK:∀(im cw h1 h2:Heap) (IN:List Ka) (lf q:Sl) (LF:List Int) (Q:List Nat),St h im (qH h2.size cw.size h1.size h.size b IN lf LF q Q)->nP g (r6 X) LF Q Q.length 1000->IG im h cw h1 R) :
  Fn Pz 97 #[.pointer (some ⟨b,0,none⟩)] h R:=by
 apply abh ⟨b,0,none⟩;unfold W97;have hN:=hV.num.n;have hM:=hV.num.m;have hE:=hV.num.e;have hg:=hA.gg.gi;have ke:=hg.e.ln;have yC:g.n.toNat<=9223372036854775807:=by omega
 refine (St.refl h).aj fun h1 hs=>?_;refine hs.aj fun h2 hs=>?_;refine⟨some ⟨b,0,none⟩,hs.rd 1 rfl (i:=0) rfl,sM ⟨g.n,ax hs.ext (hA.gg.at_.nth 3 rfl),⟨by omega,by omega,by omega⟩,?_⟩⟩;refine hs.aj fun h6 hs=>?_;refine⟨some ⟨b,0,none⟩,hs.rd 2 rfl (i:=0) rfl,sM ⟨g.n,ax hs.ext (hA.gg.at_.nth 3 rfl),⟨by omega,by omega,by omega⟩,?_⟩⟩;refine hs.aj fun cw hs=>?_;refine hs.ao (vs:=[.slice (some ⟨h6.size,0,none⟩) g.n.toNat g.n.toNat]) rfl rfl fun kh hs=>?_;have hs:=hs.km 1 rfl g.n.toNat 1 ((List.replicate g.n.toNat (0:Int)).map aO) (Pa _) (Ha _) (by rw[Yc,Yg]) yC;have hs:=hs.bH 3 1;have hs:=hs.qF (α:=Int) (e:=3) (k:=1) (cs:=aO) (A:=[_,_,_,_,_,_]) (B:=[]) g.n.toNat;generalize hlf:(⟨some ⟨h6.size,0,none⟩,g.n.toNat,g.n.toNat⟩:Sl)=lf at *;have hs:St h kh (qH h2.size cw.size h1.size h.size b (List.replicate g.n.toNat (au,[])) lf (List.replicate g.n.toNat 0) au []):=by
  subst hlf;unfold qH;rw[List.map_replicate (f:=Prod.fst),<-Lf];exact hs
 clear hlf;refine⟨some ⟨b,0,none⟩,hs.rd 5 rfl (i:=0) rfl,sM ⟨g.he,ax hs.ext (hA.gg.at_.nth 6 rfl),?_⟩⟩;refine⟨fun x h' μ=>∃(j:Nat) (IN:List Ka),x=(j:Int)/\μ=g.es.length-j/\j<=g.es.length/\IN.map Prod.snd=((List.range g.n.toNat).map (BM (g.es.take j)))/\St h h' (qH h2.size cw.size h1.size h.size b IN lf (List.replicate g.n.toNat 0) au []),
  ⟨_,0,_,rfl,rfl,Nat.zero_le _,?_,hs⟩,?_⟩
 .rw[List.map_replicate];apply yL;intro s;rw[List.getElem?_replicate,Yd];by_cases hs:s<g.n.toNat
  .rw[if_pos hs,yi hs];rfl
  .rw[if_neg hs,Yl (by rw[kV];omega)];rfl
 clear hs;rintro-_ aD μ ⟨j,IN,rfl,rfl,hj,hIN,hs⟩;have hIl:IN.length=g.n.toNat:=by have:=congrArg List.length hIN;simpa using this
 refine aM (fun c=>?_) (fun c=>?_)
 .refine (hg.e.rw.ext hs.ext).aA (by omega) (by omega) fun b21 o22 x gx u=>?_;replace gx:g.es[j]?=some x:=gx;have kK:=hE x (Yb gx);unfold gV at kK;obtain⟨q,hq⟩:=get_some (l:=IN) (i:=x.t.toNat) (by omega);refine⟨_,_,_,_,_,_,u,?_⟩;refine hs.ao (vs:=x.cs) rfl rfl fun HF hs=>?_;refine⟨x.t,hs.rd 0 rfl (i:=4) rfl,x.t,hs.rd 0 rfl (i:=4) rfl,⟨by omega,by omega⟩,?_⟩;rw[show 0+Int.toNat x.t*1=x.t.toNat by omega];refine⟨q.1,hs.rd 4 rfl (by rw[Yd,Yd,hq];rfl),x.f,hs.rd 0 rfl (i:=0) rfl,?_⟩;refine hs.aq fun bL E35 hs=>⟨E35.sm,?_⟩;have hs:St h bL ((.ae HF.size [.int .i64 x.f] 3 :: .ae aD.size x.cs 67::[.sl au 3 1 ((aw []).map aO),.ae cw.size [.slice lf.a lf.n lf.c] 102,.sl lf 3 1 ((List.replicate g.n.toNat 0).map aO),.ae h2.size ((IN.map Prod.fst).map eS) 102,.ae h1.size cq.cs 35,.ae h.size [.pointer (some ⟨b,0,none⟩)] 89])++IN.map (nest 3 1 aO)++[]):=hs;have nz:=(hs.kF hq (by omega)).ln;have fY:q.2=BM (g.es.take j) x.t.toNat:=by
   have h1:=aR hIN (s:=x.t.toNat) (by omega);rw[Yd,hq] at h1;exact fL h1
  have uO:q.2.length<=400:=by rw[fY];refine mw (BK _ _) ?_;rw[Yu];omega
  refine hs.nj hq dv x.f (hs.at 0 rfl (o:=0) (n:=1) rfl) rfl rfl (by omega) (by simp only[maxLen];omega) fun r oV hr fN=>?_;refine⟨fV (hs.same fN 1 1 rfl rfl) kv,⟨by omega,by omega⟩,?_⟩;refine fN.put 5 rfl (o:=x.t.toNat) (vs:=[eS r]) rfl (by rw[Yc,Yc,Yv];omega) fun sD hs=>?_;rw[bw eS (by rw[Yc];omega)] at hs;refine⟨_,by omega,j+1,IN.set x.t.toNat (r,q.2++[x.f]),by rw[a7 (by omega) (by omega)];omega,rfl,by omega,?_,?_⟩
  .rw[List.map_set,hIN];refine cN (by omega) ?_ fun t ht=>?_
   .unfold BM;rw[ak gx,List.filter_append,Ym,fY];unfold BM;rw[List.filter_cons_of_pos (by rw[decide_eq_true_eq];omega)];rfl
   .unfold BM;rw[ak gx,List.filter_append,Ym,List.filter_cons_of_neg (by rw[decide_eq_true_eq];omega)];exact Yw _
  .have hs:=hs.drop 2;unfold qH;rw[List.map_set (f:=Prod.fst)];exact hs
 .rw[Yj (by omega)] at hIN;exact Pc hs hA hV ⟨hIN⟩ fun im q LF Q hs hB=>hK im cw h1 h2 IN lf q LF Q hs hB
inductive GS (es:List Ed) (LF:List Int) (s0:Nat):List Nat->Nat->Prop
 | nil:GS es LF s0 [] s0
 | snoc {ks:List Nat} {s:Nat} {x:Int} {j i:Nat}:GS es LF s0 ks s->LF[s]?=some x->0<x->(ah es (s:Nat)).findIdx? (GB LF es x)=some j->(ah es (s:Nat))[j]?=some i->GS es LF s0 (ks++[i]) (eA es i).t.toNat
def cJ(es:List Ed)(ks:List Nat):List Ac:=ks.map fun i=>(eA es i).act
def yx(role:Int)(l:List Ev):AN:=(l.find? fun x=>!x.send).elim ⟨-1,false,0,0⟩ (aI role)
def SA(wb sb:Nat)(role:Int)(wf:Sl)(s:Nat)(F:List Ac)(R:List It):List It:=
 .sl wf 65 3 (F.map Ac.cs) :: .ae wb (Wt.cs ⟨2,role,wf,au,bp,bp⟩) 35 :: .ae sb [.int .i64 (s:Nat)] 3::R
theorem Mi{zZ h im qX h1 h2 cw:Heap}{b:Nat}{g:Gl}{role:Int}{X:An}{wf lf q:Sl}{s:Nat}{F:List Ac}{IN:List Ka}{LF:List Int}{Q:List Nat}{f:Fs}{Kf:Int}{R:Value->Heap->Prop}
  (hs:St h zZ (SA qX.size im.size role wf s F (qH h2.size cw.size h1.size h.size b IN lf LF q Q))) (hA:vP h b g role X) (hf:X.fi[s]?=some f) (hm:K7 f=true)
  (hK:∀(h':Heap) (w:Wt) (e0:Ev) (L:List It),w.k=2->w.r=role->f.l[0]?=some e0->w.e=aI role e0->w.o=yx role f.l->St h h' (.sl w.f 65 3 (F.map Ac.cs) :: .sl w.s 65 3 (([]:List Ac).map Ac.cs)::L)->R (.tuple ⟨[.agg ⟨w.cs⟩,.int .i64 (IntKind.wrap .i64 (2*Kf))]⟩) h') :
  R4 zZ h im qX h1 R Kf:=by
 unfold R4;have Fj:hc h ⟨b,8,none⟩=some (Value.int .i64 role):=hA.r.ro;have BZ:=hA.r.rf.ln;have n9:=(Ya.1 hf).1;have fO:=hA.r.re f (Yb hf);have agV:=fO.ln;have rR:0<f.l.length:=by
  rcases Nat.eq_zero_or_pos f.l.length with h9 | h9
  .rw[List.length_eq_zero_iff] at h9;unfold K7 dq at hm;simp[h9] at hm
  .exact h9
 refine⟨some ⟨b,0,none⟩,hs.rd 8 rfl (i:=0) rfl,sM ⟨X.cn,ax hs.ext hA.r.f,(s:Nat),hs.rd 2 rfl (i:=0) rfl,?_⟩⟩;refine (hA.r.rf.ext hs.ext).rw.aA (by omega) (by omega) fun b54 o55 f' gf u=>?_;replace gf:X.fi[s]?=some f':=gf;rw[hf] at gf;cases gf;refine⟨f.s,f.b,u,?_⟩;refine hs.aq fun ahF E hs=>⟨E.sm,?_⟩;refine hs.put 0 rfl (o:=0) (vs:=f.cs) rfl (bc 2) fun adS hs=>?_;refine⟨some ⟨b,0,none⟩,hs.rd 9 rfl (i:=0) rfl,f.s,hs.rd 0 rfl (i:=0) rfl,?_⟩;refine (fO.ext hs.ext).rw.aA (by omega) (by omega) fun aie agd e0 ge u2=>?_;replace ge:f.l[0]?=some e0:=ge;refine⟨e0.send,e0.peer,e0.label,u2,?_⟩;refine (mc b role e0 adS (ax hs.ext Fj)).mono ?_;rintro _ Xv ⟨E2,rfl⟩;replace hs:=hs.step E2;refine⟨role,e0.send,e0.peer,e0.label,au,rfl,?_⟩;refine hs.put 2 rfl (o:=4) (vs:=(aI role e0).cs) rfl (by show 4+5<=14;decide) fun ahE hs=>?_;refine hs.put 2 rfl (o:=9) (vs:=AN.cs ⟨-1,false,0,0⟩) rfl (by show 9+5<=14;decide) fun uV hs=>?_;refine⟨f.s,hs.rd 0 rfl (i:=0) rfl,?_⟩;refine (G6 f.l f.s uV (fO.ext hs.ext).rw fO.sm).mono ?_;rintro _ Qj ⟨rfl,E3⟩;replace hs:=hs.step E3;refine⟨_,rfl,?_⟩;unfold uM;cases gG:f.l.findIdx? fun x=>!x.send with
 | none=>
  have hot:yx role f.l=⟨-1,false,0,0⟩:=by
   unfold yx;rw[List.findIdx?_eq_none_iff] at gG;rw[Ce fun j y hj=>gG y (Yb hj)];rfl
  refine aM (fun c=>absurd c (by show ¬(-1:Int)>=0;decide)) (fun _=>?_);refine Ah hs 2 8 (w:=⟨2,role,wf,au,aI role e0,⟨-1,false,0,0⟩⟩) (w0:=cq) rfl rfl fun jZ hs=>?_;refine oL (w:=⟨2,role,wf,au,aI role e0,⟨-1,false,0,0⟩⟩) (Q:=fun cs=>R (.tuple ⟨[.agg ⟨cs⟩,.int .i64 (IntKind.wrap .i64 (2*Kf))]⟩) jZ) (hs.at 8 rfl (o:=0) (n:=14) rfl) ?_;have hs:=(hs.drop 1).bH 65 3;exact hK jZ ⟨2,role,wf,au,aI role e0,⟨-1,false,0,0⟩⟩ e0 _ rfl rfl ge rfl hot.symm (hs.perm (List.Perm.swap _ _ _))
 | some i=>
  obtain⟨h1i,h2i,h3i⟩:=List.findIdx?_eq_some_iff_getElem.1 gG;obtain⟨e1,W5⟩:=get_some h1i;have adj:=(Ya.1 W5).2;have hot:yx role f.l=aI role e1:=by
   unfold yx;rw[vb f.l i e1 (fun j y hj hy=>?_) W5 (by rw[<-adj];exact h2i)]
   .rfl
   .have h9:=h3i j hj;rw[(Ya.1 hy).2] at h9;simpa using h9
  refine aM (fun c=>?_) (fun c=>absurd (Int.natCast_nonneg i) c);refine⟨some ⟨b,0,none⟩,hs.rd 9 rfl (i:=0) rfl,f.s,hs.rd 0 rfl (i:=0) rfl,?_⟩;refine (fO.ext hs.ext).rw.aA (x:=(i:Int)) (by omega) (by omega) fun aid agc e1' ge1 u3=>?_;replace ge1:f.l[i]?=some e1':=ge1;rw[W5] at ge1;cases ge1;refine⟨e1.send,e1.peer,e1.label,u3,?_⟩;refine (mc b role e1 Qj (ax hs.ext Fj)).mono ?_;rintro _ ahD ⟨E4,rfl⟩;replace hs:=hs.step E4;refine⟨role,e1.send,e1.peer,e1.label,au,rfl,?_⟩;refine hs.put 2 rfl (o:=9) (vs:=(aI role e1).cs) rfl (by show 9+5<=14;decide) fun ahC hs=>?_;refine Ah hs 2 8 (w:=⟨2,role,wf,au,aI role e0,aI role e1⟩) (w0:=cq) rfl rfl fun jZ hs=>?_;refine oL (w:=⟨2,role,wf,au,aI role e0,aI role e1⟩) (Q:=fun cs=>R (.tuple ⟨[.agg ⟨cs⟩,.int .i64 (IntKind.wrap .i64 (2*Kf))]⟩) jZ) (hs.at 8 rfl (o:=0) (n:=14) rfl) ?_;have hs:=(hs.drop 1).bH 65 3;exact hK jZ ⟨2,role,wf,au,aI role e0,aI role e1⟩ e0 _ rfl rfl ge rfl hot.symm (hs.perm (List.Perm.swap _ _ _))
theorem Kq{zZ h im qX h1 h2 cw:Heap}{b:Nat}{g:Gl}{role:Int}{X:An}{wf lf q:Sl}{s j i:Nat}{kW:Int}{F:List Ac}{IN:List Ka}{LF:List Int}{Q:List Nat}{V5:Nat}{aaS:Heap->Nat->Prop}
  (hs:St h zZ (SA qX.size im.size role wf s F (qH h2.size cw.size h1.size h.size b IN lf LF q Q))) (hA:vP h b g role X) (hV:af g) (hL:LF.length=g.n.toNat) (iA:s<g.n.toNat) (hx:LF[s]?=some kW) (Hc:0<=kW/\kW<=df)
  (gG:(ah g.es (s:Nat)).findIdx? (GB LF g.es kW)=some j) (gi:(ah g.es (s:Nat))[j]?=some i) (hF:F.length<=8388608)
  (hI:∀(h':Heap) (Fb:Sl),St h h' (SA qX.size im.size role Fb (eA g.es i).t.toNat (F++[(eA g.es i).act]) (qH h2.size cw.size h1.size h.size b IN lf LF q Q))->∃m9,m9<V5/\aaS h' m9):RY zZ h im cw qX V5 aaS:=by
 unfold RY;have hN:=hV.num.n;have hE:=hV.num.e;have hg:=hA.gg.gi;have ke:=hg.e.ln;have rQ:=cG g.es (s:Nat);have hM:=hV.num.m;have Hi:Rw h 1 (X.os s) ((aw (ah g.es (s:Nat))).map aO):=hA.gg.rs s iA;have acL:=Hi.ln;have afl:(X.os s).n=(ah g.es (s:Nat)).length:=by rw[acL];exact Yc _
 have PN:=hA.gg.ro.ln;rw[kV] at PN;have BV:=(Ya.1 gi).1;obtain⟨x,Lx,D8⟩:=az.1 (Yb gi);have oU:=(Ya.1 Lx).1;have kK:=aL Lx;have vF:=hE x (Yb Lx);unfold gV at vF;rw[kK] at hI;have ND:((x.t.toNat:Nat):Int)=x.t:=by omega
 have hk9:uM (GB LF g.es kW) (ah g.es (s:Nat))=(j:Int):=by unfold uM;rw[gG]
 have qT:∀k∈ah g.es (s:Nat),k<g.es.length:=fun k hk=>by
  obtain⟨y,hy,_⟩:=az.1 hk;exact (Ya.1 hy).1
 have hEt:∀y∈g.es,0<=y.t/\y.t.toNat<LF.length:=fun y hy=>by have:=hE y hy;unfold gV at this;rw[hL];omega
 have eU:∀ {hX:Heap},Ext h hX->∀ {F:Nat->Nat->Prop},(∀bb o,hc hX ⟨bb,o+Int.toNat ((s:Nat):Int)*1,none⟩=some (eS (X.os s))->F bb o)->NB X.ho.a fun bb o=>(0<=((s:Nat):Int)/\((s:Nat):Int)<(X.ho.n:Nat))/\F bb o:=fun {hX} E {F} hF=>by
  refine (hA.gg.ro.ext E).aA (by omega) (by omega) fun bb o d gd u=>hF bb o ?_;replace gd:(List.range g.n.toNat)[s]?=some d:=gd;rw[yi iA] at gd;cases gd;exact u.hd
 refine⟨some ⟨b,0,none⟩,hs.rd 8 rfl (i:=0) rfl,sM ⟨g.he,ax hs.ext (hA.gg.at_.nth 6 rfl),?_⟩⟩;refine⟨some ⟨b,0,none⟩,hs.rd 8 rfl (i:=0) rfl,sM ⟨X.ho,ax hs.ext (hA.gg.at_.nth 9 rfl),?_⟩⟩;refine⟨(s:Nat),hs.rd 2 rfl (i:=0) rfl,eU hs.ext fun aim agl Hl=>⟨X.os s,Hl,?_⟩⟩;refine⟨some ⟨b,0,none⟩,hs.rd 8 rfl (i:=0) rfl,sM ⟨X.ho,ax hs.ext (hA.gg.at_.nth 9 rfl),?_⟩⟩;refine⟨(s:Nat),hs.rd 2 rfl (i:=0) rfl,eU hs.ext fun aik agj od=>⟨X.os s,od,?_⟩⟩;have Eg:(0:Nat)<1:=by decide
 refine⟨?_,?_⟩;refine (xd b g (ah g.es (s:Nat)) LF lf s kW ⟨cw.size,0,none⟩ ⟨h.size,0,none⟩ ⟨im.size,0,none⟩ (X.os s) zZ (Hi.ext hs.ext) (by omega) (hs.rd 4 rfl (i:=0) rfl) (hs.rd 8 rfl (i:=0) rfl) (hs.rd 2 rfl (i:=0) rfl) (ax hs.ext (hA.gg.at_.nth 6 rfl)) (hg.ext hs.ext) (hs.rows 5 rfl (by omega)) qT hEt hx Hc).mono ?_;rintro _ zX ⟨rfl,E⟩;replace hs:=hs.step E;rw[hk9];refine⟨_,rfl,E.sm,?_⟩;refine (Hi.ext hs.ext).aA (by omega) (by omega) fun afa acB d gd u=>?_;obtain⟨i',Mf,rfl⟩:=cX gd;replace Mf:(ah g.es (s:Nat))[j]?=some i':=Mf;rw[gi] at Mf;cases Mf;refine⟨(i:Int),u.hd,?_⟩;refine (hg.e.rw.ext hs.ext).aA (by omega) (by omega) fun aeZ acA x' gx u2=>?_;replace gx:g.es[i]?=some x':=gx;rw[Lx] at gx;cases gx;refine⟨_,_,_,_,_,_,u2,?_⟩;refine hs.aq fun ahM afg hs=>⟨afg.sm,?_⟩;rotate_left;refine hs.aq fun adY aff hs=>⟨aff.sm,?_⟩;refine (xd b g (ah g.es (s:Nat)) LF lf s kW ⟨cw.size,0,none⟩ ⟨h.size,0,none⟩ ⟨im.size,0,none⟩ (X.os s) adY (Hi.ext hs.ext) (by omega) (hs.rd 5 rfl (i:=0) rfl) (hs.rd 9 rfl (i:=0) rfl) (hs.rd 3 rfl (i:=0) rfl) (ax hs.ext (hA.gg.at_.nth 6 rfl)) (hg.ext hs.ext) (hs.rows 6 rfl (by omega)) qT hEt hx Hc).mono ?_;rintro _ zX ⟨rfl,E⟩;replace hs:=hs.step E;rw[hk9];refine⟨_,rfl,E.sm,?_⟩;refine (Hi.ext hs.ext).aA (by omega) (by omega) fun afa acB d gd u=>?_;obtain⟨i',Mf,rfl⟩:=cX gd;replace Mf:(ah g.es (s:Nat))[j]?=some i':=Mf;rw[gi] at Mf;cases Mf;refine⟨(i:Int),u.hd,?_⟩;refine (hg.e.rw.ext hs.ext).aA (by omega) (by omega) fun aeZ acA x' gx u2=>?_;replace gx:g.es[i]?=some x':=gx;rw[Lx] at gx;cases gx;refine⟨_,_,_,_,_,_,u2,?_⟩;all_goals
  refine hs.put 0 rfl (o:=0) (vs:=x.cs) rfl (bc 6) fun ahK hs=>?_;refine⟨wf,hs.rd 2 rfl (i:=2) rfl,x.a,x.b,x.l,hs.at 0 rfl (o:=1) (n:=3) rfl,fun Ql e2=>?_⟩;refine hs.rH 2 1 rfl rfl eM (x:=x.act) e2 rfl rfl (by omega) (by decide) 2 (by show 2<14;decide) (by decide) fun s' Xy hs=>?_;refine⟨x.t,hs.rd 0 rfl (i:=4) rfl,?_⟩;refine hs.put 3 rfl (o:=0) (vs:=[.int .i64 x.t]) rfl (bc 1) fun adZ hs=>hI adZ s' ?_;have hs:=hs.drop 1;unfold SA;rw[ND];exact hs
def EZ(g:Gl)(MX:Nat->Prop)(LF:List Int):Prop:=∀s:Nat,s<g.n.toNat->(LF[s]?=some df/\∀k,¬r7 g.es MX s k)\/∃k:Nat,LF[s]?=some (k:Int)/\fS g.es MX s k/\k<=1000
inductive Tv (g:Gl) (role:Int) (X:An) (h h':Heap):Value->Prop
 | jL (hn:∀n,¬r7 g.es (r6 X) g.s.toNat n) (E:Ext h h'):Tv g role X h h' (.tuple ⟨[.agg ⟨cq.cs⟩,.int .i64 aH]⟩)
 | hit {n:Nat} {LF:List Int} {ks:List Nat} {s:Nat} {f:Fs} {e0:Ev} {w:Wt} {L:List It} (hl:fS g.es (r6 X) g.s.toNat n) (hn:n<=1000) (hF:EZ g (r6 X) LF) (hG:GS g.es LF g.s.toNat ks s) (h0:LF[s]?=some 0) (hf:X.fi[s]?=some f) (hm:K7 f=true)
   (hk:w.k=2) (hr:w.r=role) (sz:f.l[0]?=some e0) (he:w.e=aI role e0) (ho:w.o=yx role f.l)
   (hs:St h h' (.sl w.f 65 3 ((cJ g.es ks).map Ac.cs) :: .sl w.s 65 3 (([]:List Ac).map Ac.cs)::L)):Tv g role X h h' (.tuple ⟨[.agg ⟨w.cs⟩,.int .i64 ((2*n:Nat):Int)]⟩)
theorem GP(b:Nat)(g:Gl)(role:Int)(X:An)(h:Heap)(hA:vP h b g role X)(hV:af g):Fn Pz 97 #[.pointer (some ⟨b,0,none⟩)] h fun v h'=>Tv g role X h h' v:=by
 refine DX hA hV fun im cw h1 h2 IN lf q LF Q hs hB=>?_;unfold IG;have hN:=hV.num.n;have hE:=hV.num.e;have hE2:∀e∈g.es,0<=e.f/\0<=e.t/\e.t<g.n:=fun e he=>by have:=hE e he;unfold gV at this;omega
 have Qa:EZ g (r6 X) LF:=fun s hs=>hB.lst (by decide) hE2 hs;have LS:=hB.ln;have Eg:=(hs.len 2 (s:=lf) (e:=3) (n:=1) (rows:=LF.map aO) rfl (by omega)).1;rw[Yc,LS] at Eg;have SQ:((g.s.toNat:Nat):Int)=g.s:=Int.toNat_of_nonneg (by omega);refine⟨some ⟨b,0,none⟩,hs.rd 5 rfl (i:=0) rfl,sM ⟨g.s,ax hs.ext (hA.gg.at_.nth 4 rfl),?_⟩⟩;refine hs.ao (vs:=[.int .i64 g.s]) rfl rfl fun qX hs=>?_;refine⟨lf,hs.rd 2 rfl (i:=0) rfl,g.s,hs.rd 0 rfl (i:=0) rfl,?_⟩;refine (hs.rows 3 rfl (by omega)).aA (by omega) (by omega) fun afc acD d gd u=>?_;replace gd:LF[g.s.toNat]?=some d:=gd;refine⟨d,u.hd,dw (fun c=>?_) (fun c=>?_)⟩
 .subst c;have bK:∀n,¬r7 g.es (r6 X) g.s.toNat n:=by
   rcases Qa g.s.toNat (by omega) with ⟨_,h9⟩ | ⟨k,h9,_,hk⟩
   .exact h9
   .rw[gd] at h9;have:=fL h9;omega
  refine hs.put 5 rfl (o:=0) (vs:=cq.cs) rfl (bc 14) fun iQ hs=>?_;refine oL (w:=cq) (Q:=fun cs=>Tv g role X h iQ (.tuple ⟨[.agg ⟨cs⟩,.int .i64 1073741824]⟩)) (hs.at 5 rfl (o:=0) (n:=14) rfl) ?_;exact .jL bK hs.ext
 .obtain⟨n,vJ,zQ,BT⟩:∃k:Nat,LF[g.s.toNat]?=some (k:Int)/\fS g.es (r6 X) g.s.toNat k/\k<=1000:=by
   rcases Qa g.s.toNat (by omega) with ⟨h9,_⟩ | h9
   .rw[gd] at h9;exact absurd (fL h9) c
   .exact h9
  refine⟨lf,hs.rd 2 rfl (i:=0) rfl,g.s,hs.rd 0 rfl (i:=0) rfl,?_⟩;refine (hs.rows 3 rfl (by omega)).aA (by omega) (by omega) fun afc acD d' gd' u=>?_;replace gd':LF[g.s.toNat]?=some d':=gd';rw[vJ] at gd';cases gd';refine⟨(n:Int),u.hd,some ⟨b,0,none⟩,hs.rd 6 rfl (i:=0) rfl,sM ⟨role,ax hs.ext hA.r.ro,?_⟩⟩;refine hs.ao (vs:=Wt.cs ⟨2,role,au,au,bp,bp⟩) rfl rfl fun xB hs=>?_;have hs:=hs.bH 65 3;refine⟨fun h' μ=>∃(ks:List Nat) (s k:Nat) (wf:Sl),k=μ/\s<g.n.toNat/\LF[s]?=some (k:Int)/\St h h' (SA qX.size im.size role wf s (cJ g.es ks) (qH h2.size cw.size h1.size h.size b IN lf LF q Q))/\GS g.es LF g.s.toNat ks s/\ks.length+k<=1000,⟨_,[],g.s.toNat,n,au,rfl,by omega,vJ,?_,.nil,by simp only[List.length_nil];omega⟩,?_⟩
  .unfold SA;rw[SQ];exact hs
  clear hs u c gd;rintro-zZ μ ⟨ks,s,k,wf,rfl,iA,Fi,hs,hG,qT⟩;have WY:(cJ g.es ks).length=ks.length:=Yc _;refine⟨lf,hs.rd 4 rfl (i:=0) rfl,(s:Nat),hs.rd 2 rfl (i:=0) rfl,?_⟩;refine (hs.rows 5 rfl (by omega)).aA (by omega) (by omega) fun afb acC v gv u=>?_;replace gv:LF[s]?=some v:=gv;rw[Fi] at gv;cases gv;have hLs:fS g.es (r6 X) s k:=by
   rcases Qa s iA with ⟨h9,_⟩ | ⟨k',h9,cw,_⟩
   .rw[Fi] at h9;have:=fL h9;unfold df at this;omega
   .rw[Fi] at h9;have:=fL h9;have:k=k':=by omega
    subst this;exact cw
  refine⟨(k:Int),u.hd,aM (fun c=>?_) (fun c=>?_)⟩
  .obtain⟨k',rfl⟩:∃k',k=k'+1:=⟨k-1,by omega⟩;obtain⟨e,he,Ei,WX⟩:=hLs.next;have kK:=hE e he;unfold gV at kK;have hLe:LF[e.t.toNat]?=some (k':Int):=by
    rcases Qa e.t.toNat (by omega) with ⟨_,h9⟩ | ⟨k2,h9,cw,_⟩
    .exact absurd WX.1 (h9 _)
    .rw[WX.uniq cw];exact h9
   obtain⟨i0,hi0⟩:=Yf.1 he;have hmo:i0∈ah g.es (s:Nat):=az.2 ⟨e,hi0,Ei⟩;have lV:GB LF g.es ((k'+1:Nat):Int) i0=true:=by
    unfold GB;rw[aL hi0,Yo,hLe];exact decide_eq_true (by simp only[Option.getD_some];omega)
   cases gG:(ah g.es (s:Nat)).findIdx? (GB LF g.es ((k'+1:Nat):Int)) with
   | none=>
    rw[List.findIdx?_eq_none_iff] at gG;rw[gG i0 hmo] at lV;cases lV
   | some j=>
    obtain⟨h1j,h2j,_⟩:=List.findIdx?_eq_some_iff_getElem.1 gG;obtain⟨i,gi⟩:=get_some h1j;have S2:=(Ya.1 gi).2;rw[S2] at h2j;obtain⟨x,Lx,D8⟩:=az.1 (Yb gi);have vF:=hE x (Yb Lx);unfold gV at vF;have hLx:LF[(eA g.es i).t.toNat]?=some (k':Int):=by
     have h3:LF.getD (eA g.es i).t.toNat 0=((k'+1:Nat):Int)-1:=cm h2j;rw[aL Lx] at h3 ⊢;obtain⟨y,hy⟩:=get_some (l:=LF) (i:=x.t.toNat) (by omega);rw[Yo,hy] at h3;simp only[Option.getD_some] at h3;rw[hy];congr 1;omega
    refine Kq hs hA hV LS iA Fi ⟨by omega,by unfold df;omega⟩ gG gi (by omega) fun h' Fb hs=>⟨k',by omega,ks++[i],(eA g.es i).t.toNat,k',Fb,rfl,by rw[aL Lx];omega,hLx,?_,.snoc hG Fi (by omega) gG gi,by rw[Yh,Yv];omega⟩;have e9:cJ g.es (ks++[i])=cJ g.es ks++[(eA g.es i).act]:=by unfold cJ;rw[Ym];rfl
    rw[e9];exact hs
  .have Fm:k=0:=by omega
   subst Fm;obtain⟨f,hf,hm⟩:r6 X s:=by
    have h9:=hLs.1;cases h9 with
    | base hm=>exact hm
   refine Mi hs hA hf hm fun h' w e0 L h1 h2 h3 h4 h5 hs=>?_;have hw:IntKind.wrap .i64 (2*(n:Int))=((2*n:Nat):Int):=by rw[a7 (by omega) (by omega)];omega
   rw[hw];exact .hit zQ BT Qa hG Fi hf hm h1 h2 h3 h4 h5 hs
theorem St.gK{h0 h:Heap}{L L' R:List It}(hs:St h0 h L)(hp:L.Perm (L'++R)):St h0 h L':=by
 have h1:=(hs.perm (hp.trans List.perm_append_comm)).drop R.length
 rwa [List.drop_left] at h1
structure WS where
 k:Int
 r:Int
 F:List Ac
 S:List Ac
 e:AN
 o:AN
def oY:WS:=⟨0,0,[],[],bp,bp⟩
inductive yr (g:Gl) (role kind:Int) (X:An):WS->Int->Prop
 | jL (hn:∀n,¬iR (bB g role) (fg X kind) (eP g) n):yr g role kind X oY aH
 | hit {n:Nat} {D:Pr->Int} {ms:List aP} {p:Pr} (hl:iR (bB g role) (fg X kind) (eP g) n) (hn:n<=8388608) (hD:∀q,dC g role q->D q=dL (bB g role) (fg X kind) q) (hG:nO (bB g role) (ff X kind) D (eP g) ms p) (hc:ff X kind p=some (D p)) :
   yr g role kind X ⟨kind,role,(vK g role kind X (facts g ms) p).1,cx g ms,(vK g role kind X (facts g ms) p).2.1,(vK g role kind X (facts g ms) p).2.2⟩ (n:Int)
inductive Sp (g:Gl) (role:Int) (X:An):WS->Int->Prop
 | jL (hn:∀n,¬r7 g.es (r6 X) g.s.toNat n):Sp g role X oY aH
 | hit {n:Nat} {LF:List Int} {ks:List Nat} {s:Nat} {f:Fs} {e0:Ev} (hl:fS g.es (r6 X) g.s.toNat n) (hn:n<=1000) (hF:EZ g (r6 X) LF) (hG:GS g.es LF g.s.toNat ks s) (h0:LF[s]?=some 0) (hf:X.fi[s]?=some f) (hm:K7 f=true) (sz:f.l[0]?=some e0) :
   Sp g role X ⟨2,role,cJ g.es ks,[],aI role e0,yx role f.l⟩ ((2*n:Nat):Int)
def ju(h h':Heap)(W:WS)(n:Int)(v:Value):Prop:=∃w:Wt,w.k=W.k/\w.r=W.r/\w.e=W.e/\w.o=W.o/\v=.tuple ⟨[.agg ⟨w.cs⟩,.int .i64 n]⟩/\∃L,St h h' (.sl w.f 65 3 (W.F.map Ac.cs) :: .sl w.s 65 3 (W.S.map Ac.cs)::L)
theorem ju.zero{h h':Heap}(E:Ext h h')(n:Int):ju h h' oY n (.tuple ⟨[.agg ⟨cq.cs⟩,.int .i64 n]⟩):=
 ⟨cq,rfl,rfl,rfl,rfl,rfl,[],((((St.refl h).step E).bH 65 3).bH 65 3)⟩
theorem Ty.out{g:Gl}{role kind:Int}{X:An}{h h':Heap}{v:Value}(hr:Ty g role kind X h h' v):∃W n,yr g role kind X W n/\ju h h' W n v:=by
 cases hr with
 | jL hn E=>exact⟨_,_,.jL hn,.zero E _⟩
 | hit hl hn hD hG hc hk hr he ho hs=>exact⟨_,_,.hit hl hn hD hG hc,_,hk,hr,he,ho,rfl,_,hs⟩
theorem Tv.out{g:Gl}{role:Int}{X:An}{h h':Heap}{v:Value}(hr:Tv g role X h h' v):∃W n,Sp g role X W n/\ju h h' W n v:=by
 cases hr with
 | jL hn E=>exact⟨_,_,.jL hn,.zero E _⟩
 | hit hl hn hF hG h0 hf hm hk hr sz he ho hs=>exact⟨_,_,.hit hl hn hF hG h0 hf hm sz,_,hk,hr,he,ho,rfl,_,hs⟩
theorem Q4(b:Nat)(g:Gl)(role:Int)(X:An)(all:Sl)(mb:Nat)(A:List Pr)(l:List (Pr × Sl))(CB:Nat)(c0 c1 c2:Addr)(h:Heap)(h0:hc h c0=some (Value.pointer (some ⟨b,0,none⟩)))(h1:hc h c1=some (Value.slice all.a all.n all.c))(h2:hc h c2=some (Value.map (some mb)))(hA:vP h b g role X)(hx:Gm h)(hV:af g)(hM:J8 h g role all mb A l)(hC:Tx X 1 A CB)(yI:E7 g X):
  Fn Pz 95 #[.pointer (some c0),.pointer (some c1),.pointer (some c2)] h fun v h'=>∃W n,yr g role 1 X W n/\ju h h' W n v:=by
 apply abj c0 c1 c2;unfold W95;refine (St.refl h).aj fun h3 hs=>?_;refine⟨some ⟨b,0,none⟩,ax hs.ext h0,all,ax hs.ext h1,some mb,ax hs.ext h2,?_⟩;refine (kP b g role X 1 all mb A l CB h3 (hA.ext hs.ext) (hx.ext hs.ext) hV (hM.ext hs.ext) hC yI).mono ?_;intro v l8 hr;obtain⟨W,n,hP,w,e1,e2,e3,e4,rfl,L,bD⟩:=hr.out;refine⟨w.k,w.r,w.f,w.s,w.e.r,w.e.s,w.e.p,w.e.l,au,w.o.r,w.o.s,w.o.p,w.o.l,au,n,rfl,?_⟩;replace hs:=hs.join bD;refine hs.put 0 rfl (o:=0) (vs:=w.cs) rfl (bc 14) fun dV hs=>?_;refine oL (w:=w) (Q:=fun cs=>∃W n',yr g role 1 X W n'/\ju h dV W n' (.tuple ⟨[.agg ⟨cs⟩,.int .i64 n]⟩)) (hs.at 0 rfl (o:=0) (n:=14) rfl) ?_;exact⟨W,n,hP,w,e1,e2,e3,e4,rfl,L,hs.drop 1⟩
theorem Q3(b:Nat)(g:Gl)(role:Int)(X:An)(all:Sl)(mb:Nat)(A:List Pr)(l:List (Pr × Sl))(CB:Nat)(c0 c1 c2:Addr)(h:Heap)(h0:hc h c0=some (Value.pointer (some ⟨b,0,none⟩)))(h1:hc h c1=some (Value.slice all.a all.n all.c))(h2:hc h c2=some (Value.map (some mb)))(hA:vP h b g role X)(hx:Gm h)(hV:af g)(hM:J8 h g role all mb A l)(hC:Tx X 3 A CB)(yI:E7 g X):
  Fn Pz 98 #[.pointer (some c0),.pointer (some c1),.pointer (some c2)] h fun v h'=>∃W n,yr g role 3 X W n/\ju h h' W n v:=by
 apply abg c0 c1 c2;unfold W98;refine (St.refl h).aj fun h3 hs=>?_;refine⟨some ⟨b,0,none⟩,ax hs.ext h0,all,ax hs.ext h1,some mb,ax hs.ext h2,?_⟩;refine (kP b g role X 3 all mb A l CB h3 (hA.ext hs.ext) (hx.ext hs.ext) hV (hM.ext hs.ext) hC yI).mono ?_;intro v l8 hr;obtain⟨W,n,hP,w,e1,e2,e3,e4,rfl,L,bD⟩:=hr.out;refine⟨w.k,w.r,w.f,w.s,w.e.r,w.e.s,w.e.p,w.e.l,au,w.o.r,w.o.s,w.o.p,w.o.l,au,n,rfl,?_⟩;replace hs:=hs.join bD;refine hs.put 0 rfl (o:=0) (vs:=w.cs) rfl (bc 14) fun dV hs=>?_;refine oL (w:=w) (Q:=fun cs=>∃W n',yr g role 3 X W n'/\ju h dV W n' (.tuple ⟨[.agg ⟨cs⟩,.int .i64 n]⟩)) (hs.at 0 rfl (o:=0) (n:=14) rfl) ?_;exact⟨W,n,hP,w,e1,e2,e3,e4,rfl,L,hs.drop 1⟩
theorem QZ(b:Nat)(g:Gl)(role:Int)(X:An)(all:Sl)(mb:Nat)(A:List Pr)(l:List (Pr × Sl))(CB:Nat)(c0 c1 c2:Addr)(h:Heap)(h0:hc h c0=some (Value.pointer (some ⟨b,0,none⟩)))(h1:hc h c1=some (Value.slice all.a all.n all.c))(h2:hc h c2=some (Value.map (some mb)))(hA:vP h b g role X)(hx:Gm h)(hV:af g)(hM:J8 h g role all mb A l)(hC:Tx X 4 A CB)(yI:E7 g X):
  Fn Pz 99 #[.pointer (some c0),.pointer (some c1),.pointer (some c2)] h fun v h'=>∃W n,yr g role 4 X W n/\ju h h' W n v:=by
 apply abf c0 c1 c2;unfold W99;refine (St.refl h).aj fun h3 hs=>?_;refine⟨some ⟨b,0,none⟩,ax hs.ext h0,all,ax hs.ext h1,some mb,ax hs.ext h2,?_⟩;refine (kP b g role X 4 all mb A l CB h3 (hA.ext hs.ext) (hx.ext hs.ext) hV (hM.ext hs.ext) hC yI).mono ?_;intro v l8 hr;obtain⟨W,n,hP,w,e1,e2,e3,e4,rfl,L,bD⟩:=hr.out;refine⟨w.k,w.r,w.f,w.s,w.e.r,w.e.s,w.e.p,w.e.l,au,w.o.r,w.o.s,w.o.p,w.o.l,au,n,rfl,?_⟩;replace hs:=hs.join bD;refine hs.put 0 rfl (o:=0) (vs:=w.cs) rfl (bc 14) fun dV hs=>?_;refine oL (w:=w) (Q:=fun cs=>∃W n',yr g role 4 X W n'/\ju h dV W n' (.tuple ⟨[.agg ⟨cs⟩,.int .i64 n]⟩)) (hs.at 0 rfl (o:=0) (n:=14) rfl) ?_;exact⟨W,n,hP,w,e1,e2,e3,e4,rfl,L,hs.drop 1⟩
theorem St.wo{α:Type}{h0 h:Heap}{L:List It}(hs:St h0 h L){s:Sl}{e:TypeId}{n:Nat}{cs:α->List Value}{X:List α}(hi:.sl s e n (X.map cs)∈L)(hn:0<n)(hl:X.length<=1048576):RL h n s cs X:=by
 obtain⟨k,hk⟩:=Yf.1 hi;have h1:=hs.len k hk hn;exact⟨hs.mD hi hn,h1.2.1,h1.2.2,hl⟩
structure mI (g:Gl) (role:Int) (X:An):Prop where
 fi:X.fi.map (fun f=>(f.l,f.b))=(List.range g.n.toNat).map fun s=>(ay g role (s:Nat),bQ g role (s:Nat))
 li:X.li=(List.range g.n.toNat).map (cy g role g.ts)
 ag:X.ag=(List.range g.n.toNat).map (dW g.es)
 ow:X.ow=(List.range g.n.toNat).map (dR g.es role)
 ar:X.ar.map Prod.snd=(List.range g.n.toNat).map (du g role)
 an:∀q∈X.ar,∀x∈q.2,0<x.n/\x.n<=1048577
theorem mI.Rs{g:Gl}{role:Int}{X:An}(h:mI g role X):E7 g X:=fun q hq y hy=>by
 have h1:q.2∈X.ar.map Prod.snd:=Yp.2 ⟨q,hq,rfl⟩;rw[h.ar] at h1;obtain⟨s,_,h2⟩:=Yp.1 h1;rw[<-h2] at hy;unfold du at hy;obtain⟨i,hi,hy⟩:=List.mem_flatMap.1 hy;unfold iy at hy;obtain⟨x,hx,_⟩:=az.1 hi;split at hy
 .unfold tP at hy;obtain⟨m,hm,rfl⟩:=Yp.1 hy;exact⟨i,m,rfl,(Ya.1 hx).1,(List.mem_filter.1 hm).1⟩
 .cases hy
theorem mI.ckB{g:Gl}{role:Int}{X:An}(h:mI g role X)(kind:Int)(A:List Pr):Tx X kind A 1048578:=by
 refine⟨fun q hq x hx=>(h.an q hq x hx).1,fun p _ c hc=>?_,by decide⟩;unfold ff at hc;split at hc
 .split at hc
  .split at hc
   .cases hc;exact⟨by decide,by decide⟩
   .cases hc
  .cases hc
 .split at hc
  .split at hc
   .cases hc;exact⟨by decide,by decide⟩
   .cases hc
  .split at hc
   .rename_i ft q _ gq;obtain⟨y,hy,rfl⟩:=sL.1 hc;have:=h.an q (Yb gq) y (mu hy).1;omega
   .cases hc
def anX(ho cn cc bt cj cF:Sl)(OU:List C9)(FI:List Fs)(LI:List Lm)(AG OW:List Bool)(AR:List tY):An:=⟨ho,fun i=>((OU[i]?).map Prod.fst).getD ⟨none,0,0⟩,cn,FI,cc,LI,bt,AG,cj,OW,cF,AR⟩
theorem RR{h0 h:Heap}{ab gb:Nat}{g:Gl}{role:Int}{ho cn cc bt cj cF:Sl}{OU:List C9}{FI:List Fs}{LI:List Lm}{AG OW:List Bool}{AR:List tY}{R:List It}(hs:St h0 h (tQ ab gb g role ho cn cc bt cj cF OU FI LI AG OW AR R))(hg:GI h0 g)(hV:af g)(hS:vA g role OU FI LI AG OW)(nC:MW g role (du g role) AR)(lX:∀q∈AR,q.2.length<=160000):
  vP h ab g role (anX ho cn cc bt cj cF OU FI LI AG OW AR)/\mI g role (anX ho cn cc bt cj cF OU FI LI AG OW AR):=by
 obtain⟨hO,hF,hL,hAg,hOw⟩:=hS;have hN:=hV.num.n;have hFl:FI.length=g.n.toNat:=by have:=congrArg List.length hF;simpa using this
 have LS:LI.length=g.n.toNat:=by rw[hL];simp
 have adE:AG.length=g.n.toNat:=by rw[hAg];simp
 have adA:OW.length=g.n.toNat:=by rw[hOw];simp
 have Xn:=nC.len;have NX:OU.length=g.n.toNat:=by have:=congrArg List.length hO;simpa using this
 have hG:Kb h ab g role ho (fun i=>((OU[i]?).map Prod.fst).getD ⟨none,0,0⟩):=Iy (by rw[<-Ix];exact hs) hg hO;have m8:∀ {x:It},x∈[.ae ab (RS g role ho cn cc bt cj cF) 186,.sl ho 102 1 ((OU.map Prod.fst).map eD),.sl cn 195 2 (FI.map Fs.cs),.sl cc 192 4 (LI.map Lm.cs),.sl bt 4 1 (AG.map bC),.sl cj 4 1 (OW.map bC),.sl cF 274 1 ((AR.map Prod.fst).map eD),.ae gb g.cs 27]->x∈tQ ab gb g role ho cn cc bt cj cF OU FI LI AG OW AR R:=fun hx=>by
  unfold tQ;exact List.mem_append_left _ (List.mem_append_left _ (List.mem_append_left _ (List.mem_append_left _ hx)))
 have mf:∀f∈FI,N5 f∈tQ ab gb g role ho cn cc bt cj cF OU FI LI AG OW AR R:=fun f hf=>by
  unfold tQ;exact List.mem_append_left _ (List.mem_append_left _ (List.mem_append_right _ (Yp.2 ⟨f,hf,rfl⟩)))
 have ma:∀q∈AR,nest 276 4 fT.cs q∈tQ ab gb g role ho cn cc bt cj cF OU FI LI AG OW AR R:=fun q hq=>by
  unfold tQ;exact List.mem_append_left _ (List.mem_append_right _ (Yp.2 ⟨q,hq,rfl⟩))
 have uS:∀f∈FI,f.l.length<=1048576:=fun f hf=>by
  have h1:(f.l,f.b)∈FI.map (fun f=>(f.l,f.b)):=Yp.2 ⟨f,hf,rfl⟩;rw[hF] at h1;obtain⟨s,_,h2⟩:=Yp.1 h1;have h3:ay g role (s:Nat)=f.l:=congrArg Prod.fst h2;have h4:(ay g role (s:Nat)).length<=400:=Ci hV;rw[<-h3];omega
 refine⟨⟨hG,⟨?_,?_,?_,?_,?_,?_,fun f hf=>?_,?_,?_,?_⟩,?_,?_,fun q hq=>?_,hFl,LS,adE,adA,Xn⟩,⟨hF,hL,hAg,hOw,nC.l,nC.b⟩⟩
 .exact hs.rd 0 rfl (i:=8) rfl
 .exact hs.rd 0 rfl (i:=10) rfl
 .exact hs.rd 0 rfl (i:=11) rfl
 .exact hs.rd 0 rfl (i:=12) rfl
 .exact hs.rd 0 rfl (i:=13) rfl
 .exact hs.wo (X:=FI) (cs:=Fs.cs) (s:=cn) (e:=195) (m8 (Yb (i:=2) rfl)) (by decide) (by show FI.length<=_;omega)
 .exact hs.wo (e:=188) (mf f hf) (by decide) (uS f hf)
 .exact hs.wo (X:=LI) (cs:=Lm.cs) (s:=cc) (e:=192) (m8 (Yb (i:=3) rfl)) (by decide) (by show LI.length<=_;omega)
 .exact hs.wo (X:=AG) (cs:=bC) (s:=bt) (e:=4) (m8 (Yb (i:=4) rfl)) (by decide) (by show AG.length<=_;omega)
 .exact hs.wo (X:=OW) (cs:=bC) (s:=cj) (e:=4) (m8 (Yb (i:=5) rfl)) (by decide) (by show OW.length<=_;omega)
 .exact hs.rd 0 rfl (i:=14) rfl
 .exact hs.wo (X:=AR.map Prod.fst) (cs:=eD) (s:=cF) (e:=274) (m8 (Yb (i:=6) rfl)) (by decide) (by show (AR.map Prod.fst).length<=_;rw[Yc];omega)
 .exact hs.wo (e:=276) (ma q hq) (by decide) (by have:=lX q hq;omega)
def tn(g:Gl)(role:Int)(X:An)(i:Nat)(W:WS)(n:Int):Prop:=
 match i with
 | 0=>yr g role 1 X W n
 | 1=>Sp g role X W n
 | 2=>yr g role 3 X W n
 | _=>yr g role 4 X W n
inductive iG (g:Gl) (role:Int) (X:An):Nat->WS->Int->Prop
 | zero:iG g role X 0 oY aH
 | take {i:Nat} {W W':WS} {n n':Int}:iG g role X i W n->tn g role X i W' n'->n'<n->iG g role X (i+1) W' n'
 | bW {i:Nat} {W W':WS} {n n':Int}:iG g role X i W n->tn g role X i W' n'->¬n'<n->iG g role X (i+1) W n
def dE(g:Gl)(role:Int)(W:WS)(n:Int):Prop:=∃X:An,mI g role X/\iG g role X 4 W n
theorem Rk:aK Pz 95=true:=by kernel_rfl
theorem Rj:aK Pz 97=true:=by kernel_rfl
theorem Ri:aK Pz 98=true:=by kernel_rfl
theorem Rh:aK Pz 99=true:=by kernel_rfl
def fdL(bb ab mb:Nat)(w:Wt)(F S:List Ac)(all:Sl)(m:Nat):List It:=
 [.ae bb w.cs 35,.sl w.f 65 3 (F.map Ac.cs),.sl w.s 65 3 (S.map Ac.cs),.ae mb [.map (some m)] 93,.ae ab [.slice all.a all.n all.c] 92]
def aaU(h h':Heap)(W:WS)(n:Int)(v:Value):Prop:=∃w:Wt,w.k=W.k/\w.r=W.r/\w.e=W.e/\w.o=W.o/\v=.tuple ⟨[.agg ⟨w.cs⟩,.int .i64 n,.int .i64 0]⟩/\∃L,St h h' (.sl w.f 65 3 (W.F.map Ac.cs) :: .sl w.s 65 3 (W.S.map Ac.cs)::L)
theorem Nq{α:Type}(a b c d e f x y:α)(L:List α):List.Perm (a::b::c::d::e::f::x::y::L) (b::x::y::e::f::a::c::d::L):=by
 have h1:List.Perm (a::b::c::d::e::f::x::y::L) (b::a::c::d::e::f::x::y::L):=List.Perm.swap _ _ _;refine h1.trans (List.Perm.cons _ ?_);have h2:List.Perm ([a,c,d,e,f]++([x,y]++L)) ([x,y]++([a,c,d,e,f]++L)):=by
  rw[<-Yz,<-Yz];exact List.Perm.append_right _ List.perm_append_comm
 refine h2.trans (List.Perm.cons _ (List.Perm.cons _ ?_));have h3:List.Perm ([a,c,d]++([e,f]++L)) ([e,f]++([a,c,d]++L)):=by
  rw[<-Yz,<-Yz];exact List.Perm.append_right _ List.perm_append_comm
 exact h3
theorem HP(g:Gl)(role:Int)(h:Heap)(hg:GI h g)(hx:Gm h)(hV:af g)(hr:0<=role/\role<g.rs.length):
  Fn Pz 41 #[g.v,.int .i64 role] h fun v h'=>∃W n,dE g role W n/\aaU h h' W n v:=by
 apply TK (bs g.nm) g.hr g.hd g.n g.s g.e g.he g.ht role;unfold W41;refine (St.refl h).aj fun h9 hs=>?_;refine hs.aj fun cw hs=>?_;refine⟨_,_,_,_,_,_,_,_,hs.at 1 rfl (o:=0) (n:=8) rfl,?_⟩;refine (kT g role cw (hg.ext hs.ext) (hx.ext hs.ext)).mono ?_;rintro _ dV (⟨bK,_⟩ | ⟨_,ab,ho,cn,cc,bt,cj,cF,OU,FI,LI,AG,OW,rfl,hsA,hSp⟩)
 .exact absurd ⟨hV,hr.1,hr.2⟩ bK
 have hEA:=hs.ext;replace hs:=(hs.join hsA).perm List.perm_append_comm;refine⟨some ⟨ab,0,none⟩,0,rfl,?_⟩;refine hs.ao (vs:=[.pointer (some ⟨ab,0,none⟩)]) rfl rfl fun qW hs=>?_;refine eY (fun c=>absurd rfl c) (fun _=>?_);refine⟨some ⟨ab,0,none⟩,hs.rd 0 rfl (i:=0) rfl,?_⟩;have qR:St h qW (tQ ab cw.size g role ho cn cc bt cj cF OU FI LI AG OW (List.replicate g.n.toNat (au,[])) [.ae h9.size cq.cs 35,.ae h.size g.cs 27,.ae dV.size [.pointer (some ⟨ab,0,none⟩)] 89]):=by
  rw[Ix];have hs:=hs.perm (List.perm_append_comm (l₁:=[_]) (l₂:=r5 ab cw.size g role ho cn cc bt cj cF OU FI LI AG OW (List.replicate g.n.toNat (au,[]))++[_,_]));rw[Yz] at hs;exact hs
 refine (HZ qR hg hx hV hSp.1).mono ?_;rintro _ zV ⟨rfl,AR,dx,nC,lX⟩;refine⟨rfl,?_⟩;obtain⟨hA,hX⟩:=RR dx hg hV hSp nC lX;generalize anX ho cn cc bt cj cF OU FI LI AG OW AR=X at hA hX;have dx:St h zV [.ae h9.size cq.cs 35,.ae h.size g.cs 27,.ae dV.size [.pointer (some ⟨ab,0,none⟩)] 89]:=dx.gK (by unfold tQ;exact List.perm_append_comm);refine⟨some ⟨ab,0,none⟩,dx.rd 2 rfl (i:=0) rfl,?_⟩;refine (qq ab g role X.ho X.os zV hA.gg hV).mono ?_;rintro _ qV ⟨E47,all,mb,A,l,rfl,hM⟩;have bD:=dx.step E47;have hA2:=hA.ext E47;have zI:=hx.ext bD.ext;have tx:hc qV ⟨dV.size,0,none⟩=some (Value.pointer (some ⟨ab,0,none⟩)):=bD.rd 2 rfl (i:=0) rfl;refine⟨all,some mb,rfl,?_⟩;refine (St.refl qV).aj fun En hs=>?_;refine hs.aj fun Td hs=>?_;refine hs.put 1 rfl (o:=0) (vs:=[.slice all.a all.n all.c]) rfl (bc 1) fun oo hs=>?_;refine hs.put 0 rfl (o:=0) (vs:=[.map (some mb)]) rfl (bc 1) fun zU hs=>?_;refine hs.ao (vs:=cq.cs) rfl rfl fun Xs hs=>?_;have hs:St qV Xs (fdL zU.size qV.size En.size cq [] [] all mb):=(((hs.bH 65 3).bH 65 3).perm (List.perm_append_comm (l₁:=[_,_]) (l₂:=[_,_,_]))).gK (R:=[]) (by
  rw[Yw];exact List.Perm.cons _ (List.perm_append_comm (l₁:=[_,_]) (l₂:=[_,_])))
 refine⟨some ⟨ab,0,none⟩,ax hs.ext tx,?_⟩;refine hs.ao (vs:=[.func (.func 95) #[] #[.pointer (some ⟨dV.size,0,none⟩),.pointer (some ⟨qV.size,0,none⟩),.pointer (some ⟨En.size,0,none⟩)],.func (.func 97) #[.pointer (some ⟨ab,0,none⟩)] #[],.func (.func 98) #[] #[.pointer (some ⟨dV.size,0,none⟩),.pointer (some ⟨qV.size,0,none⟩),.pointer (some ⟨En.size,0,none⟩)],.func (.func 99) #[] #[.pointer (some ⟨dV.size,0,none⟩),.pointer (some ⟨qV.size,0,none⟩),.pointer (some ⟨En.size,0,none⟩)]]) rfl rfl fun kM hs=>?_;refine⟨_,_,_,_,hs.at 0 rfl (o:=0) (n:=4) rfl,?_⟩;refine⟨fun len x h' μ=>∃(i:Nat) (W:WS) (w:Wt),x=(i:Int)/\4-i=μ/\i<=4/\iG g role X i W len/\w.k=W.k/\w.r=W.r/\w.e=W.e/\w.o=W.o/\St qV h' (fdL zU.size qV.size En.size w W.F W.S all mb),⟨_,0,oY,cq,rfl,rfl,by decide,.zero,rfl,rfl,rfl,rfl,hs.drop 1⟩,?_⟩;clear hs;rintro-len _ xz μ ⟨i,W,w,rfl,rfl,hi,hF,e1,e2,e3,e4,hs⟩;have fin:∀(v:Value) (xy:Heap),(∃W' n',tn g role X i W' n'/\ju xz xy W' n' v)->i<4->∃M8:Int,∃M7:Int,∃nQ:Sl,∃vE:Sl,∃M6:Int,∃yv:Bool,∃M5:Int,∃M4:Int,∃vD:Sl,∃M3:Int,∃MZ:Bool,∃Ke:Int,∃MY:Int,∃vB:Sl,∃x86:Int,v=.tuple ⟨[.agg ⟨[.int .i64 M8,.int .i64 M7,.slice nQ.a nQ.n nQ.c,.slice vE.a vE.n vE.c,.int .i64 M6,.bool yv,.int .i64 M5,.int .i64 M4,.slice vD.a vD.n vD.c,.int .i64 M3,.bool MZ,.int .i64 Ke,.int .i64 MY,.slice vB.a vB.n vB.c]⟩,.int .i64 x86]⟩ /\
   Sc xy M8 M7 nQ vE M6 yv M5 M4 vD M3 MZ Ke MY vB x86 len zU (4-i) (fun len x h' μ=>∃(i:Nat) (W:WS) (w:Wt),x=(i:Int)/\4-i=μ/\i<=4/\iG g role X i W len/\w.k=W.k/\w.r=W.r/\w.e=W.e/\w.o=W.o/\St qV h' (fdL zU.size qV.size En.size w W.F W.S all mb)) (i:Int):=by
  rintro _ xy ⟨W',n',sy,w',f1,f2,f3,f4,rfl,L,bI⟩ Hr;refine⟨w'.k,w'.r,w'.f,w'.s,w'.e.r,w'.e.s,w'.e.p,w'.e.l,au,w'.o.r,w'.o.s,w'.o.p,w'.o.l,au,n',rfl,?_⟩;unfold Sc;have hs:=hs.join bI;refine hs.ao (vs:=w'.cs) rfl rfl fun Ca hs=>?_;refine aM (fun c=>?_) (fun c=>?_)
  .refine Ah hs 0 1 (w:=w') (w0:=w) rfl rfl fun aev hs=>?_;refine⟨_,?_,i+1,W',w',by rw[a7 (by omega) (by omega)];omega,rfl,by omega,.take hF sy c,f1,f2,f3,f4,?_⟩
   .omega
   .refine hs.gK (R:=.ae xy.size w'.cs 35 :: .sl w.f 65 3 (W.F.map Ac.cs) :: .sl w.s 65 3 (W.S.map Ac.cs)::L) ?_;show List.Perm (.ae xy.size w'.cs 35 :: .ae zU.size w'.cs 35 :: .sl w.f 65 3 (W.F.map Ac.cs) :: .sl w.s 65 3 (W.S.map Ac.cs) :: .ae En.size [.map (some mb)] 93 :: .ae qV.size [.slice all.a all.n all.c] 92 :: .sl w'.f 65 3 (W'.F.map Ac.cs) :: .sl w'.s 65 3 (W'.S.map Ac.cs)::L) (.ae zU.size w'.cs 35 :: .sl w'.f 65 3 (W'.F.map Ac.cs) :: .sl w'.s 65 3 (W'.S.map Ac.cs) :: .ae En.size [.map (some mb)] 93 :: .ae qV.size [.slice all.a all.n all.c] 92 :: .ae xy.size w'.cs 35 :: .sl w.f 65 3 (W.F.map Ac.cs) :: .sl w.s 65 3 (W.S.map Ac.cs)::L);exact Nq _ _ _ _ _ _ _ _ L
  .refine⟨_,?_,i+1,W,w,by rw[a7 (by omega) (by omega)];omega,rfl,by omega,.bW hF sy c,e1,e2,e3,e4,?_⟩
   .omega
   .exact (hs.drop 1).gK (List.Perm.refl _)
 refine aM (fun c=>?_) (fun c=>?_)
 .refine⟨⟨by omega,by omega⟩,?_⟩;have hP:=tx;have hMx:=(hM.ext hs.ext);have hAx:=(hA2.ext hs.ext);have zH:=(zI.ext hs.ext);have fZ:=ax hs.ext tx;have sA:hc xz ⟨qV.size,0,none⟩=some (Value.slice all.a all.n all.c):=hs.rd 4 rfl (i:=0) rfl;have S6:hc xz ⟨En.size,0,none⟩=some (Value.map (some mb)):=hs.rd 3 rfl (i:=0) rfl;have Hr:i<4:=by omega
  match i,Hr,fin with
  | 0,Hr,fin=>
   refine⟨_,rfl,?_⟩;show cond (aK Pz 95) _ _;rw[Rk,cond_true];exact (Q4 ab g role X all mb A l 1048578 _ _ _ xz fZ sA S6 hAx zH hV hMx (hX.ckB 1 A) hX.Rs).mono fun v xy hr=>fin v xy hr Hr
  | 1,Hr,fin=>
   refine⟨_,rfl,?_⟩;show cond (aK Pz 97) _ _;rw[Rj,cond_true];exact (GP ab g role X xz hAx hV).mono fun v xy hr=>fin v xy hr.out Hr
  | 2,Hr,fin=>
   refine⟨_,rfl,?_⟩;show cond (aK Pz 98) _ _;rw[Ri,cond_true];exact (Q3 ab g role X all mb A l 1048578 _ _ _ xz fZ sA S6 hAx zH hV hMx (hX.ckB 3 A) hX.Rs).mono fun v xy hr=>fin v xy hr Hr
  | 3,Hr,fin=>
   refine⟨_,rfl,?_⟩;show cond (aK Pz 99) _ _;rw[Rh,cond_true];exact (QZ ab g role X all mb A l 1048578 _ _ _ xz fZ sA S6 hAx zH hV hMx (hX.ckB 4 A) hX.Rs).mono fun v xy hr=>fin v xy hr Hr
 .have:i=4:=by omega
  subst this;have hs:=bD.join hs;refine Ah hs 3 0 (w:=w) (w0:=cq) rfl rfl fun uX hs=>?_;refine oL (w:=w) (Q:=fun cs=>∃W n,dE g role W n/\aaU h uX W n (.tuple ⟨[.agg ⟨cs⟩,.int .i64 len,.int .i64 0]⟩)) (hs.at 0 rfl (o:=0) (n:=14) rfl) ?_;exact⟨W,len,⟨X,hX,hF⟩,w,e1,e2,e3,e4,rfl,_,hs.drop 4⟩
inductive mB (g:Gl):Nat->WS->Int->Prop
 | zero:mB g 0 oY aH
 | take {i:Nat} {W W':WS} {n n':Int}:mB g i W n->dE g (i:Int) W' n'->(n'<n\/n'=n/\n'<aH/\W'.k<W.k)->mB g (i+1) W' n'
 | bW {i:Nat} {W W':WS} {n n':Int}:mB g i W n->dE g (i:Int) W' n'->¬(n'<n\/n'=n/\n'<aH/\W'.k<W.k)->mB g (i+1) W n
inductive vy (g:Gl) (h h':Heap):Value->Prop
 | bad (hV:¬af g) (E:Ext h h'):vy g h h' (.tuple ⟨[.agg ⟨cq.cs⟩,.int .i64 1]⟩)
 | ok {W:WS} (hV:af g) (hC:mB g g.rs.length W aH) (E:Ext h h'):vy g h h' (.tuple ⟨[.agg ⟨cq.cs⟩,.int .i64 0]⟩)
 | err {v:Value} {W:WS} {n:Int} (hV:af g) (hC:mB g g.rs.length W n) (hn:n≠aH) (hw:ju h h' W 18 v):vy g h h' v
def Tn(bb zb gb:Nat)(g:Gl)(w:Wt)(F S:List Ac):List It:=
 [.ae bb w.cs 35,.sl w.f 65 3 (F.map Ac.cs),.sl w.s 65 3 (S.map Ac.cs),.ae zb cq.cs 35,.ae gb g.cs 27]
theorem Cn(g:Gl)(h:Heap)(hg:GI h g)(hx:Gm h):Fn Pz 14 #[g.v] h fun v h'=>vy g h h' v:=by
 apply acd (bs g.nm) g.hr g.hd g.n g.s g.e g.he g.ht;unfold W14 Se;have kc:=hg.r.ln;refine (St.refl h).aj fun h9 hs=>?_;refine hs.aj fun cw hs=>?_;refine⟨_,_,_,_,_,_,_,_,hs.at 1 rfl (o:=0) (n:=8) rfl,?_⟩;refine (ua g cw (hg.ext hs.ext) (hx.ext hs.ext)).mono ?_;rintro _ l8 ⟨rfl,E⟩;replace hs:=hs.step E;refine⟨_,rfl,aa (fun c=>?_) (fun c=>?_)⟩
 .refine hs.put 0 rfl (o:=0) (vs:=cq.cs) rfl (bc 14) fun dV hs=>?_;refine oL (w:=cq) (Q:=fun cs=>vy g h dV (.tuple ⟨[.agg ⟨cs⟩,.int .i64 1]⟩)) (hs.at 0 rfl (o:=0) (n:=14) rfl) ?_;exact .bad (eZ (bF c)) hs.ext
 have hV:=cm (bT c);have hr6:=hV.Nr.n6;refine hs.ao (vs:=cq.cs) rfl rfl fun sD hs=>?_;have hs:St h sD (Tn l8.size h9.size h.size g cq [] []):=((hs.bH 65 3).bH 65 3).perm (by
  show List.Perm ([_,_]++([_]++[_,_])) ([_]++([_,_]++[_,_]));rw[<-Yz,<-Yz];exact List.Perm.append_right _ List.perm_append_comm)
 refine⟨g.hr,hs.rd 4 rfl (i:=1) rfl,?_⟩;refine⟨fun len x h' μ=>∃(i:Nat) (W:WS) (w:Wt),x=(i:Int)/\g.hr.n-i=μ/\i<=g.hr.n/\mB g i W len/\w.k=W.k/\w.r=W.r/\w.e=W.e/\w.o=W.o/\St h h' (Tn l8.size h9.size h.size g w W.F W.S),⟨_,0,oY,cq,rfl,rfl,Nat.zero_le _,.zero,rfl,rfl,rfl,rfl,hs⟩,?_⟩;clear hs;rintro-len _ kg μ ⟨i,W,w,rfl,rfl,hi,hF,e1,e2,e3,e4,hs⟩;refine aM (fun c=>?_) (fun c=>?_)
 .refine⟨_,_,_,_,_,_,_,_,hs.at 4 rfl (o:=0) (n:=8) rfl,?_⟩;refine (HP g (i:Int) kg (hg.ext hs.ext) (hx.ext hs.ext) hV ⟨by omega,by omega⟩).mono ?_;rintro _ LW ⟨W',n',hP,w',f1,f2,f3,f4,rfl,L,bI⟩;refine⟨w'.k,w'.r,w'.f,w'.s,w'.e.r,w'.e.s,w'.e.p,w'.e.l,au,w'.o.r,w'.o.s,w'.o.p,w'.o.l,au,n',0,rfl,?_⟩;have hs:=hs.join bI;refine hs.ao (vs:=w'.cs) rfl rfl fun h73 hs=>?_;have tk:∀ {hZ:Heap},(n'<len\/n'=len/\n'<aH/\W'.k<W.k)->St h hZ ((It.ae LW.size w'.cs 35::(Tn l8.size h9.size h.size g w W.F W.S ++ .sl w'.f 65 3 (W'.F.map Ac.cs) :: .sl w'.s 65 3 (W'.S.map Ac.cs)::L)).set 1 (.ae l8.size w'.cs 35)) ->
    ∃m,m<g.hr.n-i/\∃(i':Nat) (W:WS) (w:Wt),IntKind.wrap .i64 ((i:Int)+1)=(i':Int)/\g.hr.n-i'=m/\i'<=g.hr.n/\mB g i' W n'/\w.k=W.k/\w.r=W.r/\w.e=W.e/\w.o=W.o/\St h hZ (Tn l8.size h9.size h.size g w W.F W.S):=fun {hZ} hc hs=>by
   refine⟨_,?_,i+1,W',w',by rw[a7 (by omega) (by omega)];omega,rfl,by omega,.take hF hP hc,f1,f2,f3,f4,?_⟩
   .omega
   .refine hs.gK (R:=.ae LW.size w'.cs 35 :: .sl w.f 65 3 (W.F.map Ac.cs) :: .sl w.s 65 3 (W.S.map Ac.cs)::L) ?_;show List.Perm (.ae LW.size w'.cs 35 :: .ae l8.size w'.cs 35 :: .sl w.f 65 3 (W.F.map Ac.cs) :: .sl w.s 65 3 (W.S.map Ac.cs) :: .ae h9.size cq.cs 35 :: .ae h.size g.cs 27 :: .sl w'.f 65 3 (W'.F.map Ac.cs) :: .sl w'.s 65 3 (W'.S.map Ac.cs)::L) (.ae l8.size w'.cs 35 :: .sl w'.f 65 3 (W'.F.map Ac.cs) :: .sl w'.s 65 3 (W'.S.map Ac.cs) :: .ae h9.size cq.cs 35 :: .ae h.size g.cs 27 :: .ae LW.size w'.cs 35 :: .sl w.f 65 3 (W.F.map Ac.cs) :: .sl w.s 65 3 (W.S.map Ac.cs)::L);exact Nq _ _ _ _ _ _ _ _ L
  have kp:∀ {hZ:Heap},¬(n'<len\/n'=len/\n'<aH/\W'.k<W.k)->St h hZ (It.ae LW.size w'.cs 35::(Tn l8.size h9.size h.size g w W.F W.S ++ .sl w'.f 65 3 (W'.F.map Ac.cs) :: .sl w'.s 65 3 (W'.S.map Ac.cs)::L)) ->
    ∃m,m<g.hr.n-i/\∃(i':Nat) (W:WS) (w:Wt),IntKind.wrap .i64 ((i:Int)+1)=(i':Int)/\g.hr.n-i'=m/\i'<=g.hr.n/\mB g i' W len/\w.k=W.k/\w.r=W.r/\w.e=W.e/\w.o=W.o/\St h hZ (Tn l8.size h9.size h.size g w W.F W.S):=fun {hZ} hc hs=>by
   refine⟨_,?_,i+1,W,w,by rw[a7 (by omega) (by omega)];omega,rfl,by omega,.bW hF hP hc,e1,e2,e3,e4,(hs.drop 1).gK (List.Perm.refl _)⟩;omega
  refine aM (fun c1=>?_) (fun c1=>?_)
  .exact Ah hs 0 1 (w:=w') (w0:=w) rfl rfl fun h88 hs=>tk (.inl c1) hs
  .refine dw (fun c2=>?_) (fun c2=>?_)
   .refine aM (fun c3=>?_) (fun c3=>?_)
    .refine⟨w'.k,hs.rd 0 rfl (i:=0) rfl,w.k,hs.rd 1 rfl (i:=0) rfl,aM (fun c4=>?_) (fun c4=>?_)⟩
     .exact Ah hs 0 1 (w:=w') (w0:=w) rfl rfl fun sF hs=>tk (.inr ⟨c2,c3,by rw[<-e1,<-f1];exact c4⟩) hs
     .exact kp (fun h9=>h9.elim c1 fun h9=>c4 (by rw[e1,f1];exact h9.2.2)) hs
    .exact kp (fun h9=>h9.elim c1 fun h9=>c3 h9.2.1) hs
   .exact kp (fun h9=>h9.elim c1 fun h9=>c2 h9.1) hs
 .have:i=g.rs.length:=by omega
  subst this;refine dw (fun c1=>?_) (fun c1=>?_)
  .refine hs.put 3 rfl (o:=0) (vs:=cq.cs) rfl (bc 14) fun Qt hs=>?_;refine oL (w:=cq) (Q:=fun cs=>vy g h Qt (.tuple ⟨[.agg ⟨cs⟩,.int .i64 0]⟩)) (hs.at 3 rfl (o:=0) (n:=14) rfl) ?_;exact .ok hV (by rw[<-show len=aH from c1];exact hF) hs.ext
  .refine Ah hs 0 3 (w:=w) (w0:=cq) rfl rfl fun Eo hs=>?_;refine oL (w:=w) (Q:=fun cs=>vy g h Eo (.tuple ⟨[.agg ⟨cs⟩,.int .i64 18]⟩)) (hs.at 3 rfl (o:=0) (n:=14) rfl) ?_;exact .err hV hF c1 ⟨w,e1,e2,e3,e4,rfl,_,hs.drop 1⟩
/-! ### moves of pairs, and views -/
theorem VW{g:Gl}{role:Int}{s t:Nat}{x:Ed}(hx:x∈g.es)(hv:aW role x=none)(hf:x.f=(s:Int)):∃m∈bq g.es role s t,bj m=(x.t.toNat,t):=by
 obtain⟨i,hi⟩:=Yf.1 hx;refine⟨⟨(i:Int),-1,(eA g.es i).t,(t:Nat)⟩,?_,by unfold bj;rw[aL hi];rfl⟩;unfold bq kX;refine List.mem_append_left _ (List.mem_append_left _ (Yp.2 ⟨i,List.mem_filter.2 ⟨az.2 ⟨x,hi,hf⟩,?_⟩,rfl⟩));unfold A7;rw[aL hi,hv];rfl
theorem VX{g:Gl}{role:Int}{s t:Nat}{x:Ed}(hx:x∈g.es)(hv:aW role x=none)(hf:x.f=(t:Int)):∃m∈bq g.es role s t,bj m=(s,x.t.toNat):=by
 obtain⟨i,hi⟩:=Yf.1 hx;refine⟨⟨-1,(i:Int),(s:Nat),(eA g.es i).t⟩,?_,by unfold bj;rw[aL hi];rfl⟩;unfold bq pH;refine List.mem_append_left _ (List.mem_append_right _ (Yp.2 ⟨i,List.mem_filter.2 ⟨az.2 ⟨x,hi,hf⟩,?_⟩,rfl⟩));unfold A7;rw[aL hi,hv];rfl
theorem dC.q1{g:Gl}{role:Int}{l:List Int}{t:Nat}{a:Int}(hn:∀x∈g.es,0<=x.f/\0<=x.t)(hl:∀b∈l,0<=b/\dC g role (b.toNat,t))(h:Qr g.es role l a):0<=a/\dC g role (a.toNat,t):=by
 induction h with
 | base hm=>exact hl _ hm
 | @step a b _ hx ih=>
  obtain⟨x,hx,hv,hf,rfl⟩:=hx;obtain⟨m,hm,he⟩:=VW (t:=t) (s:=a.toNat) hx hv (by omega);refine⟨(hn x hx).2,?_⟩;have:=dC.step ih.2 hm
  rwa [he] at this
theorem dC.q2{g:Gl}{role:Int}{l:List Int}{s:Nat}{a:Int}(hn:∀x∈g.es,0<=x.f/\0<=x.t)(hl:∀b∈l,0<=b/\dC g role (s,b.toNat))(h:Qr g.es role l a):0<=a/\dC g role (s,a.toNat):=by
 induction h with
 | base hm=>exact hl _ hm
 | @step a b _ hx ih=>
  obtain⟨x,hx,hv,hf,rfl⟩:=hx;obtain⟨m,hm,he⟩:=VX (s:=s) (t:=a.toNat) hx hv (by omega);refine⟨(hn x hx).2,?_⟩;have:=dC.step ih.2 hm
  rwa [he] at this
/-! ### nothing is found: no reached pair and no reached state fails -/
theorem iG.all{g:Gl}{role:Int}{X:An}{i:Nat}{W:WS}{n:Int}(h:iG g role X i W n):∀j,j<i->∃W' n',tn g role X j W' n'/\n<=n':=by
 induction h with
 | zero=>intro j hj;omega
 | @take i W W' n n' _ hk bU ih=>
  intro j hj;by_cases e:j=i
  .subst e;exact⟨_,_,hk,Int.le_refl _⟩
  .obtain⟨W2,n2,h1,h2⟩:=ih j (by omega);exact⟨W2,n2,h1,by omega⟩
 | @bW i W W' n n' _ hk bU ih=>
  intro j hj;by_cases e:j=i
  .subst e;exact⟨_,_,hk,by omega⟩
  .exact ih j (by omega)
theorem mB.all{g:Gl}{i:Nat}{W:WS}{n:Int}(h:mB g i W n):∀j:Nat,j<i->∃W' n',dE g (j:Int) W' n'/\n<=n':=by
 induction h with
 | zero=>intro j hj;omega
 | @take i W W' n n' _ hk bU ih=>
  intro j hj;by_cases e:j=i
  .subst e;exact⟨_,_,hk,Int.le_refl _⟩
  .obtain⟨W2,n2,h1,h2⟩:=ih j (by omega);exact⟨W2,n2,h1,by omega⟩
 | @bW i W W' n n' _ hk bU ih=>
  intro j hj;by_cases e:j=i
  .subst e;exact⟨_,_,hk,by omega⟩
  .exact ih j (by omega)
end Go.VC
end

section
namespace Go.VC
/-! ### two blocks change places; a part is turned round -/
/-! ### order -/
end Go.VC
end

section
namespace Go.VC
open Go.Proofs Go.LexS



def o8(g:Gl)(r hd:Sl):List Value:=[.string (bs g.nm),.slice r.a r.n r.c,.slice hd.a hd.n hd.c,.int .i64 0,.int .i64 0,.int .i64 0,.slice none 0 0,.slice none 0 0]
end Go.VC
end

section
namespace Go.VC
open Go.LexS

end Go.VC
end

section
namespace Go.VC
open Go.Proofs Go.LexS


end Go.VC
end

section
namespace Go.VC
open Go.LexS
def Dy(σ:Nat->Nat)(v:Int):Int:=((σ v.toNat:Nat):Int)
def OO(σ:Nat->Nat)(y:Ed):Ed:=⟨Dy σ y.f,y.a,y.b,y.l,Dy σ y.t,y.ag⟩
structure Ren (g c:Gl) (σ:Nat->Nat):Prop where
 n:c.n=g.n
 r:∀i,i<g.n.toNat->σ i<g.n.toNat
 inj:∀i j,i<g.n.toNat->j<g.n.toNat->σ i=σ j->i=j
 s:c.s=Dy σ g.s
 e:c.e=Dy σ g.e
 ed:∀x,x∈c.es ↔ ∃y∈g.es,x=OO σ y
 ti:∀t∈c.ts,∃u∈g.ts,t.s=Dy σ u.s/\t.k=u.k/\∃z,g.es[u.e.toNat]?=some z/\c.es[t.e.toNat]?=some (OO σ z)
 tj:∀u∈g.ts,∃t∈c.ts,t.s=Dy σ u.s/\t.k=u.k/\∃z,g.es[u.e.toNat]?=some z/\c.es[t.e.toNat]?=some (OO σ z)
 rs:c.rs=g.rs
theorem FM{g:Gl}(hV:af g){x:Ed}{t u:Ti}(h:Sf g x t)(k:Sf g x u):t=u:=by
 rcases h with ⟨a,ha,has,z,hz,rfl⟩ | ⟨bK,rfl⟩
 .rcases k with ⟨b,hb,hbs,z',ny,rfl⟩ | ⟨bK,_⟩
  .have e:=vU hV.Sw ha hb (by omega);subst e;rw[hz] at ny;cases ny;rfl
  .exact absurd has (bK a ha)
 .rcases k with ⟨b,hb,hbs,_⟩ | ⟨_,rfl⟩
  .exact absurd hbs (bK b hb)
  .rfl
end Go.VC
end

section
namespace Go.VC
open Go.Proofs Go.LexS
theorem kN{α β:Type}(f:α->β)(P:α->Prop)[DecidablePred P]:∀(l:List α) (b:β),(l.foldl (fun b t=>if P t then f t else b) b=b/\∀u∈l,¬P u)\/∃u∈l,P u/\l.foldl (fun b t=>if P t then f t else b) b=f u
 | [],b=>.inl ⟨rfl,fun u hu=>by cases hu⟩
 | a::l,b=>by
  rw[List.foldl_cons];by_cases h:P a
  .rw[if_pos h];rcases kN f P l (f a) with ⟨h1,h2⟩ | ⟨u,hu,h1,h2⟩
   .exact .inr ⟨a,Yx,h,h1⟩
   .exact .inr ⟨u,Yn _ hu,h1,h2⟩
  .rw[if_neg h];rcases kN f P l b with ⟨h1,h2⟩ | ⟨u,hu,h1,h2⟩
   .refine .inl ⟨h1,fun u hu=>?_⟩;rcases Yr.1 hu with rfl | hu
    .exact h
    .exact h2 u hu
   .exact .inr ⟨u,Yn _ hu,h1,h2⟩
theorem MH{g:Gl}(hV:af g){x:Ed}(hx:x∈g.es){s:Nat}(hf:x.f=(s:Int)):dW g.es s=x.ag:=by
 unfold dW;cases h:x.ag with
 | true=>exact List.any_eq_true.2 ⟨x,hx,by rw[decide_eq_true hf,h];rfl⟩
 | false=>
  refine List.any_eq_false.2 fun y hy h9=>?_;rw[Yt,decide_eq_true_eq] at h9;have:=(eG hV hx hy (by rw[hf,h9.1])).2;rw[h,h9.2] at this;cases this
theorem Li{g:Gl}(hV:af g){role:Int}{x:Ed}(hx:x∈g.es)(ha:x.a=role){s:Nat}(hf:x.f=(s:Int)):Sf g x ⟨dW g.es s,(cy g role g.ts s).k,(cy g role g.ts s).x⟩:=by
 rw[MH hV hx hf];unfold cy;rcases kN (tg g role) (fun t:To=>t.s=(s:Int)) g.ts Ff with ⟨h1,h2⟩ | ⟨u,hu,h1,h2⟩
 .rw[h1];exact .inr ⟨fun u hu=>by rw[hf];exact h2 u hu,rfl⟩
 .rw[h2];obtain⟨_,_,_,z,hz,hzf⟩:=ub hV hu;refine .inl ⟨u,hu,by rw[hf];exact h1,z,hz,?_⟩;have hza:z.a=role:=by rw[<-ha];exact (eG hV (Yb hz) hx (by rw[hzf,h1,hf])).1
  have hv:aW role z=some ⟨true,z.b,z.l⟩:=by unfold aW;rw[if_pos hza.symm]
  unfold tg;rw[aL hz,hv];rfl
/-! ### lists of events in order -/
theorem mI.at{g:Gl}{role:Int}{X:An}(h:mI g role X){s:Nat}(hs:(s:Int)<g.n):∃f,X.fi[s]?=some f/\f.l=ay g role (s:Nat)/\f.b=bQ g role (s:Nat):=by
 have hl:X.fi.length=g.n.toNat:=by have:=congrArg List.length h.fi;simpa using this
 obtain⟨f,hf⟩:=get_some (l:=X.fi) (i:=s) (by omega);have h1:=aR h.fi (s:=s) (by omega);rw[Yd,hf] at h1;have h2:=fL h1;exact⟨f,hf,congrArg Prod.fst h2,congrArg Prod.snd h2⟩
/-! ### without memory -/
def wT(g:Gl)(role:Int)(s:Nat):Prop:=s<g.n.toNat/\(dq (ay g role (s:Nat)) 0&&(bQ g role (s:Nat) || !dq (ay g role (s:Nat)) ((ay g role (s:Nat)).length-1)))=true
noncomputable def Q6(g:Gl)(role:Int)(s t:Nat):Prop:=MU ((List.range g.n.toNat).map (cy g role g.ts)) ((List.range g.n.toNat).map (dW g.es)) ((List.range g.n.toNat).map (dR g.es role)) s t
noncomputable def bR(g:Gl)(role kind:Int)(p:Pr):Option Int:=by
 classical exact if kind=1 then (if p.1<g.n.toNat/\p.2<g.n.toNat then (if ((ay g role (p.1:Nat)).find? (dA (ay g role (p.2:Nat)))).isSome then some 0 else none) else none)
 else if kind=3 then (if Q6 g role p.1 p.2 then some 0 else none)
 else (if p.1<g.n.toNat/\p.2<g.n.toNat then (cU (ay g role (p.2:Nat)) (du g role p.1)).map (·.n) else none)
theorem mI.fl{g:Gl}{role:Int}{X:An}(h:mI g role X):X.fi.length=g.n.toNat:=by have:=congrArg List.length h.fi;simpa using this
theorem mI.al{g:Gl}{role:Int}{X:An}(h:mI g role X):X.ar.length=g.n.toNat:=by have:=congrArg List.length h.ar;simpa using this
theorem mI.Oh{g:Gl}{role:Int}{X:An}(h:mI g role X){s:Nat}(hs:s<g.n.toNat):∃f,X.fi[s]?=some f/\f.l=ay g role (s:Nat)/\f.b=bQ g role (s:Nat):=h.at (by omega)
theorem mI.ara{g:Gl}{role:Int}{X:An}(h:mI g role X){s:Nat}(hs:s<g.n.toNat):∃q,X.ar[s]?=some q/\q.2=du g role s:=by
 obtain⟨q,hq⟩:=get_some (l:=X.ar) (i:=s) (by rw[h.al];exact hs);have h1:=aR h.ar hs;rw[Yd,hq] at h1;exact⟨q,hq,fL h1⟩
theorem mI.bu{g:Gl}{role:Int}{X:An}(h:mI g role X)(kind:Int)(p:Pr):ff X kind p=bR g role kind p:=by
 unfold ff bR;by_cases k1:kind=1
 .rw[if_pos k1,if_pos k1];by_cases hr:p.1<g.n.toNat/\p.2<g.n.toNat
  .obtain⟨f,hf,fl,_⟩:=h.Oh hr.1;obtain⟨f',Hw,XP,_⟩:=h.Oh hr.2;rw[if_pos hr,hf,Hw];simp only[fl,XP]
  .rw[if_neg hr];by_cases h1:p.1<g.n.toNat
   .rw[Yl (l:=X.fi) (i:=p.2) (by rw[h.fl];omega)];cases X.fi[p.1]?<;>rfl
   .rw[Yl (l:=X.fi) (i:=p.1) (by rw[h.fl];omega)]
 .rw[if_neg k1,if_neg k1];by_cases k3:kind=3
  .rw[if_pos k3,if_pos k3];have:MU X.li X.ag X.ow p.1 p.2 ↔ Q6 g role p.1 p.2:=by unfold Q6;rw[h.li,h.ag,h.ow]
   by_cases hc:MU X.li X.ag X.ow p.1 p.2
   .rw[if_pos hc,if_pos (this.1 hc)]
   .rw[if_neg hc,if_neg (fun h9=>hc (this.2 h9))]
  .rw[if_neg k3,if_neg k3];by_cases hr:p.1<g.n.toNat/\p.2<g.n.toNat
   .obtain⟨f',Hw,XP,_⟩:=h.Oh hr.2;obtain⟨q,hq,fY⟩:=h.ara hr.1;rw[if_pos hr,Hw,hq];simp only[XP,fY]
   .rw[if_neg hr];by_cases h1:p.2<g.n.toNat
    .rw[Yl (l:=X.ar) (i:=p.1) (by rw[h.al];omega)];cases X.fi[p.2]?<;>rfl
    .rw[Yl (l:=X.fi) (i:=p.2) (by rw[h.fl];omega)]
theorem mI.mx{g:Gl}{role:Int}{X:An}(h:mI g role X)(s:Nat):r6 X s ↔ wT g role s:=by
 unfold wT;constructor
 .rintro⟨f,hf,hm⟩;have hs:s<g.n.toNat:=by rw[<-h.fl];exact (Ya.1 hf).1
  obtain⟨f',Hw,fl,fb⟩:=h.Oh hs;rw[hf] at Hw;cases Hw;unfold K7 at hm;rw[fl,fb] at hm;exact⟨hs,hm⟩
 .rintro⟨hs,hm⟩;obtain⟨f,hf,fl,fb⟩:=h.Oh hs;refine⟨f,hf,?_⟩;unfold K7;rw[fl,fb];exact hm
noncomputable def yK(g:Gl)(role kind:Int)(F:List Ac)(p:Pr):List Ac × AN × AN:=
 if kind=1 then (F,aI role (((ay g role (p.1:Nat)).find? (dA (ay g role (p.2:Nat)))).getD ⟨false,0,0⟩),bp)
 else if kind=4 then (F++[(eA g.es ((cU (ay g role (p.2:Nat)) (du g role p.1)).getD dd).e.toNat).act]++gA g ((cU (ay g role (p.2:Nat)) (du g role p.1)).getD dd).e.toNat ((cU (ay g role (p.2:Nat)) (du g role p.1)).getD dd).m,aI role ((cU (ay g role (p.2:Nat)) (du g role p.1)).getD dd).m.ev,aI role ⟨false,(eA g.es ((cU (ay g role (p.2:Nat)) (du g role p.1)).getD dd).e.toNat).a,(eA g.es ((cU (ay g role (p.2:Nat)) (du g role p.1)).getD dd).e.toNat).l⟩)
 else (F,bp,bp)
theorem mI.ex{g:Gl}{role:Int}{X:An}(h:mI g role X)(kind:Int)(F:List Ac){p:Pr}(h1:p.1<g.n.toNat)(h2:p.2<g.n.toNat):vK g role kind X F p=yK g role kind F p:=by
 obtain⟨f,hf,fl,_⟩:=h.Oh h1;obtain⟨f',Hw,XP,_⟩:=h.Oh h2;obtain⟨q,hq,fY⟩:=h.ara h1;unfold vK yK;rw[hf,Hw,hq];simp only[fl,XP,fY]
noncomputable def br(g:Gl)(role kind:Int)(p:Pr):Option Nat:=(bR g role kind p).map Int.toNat
theorem mI.fg{g:Gl}{role:Int}{X:An}(h:mI g role X)(kind:Int):Go.VC.fg X kind=br g role kind:=by
 funext p
 unfold Go.VC.fg br;rw[h.bu]
theorem nO.prr{g:Gl}{role:Int}{bu:Pr->Option Int}{D:Pr->Int}{ms:List aP}{p:Pr}(h:nO (bB g role) bu D (eP g) ms p):dC g role p:=by
 induction h with
 | nil=>exact .start
 | snoc _ _ _ hm ih=>exact .step ih (Yb hm)
theorem eV{α:Type}{p q:α->Bool}:∀ {l:List α},(∀x∈l,p x=q x)->l.findIdx? p=l.findIdx? q
 | [],_=>rfl
 | a::l,h=>by
  rw[List.findIdx?_cons,List.findIdx?_cons,h a Yx,eV (l:=l) fun x hx=>h x (Yn _ hx)]
theorem nO.iJ{g:Gl}{role:Int}{bu:Pr->Option Int}{D D':Pr->Int}(hD:∀q,dC g role q->D q=D' q){ms:List aP}{p:Pr}(h:nO (bB g role) bu D (eP g) ms p):nO (bB g role) bu D' (eP g) ms p:=by
 induction h with
 | nil=>exact .nil
 | @snoc ms p m k hg bE gG hm ih=>
  have hp:=hg.prr;refine .snoc ih (by rw[<-hD p hp];exact bE) ?_ hm;rw[<-gG];refine (eV fun x hx=>?_).symm;unfold qD;rw[hD p hp,hD _ (.step hp hx)]
theorem nO.YE{mv:Pr->List aP}{bu:Pr->Option Int}{D:Pr->Int}{p0:Pr}{wW:List aP}{p':Pr}(h':nO mv bu D p0 wW p'):∀ {ms:List aP} {p:Pr},nO mv bu D p0 ms p->ms.length<=wW.length->(ms=wW/\p=p')\/(ms.length<wW.length/\bu p≠some (D p)):=by
 induction h' with
 | nil=>
  intro ms p h hl;cases h with
  | nil=>exact .inl ⟨rfl,rfl⟩
  | snoc=>rw[Yh,Yv] at hl;simp at hl
 | @snoc ms1 p1 m k _ bE gG hm ih=>
  intro ms p h hl;rw[Yh,Yv] at hl;by_cases e:ms.length<=ms1.length
  .rcases ih h e with ⟨rfl,rfl⟩ | ⟨h1,h2⟩
   .exact .inr ⟨by rw[Yh,Yv];omega,bE⟩
   .exact .inr ⟨by rw[Yh,Yv];omega,h2⟩
  .cases h with
   | nil=>simp at e
   | @snoc ms2 p2 m2 k2 hg2 PA hix2 kd=>
    rw[Yh,Yv] at hl e;rcases ih hg2 (by omega) with ⟨rfl,rfl⟩ | ⟨h1,_⟩
    .rw[gG] at hix2;cases hix2;rw[hm] at kd;cases kd;exact .inl ⟨rfl,rfl⟩
    .omega
theorem nO.uniq{mv:Pr->List aP}{bu:Pr->Option Int}{D:Pr->Int}{p0:Pr}{ms wW:List aP}{p p':Pr}(h:nO mv bu D p0 ms p)(hc:bu p=some (D p))(h':nO mv bu D p0 wW p')(kf:bu p'=some (D p')):ms=wW/\p=p':=by
 rcases Nat.le_total ms.length wW.length with hl | hl
 .rcases h'.YE h hl with h9 | ⟨_,h9⟩
  .exact h9
  .exact absurd hc h9
 .rcases h.YE h' hl with ⟨h9,h8⟩ | ⟨_,h9⟩
  .exact⟨h9.symm,h8.symm⟩
  .exact absurd kf h9
theorem nO.len{mv:Pr->List aP}{bu:Pr->Option Int}{D:Pr->Int}{p0:Pr}{ms:List aP}{p:Pr}(h:nO mv bu D p0 ms p):D p0=D p+((ms.map bO).sum:Nat):=by
 induction h with
 | nil=>simp
 | @snoc ms p m k _ _ gG hm ih=>
  obtain⟨h1,h2,_⟩:=List.findIdx?_eq_some_iff_getElem.1 gG;rw[(Ya.1 hm).2] at h2;unfold qD at h2;have h3:=cm h2;rw[Ym,List.sum_append];simp only[gJ,List.map_nil,List.sum_cons,List.sum_nil];omega
inductive kq (g:Gl) (role kind:Int):WS->Int->Prop
 | jL (hn:∀n,¬iR (bB g role) (br g role kind) (eP g) n):kq g role kind oY aH
 | hit {n:Nat} {ms:List aP} {p:Pr} (hl:iR (bB g role) (br g role kind) (eP g) n) (hn:n<=8388608) (hG:nO (bB g role) (bR g role kind) (dL (bB g role) (br g role kind)) (eP g) ms p) (hc:bR g role kind p=some (dL (bB g role) (br g role kind) p)) :
   kq g role kind ⟨kind,role,(yK g role kind (facts g ms) p).1,cx g ms,(yK g role kind (facts g ms) p).2.1,(yK g role kind (facts g ms) p).2.2⟩ (n:Int)
theorem yr.q{g:Gl}(hV:af g){role kind:Int}{X:An}(hX:mI g role X){W:WS}{n:Int}(h:yr g role kind X W n):kq g role kind W n:=by
 have e1:=hX.fg kind;have e2:ff X kind=bR g role kind:=funext fun p=>hX.bu kind p;cases h with
 | jL hn=>rw[e1] at hn;exact .jL hn
 | @hit n D ms p hl hn hD hG hc=>
  rw[e1] at hl hD;rw[e2] at hG hc;have hp:=hG.prr;have bU:=hp.lt hV;rw[hX.ex kind _ (by omega) (by omega)];exact .hit hl hn (hG.iJ hD) (by rw[hc,hD p hp])
theorem kq.uniq{g:Gl}{role kind:Int}{W W':WS}{n n':Int}(h:kq g role kind W n)(h':kq g role kind W' n'):W=W'/\n=n':=by
 cases h with
 | jL hn=>
  cases h' with
  | jL=>exact⟨rfl,rfl⟩
  | hit hl=>exact absurd hl (hn _)
 | hit hl hn hG hc=>
  cases h' with
  | jL hn=>exact absurd hl (hn _)
  | hit k6 Ho hG' kf=>
   obtain⟨rfl,rfl⟩:=hG.uniq hc hG' kf;exact⟨rfl,by rw[hl.uniq k6]⟩
/-! ### mixed -/
noncomputable def dS(es:List Ed)(MX:Nat->Prop)(s:Nat):Int:=by
 classical exact if h:∃n,fS es MX s n then (Classical.choose h:Nat) else df
theorem ry{es:List Ed}{MX:Nat->Prop}{s n:Nat}(h:fS es MX s n):dS es MX s=n:=by
 unfold dS;rw[dif_pos ⟨n,h⟩];have:=fS.uniq (Classical.choose_spec (⟨n,h⟩:∃n,fS es MX s n)) h;omega
theorem YG{es:List Ed}{MX:Nat->Prop}{s:Nat}(h:∀n,¬fS es MX s n):dS es MX s=df:=by
 unfold dS;rw[dif_neg (fun ⟨n,h9⟩=>h n h9)]
def VQ(D:Nat->Int)(es:List Ed)(s k:Nat):Bool:=decide (D (eA es k).t.toNat=D s-1)
inductive GQ (es:List Ed) (D:Nat->Int) (s0:Nat):List Nat->Nat->Prop
 | nil:GQ es D s0 [] s0
 | snoc {ks:List Nat} {s j i:Nat}:GQ es D s0 ks s->0<D s->(ah es (s:Nat)).findIdx? (VQ D es s)=some j->(ah es (s:Nat))[j]?=some i->GQ es D s0 (ks++[i]) (eA es i).t.toNat
theorem GQ.YE{es:List Ed}{D:Nat->Int}{s0:Nat}{wW:List Nat}{p':Nat}(h':GQ es D s0 wW p'):∀ {ms:List Nat} {p:Nat},GQ es D s0 ms p->ms.length<=wW.length->(ms=wW/\p=p')\/(ms.length<wW.length/\0<D p):=by
 induction h' with
 | nil=>
  intro ms p h hl;cases h with
  | nil=>exact .inl ⟨rfl,rfl⟩
  | snoc=>rw[Yh,Yv] at hl;simp at hl
 | @snoc ms1 p1 j k _ bE gG hm ih=>
  intro ms p h hl;rw[Yh,Yv] at hl;by_cases e:ms.length<=ms1.length
  .rcases ih h e with ⟨rfl,rfl⟩ | ⟨h1,h2⟩
   .exact .inr ⟨by rw[Yh,Yv];omega,bE⟩
   .exact .inr ⟨by rw[Yh,Yv];omega,h2⟩
  .cases h with
   | nil=>simp at e
   | @snoc ms2 p2 j2 k2 hg2 PA hix2 kd=>
    rw[Yh,Yv] at hl e;rcases ih hg2 (by omega) with ⟨rfl,rfl⟩ | ⟨h1,_⟩
    .rw[gG] at hix2;cases hix2;rw[hm] at kd;cases kd;exact .inl ⟨rfl,rfl⟩
    .omega
theorem GQ.uniq{es:List Ed}{D:Nat->Int}{s0:Nat}{ms wW:List Nat}{p p':Nat}(h:GQ es D s0 ms p)(hc:D p=0)(h':GQ es D s0 wW p')(kf:D p'=0):ms=wW/\p=p':=by
 rcases Nat.le_total ms.length wW.length with hl | hl
 .rcases h'.YE h hl with h9 | ⟨_,h9⟩
  .exact h9
  .omega
 .rcases h.YE h' hl with ⟨h9,h8⟩ | ⟨_,h9⟩
  .exact⟨h9.symm,h8.symm⟩
  .omega
theorem GQ.len{es:List Ed}{D:Nat->Int}{s0:Nat}{ms:List Nat}{p:Nat}(h:GQ es D s0 ms p):D s0=D p+(ms.length:Int):=by
 induction h with
 | nil=>simp
 | @snoc ms p j k _ _ gG hm ih=>
  obtain⟨h1,h2,_⟩:=List.findIdx?_eq_some_iff_getElem.1 gG;rw[(Ya.1 hm).2] at h2;unfold VQ at h2;have h3:=cm h2;rw[Yh,Yv];omega
theorem EZ.val{g:Gl}{MX:Nat->Prop}{LF:List Int}(h:EZ g MX LF){s:Nat}(hs:s<g.n.toNat):LF[s]?=some (dS g.es MX s):=by
 rcases h s hs with ⟨h1,h2⟩ | ⟨k,h1,h2,_⟩
 .rw[h1,YG fun n hn=>h2 n hn.1]
 .rw[h1,ry h2]
theorem GS.q{g:Gl}(hV:af g){MX:Nat->Prop}{LF:List Int}(hF:EZ g MX LF){ks:List Nat}{s:Nat}(h:GS g.es LF g.s.toNat ks s):s<g.n.toNat/\GQ g.es (dS g.es MX) g.s.toNat ks s:=by
 have hN:=hV.num.n
 induction h with
 | nil=>exact⟨by omega,.nil⟩
 | @snoc ks s x j i _ hx h0 gG hi ih=>
  obtain⟨y,hy,hyf⟩:=az.1 (Yb hi);have hye:=hV.num.e y (Yb hy);unfold gV at hye;have Wi:=hF.val ih.1;rw[hx] at Wi;have e1:=fL Wi;refine⟨by rw[aL hy];omega,.snoc ih.2 (by omega) ?_ hi⟩;rw[<-gG];refine (eV fun k hk=>?_).symm;obtain⟨z,hz,hzf⟩:=az.1 hk;have hze:=hV.num.e z (Yb hz);unfold gV at hze;unfold GB VQ;rw[aL hz,Yo,hF.val (s:=z.t.toNat) (by omega),Option.getD_some,e1]
inductive tW (g:Gl) (role:Int):WS->Int->Prop
 | jL (hn:∀n,¬r7 g.es (wT g role) g.s.toNat n):tW g role oY aH
 | hit {n:Nat} {ks:List Nat} {s:Nat} {e0:Ev} (hl:fS g.es (wT g role) g.s.toNat n) (hn:n<=1000) (hG:GQ g.es (dS g.es (wT g role)) g.s.toNat ks s) (h0:dS g.es (wT g role) s=0) (hm:wT g role s) (sz:(ay g role (s:Nat))[0]?=some e0) :
   tW g role ⟨2,role,cJ g.es ks,[],aI role e0,yx role (ay g role (s:Nat))⟩ ((2*n:Nat):Int)
theorem Sp.q{g:Gl}(hV:af g){role:Int}{X:An}(hX:mI g role X){W:WS}{n:Int}(h:Sp g role X W n):tW g role W n:=by
 have e1:r6 X=wT g role:=funext fun s=>propext (hX.mx s);cases h with
 | jL hn=>rw[e1] at hn;exact .jL hn
 | @hit n LF ks s f e0 hl hn hF hG h0 hf hm sz=>
  rw[e1] at hl hF;obtain⟨iA,hq⟩:=hG.q hV hF;obtain⟨f',Hw,fl,fb⟩:=hX.Oh iA;rw[hf] at Hw;cases Hw;rw[fl] at sz ⊢;have hv:=hF.val iA;rw[h0] at hv;exact .hit hl hn hq (fL hv).symm ((hX.mx s).1 ⟨f,hf,hm⟩) sz
theorem tW.uniq{g:Gl}{role:Int}{W W':WS}{n n':Int}(h:tW g role W n)(h':tW g role W' n'):W=W'/\n=n':=by
 cases h with
 | jL hn=>
  cases h' with
  | jL=>exact⟨rfl,rfl⟩
  | hit hl=>exact absurd hl.1 (hn _)
 | hit hl hn hG h0 hm sz=>
  cases h' with
  | jL hn=>exact absurd hl.1 (hn _)
  | hit k6 Ho hG' HK jX hf0'=>
   obtain⟨rfl,rfl⟩:=hG.uniq h0 hG' HK;rw[sz] at hf0';cases hf0';exact⟨rfl,by rw[hl.uniq k6]⟩
/-! ### find and Check -/
def ji(g:Gl)(role:Int)(i:Nat)(W:WS)(n:Int):Prop:=
 match i with
 | 0=>kq g role 1 W n
 | 1=>tW g role W n
 | 2=>kq g role 3 W n
 | _=>kq g role 4 W n
theorem tn.q{g:Gl}(hV:af g){role:Int}{X:An}(hX:mI g role X){i:Nat}{W:WS}{n:Int}(h:tn g role X i W n):ji g role i W n:=by
 match i with
 | 0=>exact yr.q hV hX h
 | 1=>exact Sp.q hV hX h
 | 2=>exact yr.q hV hX h
 | i+3=>exact yr.q hV hX h
theorem ji.uniq{g:Gl}{role:Int}{i:Nat}{W W':WS}{n n':Int}(h:ji g role i W n)(h':ji g role i W' n'):W=W'/\n=n':=by
 match i with
 | 0=>exact kq.uniq h h'
 | 1=>exact tW.uniq h h'
 | 2=>exact kq.uniq h h'
 | i+3=>exact kq.uniq h h'
inductive bG (g:Gl) (role:Int):Nat->WS->Int->Prop
 | zero:bG g role 0 oY aH
 | take {i:Nat} {W W':WS} {n n':Int}:bG g role i W n->ji g role i W' n'->n'<n->bG g role (i+1) W' n'
 | bW {i:Nat} {W W':WS} {n n':Int}:bG g role i W n->ji g role i W' n'->¬n'<n->bG g role (i+1) W n
theorem iG.q{g:Gl}(hV:af g){role:Int}{X:An}(hX:mI g role X){i:Nat}{W:WS}{n:Int}(h:iG g role X i W n):bG g role i W n:=by
 induction h with
 | zero=>exact .zero
 | take _ hk hl ih=>exact .take ih (hk.q hV hX) hl
 | bW _ hk hl ih=>exact .bW ih (hk.q hV hX) hl
theorem bG.uniq{g:Gl}{role:Int}{i:Nat}{W:WS}{n:Int}(h:bG g role i W n):∀ {W':WS} {n':Int},bG g role i W' n'->W=W'/\n=n':=by
 induction h with
 | zero=>intro W' n' h';cases h';exact⟨rfl,rfl⟩
 | take _ hk hl ih=>
  intro W' n' h';cases h' with
  | take h2 iC il=>exact hk.uniq iC
  | bW h2 iC il=>
   obtain⟨rfl,rfl⟩:=ih h2;obtain⟨rfl,rfl⟩:=hk.uniq iC;exact absurd hl il
 | bW _ hk hl ih=>
  intro W' n' h';cases h' with
  | take h2 iC il=>
   obtain⟨rfl,rfl⟩:=ih h2;obtain⟨rfl,rfl⟩:=hk.uniq iC;exact absurd il hl
  | bW h2 iC il=>exact ih h2
theorem dE.q{g:Gl}(hV:af g){role:Int}{W:WS}{n:Int}(h:dE g role W n):bG g role 4 W n:=by
 obtain⟨X,hX,hF⟩:=h;exact hF.q hV hX
theorem dE.uniq{g:Gl}(hV:af g){role:Int}{W W':WS}{n n':Int}(h:dE g role W n)(h':dE g role W' n'):W=W'/\n=n':=(h.q hV).uniq (h'.q hV)
/-! ### lengths -/
def WS.len(W:WS):Nat:=if W.k=2 then 2*W.F.length else W.F.length+W.S.length
theorem Qx(g:Gl){role:Int}{ms:List aP}(h:∀m∈ms,∃s t,m∈bq g.es role s t):(facts g ms).length+(cx g ms).length=(ms.map bO).sum:=by
 induction ms with
 | nil=>rfl
 | cons m ms ih=>
  have h1:=ih fun m hm=>h m (Yn _ hm);obtain⟨s,t,hm⟩:=h m Yx;have h2:0<=m.x\/0<=m.y:=by
   unfold bq at hm;rcases Yk.1 hm with hm | hm
   .rcases Yk.1 hm with hm | hm
    .obtain⟨k,_,rfl⟩:=Yp.1 hm;exact .inl (Int.natCast_nonneg k)
    .obtain⟨k,_,rfl⟩:=Yp.1 hm;exact .inr (Int.natCast_nonneg k)
   .unfold kG at hm;obtain⟨i,hi,hm⟩:=List.mem_flatMap.1 hm;unfold lM at hm;split at hm
    .cases hm
    .obtain⟨k,_,rfl⟩:=Yp.1 hm;exact .inl (Int.natCast_nonneg i)
  unfold facts cx at *;rw[List.flatMap_cons,List.flatMap_cons,Yh,Yh,gJ,List.sum_cons,<-h1];unfold bO;by_cases hx:0<=m.x
  .by_cases hy:0<=m.y
   .rw[if_pos hx,if_pos hy,if_pos ⟨hx,hy⟩];simp only[Yv];omega
   .rw[if_pos hx,if_neg hy,if_neg (fun h9=>hy h9.2)];simp only[Yv,List.length_nil];omega
  .have hy:0<=m.y:=h2.resolve_left hx;rw[if_neg hx,if_pos hy,if_neg (fun h9=>hx h9.1)];simp only[Yv,List.length_nil];omega
theorem nO.mem{g:Gl}{role:Int}{bu:Pr->Option Int}{D:Pr->Int}{p0:Pr}{ms:List aP}{p:Pr}(h:nO (bB g role) bu D p0 ms p):∀m∈ms,∃s t,m∈bq g.es role s t:=by
 induction h with
 | nil=>intro m hm;cases hm
 | @snoc ms p m k _ _ _ hm ih=>
  intro x hx;rcases Yk.1 hx with hx | hx
  .exact ih x hx
  .rw[Ye] at hx;subst hx;exact⟨p.1,p.2,Yb hm⟩
theorem Il{g:Gl}{role:Int}{s:Nat}{y:fT}(h:y∈du g role s):∃(i:Nat) (m:Ms),y=jr g i m/\i<g.es.length/\m∈dP g i:=by
 unfold du at h;obtain⟨i,hi,hy⟩:=List.mem_flatMap.1 h;unfold iy at hy;obtain⟨x,hx,_⟩:=az.1 hi;split at hy
 .unfold tP at hy;obtain⟨m,hm,rfl⟩:=Yp.1 hy;exact⟨i,m,rfl,(Ya.1 hx).1,(List.mem_filter.1 hm).1⟩
 .cases hy
theorem kq.len{g:Gl}{role kind:Int}(hk:kind=1\/kind=3\/kind=4){W:WS}{n:Int}(h:kq g role kind W n):(n=aH/\W=oY)\/(n=W.len/\n<=8388608/\W.k=kind/\W.r=role):=by
 cases h with
 | jL=>exact .inl ⟨rfl,rfl⟩
 | @hit n ms p hl hn hG hc=>
  refine .inr ⟨?_,by omega,rfl,rfl⟩;have h1:=Qx g hG.mem;have h2:=hG.len;have h3:=jo hl;have LG:kind≠2:=by omega
  unfold WS.len;rw[if_neg LG];rcases hk with rfl | rfl | rfl
  .have:dL (bB g role) (br g role 1) p=0:=by
    unfold bR at hc;rw[if_pos rfl] at hc;split at hc
    .split at hc
     .exact (fL hc).symm
     .cases hc
    .cases hc
   unfold yK;rw[if_pos rfl];simp only;omega
  .have:dL (bB g role) (br g role 3) p=0:=by
    unfold bR at hc;rw[if_neg (by decide),if_pos rfl] at hc;split at hc
    .exact (fL hc).symm
    .cases hc
   unfold yK;rw[if_neg (by decide),if_neg (by decide)];simp only;omega
  .unfold bR at hc;rw[if_neg (by decide),if_neg (by decide)] at hc;split at hc
   .obtain⟨y,hy,hyn⟩:=sL.1 hc;obtain⟨i,m,rfl,_,_⟩:=Il (mu hy).1;unfold yK;rw[if_neg (by decide),if_pos rfl,hy];simp only[Option.getD_some,Yh,Yv];have e1:(jr g i m).e.toNat=i:=by unfold jr;exact Ys i
    have e2:(jr g i m).n=1+((gA g i m).length:Int):=rfl;have e3:(jr g i m).m=m:=rfl;rw[e1,e3];omega
   .cases hc
theorem tW.len{g:Gl}{role:Int}{W:WS}{n:Int}(h:tW g role W n):(n=aH/\W=oY)\/(n=W.len/\n<=8388608/\W.k=2/\W.r=role):=by
 cases h with
 | jL=>exact .inl ⟨rfl,rfl⟩
 | @hit n ks s e0 hl hn hG h0 hm sz=>
  have h1:=hG.len;have h2:=ry hl;refine .inr ⟨?_,by omega,rfl,rfl⟩;unfold WS.len;rw[if_pos rfl];have h3:(cJ g.es ks).length=ks.length:=Yc _;simp only;omega
theorem bG.len{g:Gl}{role:Int}:∀ {i:Nat} {W:WS} {n:Int},bG g role i W n->(n=aH/\W=oY)\/(n=W.len/\n<=8388608/\1<=W.k/\W.k<=4/\W.r=role):=by
 intro i W n h
 induction h with
 | zero=>exact .inl ⟨rfl,rfl⟩
 | @take i W W' n n' _ hk hl ih=>
  have h9:(n'=aH/\W'=oY)\/(n'=W'.len/\n'<=8388608/\1<=W'.k/\W'.k<=4/\W'.r=role):=by
   match i with
   | 0=>exact (kq.len (.inl rfl) hk).imp id fun ⟨a,b,c,d⟩=>⟨a,b,by omega,by omega,d⟩
   | 1=>exact (tW.len hk).imp id fun ⟨a,b,c,d⟩=>⟨a,b,by omega,by omega,d⟩
   | 2=>exact (kq.len (.inr (.inl rfl)) hk).imp id fun ⟨a,b,c,d⟩=>⟨a,b,by omega,by omega,d⟩
   | i+3=>exact (kq.len (.inr (.inr rfl)) hk).imp id fun ⟨a,b,c,d⟩=>⟨a,b,by omega,by omega,d⟩
  exact h9
 | bW _ _ _ ih=>exact ih


theorem dE.len{g:Gl}(hV:af g){role:Int}{W:WS}{n:Int}(h:dE g role W n):(n=aH/\W=oY)\/(n=W.len/\n<=8388608/\1<=W.k/\W.k<=4/\W.r=role):=(h.q hV).len
def aaW(g:Gl)(k:Nat)(W:WS)(n:Int):Prop:=
 (n=aH/\W=oY/\∀j:Nat,j<k->∀W' n',dE g (j:Int) W' n'->n'=aH) \/
  (n≠aH/\(∃i:Nat,i<k/\dE g (i:Int) W n)/\∀j:Nat,j<k->∀W' n',dE g (j:Int) W' n'->n'=aH\/n<n'\/(n=n'/\(W.k<W'.k\/(W.k=W'.k/\W.r<=(j:Int)))))
theorem mB.YW{g:Gl}(hV:af g){k:Nat}{W:WS}{n:Int}(h:mB g k W n):aaW g k W n:=by
 induction h with
 | zero=>exact .inl ⟨rfl,rfl,fun j hj=>by omega⟩
 | @take i W W' n n' _ hP hc ih=>
  have k6:=hP.len hV;have Ho:n'≠aH:=by
   rcases ih with ⟨h1,_⟩ | ⟨h1,⟨i2,_,h2⟩,_⟩
   .unfold aH at *;omega
   .have h3:=h2.len hV;unfold aH at *;omega
  have hWr:W'.r=(i:Int):=by
   rcases k6 with ⟨h9,_⟩ | ⟨_,_,_,_,h9⟩
   .exact absurd h9 Ho
   .exact h9
  refine .inr ⟨Ho,⟨i,by omega,hP⟩,fun j hj W2 n2 h2=>?_⟩;by_cases e:j=i
  .subst e;obtain⟨rfl,rfl⟩:=hP.uniq hV h2;exact .inr (.inr ⟨rfl,.inr ⟨rfl,by omega⟩⟩)
  .rcases ih with ⟨h1,_,h3⟩ | ⟨h1,_,h3⟩
   .exact .inl (h3 j (by omega) W2 n2 h2)
   .rcases h3 j (by omega) W2 n2 h2 with h4 | h4 | ⟨h4,h5⟩
    .exact .inl h4
    .exact .inr (.inl (by omega))
    .rcases hc with h6 | ⟨h6,_,h7⟩
     .exact .inr (.inl (by omega))
     .refine .inr (.inr ⟨by omega,.inl ?_⟩);rcases h5 with h5 | ⟨h5,_⟩<;>omega
 | @bW i W W' n n' _ hP hc ih=>
  have k6:=hP.len hV;rcases ih with ⟨h1,h2,h3⟩ | ⟨h1,⟨i2,S2,h2⟩,h3⟩
  .refine .inl ⟨h1,h2,fun j hj W2 n2 h4=>?_⟩;by_cases e:j=i
   .subst e;obtain⟨rfl,rfl⟩:=hP.uniq hV h4;unfold aH at *;omega
   .exact h3 j (by omega) W2 n2 h4
  .have h5:=h2.len hV;refine .inr ⟨h1,⟨i2,by omega,h2⟩,fun j hj W2 n2 h4=>?_⟩;by_cases e:j=i
   .subst e;obtain⟨rfl,rfl⟩:=hP.uniq hV h4;have hr:W.r=(i2:Int):=by
     rcases h5 with ⟨h9,_⟩ | ⟨_,_,_,_,h9⟩
     .exact absurd h9 h1
     .exact h9
    by_cases e1:n'=aH
    .exact .inl e1
    .by_cases e2:n<n'
     .exact .inr (.inl e2)
     .have e3:n=n':=by
       have:¬n'<n:=fun h9=>hc (.inl h9);omega
      refine .inr (.inr ⟨e3,?_⟩);have:¬W'.k<W.k:=fun h9=>hc (.inr ⟨e3.symm,by unfold aH at *;omega,h9⟩);rcases Int.lt_or_le W.k W'.k with h9 | h9
      .exact .inl h9
      .exact .inr ⟨by omega,by omega⟩
   .exact h3 j (by omega) W2 n2 h4
/-! ### certificates -/
theorem dC.sub{g:Gl}{role:Int}{PL:List Pr}(h0:eP g∈PL)(eR:∀p∈PL,∀m∈bq g.es role p.1 p.2,bj m∈PL){p:Pr}(h:dC g role p):p∈PL:=by
 induction h with
 | start=>exact h0
 | step _ hm ih=>exact eR _ ih _ hm
theorem Dn.bu{g:Gl}{role:Int}{bu:Pr->Option Nat}{p:Pr}{n:Nat}(hd:Dn (bB g role) bu p n):dC g role p->∃q,dC g role q/\bu q≠none:=by
 induction hd with
 | base h=>exact fun hp=>⟨_,hp,by rw[h];simp⟩
 | step hm _ ih=>exact fun hp=>ih (.step hp hm)
theorem kq.none{g:Gl}{role kind:Int}{PL:List Pr}(h0:eP g∈PL)(eR:∀p∈PL,∀m∈bq g.es role p.1 p.2,bj m∈PL)(hc:∀p∈PL,bR g role kind p=Option.none){W:WS}{n:Int}(h:kq g role kind W n):n=aH:=by
 cases h with
 | jL=>rfl
 | hit hl=>
  obtain⟨q,hq,bE⟩:=hl.1.bu .start;exact absurd (by unfold br;rw[hc q (hq.sub h0 eR)];rfl) bE
theorem r7.mx{es:List Ed}{MX:Nat->Prop}{s n:Nat}(h:r7 es MX s n):∃t,MX t:=by
 induction h with
 | base h=>exact⟨_,h⟩
 | step _ _ _ ih=>exact ih
theorem tW.none{g:Gl}{role:Int}(hc:∀s:Nat,s<g.n.toNat->¬wT g role s){W:WS}{n:Int}(h:tW g role W n):n=aH:=by
 cases h with
 | jL=>rfl
 | hit hl=>
  obtain⟨t,ht⟩:=hl.1.mx;exact absurd ht (hc t ht.1)
theorem bG.none{g:Gl}{role:Int}{PL:List Pr}(h0:eP g∈PL)(eR:∀p∈PL,∀m∈bq g.es role p.1 p.2,bj m∈PL)(hc:∀p∈PL,bR g role 1 p=Option.none/\bR g role 3 p=Option.none/\bR g role 4 p=Option.none)(hm:∀s:Nat,s<g.n.toNat->¬wT g role s):∀ {i:Nat} {W:WS} {n:Int},bG g role i W n->n=aH:=by
 intro i W n h
 induction h with
 | zero=>rfl
 | @take i W W' n n' _ hk hl ih=>
  have:n'=aH:=by
   match i with
   | 0=>exact kq.none h0 eR (fun p hp=>(hc p hp).1) hk
   | 1=>exact tW.none hm hk
   | 2=>exact kq.none h0 eR (fun p hp=>(hc p hp).2.1) hk
   | i+3=>exact kq.none h0 eR (fun p hp=>(hc p hp).2.2) hk
  exact this
 | bW _ _ _ ih=>exact ih
/-! ### two roles: nothing is found -/

instance:DecidableEq Lm:=fun a b=>decidable_of_iff (a.k=b.k/\a.x=b.x) ⟨fun ⟨h1,h2⟩=>by cases a;cases b;simp_all,fun h=>by rw[h];exact⟨rfl,rfl⟩⟩
def J7(g:Gl)(role:Int)(s:Nat):Option (List Ev × Bool):=(QW g.es role g.n.toNat [(s:Int)]).map fun L=>(QH g.es role L,decide (g.e.toNat∈L))
theorem ox{g:Gl}(hV:af g){role:Int}{s:Nat}(hs:(s:Int)<g.n){q:List Ev × Bool}(h:J7 g role s=some q):ay g role (s:Nat)=q.1/\bQ g role (s:Nat)=q.2:=by
 have hN:=hV.num.n;unfold J7 at h;obtain⟨L,hL,rfl⟩:=sL.1 h;obtain⟨hc,he⟩:=MA (fun x hx=>by have:=hV.num.e x hx;unfold gV at this;omega) (fun j hj=>by have:=QV (l:=[(s:Int)]) hV (fun x hx=>by rw[Ye] at hx;omega) j hj;omega) hL;constructor
 .unfold ay;rw[he,Ew hc (by omega)]
 .unfold bQ;rw[he];rfl
def clB(g:Gl)(role:Int)(s t:Nat):Bool:=dR g.es role s&&(dR g.es role t&&(!decide (cy g role g.ts s=cy g role g.ts t) || !decide (dW g.es s=dW g.es t)))
theorem H6{g:Gl}{role:Int}{s t:Nat}(hs:s<g.n.toNat)(ht:t<g.n.toNat)(h:clB g role s t=false):¬Q6 g role s t:=by
 unfold Q6 MU;rw[dH _ hs,dH _ ht,dH _ hs,dH _ ht,dH _ hs,dH _ ht];rintro⟨h1,h2,h3⟩;have e1:=fL h1;have e2:=fL h2;unfold clB at h;rw[e1,e2,Bool.true_and,Bool.true_and,Bool.or_eq_false_iff] at h;rcases h3 with h3 | h3
 .have:=h.1;simp at this;exact h3 (by rw[this])
 .have:=h.2;simp at this;exact h3 (by rw[this])
def sZ(g:Gl)(role:Int)(PL:List Pr)(p:Pr):Bool:=
 decide (p.1<g.n.toNat)&&(decide (p.2<g.n.toNat)&&((bq g.es role p.1 p.2).all fun m=>decide (bj m∈PL)))
def Mw(g:Gl)(role:Int)(p:Pr):Bool:=
 match J7 g role p.1,J7 g role p.2 with
 | some a,some b=>(a.1.find? (dA b.1)).isNone&&(!clB g role p.1 p.2&&(cU b.1 (du g role p.1)).isNone)
 | _,_=>false
def Lb(g:Gl)(role:Int)(s:Nat):Bool:=
 match J7 g role s with
 | some a=>!(dq a.1 0&&(a.2 || !dq a.1 (a.1.length-1)))
 | none=>false
def qE(g:Gl)(role:Int)(PL:List Pr):Bool:=
 decide (eP g∈PL)&&((PL.all fun p=>sZ g role PL p&&Mw g role p)&&((List.range g.n.toNat).all fun s=>Lb g role s))
theorem lI{g:Gl}{role:Int}{PL:List Pr}{p:Pr}(h:sZ g role PL p=true):p.1<g.n.toNat/\p.2<g.n.toNat/\∀m∈bq g.es role p.1 p.2,bj m∈PL:=by
 unfold sZ at h;rw[Yt,Yt,decide_eq_true_eq,decide_eq_true_eq,List.all_eq_true] at h;exact⟨h.1,h.2.1,fun m hm=>cm (h.2.2 m hm)⟩
theorem Mu{g:Gl}(hV:af g){role:Int}{p:Pr}(h1:p.1<g.n.toNat)(h2:p.2<g.n.toNat)(h:Mw g role p=true):bR g role 1 p=none/\bR g role 3 p=none/\bR g role 4 p=none:=by
 unfold Mw at h;split at h
 .rename_i a b ha hb;obtain⟨ea,_⟩:=ox hV (by omega) ha;obtain⟨eb,_⟩:=ox hV (by omega) hb;rw[Yt,Yt] at h;obtain⟨k1,k2,k3⟩:=h;rw[Option.isNone_iff_eq_none] at k1 k3;refine⟨?_,?_,?_⟩
  .unfold bR;rw[if_pos rfl,if_pos ⟨h1,h2⟩,ea,eb,k1];rfl
  .unfold bR;rw[if_neg (by decide),if_pos rfl,if_neg (H6 h1 h2 (by simpa using k2))]
  .unfold bR;rw[if_neg (by decide),if_neg (by decide),if_pos ⟨h1,h2⟩,eb,k3];rfl
 .cases h
theorem BG{g:Gl}(hV:af g){role:Int}{s:Nat}(hs:s<g.n.toNat)(h:Lb g role s=true):¬wT g role s:=by
 unfold Lb at h;split at h
 .rename_i a ha;obtain⟨e1,e2⟩:=ox hV (by omega) ha;unfold wT;rw[e1,e2];rintro⟨_,h9⟩;rw[h9] at h;cases h
 .cases h
theorem je{g:Gl}(hV:af g){role:Int}{PL:List Pr}(h:qE g role PL=true){i:Nat}{W:WS}{n:Int}(hF:bG g role i W n):n=aH:=by
 unfold qE at h;rw[Yt,Yt,decide_eq_true_eq,List.all_eq_true,List.all_eq_true] at h;obtain⟨h0,h1,h2⟩:=h;have hp:∀p∈PL,sZ g role PL p=true/\Mw g role p=true:=fun p hp=>by have:=h1 p hp;rwa [Yt] at this
 refine bG.none h0 (fun p oe m hm=>(lI (hp p oe).1).2.2 m hm) (fun p oe=>?_) (fun s hs=>BG hV hs (h2 s (List.mem_range.2 hs))) hF;have:=lI (hp p oe).1;exact Mu hV this.1 this.2.1 (hp p oe).2
theorem XV(hr hd he ht:Sl):qE (dp true hr hd he ht) 0 [(0,0),(1,1),(2,2),(1,3),(3,1),(3,3),(2,4),(4,2),(4,4),(1,5),(5,1),(3,5),(5,3),(5,5),(2,5),(5,2),(4,5),(5,4)]=true:=by kernel_rfl
theorem XU(hr hd he ht:Sl):qE (dp true hr hd he ht) 1 [(0,0),(1,1),(2,2),(3,3),(4,4),(5,5)]=true:=by kernel_rfl
theorem XT(hr hd he ht:Sl):qE (dp true hr hd he ht) 2 [(0,0),(0,1),(1,0),(0,2),(2,0),(1,1),(1,2),(2,1),(2,2),(3,3),(4,4),(5,5)]=true:=by kernel_rfl
theorem XZ(hr hd he ht:Sl):qE (dp false hr hd he ht) 0 [(0,0),(1,1),(2,2),(1,3),(3,1),(3,3),(2,3),(3,2)]=true:=by kernel_rfl
theorem XY(hr hd he ht:Sl):qE (dp false hr hd he ht) 1 [(0,0),(1,1),(2,2),(3,3)]=true:=by kernel_rfl
theorem bG.le{g:Gl}{role:Int}{i:Nat}{W:WS}{n:Int}(h:bG g role i W n):n<=aH:=by
 rcases h.len with ⟨h1,_⟩ | ⟨_,h1,_⟩<;>unfold aH at *<;>omega
theorem bG.drop{g:Gl}{role:Int}{i:Nat}{W:WS}{n:Int}(h:bG g role (i+1) W n)(hn:∀W' n',ji g role i W' n'->n'=aH):bG g role i W n:=by
 cases h with
 | take h1 hk hl=>
  have h2:=hn _ _ hk;have h3:=h1.le;omega
 | bW h1 _ _=>exact h1
def tN(g:Gl)(role:Int)(p:Pr):Option Bool:=
 match J7 g role p.1,J7 g role p.2 with
 | some a,some b=>some (a.1.find? (dA b.1)).isSome
 | _,_=>none
theorem pO{g:Gl}(hV:af g){role:Int}{p:Pr}(h1:p.1<g.n.toNat)(h2:p.2<g.n.toNat){b:Bool}(h:tN g role p=some b):bR g role 1 p=if b then some 0 else none:=by
 unfold tN at h;split at h
 .rename_i a c ha hb;obtain⟨ea,_⟩:=ox hV (by omega) ha;obtain⟨eb,_⟩:=ox hV (by omega) hb;cases h;unfold bR;rw[if_pos rfl,if_pos ⟨h1,h2⟩,ea,eb]
 .cases h
def F8(g:Gl)(role:Int)(PL:List Pr):Bool:=
 decide (eP g∈PL)&&((PL.all fun p=>sZ g role PL p&&(match J7 g role p.2 with | some b=>!clB g role p.1 p.2&&(cU b.1 (du g role p.1)).isNone | none=>false))&&((List.range g.n.toNat).all fun s=>Lb g role s))
theorem F7{g:Gl}(hV:af g){role:Int}{PL:List Pr}(h:F8 g role PL=true){W:WS}{n:Int}(hF:bG g role 4 W n):bG g role 1 W n:=by
 unfold F8 at h;rw[Yt,Yt,decide_eq_true_eq,List.all_eq_true,List.all_eq_true] at h;obtain⟨h0,h1,h2⟩:=h;have hp:∀p∈PL,sZ g role PL p=true/\bR g role 3 p=none/\bR g role 4 p=none:=fun p hp=>by
  have h3:=h1 p hp;rw[Yt] at h3;obtain⟨k1,k2,_⟩:=lI h3.1;have h4:=h3.2;split at h4
  .rename_i b hb;obtain⟨eb,_⟩:=ox hV (by omega) hb;rw[Yt,Option.isNone_iff_eq_none] at h4;refine⟨h3.1,?_,?_⟩
   .unfold bR;rw[if_neg (by decide),if_pos rfl,if_neg (H6 k1 k2 (by simpa using h4.1))]
   .unfold bR;rw[if_neg (by decide),if_neg (by decide),if_pos ⟨k1,k2⟩,eb,h4.2];rfl
  .cases h4
 have eR:∀p∈PL,∀m∈bq g.es role p.1 p.2,bj m∈PL:=fun p oe m hm=>(lI (hp p oe).1).2.2 m hm;refine ((hF.drop (i:=3) fun W' n' hk=>?_).drop (i:=2) fun W' n' hk=>?_).drop (i:=1) fun W' n' hk=>?_
 .exact kq.none h0 eR (fun p oe=>(hp p oe).2.2) hk
 .exact kq.none h0 eR (fun p oe=>(hp p oe).2.1) hk
 .exact tW.none (fun s hs=>BG hV hs (h2 s (List.mem_range.2 hs))) hk
theorem iR.zero{mv:Pr->List aP}{bu:Pr->Option Nat}{p:Pr}(h:bu p=some 0):iR mv bu p 0:=⟨.base h,fun k _=>Nat.zero_le k⟩
theorem iR.FA{mv:Pr->List aP}{bu:Pr->Option Nat}{p:Pr}(h:iR mv bu p 0):bu p=some 0:=by
 have h1:=h.1;generalize e:(0:Nat)=z at h1;cases h1 with
 | base h=>rw[h,<-e]
 | @step _ m n _ _=>have:=bM m;omega
theorem Mt{mv:Pr->List aP}{bu:Pr->Option Nat}{p:Pr}(h:dL mv bu p=0):bu p=some 0:=by
 by_cases h9:∃n,iR mv bu p n
 .obtain⟨n,hn⟩:=h9;have h1:=jo hn;have:n=0:=by omega
  subst this;exact hn.FA
 .have h1:=tM (mv:=mv) (bu:=bu) (p:=p) fun n hn=>h9 ⟨n,hn⟩;unfold aH at h1;omega
theorem Ko{ms:List aP}(h:(ms.map bO).sum=1):∃m,ms=[m]:=by
 cases ms with
 | nil=>cases h
 | cons m r=>
  cases r with
  | nil=>exact⟨m,rfl⟩
  | cons m2 r=>
   have h1:=bM m;have h2:=bM m2;rw[gJ,gJ,List.sum_cons,List.sum_cons] at h;omega
theorem nO.KW{mv:Pr->List aP}{bu:Pr->Option Int}{D:Pr->Int}{p0 p:Pr}(h:nO mv bu D p0 [] p):p=p0:=by
 generalize Ef:([]:List aP)=ms at h;cases h with
 | nil=>rfl
 | snoc=>exact absurd Ef (by simp)
theorem XW(hr hd he ht:Sl):bB (dp false hr hd he ht) 2 (eP (dp false hr hd he ht))=[⟨0,-1,1,0⟩,⟨1,-1,2,0⟩,⟨-1,0,0,1⟩,⟨-1,1,0,2⟩]:=by kernel_rfl
theorem QE(hr hd he ht:Sl):tN (dp false hr hd he ht) 2 (0,0)=some false:=by kernel_rfl
theorem QC(hr hd he ht:Sl):tN (dp false hr hd he ht) 2 (1,0)=some false:=by kernel_rfl
theorem QA(hr hd he ht:Sl):tN (dp false hr hd he ht) 2 (2,0)=some false:=by kernel_rfl
theorem QD(hr hd he ht:Sl):tN (dp false hr hd he ht) 2 (0,1)=some true:=by kernel_rfl
theorem XX(hr hd he ht:Sl):F8 (dp false hr hd he ht) 2 [(0,0),(0,1),(1,0),(0,2),(2,0),(1,1),(1,2),(2,1),(2,2),(3,3)]=true:=by kernel_rfl
theorem Qz(hr hd he ht:Sl):J7 (dp false hr hd he ht) 2 0=some ([⟨true,1,2⟩,⟨true,1,3⟩],false):=by kernel_rfl
theorem Qy(hr hd he ht:Sl):J7 (dp false hr hd he ht) 2 1=some ([⟨true,1,2⟩],false):=by kernel_rfl
theorem xK{hr hd he ht:Sl}{W:WS}{n:Int}(hF:bG (dp false hr hd he ht) 2 4 W n):n=1/\W.k=1/\W.F=[]/\W.S.length=1/\W.e.l=3:=by
 have hV:=rk false hr hd he ht;have h1:=F7 hV (XX hr hd he ht) hF;generalize hg:dp false hr hd he ht=g at *;have Tp:br g 2 1 (eP g)=none:=by subst hg;show (bR (dp false hr hd he ht) 2 1 (0,0)).map Int.toNat=none;rw[pO hV (p:=(0,0)) (by show 0<4;decide) (by show 0<4;decide) (QE hr hd he ht)];rfl
 have EE:br g 2 1 (1,0)=none:=by subst hg;show (bR (dp false hr hd he ht) 2 1 (1,0)).map Int.toNat=none;rw[pO hV (p:=(1,0)) (by show 1<4;decide) (by show 0<4;decide) (QC hr hd he ht)];rfl
 have c20:br g 2 1 (2,0)=none:=by subst hg;show (bR (dp false hr hd he ht) 2 1 (2,0)).map Int.toNat=none;rw[pO hV (p:=(2,0)) (by show 2<4;decide) (by show 0<4;decide) (QA hr hd he ht)];rfl
 have c01:br g 2 1 (0,1)=some 0:=by subst hg;show (bR (dp false hr hd he ht) 2 1 (0,1)).map Int.toNat=some 0;rw[pO hV (p:=(0,1)) (by show 0<4;decide) (by show 1<4;decide) (QD hr hd he ht)];rfl
 have hmv:bB g 2 (eP g)=[⟨0,-1,1,0⟩,⟨1,-1,2,0⟩,⟨-1,0,0,1⟩,⟨-1,1,0,2⟩]:=by subst hg;exact XW hr hd he ht
 have hL:iR (bB g 2) (br g 2 1) (eP g) 1:=by
  refine⟨.step (m:=⟨-1,0,0,1⟩) (n:=0) (by rw[hmv];simp) (.base c01),fun k hk=>?_⟩;cases hk with
  | base h=>rw[Tp] at h;cases h
  | @step _ m _ _ _=>have:=bM m;omega
 have yE:=jo hL;have hB:kq g 2 1 W n:=by
  cases h1 with
  | take h0 hk hl=>exact hk
  | @bW _ _ W' _ n' h0 hk hl=>
   cases h0;exfalso;apply hl;cases hk with
   | jL hn=>exact absurd hL (hn 1)
   | hit k6 Ho=>unfold aH;omega
 cases hB with
 | jL hn=>exact absurd hL (hn 1)
 | @hit n ms p hl hn hG hc=>
  have en:n=1:=hl.uniq hL;subst en;have hlen:=hG.len;have tx:dL (bB g 2) (br g 2 1) p=0:=by
   unfold bR at hc;rw[if_pos rfl] at hc;split at hc
   .split at hc
    .exact (fL hc).symm
    .cases hc
   .cases hc
  obtain⟨m,rfl⟩:=Ko (ms:=ms) (by omega);have hm:m=⟨-1,0,0,1⟩/\p=(0,1):=by
   generalize Ef:[m]=ms at hG;cases hG with
   | nil=>cases Ef
   | @snoc ms1 p1 m1 k hg1 bE gG hk=>
    cases ms1 with
    | cons a b=>simp at Ef
    | nil=>
     have e0:=hg1.KW;subst e0
     .have e1:m=m1:=by simpa using Ef
      subst e1;obtain⟨k1,k2,k3⟩:=List.findIdx?_eq_some_iff_getElem.1 gG;rw[(Ya.1 hk).2] at k2;have hz:=Mt tx;rw[hmv] at hk
      match k,hk with
      | 0,hk=>cases hk;rw[show bj (⟨0,-1,1,0⟩:aP)=(1,0) from rfl,EE] at hz;cases hz
      | 1,hk=>cases hk;rw[show bj (⟨1,-1,2,0⟩:aP)=(2,0) from rfl,c20] at hz;cases hz
      | 2,hk=>cases hk;exact⟨rfl,rfl⟩
      | 3,hk=>
       exfalso;have h9:=k3 2 (by decide);simp only[hmv] at h9;apply h9;unfold qD;refine decide_eq_true ?_;have e2:=jo (iR.zero (mv:=bB g 2) c01);show (bO (⟨-1,0,0,1⟩:aP):Int)+dL (bB g 2) (br g 2 1) (0,1)=_;rw[e2,yE];rfl
      | k+4,hk=>simp at hk
  obtain⟨rfl,rfl⟩:=hm;refine⟨rfl,rfl,?_,?_,?_⟩
  .unfold yK;rw[if_pos rfl];rfl
  .rfl
  .subst hg;unfold yK;rw[if_pos rfl,(ox hV (s:=0) (by show (0:Int)<4;decide) (Qz hr hd he ht)).1,(ox hV (s:=1) (by show (1:Int)<4;decide) (Qy hr hd he ht)).1];rfl
inductive RlR (g:Gl) (role:Int) (h h':Heap):Value->Prop
 | ok {W:WS} (hF:dE g role W aH) (E:Ext h h'):RlR g role h h' (.tuple ⟨[.agg ⟨cq.cs⟩,.int .i64 0]⟩)
 | err {v:Value} {W:WS} {n:Int} (hF:dE g role W n) (hn:n≠aH) (hw:ju h h' W 18 v):RlR g role h h' v
theorem OM(g:Gl)(role:Int)(h:Heap)(hg:GI h g)(hx:Gm h)(hV:af g)(hr:0<=role/\role<g.rs.length):Fn Pz 19 #[g.v,.int .i64 role] h fun v h'=>RlR g role h h' v:=by
 apply Ux (bs g.nm) g.hr g.hd g.n g.s g.e g.he g.ht role;unfold W19;refine (St.refl h).aj fun h9 hs=>?_;refine hs.aj fun cw hs=>?_;refine⟨_,_,_,_,_,_,_,_,hs.at 1 rfl (o:=0) (n:=8) rfl,?_⟩;refine (HP g role cw (hg.ext hs.ext) (hx.ext hs.ext) hV hr).mono ?_;rintro _ fQ ⟨W,n,hF,w,e1,e2,e3,e4,rfl,L,bI⟩;refine⟨w.k,w.r,w.f,w.s,w.e.r,w.e.s,w.e.p,w.e.l,au,w.o.r,w.o.s,w.o.p,w.o.l,au,n,0,rfl,?_⟩;replace hs:=hs.join bI;refine hs.ao (vs:=w.cs) rfl rfl fun sD hs=>?_;refine eY (fun c=>absurd rfl c) (fun _=>?_);refine dw (fun c=>?_) (fun c=>?_)
 .subst c;refine hs.put 1 rfl (o:=0) (vs:=cq.cs) rfl (bc 14) fun Xr hs=>?_;refine oL (w:=cq) (Q:=fun cs=>RlR g role h Xr (.tuple ⟨[.agg ⟨cs⟩,.int .i64 0]⟩)) (hs.at 1 rfl (o:=0) (n:=14) rfl) ?_;exact .ok hF hs.ext
 .refine Ah hs 0 1 (w:=w) (w0:=cq) rfl rfl fun Qd hs=>?_;refine oL (w:=w) (Q:=fun cs=>RlR g role h Qd (.tuple ⟨[.agg ⟨cs⟩,.int .i64 18]⟩)) (hs.at 1 rfl (o:=0) (n:=14) rfl) ?_;exact .err hF c ⟨w,e1,e2,e3,e4,rfl,L,hs.drop 3⟩
def Wt.len(w:Wt):Int:=if w.k=2 then 2*(w.f.n:Int) else (w.f.n:Int)+(w.s.n:Int)
theorem wZ(w:Wt)(h:Heap)(hl:w.len<=1073741824):Fn Pz 20 #[.agg ⟨w.cs⟩] h fun v h'=>v=.int .i64 w.len/\Ext h h':=by
 apply abY w.k w.r w.f w.s w.e.r w.e.s w.e.p w.e.l au w.o.r w.o.s w.o.p w.o.l au;unfold W20;unfold Wt.len at *;refine (St.refl h).aj fun rY hs=>?_;refine⟨w.k,hs.rd 0 rfl (i:=0) rfl,dw (fun c=>?_) (fun c=>?_)⟩
 .rw[if_pos c] at hl ⊢;refine⟨w.f,hs.rd 0 rfl (i:=2) rfl,?_,hs.ext⟩;rw[a7 (by omega) (by omega)]
 .rw[if_neg c] at hl ⊢;refine⟨w.f,hs.rd 0 rfl (i:=2) rfl,w.s,hs.rd 0 rfl (i:=3) rfl,?_,hs.ext⟩;rw[a7 (by omega) (by omega)]
theorem pW{h h':Heap}{W:WS}{w:Wt}{L:List It}(hs:St h h' (.sl w.f 65 3 (W.F.map Ac.cs) :: .sl w.s 65 3 (W.S.map Ac.cs)::L))(hk:w.k=W.k):w.len=(W.len:Int)/\w.f.n=W.F.length/\w.s.n=W.S.length:=by
 have h1:=(hs.len 0 (s:=w.f) rfl (by decide)).1;have h2:=(hs.len 1 (s:=w.s) rfl (by decide)).1;rw[Yc] at h1 h2;refine⟨?_,h1,h2⟩;unfold Wt.len WS.len;rw[hk];split<;>omega
theorem vc{hr hd he ht:Sl}{h h':Heap}{v:Value}(hc:vy (dp false hr hd he ht) h h' v):∃W,ju h h' W 18 v/\W.k=1/\W.r=2/\W.F=[]/\W.S.length=1/\W.e.l=3:=by
 have hV:=rk false hr hd he ht;have h0:∀ {W n},dE (dp false hr hd he ht) ((0:Nat):Int) W n->n=aH:=fun h=>je hV (role:=0) (XZ hr hd he ht) (h.q hV);have h1:∀ {W n},dE (dp false hr hd he ht) ((1:Nat):Int) W n->n=aH:=fun h=>je hV (role:=1) (XY hr hd he ht) (h.q hV);cases hc with
 | bad hV'=>exact absurd hV hV'
 | ok _ hC _=>
  obtain⟨W',n',hF,hn⟩:=hC.all 2 (by show 2<3;decide);have:=(xK (hF.q hV)).1;unfold aH at hn;omega
 | @err v W n _ hC hn hw=>
  rcases hC.YW hV with ⟨h9,_⟩ | ⟨_,⟨i,hi,hF⟩,_⟩
  .exact absurd h9 hn
  .have hi3:i<3:=hi;have hi9:i=0\/i=1\/i=2:=by omega
   rcases hi9 with rfl | rfl | rfl
   .exact absurd (h0 hF) hn
   .exact absurd (h1 hF) hn
   .obtain⟨_,k1,k2,k3,k4⟩:=xK (hF.q hV);rcases hF.len hV with ⟨h9,_⟩ | ⟨_,_,_,_,h9⟩
    .exact absurd h9 hn
    .exact⟨W,hw,k1,h9,k2,k3,k4⟩
theorem xL{hr hd he ht:Sl}{h h':Heap}{v:Value}(hc:vy (dp true hr hd he ht) h h' v):v=.tuple ⟨[.agg ⟨cq.cs⟩,.int .i64 0]⟩/\Ext h h':=by
 have hV:=rk true hr hd he ht;have hn:∀ {i:Nat} {W n},i<3->dE (dp true hr hd he ht) (i:Int) W n->n=aH:=fun {i W n} hi hF=>by
  have hi9:i=0\/i=1\/i=2:=by omega
  rcases hi9 with rfl | rfl | rfl
  .exact je hV (role:=0) (XV hr hd he ht) (hF.q hV)
  .exact je hV (role:=1) (XU hr hd he ht) (hF.q hV)
  .exact je hV (role:=2) (XT hr hd he ht) (hF.q hV)
 cases hc with
 | bad hV'=>exact absurd hV hV'
 | ok _ _ E=>exact⟨rfl,E⟩
 | err _ hC h9 _=>
  rcases hC.YW hV with ⟨h8,_⟩ | ⟨_,⟨i,hi,hF⟩,_⟩
  .exact absurd h8 h9
  .exact absurd (hn hi hF) h9
theorem MD(h:Heap)(hx:Gm h):Fn Pz 12 #[] h fun v h'=>v=.bool true/\Ext h h':=by
 apply acf;unfold W12;refine (tJ false h).mono ?_;rintro _ cw ⟨E1,hr,hd,he,rfl,hg⟩;refine⟨_,_,_,_,_,_,_,_,rfl,?_⟩;refine (Cn _ cw hg (hx.ext E1)).mono ?_;intro v zW hc;obtain⟨W,⟨w,e1,e2,e3,e4,rfl,L,bI⟩,k1,k2,k3,k4,k5⟩:=vc hc;obtain⟨_,l1,l2⟩:=pW bI e1;refine⟨w.k,w.r,w.f,w.s,w.e.r,w.e.s,w.e.p,w.e.l,au,w.o.r,w.o.s,w.o.p,w.o.l,au,18,rfl,?_⟩;have hs:=((St.refl h).step E1).join bI;refine hs.ao (vs:=w.cs) rfl rfl fun Qi hs=>?_;refine (tJ true Qi).mono ?_;rintro _ yJ ⟨E2,hr',Hx,LJ,rfl,hg'⟩;replace hs:=hs.step E2;refine⟨_,_,_,_,_,_,_,_,rfl,?_⟩;refine (Cn _ yJ hg' (hx.ext hs.ext)).mono ?_;intro v kM hc;obtain⟨rfl,E3⟩:=xL hc;replace hs:=hs.step E3;refine⟨0,0,au,au,0,false,0,0,au,0,false,0,0,au,0,rfl,?_⟩;refine hs.ao (vs:=cq.cs) rfl rfl fun N2 hs=>?_;refine ql rfl (ql rfl ?_);refine⟨w.k,hs.rd 1 rfl (i:=0) rfl,dw (fun _=>?_) (fun c=>absurd (by rw[e1,k1]) c)⟩;refine⟨w.r,hs.rd 1 rfl (i:=1) rfl,dw (fun _=>?_) (fun c=>absurd (by rw[e2,k2]) c)⟩;refine⟨w.f,hs.rd 1 rfl (i:=2) rfl,dw (fun _=>?_) (fun c=>absurd (by rw[l1,k3];rfl) c)⟩;refine⟨w.s,hs.rd 1 rfl (i:=3) rfl,dw (fun _=>?_) (fun c=>absurd (by rw[l2,k4];rfl) c)⟩;refine⟨w.e.l,hs.rd 1 rfl (i:=7) rfl,dw (fun _=>?_) (fun c=>absurd (by rw[e3,k5]) c)⟩;exact⟨0,hs.rd 0 rfl (i:=0) rfl,rfl,hs.ext⟩
theorem NV(r:Int)(E:List Ev)(y:Ev)(s:Sl)(h:Heap)(hr:Rw h 5 s (E.map (aC r)))(hl:E.length<=1048576):Fn Pz 30 #[.slice s.a s.n s.c,.agg ⟨aC r y⟩] h fun v h'=>v=.bool (decide (y∈E))/\Ext h h':=by
 apply abU s r y.send y.peer y.label ⟨none,0,0⟩;unfold W30;have hn:=hr.ln;refine (St.refl h).aj fun h6 hs=>?_;refine aJ (n:=s.n) hs (fun i=>y∉E.take i) (by rw[my];exact List.not_mem_nil) ?_;clear hs;rintro-i iT hi ⟨hs,bK⟩;refine aM (fun c=>?_) (fun c=>?_)
 .refine (hr.ext hs.ext).aA (by omega) (by omega) fun b o x gx t=>?_;replace gx:E[i]?=some x:=gx;refine⟨_,_,_,_,⟨none,0,0⟩,t,_,_,_,_,⟨none,0,0⟩,hs.at 0 rfl (o:=0) (n:=5) rfl,?_⟩;refine (qg r x y iT).mono ?_;rintro _ rX ⟨rfl,E2⟩;have hs:=hs.step E2;refine⟨_,rfl,aa (fun c2=>?_) (fun c2=>?_)⟩
  .have e:=cm c2;subst e;exact⟨by rw[decide_eq_true (Yb gx)],hs.ext⟩
  .have e:=eZ c2;refine Up.next (by omega) (by omega) ⟨hs,?_⟩;rw[ak gx,Yk,Ye];exact fun h9=>h9.elim bK fun e9=>e e9.symm
 .rw[Yj (by omega)] at bK;exact⟨by rw[decide_eq_false bK],hs.ext⟩
theorem aY{h0 h1 h2:Heap}{JC pT:List It}{al:List Addr}(Qu:St h0 h1 JC)(Tg:St h0 h2 pT)(ha:∀a∈al,a.block<h0.size):Sm al h1 h2:=fun a hm k v hv=>by
 have hb:(fK a k).block<h0.size:=by rw[eN];exact ha a hm
 rw[dD (Tg.ext.2 _ hb)];rw[dD (Qu.ext.2 _ hb)] at hv;exact hv
theorem Dj{s:Sl}{i n:Nat}(Fk:s.a=none->s.n=0/\s.c=0)(h:aQ s.a i s.c n=none):s.n-i=0/\s.c-i=0:=by
 unfold aQ at h;split at h
 .have:=Fk h;omega
 .cases ha:s.a with
  | none=>have:=Fk ha;omega
  | some a=>rw[ha] at h;cases h
theorem Iz{O:List (List Value)}(h:O.flatten.all dU=true)(k:Nat):(O.take k).flatten.all dU=true/\(O.drop k).flatten.all dU=true:=by
 rw[<-List.take_append_drop k O,List.flatten_append,List.all_append,Yt] at h;exact h
theorem Rw.pre{h:Heap}{k:Nat}{s:Sl}{rows:List (List Value)}(hr:Rw h k s rows){i c:Nat}(hi:i<=s.n):Rw h k ⟨s.a,i,c⟩ (rows.take i):=by
 have hn:=hr.1;refine⟨by rw[Yu];show i=_;omega,fun hp=>?_⟩;rw[Yu] at hp;obtain⟨b,o,ha,HB⟩:=hr.2 (by omega);refine⟨b,o,ha,fun j x hj=>HB j x ?_⟩;rw[tS] at hj;split at hj
 .exact hj
 .cases hj
theorem Lv{P:Program}{t e:TypeId}{n bytes:Nat}(hT:cC P t e n bytes=true){h0 h:Heap}{L:List It}{out:Sl}{O:List (List Value)}{x:List Value}(hs:St h0 h (.sl out e n O::L)){k:Nat}(hk:k<=O.length)(hx:x.length=n)
  (J2:O.flatten.all dU=true) (Ly:x.all dU=true) (hn:0<n) (hb:bytes<=128) (NX:O.length<=16777216) {al:List Addr} (ha:∀a∈al,a.block<h0.size) {K:Sl->Heap->Prop}
  (hK:∀r h',St h0 h' (.sl r e n (O.take k++[x]++O.drop k)::L)->K r h') :
  ((∀uT:Heap,uT=h.push (.cells ⟨[]⟩ e)->(Sm al h uT /\
   ((App P t t (.slice (some ⟨h.size,0,none⟩) 0 0) (.slice (aQ out.a (Int.toNat 0) out.c n) (Int.toNat (k:Int)-Int.toNat 0) (out.c-Int.toNat 0)) uT fun JM Cb=>(Sm al uT Cb /\
    (∀Qf:Heap,Qf=Cb.push (.cells ⟨x⟩ e)->(App P t t (.slice JM.a JM.n JM.c) (.slice (some ⟨Cb.size,0,none⟩) 1 1) Qf fun Fc Tc=>(App P t t (.slice Fc.a Fc.n Fc.c) (.slice (aQ out.a (Int.toNat (k:Int)) out.c n) (Int.toNat (out.n:Nat)-Int.toNat (k:Int)) (out.c-Int.toNat (k:Int))) Tc fun s63 J4=>K s63 J4))))) /\
   (∀xz:Heap,xz=uT.push (.cells ⟨x⟩ e)->(App P t t (.slice (some ⟨h.size,0,none⟩) 0 0) (.slice (aQ out.a (Int.toNat 0) out.c n) (Int.toNat (k:Int)-Int.toNat 0) (out.c-Int.toNat 0)) xz fun s67 h68=>(Sm al xz h68 /\
    (App P t t (.slice s67.a s67.n s67.c) (.slice (some ⟨uT.size,0,none⟩) 1 1) h68 fun s69 mG=>(App P t t (.slice s69.a s69.n s69.c) (.slice (aQ out.a (Int.toNat (k:Int)) out.c n) (Int.toNat (out.n:Nat)-Int.toNat (k:Int)) (out.c-Int.toNat (k:Int))) mG fun s71 Ft=>K s71 Ft)))))))) /\
   (∀LV:Heap,LV=h.push (.cells ⟨x⟩ e)->(∀im:Heap,im=LV.push (.cells ⟨[]⟩ e)->(Sm al LV im /\
   (App P t t (.slice (some ⟨LV.size,0,none⟩) 0 0) (.slice (aQ out.a (Int.toNat 0) out.c n) (Int.toNat (k:Int)-Int.toNat 0) (out.c-Int.toNat 0)) im fun s76 Tb=>(Sm al im Tb /\
    (App P t t (.slice s76.a s76.n s76.c) (.slice (some ⟨h.size,0,none⟩) 1 1) Tb fun s78 J3=>(App P t t (.slice s78.a s78.n s78.c) (.slice (aQ out.a (Int.toNat (k:Int)) out.c n) (Int.toNat (out.n:Nat)-Int.toNat (k:Int)) (out.c-Int.toNat (k:Int))) J3 fun s80 zS=>K s80 zS)))))))):=by
 have hlen:=hs.len 0 (s:=out) rfl hn;have NI:∀r∈O,r.length=n:=(hs.get (k:=0) rfl).2;have e0:aQ out.a (Int.toNat 0) out.c n=out.a:=cM _ _ _;have Pw:∀ {h':Heap},Rw h' n out O->Rw h' n (⟨aQ out.a (Int.toNat 0) out.c n,Int.toNat (k:Int)-Int.toNat 0,out.c-Int.toNat 0⟩:Sl) (O.take k):=fun {h'} hr=>by
  rw[e0];exact hr.pre (i:=k) (c:=out.c-Int.toNat 0) (by omega)
 have Po:∀ {h':Heap},Rw h' n out O->Rw h' n (⟨aQ out.a (Int.toNat (k:Int)) out.c n,Int.toNat (out.n:Nat)-Int.toNat (k:Int),out.c-Int.toNat (k:Int)⟩:Sl) (O.drop k):=fun {h'} hr=>by
  by_cases h0:k=out.n
  .rw[List.drop_eq_nil_of_le (by omega)];exact Rw.empty (by show Int.toNat (out.n:Nat)-Int.toNat (k:Int)=0;omega)
  .exact hr.from (i:=k) hlen.2.1 (by omega)
 have SY:(⟨aQ out.a (Int.toNat 0) out.c n,Int.toNat (k:Int)-Int.toNat 0,out.c-Int.toNat 0⟩:Sl).a=none->(⟨aQ out.a (Int.toNat 0) out.c n,Int.toNat (k:Int)-Int.toNat 0,out.c-Int.toNat 0⟩:Sl).n=0/\(⟨aQ out.a (Int.toNat 0) out.c n,Int.toNat (k:Int)-Int.toNat 0,out.c-Int.toNat 0⟩:Sl).c=0:=fun hq=>by
  have hq:aQ out.a (Int.toNat 0) out.c n=none:=hq;rw[e0] at hq;have:=hlen.2.2 hq;exact⟨by show Int.toNat (k:Int)-Int.toNat 0=0;omega,by show out.c-Int.toNat 0=0;omega⟩
 have hns:(⟨aQ out.a (Int.toNat (k:Int)) out.c n,Int.toNat (out.n:Nat)-Int.toNat (k:Int),out.c-Int.toNat (k:Int)⟩:Sl).a=none->(⟨aQ out.a (Int.toNat (k:Int)) out.c n,Int.toNat (out.n:Nat)-Int.toNat (k:Int),out.c-Int.toNat (k:Int)⟩:Sl).n=0/\(⟨aQ out.a (Int.toNat (k:Int)) out.c n,Int.toNat (out.n:Nat)-Int.toNat (k:Int),out.c-Int.toNat (k:Int)⟩:Sl).c=0:=fun hq=>Dj hlen.2.2 hq;obtain⟨o1,o2⟩:=Iz J2 k;have hmul:∀m,m<=16777217->m*bytes<=140737488355328:=fun m hm=>mw (Nat.mul_le_mul hm hb) (by decide);have r1:∀r∈O.take k,r.length=n:=fun r hr=>NI r (List.mem_of_mem_take hr);have r2:∀r∈O.drop k,r.length=n:=fun r hr=>NI r (List.mem_of_mem_drop hr);have r3:∀r∈[x],r.length=n:=fun r hr=>by rw[Ye.1 hr];exact hx
 have h1x:([x]:List (List Value)).flatten.all dU=true:=by rw[List.flatten_singleton];exact Ly
 refine⟨fun uT e57=>?_,fun LV e74=>?_⟩
 .have dx:=hs.aj (K:=fun h2=>St h0 h2 (.ae h.size [] e :: .sl out e n O::L)) (fun _ hs=>hs) uT e57;have bD:=dx.dG 0 n [] rfl (by simp) rfl (by decide);refine⟨aY hs dx ha,?_,?_⟩
  .refine bD.dZ 0 (rows:=[]) (news:=O.take k) rfl hT (y:=⟨aQ out.a (Int.toNat 0) out.c n,Int.toNat (k:Int)-Int.toNat 0,out.c-Int.toNat 0⟩) (Pw (bD.rw 1 rfl hn)) r1 SY o1 (hmul _ (by show 0+(Int.toNat (k:Int)-Int.toNat 0)<=_;omega)) (by show 0+(Int.toNat (k:Int)-Int.toNat 0)<=_;simp only[maxLen];omega) fun JM Cb n58 fN=>⟨aY dx fN ha,?_⟩;replace n58:JM.n=k:=by rw[n58];show 0+(Int.toNat (k:Int)-Int.toNat 0)=k;omega
   refine fN.app 0 rfl hT (m:=1) [x] (by simp) rfl r3 h1x (hmul _ (by omega)) (by simp only[maxLen];omega) fun Fc Tc n61 ik=>?_;refine ik.dZ 0 (rows:=[]++O.take k++[x]) (news:=O.drop k) rfl hT (y:=⟨aQ out.a (Int.toNat (k:Int)) out.c n,Int.toNat (out.n:Nat)-Int.toNat (k:Int),out.c-Int.toNat (k:Int)⟩) (Po (ik.rw 1 rfl hn)) r2 hns o2 (hmul _ (by show Fc.n+(Int.toNat (out.n:Nat)-Int.toNat (k:Int))<=_;omega)) (by show Fc.n+(Int.toNat (out.n:Nat)-Int.toNat (k:Int))<=_;simp only[maxLen];omega) fun s63 J4 n63 Hg=>hK _ _ ?_;exact Hg.sub (.cons_cons _ (.cons _ (List.Sublist.refl _)))
  .intro xz e66;have fN:=bD.aj (K:=fun h2=>St h0 h2 (.ae uT.size x e :: .sl ⟨some ⟨h.size,0,none⟩,0,0⟩ e n [] :: .sl out e n O::L)) (fun _ hs=>hs) xz e66;refine fN.dZ 1 (rows:=[]) (news:=O.take k) rfl hT (y:=⟨aQ out.a (Int.toNat 0) out.c n,Int.toNat (k:Int)-Int.toNat 0,out.c-Int.toNat 0⟩) (Pw (fN.rw 2 rfl hn)) r1 SY o1 (hmul _ (by show 0+(Int.toNat (k:Int)-Int.toNat 0)<=_;omega)) (by show 0+(Int.toNat (k:Int)-Int.toNat 0)<=_;simp only[maxLen];omega) fun JM Cb n58 ik=>⟨aY fN ik ha,?_⟩;replace n58:JM.n=k:=by rw[n58];show 0+(Int.toNat (k:Int)-Int.toNat 0)=k;omega
   refine ik.appended 1 (rows:=[]++O.take k) rfl hT (m:=1) (news:=[x]) (by rw[List.flatten_singleton];exact ik.at 0 rfl (o:=0) (n:=x.length) (by simp)) rfl r3 h1x (hmul _ (by omega)) (by simp only[maxLen];omega) fun Fc Tc n61 Hg=>?_;refine Hg.dZ 1 (rows:=[]++O.take k++[x]) (news:=O.drop k) rfl hT (y:=⟨aQ out.a (Int.toNat (k:Int)) out.c n,Int.toNat (out.n:Nat)-Int.toNat (k:Int),out.c-Int.toNat (k:Int)⟩) (Po (Hg.rw 2 rfl hn)) r2 hns o2 (hmul _ (by show Fc.n+(Int.toNat (out.n:Nat)-Int.toNat (k:Int))<=_;omega)) (by show Fc.n+(Int.toNat (out.n:Nat)-Int.toNat (k:Int))<=_;simp only[maxLen];omega) fun s63 J4 n63 hs6=>hK _ _ ?_;exact hs6.sub (.cons _ (.cons_cons _ (.cons _ (List.Sublist.refl _))))
 .intro im e75;have dx:=hs.aj (K:=fun h2=>St h0 h2 (.ae h.size x e :: .sl out e n O::L)) (fun _ hs=>hs) LV e74;have bD:=dx.aj (K:=fun h2=>St h0 h2 (.ae LV.size [] e :: .ae h.size x e :: .sl out e n O::L)) (fun _ hs=>hs) im e75;have fN:=bD.dG 0 n [] rfl (by simp) rfl (by decide);refine⟨aY dx bD ha,?_⟩;refine fN.dZ 0 (rows:=[]) (news:=O.take k) rfl hT (y:=⟨aQ out.a (Int.toNat 0) out.c n,Int.toNat (k:Int)-Int.toNat 0,out.c-Int.toNat 0⟩) (Pw (fN.rw 2 rfl hn)) r1 SY o1 (hmul _ (by show 0+(Int.toNat (k:Int)-Int.toNat 0)<=_;omega)) (by show 0+(Int.toNat (k:Int)-Int.toNat 0)<=_;simp only[maxLen];omega) fun JM Cb n58 ik=>⟨aY bD ik ha,?_⟩;replace n58:JM.n=k:=by rw[n58];show 0+(Int.toNat (k:Int)-Int.toNat 0)=k;omega
  refine ik.appended 0 (rows:=[]++O.take k) rfl hT (m:=1) (news:=[x]) (by rw[List.flatten_singleton];exact ik.at 1 rfl (o:=0) (n:=x.length) (by simp)) rfl r3 h1x (hmul _ (by omega)) (by simp only[maxLen];omega) fun Fc Tc n61 Hg=>?_;refine Hg.dZ 0 (rows:=[]++O.take k++[x]) (news:=O.drop k) rfl hT (y:=⟨aQ out.a (Int.toNat (k:Int)) out.c n,Int.toNat (out.n:Nat)-Int.toNat (k:Int),out.c-Int.toNat (k:Int)⟩) (Po (Hg.rw 2 rfl hn)) r2 hns o2 (hmul _ (by show Fc.n+(Int.toNat (out.n:Nat)-Int.toNat (k:Int))<=_;omega)) (by show Fc.n+(Int.toNat (out.n:Nat)-Int.toNat (k:Int))<=_;simp only[maxLen];omega) fun s63 J4 n63 hs6=>hK _ _ ?_;exact hs6.sub (.cons_cons _ (.cons _ (.cons _ (List.Sublist.refl _))))
theorem Lj(x y:Ac)(h:Heap):Fn Pz 286 #[.agg ⟨x.cs⟩,.agg ⟨y.cs⟩] h fun v h'=>v=.bool (decide (acLt x y))/\Ext h h':=by
 apply TT x.a x.b x.l y.a y.b y.l;unfold Zg;refine (St.refl h).aj fun h7 hs=>?_;refine hs.aj fun h8 hs=>?_;refine⟨_,hs.rd 1 rfl (i:=0) rfl,_,hs.rd 0 rfl (i:=0) rfl,eY (fun c=>?_) (fun c=>?_)⟩
 .refine⟨_,hs.rd 1 rfl (i:=0) rfl,_,hs.rd 0 rfl (i:=0) rfl,?_,hs.ext⟩;congr 1;rw[decide_eq_decide];unfold acLt;omega
 .refine⟨_,hs.rd 1 rfl (i:=1) rfl,_,hs.rd 0 rfl (i:=1) rfl,eY (fun c2=>?_) (fun c2=>?_)⟩
  .refine⟨_,hs.rd 1 rfl (i:=1) rfl,_,hs.rd 0 rfl (i:=1) rfl,?_,hs.ext⟩;congr 1;rw[decide_eq_decide];unfold acLt;omega
  .refine⟨_,hs.rd 1 rfl (i:=2) rfl,_,hs.rd 0 rfl (i:=2) rfl,?_,hs.ext⟩;congr 1;rw[decide_eq_decide];unfold acLt;omega
theorem Gb{α:Type}{R:α->α->Prop}(tr:∀a b c,R a b->R b c->R a c){O:List α}{x:α}{k:Nat}(hO:O.Pairwise R)(h1:∀j a,j<k->O[j]?=some a->R a x)(h2:∀a,O[k]?=some a->R x a):(O.take k++[x]++O.drop k).Pairwise R:=by
 have ht:∀a∈O.take k,R a x:=fun a ha=>by
  obtain⟨j,hj⟩:=Yf.1 ha;rw[tS] at hj;split at hj
  .rename_i WM;exact h1 j a WM hj
  .cases hj
 have hd:∀a∈O.drop k,R x a:=fun a ha=>by
  obtain⟨j,hj⟩:=Yf.1 ha;rw[List.getElem?_drop] at hj;cases j with
  | zero=>exact h2 a hj
  | succ j=>
   have hl:=(Ya.1 hj).1;obtain⟨b,hb⟩:=get_some (l:=O) (i:=k) (by omega);have h3:=List.pairwise_iff_getElem.1 hO k (k+(j+1)) (by omega) hl (by omega);rw[(Ya.1 hj).2,(Ya.1 hb).2] at h3;exact tr _ _ _ (h2 b hb) h3
 have hs:(O.take k++O.drop k).Pairwise R:=by rw[List.take_append_drop];exact hO
 obtain⟨s1,s2,s3⟩:=List.pairwise_append.1 hs;refine List.pairwise_append.2 ⟨List.pairwise_append.2 ⟨s1,List.pairwise_singleton _ _,fun a ha b hb=>?_⟩,s2,fun a ha b hb=>?_⟩
 .rw[Ye] at hb;rw[hb];exact ht a ha
 .rcases Yk.1 ha with ha | ha
  .exact s3 a ha b hb
  .rw[Ye] at ha;rw[ha];exact hd b hb
theorem Lc{α:Type}{O:List α}{x z:α}{k:Nat}:z∈O.take k++[x]++O.drop k ↔ z=x\/z∈O:=by
 rw[Yk,Yk,Ye];have:z∈O ↔ z∈O.take k\/z∈O.drop k:=by rw[<-Yk,List.take_append_drop]
 rw[this];constructor
 .rintro ((h | h) | h)
  .exact .inr (.inl h)
  .exact .inl h
  .exact .inr (.inr h)
 .rintro (h | h | h)
  .exact .inl (.inr h)
  .exact .inl (.inl h)
  .exact .inr h
structure SrO (es:List Ed) (s:Int) (i:Nat) (O:List Nat):Prop where
 p:(O.map (eA es)).Pairwise fun a b=>acLt a.act b.act
 m:∀j,j∈O ↔ j∈(ah es s).take i
 l:O.length=i
theorem GG(O:List Nat)(x k:Nat):(aw (O.take k++[x]++O.drop k)).map aO=((aw O).map aO).take k++[[.int .i64 (x:Int)]]++((aw O).map aO).drop k:=by
 unfold aw;rw[Ym,Ym,Ym,Ym,List.map_take,List.map_take,List.map_drop,List.map_drop];rfl
theorem Dp(g:Gl)(s:Nat)(h:Heap)(hg:GI h g)(hV:af g):Fn Pz 240 #[g.v,.int .i64 (s:Nat)] h fun v h'=>∃(r:Sl) (O:List Nat),v=.slice r.a r.n r.c/\St h h' [.sl r 3 1 ((aw O).map aO)]/\O.map (eA g.es)=gu g.es s/\(∀j∈O,j<g.es.length):=by
 apply Ub (bs g.nm) g.hr g.hd g.n g.s g.e g.he g.ht (s:Nat);unfold Zw Jm CX;have hM:=hV.num.m;have ke:=hg.e.ln;refine (St.refl h).aj fun h9 hs=>?_;refine⟨_,_,_,_,_,_,_,_,hs.at 0 rfl (o:=0) (n:=8) rfl,?_⟩;refine (s6 g s h9 (hg.ext hs.ext)).mono ?_;rintro _ aD ⟨E,r,rfl,hr⟩;have qR:=hs.step E;have h6:hc aD ⟨h.size,6,none⟩=some (.slice g.he.a g.he.n g.he.c):=qR.rd 0 rfl (i:=6) rfl;have hg0:=hg.ext qR.ext;have kc:=hr.ln;have rQ:=cG g.es s;have zR:(ah g.es (s:Nat)).Nodup:=by unfold ah;exact List.Nodup.sublist List.filter_sublist List.nodup_range
 rw[show (aw (ah g.es s)).length=(ah g.es s).length from Yc _] at kc;refine⟨r,rfl,?_⟩;have hs:=(St.refl aD).bH 3 1;refine⟨fun out x h' μ=>∃(i:Nat) (O:List Nat),x=i/\μ=r.n-i/\i<=r.n/\St aD h' [.sl out 3 1 ((aw O).map aO)]/\SrO g.es s i O,⟨_,0,[],rfl,rfl,Nat.zero_le _,hs,.nil,fun j=>by rw[my],rfl⟩,?_⟩;clear hs;rintro-out _ rX μ ⟨i,O,rfl,rfl,hi,hs,hO⟩;have zP:=hs.len 0 (s:=out) (e:=3) (n:=1) rfl (by decide);have NX:=hO.l;rw[Yc,show (aw O).length=O.length from Yc _] at zP;refine aM (fun c=>?_) (fun c=>?_)
 .obtain⟨a,ga⟩:=get_some (l:=ah g.es s) (i:=i) (by omega);have gI:(aw (ah g.es s))[i]?=some (a:Int):=by unfold aw;rw[Yd,ga];rfl
  obtain⟨ea,W4,Ei⟩:=az.1 (Yb ga);have Xe:=(Ya.1 W4).1;refine aJ (n:=out.n) hs (fun k=>∀j b,j<k->O[j]?=some b->acLt (eA g.es b).act ea.act) (fun j b hj=>by omega) ?_;rintro-k fP hk ⟨hs,bU⟩;have fin:∀ {h':Heap},St aD h' [.sl out 3 1 ((aw O).map aO)]->(∀b,O[k]?=some b->acLt ea.act (eA g.es b).act) ->
    ∀r' uY,St aD uY [.sl r' 3 1 (((aw O).map aO).take k++[[.int .i64 (a:Int)]]++((aw O).map aO).drop k)]->∃m',m'<r.n-i/\∃(i':Nat) (O:List Nat),IntKind.wrap .i64 ((i:Int)+1)=i'/\m'=r.n-i'/\i'<=r.n/\St aD uY [.sl r' 3 1 ((aw O).map aO)]/\SrO g.es s i' O:=fun {h'} _ Hs r' uY zN=>by
   refine⟨_,(show r.n-(i+1)<r.n-i by omega),i+1,O.take k++[a]++O.drop k,by rw[a7 (by omega) (by omega)];omega,rfl,by omega,by rw[GG];exact zN,?_,fun j=>?_,?_⟩
   .rw[Ym,Ym,List.map_take,List.map_drop];refine Gb (R:=fun a b:Ed=>acLt a.act b.act) (fun a b c=>pS) hO.p (fun j b hj hb=>?_) fun b hb=>?_
    .rw[Yd] at hb;obtain⟨c,sA,rfl⟩:=sL.1 hb;rw[aL W4];exact bU j c hj sA
    .rw[Yd] at hb;obtain⟨c,sA,rfl⟩:=sL.1 hb;rw[aL W4];exact Hs c sA
   .rw[Lc,hO.m,ak ga,Yk,Ye];exact Or.comm
   .rw[Yh,Yh,Yu,List.length_drop,Yv];omega
  have El:∀ {b o:Nat},aZ aD ⟨b,o+Int.toNat (i:Int)*1,none⟩ (aO (a:Int))->b<aD.size:=fun {b o} t=>eu (t.nth 0 rfl);have load:∀ {h':Heap} {K:Nat->Nat->Prop},Ext aD h'->(∀b o,b<aD.size->aZ h' ⟨b,o+Int.toNat (i:Int)*1,none⟩ (aO (a:Int))->K b o)->NB r.a fun b o=>(0<=(i:Int)/\(i:Int)<(r.n:Nat))/\K b o:=fun {h' K} E' hK=>by
   refine hr.aA (by omega) (by omega) fun b o d gd t=>?_;replace gd:(aw (ah g.es s))[i]?=some d:=gd;rw[gI] at gd;cases gd;exact hK b o (El t) (mr E' t)
  have J2:((aw O).map aO).flatten.all dU=true:=eB (fun _=>rfl) _;have LR:((aw O).map aO).length=O.length:=by rw[Yc];exact Yc _
  refine aM (fun c2=>?_) (fun c2=>?_)
  .obtain⟨b,gb⟩:=get_some (l:=O) (i:=k) (by omega);have hbm:=List.mem_of_mem_take ((hO.m b).1 (Yb gb));obtain⟨eb,W3,hbf⟩:=az.1 hbm;have yF:=(Ya.1 W3).1;refine⟨g.he,ax hs.ext h6,?_⟩;refine (hs.rows 0 (s:=out) (cs:=aO) (l:=aw O) rfl (by decide)).aA (by omega) (by omega) fun b33 o34 d gd t=>?_;have gbI:(aw O)[k]?=some (b:Int):=by unfold aw;rw[Yd,gb];rfl
   replace gd:(aw O)[k]?=some d:=gd;rw[gbI] at gd;cases gd;refine⟨_,t.nth 0 rfl,?_⟩;refine ((hg0.ext hs.ext).e.rw).aA (by omega) (by omega) fun b36 o37 d gd t=>?_;replace gd:g.es[b]?=some d:=gd;rw[W3] at gd;cases gd;refine⟨eb.a,eb.b,eb.l,t.sub 1 3 rfl,g.he,ax hs.ext h6,?_⟩;refine load hs.ext fun b42 o43 agY t2=>⟨_,t2.nth 0 rfl,?_⟩;refine ((hg0.ext hs.ext).e.rw).aA (by omega) (by omega) fun b45 o46 d gd t=>?_;replace gd:g.es[a]?=some d:=gd;rw[W4] at gd;cases gd;refine⟨ea.a,ea.b,ea.l,t.sub 1 3 rfl,?_⟩;refine (Lj eb.act ea.act fP).mono ?_;rintro _ zT ⟨rfl,E3⟩;refine⟨_,rfl,aa (fun c3=>?_) (fun c3=>?_)⟩
   .refine Up.next (by omega) (by omega) ⟨hs.step E3,fun j z hj hz=>?_⟩;by_cases e:j=k
    .subst e;rw[gb] at hz;cases hz;rw[aL W3];exact cm c3
    .exact bU j z (by omega) hz
   .have hs:=hs.step E3;refine⟨⟨by omega,by omega,by omega⟩,load hs.ext fun b54 o55 P3 t3=>⟨_,t3.nth 0 rfl,⟨by omega,by omega,by omega⟩,?_⟩⟩;refine Lv dv hs (by rw[LR];omega) rfl J2 rfl (by decide) (by decide) (by rw[LR];omega) (fun z hz=>by rw[Ye] at hz;rw[hz];exact P3) (fin hs fun z hz=>?_);rw[gb] at hz;cases hz;rw[aL W3];refine rM (fun e9=>?_) (eZ c3);unfold Ed.act at e9;simp only[Ac.mk.injEq] at e9;have jI:a=b:=F6 hV W4 W3 (by rw[Ei,hbf]) e9.2.1 e9.2.2;subst jI;obtain⟨j,hj⟩:=Yf.1 ((hO.m a).1 (Yb gb));rw[tS] at hj;split at hj
    .have:=eH zR hj ga;omega
    .cases hj
  .have hs:=hs;refine⟨⟨by omega,by omega,by omega⟩,load hs.ext fun b54 o55 P3 t3=>⟨_,t3.nth 0 rfl,⟨by omega,by omega,by omega⟩,?_⟩⟩;refine Lv dv hs (by rw[LR];omega) rfl J2 rfl (by decide) (by decide) (by rw[LR];omega) (fun z hz=>by rw[Ye] at hz;rw[hz];exact P3) (fin hs fun z hz=>?_);have:=(Ya.1 hz).1;omega
 .have oU:i=(ah g.es s).length:=by omega
  subst oU;have hOm:∀j,j∈O ↔ j∈ah g.es (s:Nat):=fun j=>by rw[hO.m,vM]
  refine⟨out,O,rfl,(qR.drop 1).join hs,?_,fun j hj=>?_⟩
  .refine fU (R:=fun a b:Ed=>acLt a.act b.act) (fun a=>yh _) (fun a b c=>pS) _ _ hO.p (iW (rL hV s)) fun x=>?_;unfold gu;rw[lj,Yp,List.mem_filter,decide_eq_true_eq];constructor
   .rintro⟨j,hj,rfl⟩;exact vd ((hOm j).1 hj)
   .rintro⟨h1,h2⟩;obtain⟨j,hj⟩:=Yf.1 h1;exact⟨j,(hOm j).2 (az.2 ⟨x,hj,h2⟩),aL hj⟩
  .obtain⟨x,hx,_⟩:=az.1 ((hOm j).1 hj);exact (Ya.1 hx).1
theorem Rv:cC Pz 327 330 3 40=true:=by kernel_rfl
theorem Rt:cC Pz 366 365 4 48=true:=by kernel_rfl
theorem Ak:∀b:Fin 64,∀x:Fin 8,((sJ .i64 (sc .i64 (b.val:Int) (x.val:Int)) 1==1)=b.val.testBit x.val)/\((sJ .i64 (sc .i64 (b.val:Int) (x.val:Int)) 1==0)=!b.val.testBit x.val)/\Fe .i64 (b.val:Int) (eF .i64 1 (x.val:Int))=((b.val|||2^x.val:Nat):Int)/\(b.val.testBit x.val=true->b.val|||2^x.val=b.val):=by
 decide +kernel
theorem VJ:∀x:Fin 8,eF .i64 1 (x.val:Int)=((2^x.val:Nat):Int):=by decide +kernel
theorem Gu{a b:Nat}(ha:a<2^62)(hb:b<2^62):Fe .i64 (a:Int) (b:Int)=((a|||b:Nat):Int):=by
 unfold Fe;have e:(BitVec.ofInt (IntKind.bits .i64) (a:Int)|||BitVec.ofInt (IntKind.bits .i64) (b:Int)).toNat=a|||b:=by
  show (BitVec.ofInt 64 (a:Int)|||BitVec.ofInt 64 (b:Int)).toNat=_;rw[BitVec.ofInt_natCast,BitVec.ofInt_natCast,BitVec.toNat_or,BitVec.toNat_ofNat,BitVec.toNat_ofNat,Nat.mod_eq_of_lt (Nat.lt_trans ha (by decide)),Nat.mod_eq_of_lt (Nat.lt_trans hb (by decide))]
 rw[e];have:=Nat.or_lt_two_pow ha hb;exact a7 (by omega) (by omega)
theorem VK{a:Nat}(ha:a<1099511627776):eF .i64 (a:Int) 6=((64*a:Nat):Int):=by
 show IntKind.wrap .i64 ((a:Int)*2^6)=_;rw[show ((2:Int)^6)=64 from rfl,a7 (by omega) (by omega)];omega
theorem Nk{a:Nat}(ha:a<1099511627):eF .i64 (a:Int) 12=((a*4096:Nat):Int):=by
 show IntKind.wrap .i64 ((a:Int)*2^12)=_;rw[show ((2:Int)^12)=4096 from rfl,a7 (by omega) (by omega)];omega
def iM(p:dX):Nat:=64*(64*p.s+p.b)+p.d
theorem Gj{p q:dX}(h1:p.b<64)(h2:p.d<64)(h3:q.b<64)(h4:q.d<64)(e:iM p=iM q):p=q:=by
 obtain⟨a,b,c⟩:=p;obtain⟨a',b',c'⟩:=q;unfold iM at e;simp only at *;congr 1<;>omega
theorem xa(p:dX)(s:Sl)(h:Heap)(h1:p.s<1048576)(h2:p.b<64)(h3:p.d<64):Fn Pz 239 #[.agg ⟨[.int .i64 (p.s:Nat),.int .i64 (p.b:Nat),.int .i64 (p.d:Nat),.slice s.a s.n s.c]⟩] h fun v h'=>v=.int .i64 (iM p:Nat)/\Ext h h':=by
 apply Uc (p.s:Nat) (p.b:Nat) (p.d:Nat) s;unfold Zx;refine (St.refl h).aj fun h5 hs=>?_;refine⟨_,hs.rd 0 rfl (i:=0) rfl,by decide,_,hs.rd 0 rfl (i:=1) rfl,by decide,_,hs.rd 0 rfl (i:=2) rfl,?_,hs.ext⟩;have e1:64*p.s|||p.b=64*p.s+p.b:=(Nat.two_pow_add_eq_or_of_lt (i:=6) h2 p.s).symm
 have e2:64*(64*p.s+p.b)|||p.d=64*(64*p.s+p.b)+p.d:=(Nat.two_pow_add_eq_or_of_lt (i:=6) h3 (64*p.s+p.b)).symm
 rw[VK (by omega),Gu (by omega) (by omega),e1,VK (by omega),Gu (by omega) (by omega),e2];rfl
theorem St.dj{h0 h h2:Heap}{L:List It}{xs:List Value}{e:TypeId}(hs:St h0 h L)(e2:h2=h.push (.cells ⟨xs⟩ e)):St h0 h2 (.ae h.size xs e::L):=hs.aj (K:=fun h2=>St h0 h2 (.ae h.size xs e::L)) (fun _ h=>h) h2 e2
theorem St.Gf{h0 h h2:Heap}{L:List It}{e:TypeId}(hs:St h0 h L)(n:Nat)(e2:h2=h.push (.cells ⟨[]⟩ e)):St h0 h2 (.sl ⟨some ⟨h.size,0,none⟩,0,0⟩ e n []::L):=(hs.dj e2).dG 0 n [] rfl (by simp) rfl (by decide)
theorem bg{n:Nat}:∀a∈([]:List Addr),a.block<n:=fun _ h=>by cases h
theorem aF{n b o:Nat}{l:List Addr}(h:b<n)(hl:∀a∈l,a.block<n):∀a∈(⟨b,o,none⟩:Addr)::l,a.block<n:=fun a ha=>by
 rcases Yr.1 ha with rfl | ha
 .exact h
 .exact hl a ha
theorem KU{h0 h:Heap}{L:List It}(hs:St h0 h L)(k:Nat){out:Sl}{F:List FS}(hk:L[k]?=some (.sl out 330 3 (F.map dz)))(m:Ms)(s:Sl)(path:List Ac)(hF:F.length<=1048576):
  Fn Pz 241 #[.slice out.a out.n out.c,.agg ⟨[.int .i64 m.p,.int .i64 m.l,.slice s.a s.n s.c]⟩] h fun v h'=>∃(r:Sl) (F':List FS),v=.slice r.a r.n r.c/\St h0 h' (L.set k (.sl r 330 3 (F'.map dz)))/\((∃y∈F,y.1.m=m)/\F'=F\/(¬∃y∈F,y.1.m=m)/\F'=F++[(⟨m,path⟩,s)]):=by
 apply Ua out m.p m.l s;unfold Zv;refine hs.aj fun h4 ik=>?_;have hk4:(It.ae h.size [.int .i64 m.p,.int .i64 m.l,.slice s.a s.n s.c] 330::L)[k+1]?=some (.sl out 330 3 (F.map dz)):=by rw[List.getElem?_cons_succ];exact hk
 have jW:Rw h4 3 out (F.map dz):=ik.rows (k+1) hk4 (by decide);have hn:=jW.ln;have et:(It.ae h.size [.int .i64 m.p,.int .i64 m.l,.slice s.a s.n s.c] 330::L).set (k+1) (.sl out 330 3 (F.map dz))=It.ae h.size [.int .i64 m.p,.int .i64 m.l,.slice s.a s.n s.c] 330::L.set k (.sl out 330 3 (F.map dz)):=rfl;have hLk:L.set k (.sl out 330 3 (F.map dz))=L:=by
  apply yL;intro i;by_cases e:k=i
  .subst e;rw[Yq (Ya.1 hk).1,hk]
  .rw[Yy e]
 refine aJ (n:=out.n) ik (fun i=>∀(j:Nat) y,j<i->F[j]?=some y->y.1.m≠m) (fun j y hj=>by omega) ?_;clear ik;rintro-i h9 hi ⟨ik,bK⟩;refine aM (fun c=>?_) (fun c=>?_)
 .have jW:Rw h9 3 out (F.map dz):=ik.rows (k+1) hk4 (by decide);refine jW.aA (by omega) (by omega) fun b o f gf t=>?_;replace gf:F[i]?=some f:=gf;refine⟨_,_,t.Dk 2 rfl,_,_,ik.at 0 rfl (o:=0) (n:=2) rfl,?_⟩;have e1:=zA f.1.m m;refine aa (fun c2=>?_) (fun c2=>?_)
  .have e2:f.1.m=m:=cm (e1.symm.trans c2);exact⟨out,F,rfl,by rw[hLk];exact ik.drop 1,.inl ⟨⟨f,Yb gf,e2⟩,rfl⟩⟩
  .have e2:f.1.m≠m:=eZ (e1.symm.trans c2);refine Up.next (by omega) (by omega) ⟨ik,fun j y hj hy=>?_⟩;by_cases e:j=i
   .subst e;rw[gf] at hy;cases hy;exact e2
   .exact bK j y (by omega) hy
 .have acU:¬∃y∈F,y.1.m=m:=fun ⟨y,hy,e⟩=>by
   obtain⟨j,hj⟩:=Yf.1 hy;have:=(Ya.1 hj).1;exact bK j y (by omega) hj e
  refine⟨_,_,s,ik.at 0 rfl (o:=0) (n:=3) rfl,?_⟩;refine ik.app (k+1) hk4 Rv (m:=1) [dz ((⟨m,path⟩,s):FS)] rfl rfl (fun r hr=>by rw[Ye] at hr;rw[hr];rfl) rfl (by omega) (by simp only[maxLen];omega) fun r dV nr Hg=>?_;refine⟨r,F++[(⟨m,path⟩,s)],rfl,?_,.inr ⟨acU,rfl⟩⟩;rw[Ym];exact Hg.drop 1
abbrev vO:=dX × (Sl × List Ac)
def qC(q:vO):List Value:=[.int .i64 (q.1.s:Nat),.int .i64 (q.1.b:Nat),.int .i64 (q.1.d:Nat),.slice q.2.1.a q.2.1.n q.2.1.c]
def vR(q:vO):nM:=(q.1,q.2.2)
def Om:List Value:=[.int .i64 0,.int .i64 0,.int .i64 0,.slice none 0 0]
theorem VA{mG kM fR:Heap}{Od OV:Nat}{i:Int}{Oe OX Og OY:Nat}{ps:Sl}{act:Ac}{path:List Ac}{Oo nQ yv:Int}{out l:Sl}{pU Oq:Int}{JP:Nat}{I:Sl->Sl->Int->Heap->Nat->Prop}{k:Int}
  (HB:aZ mG ⟨kM.size,1,none⟩ act.cs) (hp:RL mG 3 ps Ac.cs path) (h1:kM.size<mG.size) (h2:Od<mG.size) (h3:Oe<mG.size) (h4:Og<mG.size)
  (ka:∀ {hX hB:Heap} {s:Sl} {R:List It},St mG hX (.sl s 65 3 ((path++[act]).map Ac.cs) :: .ae hB.size Om 365::R)->yl hX hB Oo nQ yv s kM out pU Oq fR l JP I k) :
  Jr mG kM Od OV i Oe OX Og OY ps Oo nQ yv out pU Oq fR l JP I k:=by
 have de:=hp.sm;have hpn:=hp.ln;have D:∀ {A4:Sl} {jZ hP nb:Heap} {R:List It},St mG hP (.sl A4 65 3 (path.map Ac.cs) :: .ae jZ.size act.cs 65 :: .ae nb.size Om 365::R)->tU A4 jZ hP Oe OX i Og OY kM nb Oo nQ yv out pU Oq fR l JP I k:=fun {A4 jZ hP nb R} hs=>by
  unfold tU;have hl:=(hs.len 0 (s:=A4) rfl (by decide)).1;rw[Yc] at hl;refine hs.appended 0 (rows:=path.map Ac.cs) rfl eM (m:=1) (news:=[act.cs]) (by rw[List.flatten_singleton];exact hs.at 1 rfl (o:=0) (n:=3) rfl) rfl (fun r hr=>by rw[Ye.1 hr];rfl) rfl (by omega) (by simp only[maxLen];omega) fun afX aei n bI=>⟨aY hs bI (by repeat (first | exact bg | refine aF (by assumption) ?_)),ka (R:=.ae jZ.size act.cs 65::R) ?_⟩;rw[Ym];exact bI.perm (.cons _ (List.Perm.swap _ _ _))
 have E:∀ {A4:Sl} {jZ hP:Heap} {R:List It},St mG hP (.sl A4 65 3 (path.map Ac.cs) :: .ae jZ.size act.cs 65::R)->C3 A4 jZ hP Oe OX i Og OY kM Od OV Oo nQ yv out pU Oq fR l JP I k:=fun {A4 jZ hP R} hs=>by
  unfold C3;have hl:=(hs.len 0 (s:=A4) rfl (by decide)).1;rw[Yc] at hl;refine hs.appended 0 (rows:=path.map Ac.cs) rfl eM (m:=1) (news:=[act.cs]) (by rw[List.flatten_singleton];exact hs.at 1 rfl (o:=0) (n:=3) rfl) rfl (fun r hr=>by rw[Ye.1 hr];rfl) rfl (by omega) (by simp only[maxLen];omega) fun s88 Ca n bI=>⟨aY hs bI (by repeat (first | exact bg | refine aF (by assumption) ?_)),fun B9 e90=>?_⟩;have bD:=bI.dj e90;refine⟨aY bI bD (by repeat (first | exact bg | refine aF (by assumption) ?_)),ka (R:=.ae jZ.size act.cs 65::R) ?_⟩;rw[Ym];exact bD.perm (List.Perm.swap _ _ _)
 have F:∀ {A4:Sl} {jZ hP:Heap} {R:List It},St mG hP (.sl A4 65 3 (path.map Ac.cs) :: .ae jZ.size Om 365::R)->yk hP act.a act.b act.l Od OV i Oe OX Og OY kM A4 jZ Oo nQ yv out pU Oq fR l JP I k:=fun {A4 jZ hP R} hs=>by
  unfold yk;intro ahO aeN;have bD:=hs.dj aeN;exact⟨aY hs bD (by repeat (first | exact bg | refine aF (by assumption) ?_)),D (bD.perm (List.Perm.swap _ _ _))⟩
 have Ec:∀r∈path.map Ac.cs,r.length=3:=fun r hr=>by obtain⟨x,_,rfl⟩:=Yp.1 hr;rfl
 have N:∀ {hn hP:Heap} {R:List It} {K:Sl->Heap->Prop},St mG hP (.sl ⟨some ⟨hn.size,0,none⟩,0,0⟩ 65 3 []::R)->(∀(s:Sl) (h':Heap),St mG h' (.sl s 65 3 (path.map Ac.cs)::R)->K s h')->App Pz 30 30 (.slice (some ⟨hn.size,0,none⟩) 0 0) (.slice ps.a ps.n ps.c) hP K:=fun {hn hP R K} hs hK=>
  hs.dZ 0 (rows:=[]) (news:=path.map Ac.cs) rfl eM (y:=ps) (hp.rw.ext hs.ext) Ec hp.nil (eB (fun _=>rfl) _) (by show (0+ps.n)*24<=_;omega) (by show 0+ps.n<=_;simp only[maxLen];omega) fun r h' _ bI=>hK r h' bI
 have B:∀ {hn hP hx JU:Heap} {R:List It},St mG hP (.sl ⟨some ⟨hn.size,0,none⟩,0,0⟩ 65 3 [] :: .ae hx.size act.cs 65 :: .ae JU.size Om 365::R)->oD hn ps hP kM Oe OX i Og OY hx JU Oo nQ yv out pU Oq fR l JP I k:=fun {hn hP hx JU R} hs=>by
  unfold oD;exact N hs fun s h' bI=>⟨aY hs bI (by repeat (first | exact bg | refine aF (by assumption) ?_)),D bI⟩
 have C:∀ {hn hP hx:Heap} {R:List It},St mG hP (.sl ⟨some ⟨hn.size,0,none⟩,0,0⟩ 65 3 [] :: .ae hx.size act.cs 65::R)->C4 hn ps hP kM Oe OX i Og OY hx Od OV Oo nQ yv out pU Oq fR l JP I k:=fun {hn hP hx R} hs=>by
  unfold C4;refine N hs fun s h' bI=>⟨aY hs bI (by repeat (first | exact bg | refine aF (by assumption) ?_)),E bI,fun ahB aeK=>?_⟩;have bD:=bI.dj aeK;refine⟨aY bI bD (by repeat (first | exact bg | refine aF (by assumption) ?_)),D (R:=R) (bD.perm ?_)⟩;exact (List.Perm.swap _ _ _).trans (.cons _ (List.Perm.swap _ _ _))
 have s0:=St.refl mG;unfold Jr;refine⟨act.a,act.b,act.l,HB,fun h84 e84=>?_,fun ahq aeG=>?_,fun ahi aeB=>?_⟩
 .have s1:=s0.Gf 3 e84;refine⟨aY s0 s1 (by repeat (first | exact bg | refine aF (by assumption) ?_)),?_,fun ahG aeL=>?_,fun ahx aeI=>?_⟩
  .refine N s1 fun A4 jZ s2=>⟨aY s1 s2 (by repeat (first | exact bg | refine aF (by assumption) ?_)),fun xy e87=>?_,fun ahP aeO=>?_⟩
   .have s3:=s2.dj e87;refine⟨aY s2 s3 (by repeat (first | exact bg | refine aF (by assumption) ?_)),E (R:=[]) (s3.perm (List.Perm.swap _ _ _)),fun sE aeP=>?_⟩;have s4:=s3.dj aeP;refine⟨aY s3 s4 (by repeat (first | exact bg | refine aF (by assumption) ?_)),D (R:=[]) (s4.perm ?_)⟩;exact ((List.Perm.swap _ _ _).cons _).trans ((List.Perm.swap _ _ _).trans (.cons _ (List.Perm.swap _ _ _)))
   .have s3:=s2.dj aeO;exact⟨aY s2 s3 (by repeat (first | exact bg | refine aF (by assumption) ?_)),F (R:=[]) (s3.perm (List.Perm.swap _ _ _))⟩
  .have s2:=s1.dj aeL;refine⟨aY s1 s2 (by repeat (first | exact bg | refine aF (by assumption) ?_)),C (R:=[]) (s2.perm (List.Perm.swap _ _ _)),fun ahy aeJ=>?_⟩;have s3:=s2.dj aeJ;refine⟨aY s2 s3 (by repeat (first | exact bg | refine aF (by assumption) ?_)),B (R:=[]) (s3.perm ?_)⟩;exact ((List.Perm.swap _ _ _).cons _).trans ((List.Perm.swap _ _ _).trans (.cons _ (List.Perm.swap _ _ _)))
  .have s2:=s1.dj aeI;refine⟨aY s1 s2 (by repeat (first | exact bg | refine aF (by assumption) ?_)),?_,fun aht aeH=>?_⟩
   .exact N (s2.perm (List.Perm.swap _ _ _)) fun s h' s3=>⟨aY s2 s3 (by repeat (first | exact bg | refine aF (by assumption) ?_)),F (R:=[]) s3⟩
   .have s3:=s2.dj aeH;refine⟨aY s2 s3 (by repeat (first | exact bg | refine aF (by assumption) ?_)),B (R:=[]) (s3.perm ?_)⟩;exact ((List.Perm.swap _ _ _).cons _).trans (List.Perm.swap _ _ _)
 .have s1:=s0.dj aeG;refine⟨aY s0 s1 (by repeat (first | exact bg | refine aF (by assumption) ?_)),fun ahp aeF=>?_,fun ahl aeD=>?_⟩
  .have s2:=s1.Gf 3 aeF;refine⟨aY s1 s2 (by repeat (first | exact bg | refine aF (by assumption) ?_)),C (R:=[]) s2,fun ahn aeE=>?_⟩;have s3:=s2.dj aeE;refine⟨aY s2 s3 (by repeat (first | exact bg | refine aF (by assumption) ?_)),B (R:=[]) (s3.perm ?_)⟩;exact (List.Perm.swap _ _ _).trans (.cons _ (List.Perm.swap _ _ _))
  .have s2:=s1.dj aeD;refine⟨aY s1 s2 (by repeat (first | exact bg | refine aF (by assumption) ?_)),fun ahk aeC=>?_⟩;have s3:=s2.Gf 3 aeC;exact⟨aY s2 s3 (by repeat (first | exact bg | refine aF (by assumption) ?_)),B (R:=[]) (s3.perm ((List.Perm.swap _ _ _).cons _))⟩
 .have s1:=s0.dj aeB;refine⟨aY s0 s1 (by repeat (first | exact bg | refine aF (by assumption) ?_)),fun ahh aeA=>?_,fun ahd aey=>?_⟩
  .have s2:=s1.Gf 3 aeA;refine⟨aY s1 s2 (by repeat (first | exact bg | refine aF (by assumption) ?_)),?_,fun ahf aez=>?_⟩
   .exact N s2 fun s h' s3=>⟨aY s2 s3 (by repeat (first | exact bg | refine aF (by assumption) ?_)),F (R:=[]) s3⟩
   .have s3:=s2.dj aez;exact⟨aY s2 s3 (by repeat (first | exact bg | refine aF (by assumption) ?_)),B (R:=[]) (s3.perm (List.Perm.swap _ _ _))⟩
  .have s2:=s1.dj aey;refine⟨aY s1 s2 (by repeat (first | exact bg | refine aF (by assumption) ?_)),fun ahc aex=>?_⟩;have s3:=s2.Gf 3 aex;exact⟨aY s2 s3 (by repeat (first | exact bg | refine aF (by assumption) ?_)),B (R:=[]) s3⟩
structure AB (g:Gl) (Q:List vO) (F:List FS) (BL:List Bool) (P:List (Sl × List Ac)):Prop where
 nd:(Q.map Prod.fst).Nodup
 ok:∀q∈Q,q.1.ok g.n.toNat
 pl:∀(i:Nat) (q:vO),Q[i]?=some q->q.2.2.length<=i
 ar:∀q∈Q,q.2∈P
 fr:∀f∈F,(f.2,f.1.path)∈P
 bl:BL=(List.range (g.n.toNat*4096)).map fun k=>decide (∃q∈Q,iM q.1=k)
 fi:AK g (F.map Prod.fst)
theorem AB.le{g:Gl}{Q:List vO}{F:List FS}{BL:List Bool}{P:List (Sl × List Ac)}(h:AB g Q F BL P):Q.length<=g.n.toNat*4096:=by
 have:=Gi h.nd fun p hp=>by obtain⟨q,hq,rfl⟩:=Yp.1 hp;exact h.ok q hq
 rwa [Yc] at this
theorem pE{n:Nat}{p:dX}(h:p.ok n):iM p<n*4096:=by
 obtain⟨h1,h2,h3⟩:=h;unfold iM;omega
theorem AB.seen{g:Gl}{Q:List vO}{F:List FS}{BL:List Bool}{P:List (Sl × List Ac)}(h:AB g Q F BL P){p:dX}(hp:p.ok g.n.toNat):BL[iM p]?=some (decide (p∈Q.map Prod.fst)):=by
 rw[h.bl,Yd,yi (pE hp)];show some _=_;congr 1;rw[decide_eq_decide,Yp];constructor
 .rintro⟨q,hq,e⟩;obtain⟨_,h2,h3⟩:=h.ok q hq;exact⟨q,hq,Gj h2 h3 hp.2.1 hp.2.2 e⟩
 .rintro⟨q,hq,e⟩;exact⟨q,hq,by rw[e]⟩
theorem AB.aeX{g:Gl}{Q:List vO}{F:List FS}{BL:List Bool}{P:List (Sl × List Ac)}(h:AB g Q F BL P):BL.length=g.n.toNat*4096:=by rw[h.bl];simp
def wk(l out:Sl)(sb:Nat)(G:List It)(Q:List vO)(F:List FS)(BL:List Bool)(P:List (Sl × List Ac)):List It:=
 .sl l 365 4 (Q.map qC) :: .sl out 330 3 (F.map dz) :: .ae sb (BL.map Value.bool) 4::(G++P.map (nest 65 3 Ac.cs))
theorem KF{α:Type}(A P R:List α)(s n:α):(A++P++(s::n::R)).Perm (n::(A++(s::P))++R):=by
 have h1:(A++P++(s::n::R)).Perm (n::s::(R++(A++P))):=List.perm_append_comm.trans (List.Perm.swap _ _ _);refine h1.trans (List.Perm.cons _ ?_);have h2:(s::(R++(A++P))).Perm (s::(A++P++R)):=.cons _ List.perm_append_comm;refine h2.trans ?_;have h3:=(List.perm_middle (a:=s) (l₁:=A) (l₂:=P++R)).symm;simpa using h3
theorem AB.push{g:Gl}{Q:List vO}{F:List FS}{BL:List Bool}{P:List (Sl × List Ac)}(h:AB g Q F BL P){hd:Nat}{q:vO}(hq:Q[hd]?=some q){nx:dX}(bK:nx∉Q.map Prod.fst)(lV:nx.ok g.n.toNat){s:Sl}{a:Ac}(hm:(s,q.2.2++[a])∈P):
  AB g (Q++[(nx,(s,q.2.2++[a]))]) F (BL.set (iM nx) true) P:=by
 have hl:=(Ya.1 hq).1;refine⟨?_,fun p hp=>?_,fun i p hp=>?_,fun p hp=>?_,h.fr,?_,h.fi⟩
 .rw[Ym,List.nodup_append];exact⟨h.nd,by simp,fun x hx y hy e=>by simp only[gJ,List.map_nil,Ye] at hy;subst hy;subst e;exact bK hx⟩
 .rcases Yk.1 hp with hp | hp
  .exact h.ok p hp
  .rw[Ye] at hp;rw[hp];exact lV
 .rcases Nat.lt_or_ge i Q.length with h1 | h1
  .rw[jt h1] at hp;exact h.pl i p hp
  .rw[tT h1] at hp;have h2:=(Ya.1 hp).1;rw[Yv] at h2;have h3:i-Q.length=0:=by omega
   rw[h3] at hp;cases hp;have:=h.pl hd q hq;simp only[Yh,Yv];omega
 .rcases Yk.1 hp with hp | hp
  .exact h.ar p hp
  .rw[Ye] at hp;rw[hp];exact hm
 .rw[h.bl];refine cN (pE lV) ?_ fun k hk=>?_
  .exact decide_eq_true ⟨_,List.mem_append_right _ (Ye.2 rfl),rfl⟩
  .rw[decide_eq_decide];constructor
   .rintro⟨p,hp,e⟩;rcases Yk.1 hp with hp | hp
    .exact⟨p,hp,e⟩
    .rw[Ye] at hp;subst hp;exact absurd e.symm hk
   .rintro⟨p,hp,e⟩;exact⟨p,List.mem_append_left _ hp,e⟩
theorem VD{h0 mG hX hB kM fR:Heap}{G:List It}{l out s:Sl}{Q:List vO}{F:List FS}{BL:List Bool}{P:List (Sl × List Ac)}{R:List It}{g:Gl}{q:vO}{x:Ed}{role:Int}{hd JP:Nat}{I:Sl->Sl->Int->Heap->Nat->Prop}{k:Int}
  (hV:af g) (qR:St h0 mG (.ae kM.size x.cs 67::wk l out fR.size G Q F BL P)) (hs:St mG hX (.sl s 65 3 ((q.2.2++[x.act]).map Ac.cs) :: .ae hB.size Om 365::R)) (hQ:AB g Q F BL P) (hq:Q[hd]?=some q) (hx:x∈g.es)
  (hI:∀(l' ig:Sl) (Q':List vO) (F':List FS) (vz:List Bool) (P':List (Sl × List Ac)) (h':Heap),St h0 h' (wk l' ig fR.size G Q' F' vz P')->AB g Q' F' vz P'->(Q'.map vR,F'.map Prod.fst)=iZ role q.1 q.2.2 (Q.map vR,F.map Prod.fst) x->(∀(j:Nat) z,Q[j]?=some z->Q'[j]?=some z)->∃m,m<JP/\I l' ig (IntKind.wrap .i64 (k+1)) h' m) :
  yl hX hB x.t (q.1.b:Nat) (q.1.d:Nat) s kM out role g.n fR l JP I k:=by
 unfold yl;have hN:=hV.num.n;have hM:=hV.num.m;have h6:=hV.Nr.n6;have vF:=hV.num.e x hx;unfold gV at vF;obtain⟨SX,ho2,ho3⟩:=hQ.ok q (Yb hq);have JU:=A3 hV (hQ.ok q (Yb hq)) hx role;have JS:x.a=((x.a.toNat:Nat):Int):=by omega
 have Hc:x.b=((x.b.toNat:Nat):Int):=by omega
 have yz:x.t=((x.t.toNat:Nat):Int):=by omega
 have fO:=hQ.fi.len;rw[Yc] at fO;have agH:=hQ.le;have acO:=hQ.pl hd q hq;have hqd:=(Ya.1 hq).1;have hnn:g.n.toNat*4096<=200*4096:=Nat.mul_le_mul_right _ (by omega);have b1:=Ak ⟨q.1.b,by omega⟩ ⟨x.a.toNat,by omega⟩;have b2:=Ak ⟨q.1.d,by omega⟩ ⟨x.a.toNat,by omega⟩;have b3:=Ak ⟨q.1.b,by omega⟩ ⟨x.b.toNat,by omega⟩;simp only[<-JS,<-Hc] at b1 b2 b3;have hs:=(qR.join hs).gK (L':=.ae hB.size Om 365::(.ae kM.size x.cs 67::wk l out fR.size G Q F BL ((s,q.2.2++[x.act])::P))) (R:=R) (by
  have:=KF (.ae kM.size x.cs 67 :: .sl l 365 4 (Q.map qC) :: .sl out 330 3 (F.map dz) :: .ae fR.size (BL.map Value.bool) 4::G) (P.map (nest 65 3 Ac.cs)) R (.sl s 65 3 ((q.2.2++[x.act]).map Ac.cs)) (.ae hB.size Om 365);simpa [wk,nest] using this)
 refine hs.put 0 rfl (o:=0) (vs:=[.int .i64 x.t,.int .i64 (q.1.b:Nat),.int .i64 (q.1.d:Nat),.slice s.a s.n s.c]) rfl (show 4<=4 by decide) fun h91 hs=>?_;replace hs:St h0 h91 (.ae hB.size (qC (⟨x.t.toNat,q.1.b,q.1.d⟩,(s,q.2.2++[x.act]))) 365::(.ae kM.size x.cs 67::wk l out fR.size G Q F BL ((s,q.2.2++[x.act])::P))):=by
  unfold qC;simp only;rw[<-yz];exact hs
 have mv:∀ {p p':dX} {h':Heap} {cs:List Value} {L:List It},cs=qC (p',(s,q.2.2++[x.act]))->St h0 h' (.ae hB.size cs 365::L)->St h0 h' (.ae hB.size (qC (p',(s,q.2.2++[x.act]))) 365::L):=fun e h=>by rw[<-e];exact h
 refine⟨fun ig h'=>∃F':List FS,St h0 h' (.ae hB.size (qC ((ec role q.1 x).1,(s,q.2.2++[x.act]))) 365::(.ae kM.size x.cs 67::wk l ig fR.size G Q F' BL ((s,q.2.2++[x.act])::P)))/\F'.map Prod.fst=(if (ec role q.1 x).2 then nZ (F.map Prod.fst) ⟨⟨x.a,x.l⟩,q.2.2++[x.act]⟩ else F.map Prod.fst)/\∀f∈F',(f.2,f.1.path)∈(s,q.2.2++[x.act])::P,?_,?_⟩
 .refine⟨(q.1.b:Nat),hs.rd 0 rfl (i:=1) rfl,x.a,hs.rd 1 rfl (i:=1) rfl,by omega,?_⟩;rw[b1.1];have Qb:∀f∈F,(f.2,f.1.path)∈(s,q.2.2++[x.act])::P:=fun f hf=>Yn _ (hQ.fr f hf);refine aa (fun c=>?_) (fun c=>?_)
  .refine⟨(q.1.b:Nat),hs.rd 0 rfl (i:=1) rfl,x.b,hs.rd 1 rfl (i:=2) rfl,by omega,?_⟩;rw[b3.2.2.1];refine hs.put 0 rfl (o:=1) (vs:=[.int .i64 ((q.1.b|||2^x.b.toNat:Nat):Int)]) rfl (show 2<=4 by decide) fun h97 hs=>?_;have e:ec role q.1 x=(⟨x.t.toNat,q.1.b|||2^x.b.toNat,q.1.d⟩,false):=by unfold ec;rw[if_pos c]
   rw[e];exact⟨F,hs,rfl,Qb⟩
  .refine⟨x.b,hs.rd 1 rfl (i:=2) rfl,?_⟩;refine dw (fun c2=>?_) (fun c2=>?_)
   .refine⟨(q.1.d:Nat),hs.rd 0 rfl (i:=2) rfl,x.a,hs.rd 1 rfl (i:=1) rfl,by omega,?_⟩;rw[b2.2.1];refine aa (fun c3=>?_) (fun c3=>?_)
    .have Oc:q.1.d.testBit x.a.toNat=false:=bF c3;have e:ec role q.1 x=(⟨x.t.toNat,q.1.b,q.1.d|||2^x.a.toNat⟩,true):=by unfold ec;rw[if_neg (by rw[c];decide),if_pos ⟨c2,Oc⟩]
     refine⟨x.a,hs.rd 1 rfl (i:=1) rfl,x.l,hs.rd 1 rfl (i:=3) rfl,s,hs.rd 0 rfl (i:=3) rfl,?_⟩;refine (KU hs 3 (out:=out) (F:=F) rfl ⟨x.a,x.l⟩ s (q.2.2++[x.act]) (by omega)).mono ?_;rintro _ sF ⟨r,F',rfl,hs,LU⟩;refine⟨r,rfl,?_⟩;unfold CZ;refine⟨(q.1.d:Nat),hs.rd 0 rfl (i:=2) rfl,x.a,hs.rd 1 rfl (i:=1) rfl,by omega,?_⟩;rw[b2.2.2.1];refine hs.put 0 rfl (o:=2) (vs:=[.int .i64 ((q.1.d|||2^x.a.toNat:Nat):Int)]) rfl (show 3<=4 by decide) fun HJ hs=>?_;rw[e];have hex:(∃y∈F,y.1.m=(⟨x.a,x.l⟩:Ms)) ↔ ∃y∈F.map Prod.fst,y.m=(⟨x.a,x.l⟩:Ms):=⟨fun ⟨y,h1,h2⟩=>⟨y.1,Yp.2 ⟨y,h1,rfl⟩,h2⟩,fun ⟨y,h1,h2⟩=>by obtain⟨z,h3,rfl⟩:=Yp.1 h1;exact⟨z,h3,h2⟩⟩;refine⟨F',hs,?_,?_⟩
     .simp only[if_true];unfold nZ;rcases LU with ⟨h1,rfl⟩ | ⟨h1,rfl⟩
      .rw[if_pos (hex.1 h1)]
      .rw[if_neg (fun h9=>h1 (hex.2 h9)),Ym];rfl
     .rcases LU with ⟨h1,rfl⟩ | ⟨h1,rfl⟩
      .exact Qb
      .intro f hf;rcases Yk.1 hf with hf | hf
       .exact Qb f hf
       .rw[Ye] at hf;subst hf;exact Yx
    .have Oc:q.1.d.testBit x.a.toNat=true:=by simpa using c3
     have e:ec role q.1 x=(⟨x.t.toNat,q.1.b,q.1.d⟩,false):=by unfold ec;rw[if_neg (by rw[c];decide),if_neg (fun h9=>by rw[h9.2] at Oc;cases Oc)]
     unfold CZ;refine⟨(q.1.d:Nat),hs.rd 0 rfl (i:=2) rfl,x.a,hs.rd 1 rfl (i:=1) rfl,by omega,?_⟩;rw[b2.2.2.1,b2.2.2.2 Oc];refine hs.put 0 rfl (o:=2) (vs:=[.int .i64 (q.1.d:Nat)]) rfl (show 3<=4 by decide) fun HJ hs=>?_;rw[e];exact⟨F,hs,rfl,Qb⟩
   .have e:ec role q.1 x=(⟨x.t.toNat,q.1.b,q.1.d⟩,false):=by unfold ec;rw[if_neg (by rw[c];decide),if_neg (fun h9=>c2 h9.1)]
    rw[e];exact⟨F,hs,rfl,Qb⟩
 .clear hs b1 b2 b3;rintro-ig qX ⟨F',hs,LU,Qb⟩;generalize hnxt:(ec role q.1 x).1=nx at *;have kY:∀Q':List vO,Q'.map vR=(if nx∈(Q.map vR).map Prod.fst then Q.map vR else Q.map vR++[(nx,q.2.2++[x.act])])->(Q'.map vR,F'.map Prod.fst)=iZ role q.1 q.2.2 (Q.map vR,F.map Prod.fst) x:=fun Q' e=>by
   unfold iZ;simp only;rw[hnxt,<-e,LU]
  have SM:(Q.map vR).map Prod.fst=Q.map Prod.fst:=by rw[List.map_map];rfl
  have cn:AK g (F'.map Prod.fst):=by
   have:=wh (role:=role) (p:=q.1) (path:=q.2.2) (st:=(Q.map vR,F.map Prod.fst)) (x:=x) hQ.fi hx (by omega);unfold iZ at this;simp only at this;rw[LU];exact this
  have hQ2:AB g Q F' BL ((s,q.2.2++[x.act])::P):=⟨hQ.nd,hQ.ok,hQ.pl,fun p hp=>Yn _ (hQ.ar p hp),Qb,hQ.bl,cn⟩;have zQ:=pE JU;have yF:=hQ.aeX;refine⟨(nx.s:Nat),(nx.b:Nat),(nx.d:Nat),s,hs.at 0 rfl (o:=0) (n:=4) rfl,?_⟩;obtain⟨BT,BR,WE⟩:=JU;refine (xa nx s qX (by omega) BR WE).mono ?_;rintro _ uX ⟨rfl,E⟩;have hs:=hs.step E;have e12:eF .i64 g.n 12=((g.n.toNat*4096:Nat):Int):=by
   have:=Nk (a:=g.n.toNat) (by omega)
   rwa [Int.toNat_of_nonneg (by omega)] at this
  rw[e12,Ys];have ei:0+Int.toNat ((iM nx:Nat):Int)*1=iM nx:=by omega
  refine⟨_,rfl,⟨by omega,by omega⟩,?_⟩;rw[ei];refine⟨decide (nx∈Q.map Prod.fst),hs.rd 4 rfl (by rw[Yd,hQ.seen ⟨BT,BR,WE⟩];rfl),?_⟩;refine aa (fun c=>?_) (fun c=>?_)
  .have bK:nx∉Q.map Prod.fst:=by simpa using c
   refine⟨⟨by omega,by omega⟩,?_⟩;refine hs.put 4 rfl (o:=iM nx) (vs:=[.bool true]) rfl (by rw[Yc,Yv];omega) fun ahV hs=>?_;rw[bw Value.bool (by omega)] at hs;refine⟨(nx.s:Nat),(nx.b:Nat),(nx.d:Nat),s,hs.at 0 rfl (o:=0) (n:=4) rfl,?_⟩;have sx:=(hs.len 2 (s:=l) (e:=365) (n:=4) rfl (by decide)).1;rw[Yc] at sx;refine hs.app 2 rfl Rt (m:=1) [qC (nx,(s,q.2.2++[x.act]))] rfl rfl (fun r hr=>by rw[Ye] at hr;rw[hr];rfl) rfl (by omega) (by simp only[maxLen];omega) fun l' ael nl hs=>?_;refine hI l' ig (Q++[(nx,(s,q.2.2++[x.act]))]) F' (BL.set (iM nx) true) ((s,q.2.2++[x.act])::P) ael ?_ (hQ2.push hq bK ⟨BT,BR,WE⟩ Yx) (kY _ (by rw[SM,if_neg bK,Ym];rfl)) fun j z hz=>by rw[jt (Ya.1 hz).1];exact hz
   have hs:=hs.drop 2;unfold wk;rw[Ym (f:=qC)];exact hs
  .have cO:nx∈Q.map Prod.fst:=by simpa using c
   exact hI l ig Q F' BL _ _ (hs.drop 2) hQ2 (kY Q (by rw[SM,if_pos cO])) fun j z hz=>hz
theorem nq(n:Nat):ai Pz 4 n=(List.replicate n false).map Value.bool:=by
 have e:bV Pz 4=[.bool false]:=by kernel_rfl
 unfold ai;rw[e,List.map_replicate]
 induction n with
 | zero=>rfl
 | succ n ih=>rw[List.replicate_succ,oC,ih,List.replicate_succ];rfl
theorem ui(g:Gl)(i:Nat)(x0:Ed)(h:Heap)(hg:GI h g)(hV:af g)(hi:g.es[i]?=some x0):
  Fn Pz 199 #[g.v,.int .i64 (i:Nat)] h fun v h'=>∃(s:Sl) (F:List FS) (L:List It),v=.slice s.a s.n s.c/\F.map Prod.fst=ef g i/\St h h' (.sl s 330 3 (F.map dz)::L)/\(∀f∈F,nest 65 3 Ac.cs (f.2,f.1.path)∈L)/\AK g (ef g i):=by
 apply Uv (bs g.nm) g.hr g.hd g.n g.s g.e g.he g.ht (i:Nat);unfold ZP;have hN:=hV.num.n;have hM:=hV.num.m;have h6:=hV.Nr.n6;have ke:=hg.e.ln;have oU:=(Ya.1 hi).1;have vF:=hV.num.e x0 (Yb hi);unfold gV at vF;have Hc:x0.b=((x0.b.toNat:Nat):Int):=by omega
 have yz:x0.t=((x0.t.toNat:Nat):Int):=by omega
 have hnn:g.n.toNat*4096<=200*4096:=Nat.mul_le_mul_right _ (by omega);refine (St.refl h).aj fun h9 hs=>?_;refine⟨g.he,hs.rd 0 rfl (i:=6) rfl,?_⟩;refine (hg.e.rw.ext hs.ext).aA (by omega) (by omega) fun b o x gx t=>?_;replace gx:g.es[i]?=some x:=gx;rw[hi] at gx;cases gx;refine⟨_,t.nth 2 rfl,g.he,hs.rd 0 rfl (i:=6) rfl,?_⟩;refine (hg.e.rw.ext hs.ext).aA (by omega) (by omega) fun b o x gx t=>?_;replace gx:g.es[i]?=some x:=gx;rw[hi] at gx;cases gx;refine⟨_,t.nth 4 rfl,by omega,?_⟩;have hsh:=VJ ⟨x0.b.toNat,by omega⟩;simp only[<-Hc] at hsh;rw[hsh];refine hs.aj fun fR hs=>?_;refine⟨g.n,hs.rd 1 rfl (i:=3) rfl,by decide,?_⟩;have e12:eF .i64 g.n 12=((g.n.toNat*4096:Nat):Int):=by
  have:=Nk (a:=g.n.toNat) (by omega)
  rwa [Int.toNat_of_nonneg (by omega)] at this
 rw[e12,Ys,nq];refine⟨⟨by omega,by omega,by omega⟩,?_⟩;refine hs.aj fun aD hs=>?_;have tx:(⟨x0.t.toNat,2^x0.b.toNat,0⟩:dX).ok g.n.toNat:=⟨by simp only;omega,VE (by omega),show (0:Nat)<64 by decide⟩;refine⟨by decide,x0.t,((2^x0.b.toNat:Nat):Int),0,au,hs.at 1 rfl (o:=0) (n:=4) rfl,?_⟩;have gG:=xa ⟨x0.t.toNat,2^x0.b.toNat,0⟩ au aD (by simp only;omega) tx.2.1 tx.2.2;simp only[<-yz] at gG;refine gG.mono ?_;rintro _ zW ⟨rfl,E⟩;have hs:=hs.step E;have zQ:=pE tx;have ei:0+Int.toNat ((iM ⟨x0.t.toNat,2^x0.b.toNat,0⟩:Nat):Int)*1=iM ⟨x0.t.toNat,2^x0.b.toNat,0⟩:=by omega
 refine⟨_,rfl,⟨by omega,by omega⟩,?_⟩;rw[ei];refine hs.put 0 rfl (o:=iM ⟨x0.t.toNat,2^x0.b.toNat,0⟩) (vs:=[.bool true]) rfl (by rw[Yc,Yg,Yv];omega) fun J5 hs=>?_;rw[bw Value.bool (by rw[Yg];exact zQ)] at hs;have hs:=(hs.perm (List.Perm.swap _ _ _)).dG 1 4 ([((⟨x0.t.toNat,2^x0.b.toNat,0⟩,(au,[])):vO)].map qC) (by unfold qC;simp only[gJ,List.map_nil,oC,List.flatten_nil,Yw];rw[<-yz];rfl) (fun r hr=>by obtain⟨x,_,rfl⟩:=Yp.1 hr;rfl) rfl (by decide);have hs:=(hs.bH 65 3).bH 330 3;have hs:St h J5 (wk ⟨some ⟨h9.size,0,none⟩,1,1⟩ ⟨none,0,0⟩ fR.size [.ae h.size g.cs 27] [(⟨x0.t.toNat,2^x0.b.toNat,0⟩,(au,[]))] [] ((List.replicate (g.n.toNat*4096) false).set (iM ⟨x0.t.toNat,2^x0.b.toNat,0⟩) true) [(au,[])]):=by
  refine hs.perm ?_;unfold wk;refine ((List.Perm.swap _ _ _).cons _).trans ((List.Perm.swap _ _ _).trans (.cons _ (.cons _ ?_)));exact (List.perm_append_comm (l₁:=[nest 65 3 Ac.cs (au,[])]) (l₂:=[_,_]))
 have Xl:AB g [(⟨x0.t.toNat,2^x0.b.toNat,0⟩,(au,[]))] [] ((List.replicate (g.n.toNat*4096) false).set (iM ⟨x0.t.toNat,2^x0.b.toNat,0⟩) true) [(au,[])]:=by
  refine⟨by simp,fun q hq=>by rw[Ye] at hq;rw[hq];exact tx,fun j q hq=>?_,fun q hq=>by rw[Ye] at hq;rw[hq];exact Ye.2 rfl,fun f hf=>(by cases hf),?_,⟨by simp,fun f hf=>(by cases hf),fun f hf=>(by cases hf)⟩⟩
  .have hj:=(Ya.1 hq).1;rw[Yv] at hj;obtain rfl:j=0:=by omega
   cases hq;exact bc _
  .have e:List.replicate (g.n.toNat*4096) false=(List.range (g.n.toNat*4096)).map fun _=>false:=by
    apply yL;intro j;rw[List.getElem?_replicate,Yd];by_cases hj:j<g.n.toNat*4096
    .rw[if_pos hj,yi hj];rfl
    .rw[if_neg hj,Yl (by rw[kV];omega)];rfl
   rw[e];refine cN zQ (decide_eq_true ⟨_,Ye.2 rfl,rfl⟩) fun k hk=>decide_eq_false ?_;rintro⟨q,hq,e⟩;rw[Ye] at hq;subst hq;exact hk e.symm
 have zM:ef g i=oK g.es x0.b (g.n.toNat*65536+1) 0 ([((⟨x0.t.toNat,2^x0.b.toNat,0⟩,(au,[])):vO)].map vR) (([]:List FS).map Prod.fst):=by
  unfold ef;rw[hi];rfl
 refine⟨fun l out x h' μ=>∃(hd:Nat) (Q:List vO) (F:List FS) (BL:List Bool) (P:List (Sl × List Ac)),x=(hd:Int)/\μ=g.n.toNat*4096-hd/\hd<=Q.length/\St h h' (wk l out fR.size [.ae h.size g.cs 27] Q F BL P)/\AB g Q F BL P/\ef g i=oK g.es x0.b (g.n.toNat*65536+1-hd) hd (Q.map vR) (F.map Prod.fst),⟨_,0,_,_,_,_,rfl,rfl,Nat.zero_le _,hs,Xl,zM⟩,?_⟩;clear hs Xl zM;rintro-l out _ bL μ ⟨hd,Q,F,BL,P,rfl,rfl,hhd,hs,hI,zM⟩;have sx:=(hs.len 0 (s:=l) (e:=365) (n:=4) rfl (by decide)).1;rw[Yc] at sx;have ady:=hI.le;refine aM (fun c=>?_) (fun c=>?_)
 .refine⟨_,_,_,_,_,_,_,_,hs.at 3 rfl (o:=0) (n:=8) rfl,?_⟩;refine (hs.rows 0 (s:=l) (cs:=qC) (l:=Q) rfl (by decide)).aA (by omega) (by omega) fun b o q gq t=>?_;replace gq:Q[hd]?=some q:=gq;refine⟨_,t.nth 0 rfl,?_⟩;refine (Dp g q.1.s bL (hg.ext hs.ext) hV).mono ?_;rintro _ Td ⟨r,O,rfl,yB,hO,NX⟩;refine⟨r,rfl,?_⟩;have kc:=(yB.len 0 (s:=r) rfl (by decide)).1;rw[Yc,show (aw O).length=O.length from Yc _] at kc;have n9:(gu g.es q.1.s).length<=400:=by unfold gu;rw[vY];exact mw (List.length_filter_le _ _) hM
  have afm:O.length=(gu g.es q.1.s).length:=by rw[<-hO,Yc]
  have bD:St h Td (wk l out fR.size [.sl r 3 1 ((aw O).map aO),.ae h.size g.cs 27] Q F BL P):=by
   refine (hs.join yB).perm ?_;unfold wk;refine .cons _ (.cons _ (.cons _ ?_));exact (List.perm_append_comm (l₂:=[It.sl r 3 1 ((aw O).map aO)]))
  have Wj:ef g i=oK g.es x0.b (g.n.toNat*65536+1-(hd+1)) (hd+1) ((gu g.es q.1.s).foldl (iZ x0.b q.1 q.2.2) (Q.map vR,F.map Prod.fst)).1 ((gu g.es q.1.s).foldl (iZ x0.b q.1 q.2.2) (Q.map vR,F.map Prod.fst)).2:=by
   rw[zM,show g.n.toNat*65536+1-hd=(g.n.toNat*65536+1-(hd+1))+1 by omega];exact sS (q:=vR q) (by rw[Yd,gq];rfl)
  refine⟨fun l' ig x h' μ'=>∃(k:Nat) (Q':List vO) (F':List FS) (vz:List Bool) (P':List (Sl × List Ac)),x=(k:Int)/\μ'=r.n-k/\k<=r.n/\St h h' (wk l' ig fR.size [.sl r 3 1 ((aw O).map aO),.ae h.size g.cs 27] Q' F' vz P')/\AB g Q' F' vz P'/\(Q'.map vR,F'.map Prod.fst)=((gu g.es q.1.s).take k).foldl (iZ x0.b q.1 q.2.2) (Q.map vR,F.map Prod.fst)/\∀(j:Nat) z,Q[j]?=some z->Q'[j]?=some z,⟨_,0,Q,F,BL,P,rfl,rfl,Nat.zero_le _,bD,hI,by rw[my];rfl,fun j z hz=>hz⟩,?_⟩;clear hs bD hI t;rintro-l' ig _ kM μ' ⟨k,Q',F',vz,P',rfl,rfl,hk,hs,hI,hfold,hold⟩;have ady:=hI.le;refine aM (fun c2=>?_) (fun c2=>?_)
  .have Qw:=hold hd q gq;have uO:=(Ya.1 Qw).1;obtain⟨j,gj⟩:=get_some (l:=O) (i:=k) (by omega);have BV:=NX j (Yb gj);obtain⟨x,gx⟩:=get_some (l:=g.es) (i:=j) BV;have gsx:(gu g.es q.1.s)[k]?=some x:=by rw[<-hO,Yd,gj,Option.map_some,aL gx]
   refine⟨g.he,hs.rd 4 rfl (i:=6) rfl,?_⟩;refine (hs.rows 3 (s:=r) (cs:=aO) (l:=aw O) rfl (by decide)).aA (by omega) (by omega) fun b58 o59 d gd t58=>?_;have gI:(aw O)[k]?=some (j:Int):=by unfold aw;rw[Yd,gj];rfl
   replace gd:(aw O)[k]?=some d:=gd;rw[gI] at gd;cases gd;refine⟨_,t58.nth 0 rfl,?_⟩;refine (hg.e.rw.ext hs.ext).aA (by omega) (by omega) fun b61 o62 y gy t61=>?_;replace gy:g.es[j]?=some y:=gy;rw[gx] at gy;cases gy;refine⟨_,_,_,_,_,_,t61,?_⟩;intro Qe e69;refine⟨VI (by rw[e69];exact Ext.push _ _),?_⟩;refine hs.ao (zs:=[.int .i64 0,.int .i64 0,.int .i64 0,.int .i64 0,.int .i64 0,.bool false]) (vs:=x.cs) (n:=6) (e:=67) rfl rfl (fun mG hs=>?_) Qe e69;have PE:=(hs.len 1 (s:=l') (e:=365) (n:=4) rfl (by decide)).1;rw[Yc] at PE;have eU:Rw mG 4 l' (Q'.map qC):=hs.rows 1 rfl (by decide);refine⟨_,hs.rd 0 rfl (i:=4) rfl,?_⟩;refine eU.aA (by omega) (by omega) fun Og OY z gz t72=>?_;replace gz:Q'[hd]?=some z:=gz;rw[Qw] at gz;cases gz;refine⟨_,t72.nth 1 rfl,?_⟩;refine eU.aA (by omega) (by omega) fun Oe OX z gz t75=>?_;replace gz:Q'[hd]?=some z:=gz;rw[Qw] at gz;cases gz;refine⟨_,t75.nth 2 rfl,?_⟩;refine eU.aA (by omega) (by omega) fun Od OV z gz t78=>?_;replace gz:Q'[hd]?=some z:=gz;rw[Qw] at gz;cases gz;refine⟨q.2.1,t78.nth 3 rfl,?_⟩;have eK:nest 65 3 Ac.cs q.2∈(.ae kM.size x.cs 67::wk l' ig fR.size [.sl r 3 1 ((aw O).map aO),.ae h.size g.cs 27] Q' F' vz P'):=by
    unfold wk;refine Yn _ (Yn _ (Yn _ (Yn _ (List.mem_append_right _ (Yp.2 ⟨q.2,hI.ar q (Yb Qw),rfl⟩)))))
   have de:=hI.pl hd q Qw;refine VA (act:=x.act) (path:=q.2.2) (hs.at 0 rfl (o:=1) (n:=3) rfl) (hs.wo (s:=q.2.1) (e:=65) eK (by decide) (by omega)) (eu (hs.rd 0 rfl (i:=0) rfl)) (eu (t78.nth 0 rfl)) (eu (t75.nth 0 rfl)) (eu (t72.nth 0 rfl)) fun {hX hB s R} hsX=>?_;refine VD hV hs hsX hI Qw (Yb gx) fun l2 afZ Q2 F2 BL2 P2 h' bD gH he Wy=>?_;refine⟨_,(show r.n-(k+1)<r.n-k by omega),k+1,Q2,F2,BL2,P2,by rw[a7 (by omega) (by omega)];omega,rfl,by omega,bD,gH,?_,fun j z hz=>Wy j z (hold j z hz)⟩;rw[ak gsx,List.foldl_append,<-hfold,he];rfl
  .have iC:k=(gu g.es q.1.s).length:=by omega
   subst iC;rw[vM] at hfold;refine⟨_,(show g.n.toNat*4096-(hd+1)<g.n.toNat*4096-hd by omega),hd+1,Q',F',vz,P',by rw[a7 (by omega) (by omega)];omega,rfl,?_,?_,hI,?_⟩
   .have:=(Ya.1 (hold hd q gq)).1;omega
   .refine hs.gK (R:=[.sl r 3 1 ((aw O).map aO)]) ?_;unfold wk;refine .cons _ (.cons _ (.cons _ ?_));exact (List.perm_append_comm (l₁:=[It.sl r 3 1 ((aw O).map aO)]))
   .rw[Wj,<-hfold]
 .have:hd=Q.length:=by omega
  subst this;rw[wg (by rw[Yl (by rw[Yc];exact bc _)])] at zM;have hs:=hs.gK (L':=.sl out 330 3 (F.map dz)::P.map (nest 65 3 Ac.cs)) (R:=[.sl l 365 4 (Q.map qC),.ae fR.size (BL.map Value.bool) 4,.ae h.size g.cs 27]) (by
   unfold wk;refine (List.Perm.swap _ _ _).trans (.cons _ ?_);exact (List.perm_append_comm (l₁:=[_,_,_])))
  refine⟨out,F,_,rfl,zM.symm,hs,fun f hf=>Yp.2 ⟨_,hI.fr f hf,rfl⟩,?_⟩;rw[zM];exact hI.fi
end Go.VC
end
