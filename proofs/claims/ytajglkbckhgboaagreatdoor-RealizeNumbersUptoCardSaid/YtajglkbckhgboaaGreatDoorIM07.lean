/- SxLp SxLq0 SxLq SxLr0 SxLr SxLt0 SxLt SxLu SxLx0 SxLx SxLy SxLz SxM1 SxM2 SxM3 SxM4. -/
import Derived.Test.YtajglkbckhgboaaGreatDoorIM06
set_option linter.all false
set_option maxRecDepth 100000
set_option maxHeartbeats 8000000

section
namespace Go.VC
open Go.Proofs Go.LexS
theorem St.DP{α β:Type}{P:Program}{t kt e:TypeId}{ck:α->Value}{cv:β->Value}{gH:α->Prop}[DecidableEq α]{z:Value}(M:MT P t kt e ck gH z){h0 h:Heap}{L:List It}(hs:St h0 h L)(k:Nat){b:Nat}{l:List (α × β)}(hk:L[k]?=some (.mp b (l.map fun q=>(ck q.1,cv q.2))))(hl:∀q∈l,gH q.1)(hn:(l.map Prod.fst).Nodup){a:α}(ha:gH a){R:Value->Heap->Prop}
  (hR:R ((aG l a).elim z cv) h):br P (Instr.lookup t (.map (some b)) (ck a) false) h R:=by
 refine hs.DQ M k hk hl hn ha false ?_;generalize aG l a=o at *;cases o<;>exact hR
theorem Ih(b:Nat)(g:Gl)(role:Int)(X:An)(kind:Int)(all:Sl)(mb:Nat)(A:List Pr)(l:List (Pr × Sl))(CB:Nat)(h:Heap)(hA:s7 h b g role X)(hV:ae g)(hM:Hb h g role all mb A l)(hC:Pb X kind A CB):
  Fn Pz 164 #[.pointer (some ⟨b,0,none⟩),.int .i64 kind,.slice all.a all.n all.c,.map (some mb)] h fun v h'=>Ext h h'/\∃(ob:Nat) (O:List (Pr × Nat)),v=.map (some ob)/\It.ok h' (.mp ob (O.map fun q=>(pV q.1,mM q.2)))/\(∀q∈O,dG q.1)/\(O.map Prod.fst).Nodup /\
   ∀p∈A,∀k,(aG O p=some k ↔ lh (cO g role) (dZ X kind) p k)/\(aG O p=some k->k<CB+2*A.length):=by
 apply Qp ⟨b,0,none⟩ kind all (some mb);unfold UJ;have hN:=hV.num.n;have hE:=hV.num.m;have hAn:=hM.ra.ln;have zg:∀p∈A,(p.1:Int)<g.n/\(p.2:Int)<g.n:=fun p hp=>((hM.pr p).1 hp).lt hV;have rJ:∀p∈A,dG p:=fun p hp=>by have:=zg p hp;exact⟨by omega,by omega⟩
 have ew:∀p∈A,∀m∈cO g role p,bp m∈A:=fun p hp m hm=>(hM.pr _).2 (.step ((hM.pr p).1 hp) hm);have V3:A.length<=40000:=by
  have h1:=rR (n:=g.n.toNat) hM.nd fun p hp=>by have:=zg p hp;exact⟨by omega,by omega⟩
  have h2:g.n.toNat*g.n.toNat<=200*200:=Nat.mul_le_mul (by omega) (by omega);omega
 have hCb:=hC.b;have Cr:∀p:Pr,(bA g.es role p.1 p.2).length<=160800:=fun p=>kx hE;have hme:∀p:Pr,(cO g role p).length=(bA g.es role p.1 p.2).length:=fun p=>rfl;refine (St.refl h).K8 GJ.ht _ fun h3 E3 hs=>⟨some h.size,rfl,?_⟩;refine hs.ai (vs:=[.map (some h.size)]) rfl rfl fun h5 hs=>?_;refine hs.yY 93 fun h8 E8 hs=>⟨some h5.size,rfl,?_⟩;refine hs.aq fun h9 hs=>?_;have hs:St h h9 (pq h3.size h.size h8.size ⟨none,0,0⟩ [] [] (JY h5.size []::[].map wa)):=by
  refine (hs.cN 92 1).perm ?_;show ([It.sl ⟨none,0,0⟩ 92 1 [],.af h8.size [.slice none 0 0] 350,.mp h5.size [],.af h3.size [.map (some h.size)] 293,.mp h.size []]:List It).Perm [.af h3.size [.map (some h.size)] 293,.mp h.size [],.af h8.size [.slice none 0 0] 350,.sl ⟨none,0,0⟩ 92 1 [],.mp h5.size []];refine List.Perm.trans (l₂:=[.af h3.size [.map (some h.size)] 293,.mp h.size [],.sl ⟨none,0,0⟩ 92 1 [],.af h8.size [.slice none 0 0] 350,.mp h5.size []]) ?_ (List.Perm.cons _ (List.Perm.cons _ (List.Perm.swap _ _ _)));exact List.perm_append_comm (l₁:=[It.sl ⟨none,0,0⟩ 92 1 [],.af h8.size [.slice none 0 0] 350,.mp h5.size []]) (l₂:=[.af h3.size [.map (some h.size)] 293,.mp h.size []])
 refine⟨fun x h' m=>∃(i:Nat) (bk:Sl) (O:List (Pr × Nat)) (BS:List (Sl × List Pr)) (N:List NE),x=i/\m=all.n-i/\i<=all.n/\St h h' (pq h3.size h.size h8.size bk O BS (JY h5.size N::N.map wa))/\Jy A (cO g role) (dZ X kind) CB i O (BS.map Prod.snd) N,
  ⟨_,0,⟨none,0,0⟩,[],[],[],rfl,rfl,Nat.zero_le _,hs,OB.empty _ _ _,fun p hp=>(by simp at hp),Nat.zero_le _,.nil,fun x hx=>(by cases hx),fun q r=>⟨fun ⟨e,he,_⟩=>(by cases he),fun ⟨p,hp,_⟩=>(by simp at hp)⟩,Nat.zero_le _⟩,?_⟩
 clear hs;rintro-_ zu m ⟨i,bk,O,BS,N,rfl,rfl,hi,hs,hL⟩;refine aQ (fun c=>?_) (fun c=>?_)
 .refine (hM.ra.ext hs.ext).rw.aF (by omega) (by omega) fun b15 Oi p gp u=>?_;replace gp:A[i]?=some p:=gp;have oH:=Yb gp;have sR:=zg p oH;refine⟨(p.1:Nat),(p.2:Nat),u,?_⟩;refine hs.ai (vs:=pC p) rfl rfl fun aA hs=>?_;refine⟨(p.1:Nat),(p.2:Nat),hs.at 0 rfl (o:=0) (n:=2) rfl,?_⟩;obtain⟨r,hr,uH⟩:=hM.mv p oH;refine rq (cv:=iA) (l:=l) vU ((hM.ext hs.ext).mp) hM.lk hM.ln (a:=p) (rJ p oH) false ?_;rw[hr];refine⟨r,rfl,?_⟩;have hs:St h aA (.af zu.size (pC p) 97::JY h5.size N::(N.map wa++pq h3.size h.size h8.size bk O BS [])):=hs.perm (List.Perm.cons _ kA);have uG:=uH.ln;have hrm:=Cr p;have wj:pK A (cO g role) i 0 p N:=⟨hL.nn,hL.nk,fun q r=>by rw[hL.rc];exact⟨.inl,fun h=>h.elim id fun ⟨m,h,_⟩=>(by rw[sX] at h;cases h)⟩,mQ hL.JP (Nat.le_add_right _ _)⟩;refine⟨fun x h' m=>∃(j:Nat) (N':List NE),x=j/\m=r.n-j/\j<=r.n/\St h h' (.af zu.size (pC p) 97::JY h5.size N'::(N'.map wa++pq h3.size h.size h8.size bk O BS []))/\pK A (cO g role) i j p N',⟨_,0,N,rfl,rfl,Nat.zero_le _,hs,wj⟩,?_⟩;clear hs wj;rintro-_ Ky m ⟨j,N',rfl,rfl,hj,hs,wj⟩;refine aQ (fun c2=>?_) (fun c2=>?_)
  .refine (uH.ext hs.ext).rw.aF (by omega) (by omega) fun b31 o32 mv gm t=>?_;replace gm:(cO g role p)[j]?=some mv:=gm;have Em:=Yb gm;have Cq:=jO hV sR Em;have VG:=ew p oH mv Em;refine⟨mv.x,mv.y,mv.s,mv.t,t,?_⟩;refine hs.ai (vs:=mv.cs) rfl rfl fun sU hs=>?_;refine⟨((bp mv).1:Nat),((bp mv).2:Nat),by rw[Cq.2.2.1,Cq.2.2.2];exact hs.at 0 rfl (o:=2) (n:=2) rfl,mv.x,hs.rd 0 rfl (i:=0) rfl,mv.y,hs.rd 0 rfl (i:=1) rfl,(p.1:Nat),(p.2:Nat),hs.at 1 rfl (o:=0) (n:=2) rfl,?_⟩;refine hs.aq fun Mp hs=>?_;have hs:=hs.perm (pS (It.af sU.size (gD p mv).cs 200) _ _ _ _ _);have Lq:=wj.JP;have Er:i*160800<=40000*160800:=Nat.mul_le_mul_right _ (by omega);refine Bl hs wj.nn (fun x hx=>rJ x (wj.nk x hx)) (rJ _ VG) (by omega) fun EF N'' hs hu=>?_;refine⟨_,by omega,j+1,N'',by rw[aZ (by omega) (by omega)];omega,rfl,by omega,?_,wj.step gm VG hu⟩;have hs:=(hs.perm (pS (It.af sU.size (gD p mv).cs 200) _ _ _ _ _).symm).drop 2;exact hs
  .have OI:j=(cO g role p).length:=by unfold cO;omega
   refine⟨(p.1:Nat),(p.2:Nat),hs.at 0 rfl (o:=0) (n:=2) rfl,?_⟩;refine (vj b g role X kind p Ky (hA.ext hs.ext) sR hC.a).mono ?_;rintro _ OV ⟨E59,rfl⟩;replace hs:=hs.step E59;refine⟨_,_,rfl,?_⟩;have hrc:∀q r,sA N' q r ↔ ∃p∈A.take (i+1),∃m∈cO g role p,bp m=q/\r=gD p m:=fun q r=>by
    rw[wj.rc,aj gp,OI,xW];constructor
    .rintro (⟨p',h1,h2⟩ | h1)
     .exact⟨p',List.mem_append_left _ h1,h2⟩
     .exact⟨p,by simp,h1⟩
    .rintro⟨p',h1,h2⟩;rcases Yk.1 h1 with h1 | h1
     .exact .inl ⟨p',h1,h2⟩
     .rw[Ye] at h1;subst h1;exact .inr h2
   have Lq:nj N'<=(i+1)*160800:=by have:=wj.JP;rw[Nat.succ_mul];omega
   have zt:=hL.ln;rw[Yc] at zt;cases hc:dY X kind p with
   | none=>
    refine iX rfl ?_;refine⟨_,by omega,i+1,bk,O,BS,N',by rw[aZ (by omega) (by omega)];omega,rfl,by omega,(hs.drop 1).perm kA.symm,hL.ob,fun q hq c' wi=>?_,hL.ln,wj.nn,wj.nk,hrc,Lq⟩;rw[aj gp,Yk,Ye] at hq;rcases hq with hq | rfl
    .exact hL.c q hq c' wi
    .unfold dZ at wi;rw[hc] at wi;cases wi
   | some cv=>
    obtain⟨ig,uS⟩:=hC.c p oH cv hc;have hcN:dZ X kind p=some cv.toNat:=by unfold dZ;rw[hc];rfl
    refine oU rfl ?_;refine⟨(p.1:Nat),(p.2:Nat),hs.at 0 rfl (o:=0) (n:=2) rfl,?_⟩;have hs:=(hs.drop 1).perm kA.symm;have sT:(((some cv:Option Int).getD 0):Int)=((cv.toNat:Nat):Int):=by show cv=_;omega
    rw[sT];refine (Dk h OV h3.size h.size h8.size bk O BS _ p cv.toNat hs (hL.ob.gH rJ) hL.ob.on (rJ p oH) (by omega) (by omega) (hL.ob.bl V3)).mono ?_;rintro _ qm ⟨rfl,ng,jk,hs,hBS⟩;refine⟨rfl,_,by omega,i+1,ng,lA O p cv.toNat,jk,N',by rw[aZ (by omega) (by omega)];omega,rfl,by omega,hs,?_,fun q hq c' wi=>?_,?_,wj.nn,wj.nk,hrc,Lq⟩
    .have h9:=hL.ob.put oH (.base hcN);rw[hBS];exact h9
    .rw[aj gp,Yk,Ye] at hq;rcases hq with hq | rfl
     .obtain⟨k,h1,h2⟩:=hL.c q hq c' wi;obtain⟨k',h3,h4⟩:=mU (p:=p) (n:=cv.toNat) h2;exact⟨k',by omega,h4⟩
     .rw[hcN] at wi;cases wi;exact yq O q cv.toNat
    .rw[hBS];have:=tJ O (BS.map Prod.snd) p cv.toNat;have h8:=hL.ln;show (oX O (BS.map Prod.snd) p cv.toNat).length<=CB;omega
 .have dQ:i=A.length:=by omega
  have hOB:=hL.ob;have hI:vV A (cO g role) (dZ X kind) CB 0 0 [] O (BS.map Prod.snd):=vV.start hL.ob (fun p hp c hc=>hL.c p (by rw[dQ,xW];exact hp) c hc) hL.ln;have Mi:=hL.nn;have hNk:=hL.nk;have hNr:∀q r,sA N q r ↔ ∃p∈A,∃m∈cO g role p,bp m=q/\r=gD p m:=fun q r=>by rw[hL.rc,dQ,xW]
  have hNt:nj N<=40000*160800:=mQ hL.JP (Nat.mul_le_mul_right _ (by omega));clear hL dQ hOB;refine⟨fun x h' m=>∃(n:Nat) (Z:List Pr) (bk:Sl) (O:List (Pr × Nat)) (BS:List (Sl × List Pr)),x=n/\m=CB+2*A.length-n/\St h h' (pq h3.size h.size h8.size bk O BS (JY h5.size N::N.map wa))/\vV A (cO g role) (dZ X kind) CB n 0 Z O (BS.map Prod.snd),⟨_,0,[],bk,O,BS,rfl,rfl,hs,hI⟩,?_⟩;clear hs hI hi;rintro-_ h70 m ⟨n,Z,bk,O,BS,rfl,rfl,hs,hI⟩;have hZA:Z.length<=A.length:=List.Nodup.length_le_of_subset hI.zn fun x hx=>hI.za x hx;have zt:=hI.ln;rw[Yc] at zt;have Mc:=hs.len 3 (s:=bk) (e:=92) (n:=1) (rows:=(BS.map Prod.fst).map fB) rfl (by omega);rw[Yc,Yc] at Mc;refine⟨bk,hs.rd 2 rfl (i:=0) rfl,aQ (fun c2=>?_) (fun c2=>?_)⟩
  .obtain⟨q0,OD⟩:=get_some (l:=BS) (i:=n) (by omega);have oI:(BS.map Prod.snd)[n]?=some q0.2:=by rw[Yd,OD];rfl
   refine⟨fun x h' m=>∃(i:Nat) (Z:List Pr) (bk:Sl) (O:List (Pr × Nat)) (BS:List (Sl × List Pr)),x=i/\m=q0.2.length-i/\St h h' (pq h3.size h.size h8.size bk O BS (JY h5.size N::N.map wa))/\vV A (cO g role) (dZ X kind) CB n i Z O (BS.map Prod.snd)/\(BS.map Prod.snd)[n]?=some q0.2,⟨_,0,Z,bk,O,BS,rfl,rfl,hs,hI,oI⟩,?_⟩;have abP:=hI.ob.bl V3 q0 (Yb OD);clear hs hI hZA zt Mc c2 OD oI;rintro-_ ZL m ⟨i,Z,bk,O,BS,rfl,rfl,hs,hI,oI⟩;have hZA:Z.length<=A.length:=List.Nodup.length_le_of_subset hI.zn fun x hx=>hI.za x hx;have zt:=hI.ln;rw[Yc] at zt;have Mc:=hs.len 3 (s:=bk) (e:=92) (n:=1) (rows:=(BS.map Prod.fst).map fB) rfl (by omega);rw[Yc,Yc] at Mc;obtain⟨q1,Bu,jX⟩:∃q1,BS[n]?=some q1/\q1.2=q0.2:=by
    rw[Yd] at oI;exact zL.1 oI
   have LC:=(Ya.1 Bu).1;have kF:=hs.lF (A:=[.af h3.size [.map (some h.size)] 293,.mp h.size (O.map fun q=>(pV q.1,mM q.2)),.af h8.size [.slice bk.a bk.n bk.c] 350,.sl bk 92 1 ((BS.map Prod.fst).map fB)]) (e:=97) (n:=2) (cs:=pC) Bu (by omega);rw[jX] at kF;have uG:=kF.ln;refine⟨bk,hs.rd 2 rfl (i:=0) rfl,?_⟩;refine (hs.rows 3 rfl (by omega)).aF (by omega) (by omega) fun b78 o79 d gd u=>?_;replace gd:(BS.map Prod.fst)[n]?=some d:=gd;rw[Yd,Bu] at gd;cases gd;refine⟨q1.1,u.hd,aQ (fun c3=>?_) (fun c3=>?_)⟩
   .refine⟨bk,hs.rd 2 rfl (i:=0) rfl,?_⟩;refine (hs.rows 3 rfl (by omega)).aF (by omega) (by omega) fun b82 o83 d gd u2=>?_;replace gd:(BS.map Prod.fst)[n]?=some d:=gd;rw[Yd,Bu] at gd;cases gd;refine⟨q1.1,u2.hd,?_⟩;refine kF.aF (by omega) (by omega) fun b85 o86 p gp u3=>?_;replace gp:q0.2[i]?=some p:=gp;obtain⟨oH,k,Y6,GZ⟩:=hI.ob.b1 n q0.2 oI p (Yb gp);refine⟨(p.1:Nat),(p.2:Nat),u3,?_⟩;refine hs.ai (vs:=pC p) rfl rfl fun EE hs=>?_;refine⟨some h.size,hs.rd 1 rfl (i:=0) rfl,(p.1:Nat),(p.2:Nat),hs.at 0 rfl (o:=0) (n:=2) rfl,?_⟩;refine hs.DQ (cv:=mM) (l:=O) GJ 2 rfl (hI.ob.gH rJ) hI.ob.on (a:=p) (rJ p oH) false ?_;rw[GZ];refine⟨(k:Nat),rfl,?_⟩;refine iC (fun c4=>?_) (fun c4=>?_)
    .refine⟨_,?_,i+1,Z,bk,O,BS,by rw[aZ (by omega) (by omega)];omega,rfl,hs.drop 1,hI.skip oI gp (by rw[GZ];intro e;cases e;exact c4 rfl),oI⟩;omega
    .obtain rfl:k=n:=by omega
     refine⟨(p.1:Nat),(p.2:Nat),hs.at 0 rfl (o:=0) (n:=2) rfl,?_⟩;have hs:=(hs.drop 1).perm kA;have RU:((mL N).map Prod.fst).Nodup:=by rw[ff];exact Mi
     refine hs.DP (cv:=iA) (l:=mL N) vU 0 rfl (fun q hq=>rJ _ (hNk _ (by rw[<-ff];exact Yp.2 ⟨q,hq,rfl⟩))) RU (a:=p) (rJ p oH) ?_;obtain⟨sr,rec,hsr,uH,hrd,Iu⟩:∃(sr:Sl) (rec:List aV),(aG (mL N) p).elim (.slice none 0 0) iA=.slice sr.a sr.n sr.c/\rec.length<=40000*160800/\(∀ {h0 hh:Heap} {L:List It},St h0 hh L->(∀e∈N,wa e∈L)->Rw hh 4 sr (rec.map aV.cs))/\(∀r,r∈rec ↔ sA N p r):=by
      cases hg:aG (mL N) p with
      | none=>
       refine⟨⟨none,0,0⟩,[],rfl,Nat.zero_le _,fun _ _=>⟨rfl,fun h=>absurd h (by simp)⟩,fun r=>⟨fun h=>(by cases h),fun ⟨e,he,h1,h2⟩=>?_⟩⟩;have:=(cw p (mL N)).2 (by rw[ff,<-h1];exact Yp.2 ⟨e,he,rfl⟩);rw[hg] at this;cases this
      | some y=>
       have h9:=(cw p (mL N)).1 (by rw[hg];rfl);rw[ff] at h9;obtain⟨e,he,h1⟩:=Yp.1 h9;obtain⟨j,hj⟩:=Yf.1 he;have h2:aG (mL N) p=some e.2.1:=eu RU (j:=j) (by unfold mL;rw[Yd,hj,<-h1];rfl);rw[hg] at h2;cases h2;refine⟨e.2.1,e.2.2,rfl,mQ (CO he) hNt,fun dW gL=>dW.Dd (e:=200) (gL e he) (by omega),fun r=>⟨fun h=>⟨e,he,h1,h⟩,fun ⟨e',IC,h3,h4⟩=>?_⟩⟩;obtain⟨j',Y9⟩:=Yf.1 IC;have h5:(N.map Prod.fst)[j]?=some p:=by rw[Yd,hj,<-h1];rfl
       have h6:(N.map Prod.fst)[j']?=some p:=by rw[Yd,Y9,<-h3];rfl
       have h7:=kv Mi h5 h6;subst h7;rw[hj] at Y9;cases Y9;exact h4
     rw[hsr];refine⟨sr,rfl,?_⟩;have hs:=hs.perm kA.symm;have R3:∀ {O:List (Pr × Nat)} {BS:List (Sl × List Pr)} {bk:Sl} (e:NE),e∈N->wa e∈pq h3.size h.size h8.size bk O BS (JY h5.size N::N.map wa):=fun e he=>by
      unfold pq;exact List.mem_append_right _ (Yn _ (Yp.2 ⟨e,he,rfl⟩))
     have hJ:=hI.take oI gp GZ rec;have hI0:=hI;have hnC:k+1<=CB+2*Z.length:=by omega
     refine⟨fun x h' m=>∃(j:Nat) (bk:Sl) (O:List (Pr × Nat)) (BS:List (Sl × List Pr)),x=j/\m=sr.n-j/\j<=sr.n/\St h h' (pq h3.size h.size h8.size bk O BS (JY h5.size N::N.map wa))/\Oc A (cO g role) (dZ X kind) CB k i Z p rec j O (BS.map Prod.snd)/\(BS.map Prod.snd)[k]?=some q0.2,⟨_,0,bk,O,BS,rfl,rfl,Nat.zero_le _,hs,hJ,oI⟩,?_⟩;clear hs hJ kF Mc zt Bu LC hI oI GZ;rintro-_ SO m ⟨j,bk,O,BS,rfl,rfl,hj,hs,hJ,oI⟩;have zt:=hJ.ln;rw[Yc] at zt;have kF:=hrd hs fun e he=>R3 e he;have uG:=kF.ln;refine aQ (fun c5=>?_) (fun c5=>?_)
     .refine kF.aF (by omega) (by omega) fun ada abE r gr u4=>?_;replace gr:rec[j]?=some r:=gr;obtain⟨p',pz,m',gL,hto,rfl⟩:=(hNr p r).1 ((Iu r).1 (Yb gr));have sR:=cV m';have uN:Dn (cO g role) (dZ X kind) p' (k+bu m'):=.step gL (by rw[hto];exact hJ.ob.d p k hJ.pn);have hd:Dn (cO g role) (dZ X kind) (bp (gD p' m')) (k+bu (gD p' m')):=uN;refine⟨m'.x,m'.y,(p'.1:Nat),(p'.2:Nat),u4,?_⟩;refine hs.ai (vs:=(gD p' m').cs) rfl rfl fun aad hs=>?_;refine⟨(p'.1:Nat),(p'.2:Nat),hs.at 0 rfl (o:=2) (n:=2) rfl,m'.x,m'.y,(p'.1:Nat),(p'.2:Nat),hs.at 0 rfl (o:=0) (n:=4) rfl,?_⟩;refine (nO m'.x m'.y (p'.1:Nat) (p'.2:Nat) aad).mono ?_;rintro _ My ⟨rfl,E⟩;have hs:=(hs.step E).drop 1;refine⟨_,rfl,E.sm,?_⟩;have hw:IntKind.wrap .i64 ((k:Int)+(if 0<=m'.x/\0<=m'.y then 2 else 1))=((k+bu (gD p' m'):Nat):Int):=by
       have:bu (gD p' m')=if 0<=m'.x/\0<=m'.y then 2 else 1:=rfl
       rw[this];split<;>rw[aZ (by omega) (by omega)]<;>omega
      rw[hw];have abQ:=cV (gD p' m');refine (Dk h My h3.size h.size h8.size bk O BS _ p' (k+bu (gD p' m')) hs (hJ.ob.gH rJ) hJ.ob.on (rJ p' pz) (by omega) (by omega) (hJ.ob.bl V3)).mono ?_;rintro _ Z9 ⟨rfl,ng,jk,hs,hBS⟩;have hJ2:=hJ.put hnC gr (show bp (gD p' m')∈A from pz) hd;refine⟨rfl,_,?_,j+1,ng,lA O p' (k+bu (gD p' m')),jk,by rw[aZ (by omega) (by omega)];omega,rfl,by omega,hs,?_,?_⟩
      .omega
      .rw[hBS];exact hJ2
      .rw[hBS];exact pQ (p:=p') oI (by omega)
     .have oJ:=hJ.fin (by omega) oH hI0.zn hI0.za fun q hq m hm he=>⟨gD q m,(Iu _).2 ((hNr p _).2 ⟨q,hq,m,hm,he,rfl⟩),rfl,rfl⟩;refine⟨_,?_,i+1,p::Z,bk,O,BS,by rw[aZ (by omega) (by omega)];omega,rfl,hs,oJ,oI⟩;omega
   .have YP:q0.2.length<=i:=by omega
    refine⟨_,?_,n+1,Z,bk,O,BS,by rw[aZ (by omega) (by omega)];omega,rfl,hs,hI.next oI YP⟩;omega
  .refine⟨some h.size,hs.rd 0 rfl (i:=0) rfl,hs.ext,h.size,O,rfl,hs.get (k:=1) rfl,hI.ob.gH rJ,hI.ob.on,fun p hp k=>?_⟩;obtain⟨h1,h2⟩:=hI.fin (by rw[Yc];omega) ew hp k;refine⟨h1,fun hk=>?_⟩;have:=h2 hk;rw[Yc] at this;omega
end Go.VC
end

section
namespace Go.VC
theorem FD:∀b:Fin 256,∀x:Fin 8,((B8 .u8 (bQ .u8 (b.val:Int) (x.val:Int)) 1==1)=b.val.testBit x.val)/\((B8 .u8 (bQ .u8 (b.val:Int) (x.val:Int)) 1==0)=!b.val.testBit x.val)/\Rb .u8 (b.val:Int) (wx .u8 1 (x.val:Int))=((b.val|||2^x.val:Nat):Int):=by
 decide +kernel
theorem Xy:∀x:Fin 8,wx .u8 1 (x.val:Int)=((2^x.val:Nat):Int):=by decide +kernel
theorem or8{b x:Nat}(hb:b<256)(hx:x<8):b|||2^x<256:=Nat.or_lt_two_pow (n:=8) hb (Nat.pow_lt_pow_right (by omega) hx)
theorem or6{b x:Nat}(hb:b<64)(hx:x<6):b|||2^x<64:=Nat.or_lt_two_pow (n:=6) hb (Nat.pow_lt_pow_right (by omega) hx)
theorem Xw{x:Nat}(hx:x<6):2^x<64:=Nat.pow_lt_pow_right (m:=x) (n:=6) (by omega) hx
theorem Xv{x:Nat}(hx:x<8):2^x<256:=Nat.pow_lt_pow_right (m:=x) (n:=8) (by omega) hx
structure dj where
 s:Nat
 b:Nat
 d:Nat
 deriving DecidableEq
def dj.cs(p:dj):List Value:=[.int .i64 (p.s:Nat),.int .u8 (p.b:Nat),.int .u8 (p.d:Nat)]
def dj.ok(n:Nat)(p:dj):Prop:=p.s<n/\p.b<64/\p.d<64
theorem KW{n:Nat}{L:List dj}(hn:L.Nodup)(h:∀p∈L,p.ok n):L.length<=n*4096:=by
 have h1:(L.map fun p=>p.s*4096+p.b*64+p.d).Nodup:=by
  rw[List.Nodup,List.pairwise_map];refine hn.imp_of_mem fun {a b} ha hb iO e=>iO ?_;obtain⟨h1,h2,h3⟩:=h a ha;obtain⟨h4,h5,h6⟩:=h b hb;obtain⟨a1,a2,a3⟩:=a;obtain⟨b1,b2,b3⟩:=b;simp only at *;congr 1<;>omega
 have h2:=List.Nodup.length_le_of_subset h1 (l₂:=List.range (n*4096)) fun x hx=>by
  obtain⟨p,hp,rfl⟩:=Yp.1 hx;obtain⟨h3,h4,h5⟩:=h p hp;rw[List.mem_range];omega
 rwa [Yc,mG] at h2
theorem eY{α:Type}{R:α->α->Prop}(Ox:∀a,¬R a a)(tr:∀a b c,R a b->R b c->R a c):∀l m:List α,l.Pairwise R->m.Pairwise R->(∀x,x∈l ↔ x∈m)->l=m
 | [],[],_,_,_=>rfl
 | [],b::m,_,_,h=>absurd ((h b).2 (by simp)) (by simp)
 | a::l,[],_,_,h=>absurd ((h a).1 (by simp)) (by simp)
 | a::l,b::m,hl,hm,h=>by
  obtain⟨R8,gM⟩:=List.pairwise_cons.1 hl;obtain⟨hm1,mi⟩:=List.pairwise_cons.1 hm;have e:a=b:=by
   rcases Yr.1 ((h a).1 (by simp)) with h1 | h1
   .exact h1
   rcases Yr.1 ((h b).2 (by simp)) with h2 | h2
   .exact h2.symm
   exact absurd (tr _ _ _ (R8 b h2) (hm1 a h1)) (Ox a)
  subst e;congr 1;refine eY Ox tr l m gM mi fun x=>⟨fun hx=>?_,fun hx=>?_⟩
  .rcases Yr.1 ((h x).1 (Yn _ hx)) with h1 | h1
   .subst h1;exact absurd (R8 x hx) (Ox x)
   .exact h1
  .rcases Yr.1 ((h x).2 (Yn _ hx)) with h1 | h1
   .subst h1;exact absurd (hm1 x hx) (Ox x)
   .exact h1
def gj(x:Ed):List Ed->List Ed
 | []=>[x]
 | y::r=>if acLt y.act x.act then y::gj x r else x::y::r
theorem lH(x z:Ed):∀l:List Ed,z∈gj x l ↔ z=x\/z∈l
 | []=>by simp[gj]
 | y::r=>by
  unfold gj;split
  .rw[Yr,lH x z r,Yr];constructor
   .rintro (h | h | h)
    .exact .inr (.inl h)
    .exact .inl h
    .exact .inr (.inr h)
   .rintro (h | h | h)
    .exact .inr (.inl h)
    .exact .inl h
    .exact .inr (.inr h)
  .simp
theorem sq{x y z:Ac}(h1:acLt x y)(h2:acLt y z):acLt x z:=by unfold acLt at *;omega
theorem vL(x:Ac):¬acLt x x:=by unfold acLt;omega
theorem vK{x y:Ac}(h:x≠y)(h1:¬acLt y x):acLt x y:=by
 obtain⟨a,b,c⟩:=x;obtain⟨a',b',c'⟩:=y;unfold acLt at *;simp only[ne_eq,Ac.mk.injEq] at h;simp only at *;omega
theorem kE{x:Ed}:∀ {l:List Ed},l.Pairwise (fun a b=>acLt a.act b.act)->(∀y∈l,y.act≠x.act)->(gj x l).Pairwise fun a b=>acLt a.act b.act
 | [],_,_=>by simp[gj]
 | y::r,hl,hx=>by
  obtain⟨h1,h2⟩:=List.pairwise_cons.1 hl;unfold gj;by_cases h:acLt y.act x.act
  .rw[if_pos h,List.pairwise_cons];refine⟨fun z hz=>?_,kE h2 fun z hz=>hx z (Yn _ hz)⟩;rcases (lH x z r).1 hz with rfl | hz
   .exact h
   .exact h1 z hz
  .rw[if_neg h,List.pairwise_cons];have h3:acLt x.act y.act:=vK (fun e=>hx y (by simp) e.symm) h;refine⟨fun z hz=>?_,hl⟩;rcases Yr.1 hz with rfl | hz
   .exact h3
   .exact sq h3 (h1 z hz)
def tf(l:List Ed):List Ed:=l.foldr gj []
def fS(es:List Ed)(s:Nat):List Ed:=tf (es.filter fun x=>decide (x.f=(s:Int)))
theorem eD(l:List Ed)(z:Ed):z∈tf l ↔ z∈l:=by
 induction l with
 | nil=>simp[tf]
 | cons a l ih=>
  show z∈gj a (tf l) ↔ _;rw[lH,ih,Yr]
theorem qf(x:Ed):∀l:List Ed,(gj x l).length=l.length+1
 | []=>rfl
 | y::r=>by
  unfold gj;split
  .rw[mD,qf x r,mD]
  .rfl
theorem CU(l:List Ed):(tf l).length=l.length:=by
 induction l with
 | nil=>rfl
 | cons a l ih=>
  show (gj a (tf l)).length=_;rw[qf,ih];rfl
theorem eX:∀ {l:List Ed},l.Pairwise (fun a b=>a.act≠b.act)->(tf l).Pairwise fun a b=>acLt a.act b.act
 | [],_=>.nil
 | a::l,h=>by
  obtain⟨h1,h2⟩:=List.pairwise_cons.1 h;exact kE (eX h2) fun y hy=>(h1 y ((eD l y).1 hy)).symm
theorem KP{l l':List Ed}(hp:l'.Perm l)(hw:l'.Pairwise fun a b=>¬acLt b.act a.act)(hd:l.Pairwise fun a b=>a.act≠b.act):l'=tf l:=by
 have G3:l'.Pairwise fun a b=>a.act≠b.act:=(hp.pairwise_iff fun {a b} h=>h.symm).2 hd;refine eY (R:=fun a b:Ed=>acLt a.act b.act) (fun a=>vL _) (fun a b c=>sq) _ _ ?_ (eX hd) fun x=>by rw[eD];exact hp.mem_iff
 exact (hw.and G3).imp fun ⟨h1,h2⟩=>vK h2 h1
theorem ka{g:Gl}(hV:ae g)(s:Int):(g.es.filter fun x=>decide (x.f=s)).Pairwise fun a b=>a.act≠b.act:=by
 have h1:g.es.Pairwise fun a b=>a.f=b.f->a.act≠b.act:=by
  rw[List.pairwise_iff_getElem];intro i j hi hj zh hf he;refine hV.ord.p i _ (Yi hi) j _ (Yi hj) (.inl ⟨by omega,hf,.inl ?_⟩);unfold Ed.act at he;simp only[Ac.mk.injEq] at he;exact he
 refine (h1.sublist List.filter_sublist).imp_of_mem fun {a b} ha hb h=>h ?_;rw[List.mem_filter,decide_eq_true_eq] at ha hb;rw[ha.2,hb.2]
structure mH where
 m:Ms
 path:List Ac
abbrev kc:=dj × List Ac
def dw(role:Int)(p:dj)(x:Ed):dj × Bool:=
 if p.b.testBit x.a.toNat then (⟨x.t.toNat,p.b|||2^x.b.toNat,p.d⟩,false)
 else if x.b=role/\p.d.testBit x.a.toNat=false then (⟨x.t.toNat,p.b,p.d|||2^x.a.toNat⟩,true) else (⟨x.t.toNat,p.b,p.d⟩,false)
def pZ(F:List mH)(f:mH):List mH:=if ∃y∈F,y.m=f.m then F else F++[f]
def eG(role:Int)(p:dj)(path:List Ac)(st:List kc × List mH)(x:Ed):List kc × List mH:=
 (if (dw role p x).1∈st.1.map Prod.fst then st.1 else st.1++[((dw role p x).1,path++[x.act])],
  if (dw role p x).2 then pZ st.2 ⟨⟨x.a,x.l⟩,path++[x.act]⟩ else st.2)
def jD(es:List Ed)(role:Int):Nat->Nat->List kc->List mH->List mH
 | 0,_,_,F=>F
 | f+1,hd,Q,F=>match Q[hd]? with
  | none=>F
  | some (p,path)=>jD es role f (hd+1) ((fS es p.s).foldl (eG role p path) (Q,F)).1 ((fS es p.s).foldl (eG role p path) (Q,F)).2
def fU(g:Gl)(i:Nat):List mH:=match g.es[i]? with
 | none=>[]
 | some x=>jD g.es x.b (g.n.toNat*65536+1) 0 [(⟨x.t.toNat,2^x.b.toNat,0⟩,[])] []
end Go.VC
end

section
namespace Go.VC
open Go.Proofs Go.LexS
def rC{α:Type}(p:α->Bool)(L:List α):Int:=match L.findIdx? p with | some i=>((i:Nat):Int) | none=>-1
theorem nU{α:Type}{p:α->Bool}:∀ {L:List α} {i:Nat} {x:α},(∀(j:Nat) y,j<i->L[j]?=some y->p y=false)->L[i]?=some x->p x=true->L.findIdx? p=some i
 | [],i,x,_,h,_=>by cases h
 | a::L,0,x,_,h,hp=>by cases h;rw[List.findIdx?_cons,hp];rfl
 | a::L,i+1,x,hq,h,hp=>by
  rw[List.findIdx?_cons,hq 0 a (by omega) rfl,nU (L:=L) (i:=i) (fun j y hj hy=>hq (j+1) y (by omega) hy) h hp];rfl
theorem y6{α:Type}{p:α->Bool}{L:List α}(h:∀(j:Nat) y,L[j]?=some y->p y=false):L.findIdx? p=none:=by
 rw[List.findIdx?_eq_none_iff];intro x hx;obtain⟨j,hj⟩:=Yf.1 hx;exact h j x hj
abbrev FS:=mH × Sl
def qy(q:FS):List Value:=[.int .i64 q.1.m.p,.int .i64 q.1.m.l,.slice q.2.a q.2.n q.2.c]
theorem DH(x y:Ms):((x.p==y.p)&&((x.l==y.l)&&true))=decide (x=y):=by
 obtain⟨a,b⟩:=x;obtain⟨c,d⟩:=y;rw[Bool.eq_iff_iff];simp
theorem HB(q:FS)(m:Ms)(b:Nat)(h:Heap)(ig:a8 h ⟨b,0,none⟩ m.cs):Fn Pz 132 #[.agg ⟨qy q⟩,.pointer (some ⟨b,0,none⟩)] h fun v h'=>v=.bool (decide (q.1.m=m))/\Ext h h':=by
 apply QG q.1.m.p q.1.m.l q.2 ⟨b,0,none⟩;unfold U2;refine (St.refl h).aq fun h4 hs=>?_;exact⟨_,_,hs.at 0 rfl (o:=0) (n:=2) rfl,m.p,m.l,fj hs.ext ig,by rw[DH],hs.ext⟩
theorem HC(q:FS)(m:Ms)(b:Nat)(h:Heap)(ig:a8 h ⟨b,0,none⟩ m.cs):Fn Pz 72 #[.agg ⟨qy q⟩,.pointer (some ⟨b,0,none⟩)] h fun v h'=>v=.bool (decide (q.1.m=m))/\Ext h h':=by
 apply W5 q.1.m.p q.1.m.l q.2 ⟨b,0,none⟩;unfold W72;refine (St.refl h).aq fun h4 hs=>?_;exact⟨_,_,hs.at 0 rfl (o:=0) (n:=2) rfl,m.p,m.l,fj hs.ext ig,by rw[DH],hs.ext⟩
theorem Nc:au Pz 132=true:=by kernel_rfl
theorem Ng:au Pz 72=true:=by kernel_rfl
theorem uw(G:Nat)(hG:au Pz G=true)(L:List FS)(m:Ms)(b:Nat)(s:Sl)(h:Heap)(hr:Rw h 3 s (L.map qy))(ig:a8 h ⟨b,0,none⟩ m.cs)(hl:L.length<=16777216)
  (hF:∀(q:FS) (h:Heap),a8 h ⟨b,0,none⟩ m.cs->Fn Pz G #[.agg ⟨qy q⟩,.pointer (some ⟨b,0,none⟩)] h fun v h'=>v=.bool (decide (q.1.m=m))/\Ext h h') :
  Fn Pz 71 #[.slice s.a s.n s.c,.func (.func G) #[] #[.pointer (some ⟨b,0,none⟩)]] h fun v h'=>v=.int .i64 (rC (fun q=>decide (q.1.m=m)) L)/\Ext h h':=by
 apply W6;unfold W71;have hn:=hr.ln;refine⟨fun x h' μ=>∃i:Nat,x=i/\μ=s.n-i/\i<=s.n/\Ext h h'/\∀(j:Nat) (y:FS),j<i->L[j]?=some y->decide (y.1.m=m)=false,⟨_,0,rfl,rfl,Nat.zero_le _,.cD,fun j y hj=>by omega⟩,?_⟩;rintro-_ h5 μ ⟨i,rfl,rfl,hi,E,hd⟩;refine aQ (fun c=>?_) (fun c=>?_)
 .refine (hr.ext E).aF (by omega) (by omega) fun b6 o7 q g t=>?_;replace g:L[i]?=some q:=g;refine⟨q.1.m.p,q.1.m.l,q.2,t,?_⟩;show cond (au Pz G) _ _;rw[hG,cond_true];refine (hF q h5 (fj E ig)).mono ?_;rintro _ fR ⟨rfl,E2⟩;refine⟨_,rfl,aa (fun c1=>⟨?_,E.trans E2⟩) (fun c1=>⟨_,by omega,i+1,by rw[aZ (by omega) (by omega)];omega,rfl,by omega,E.trans E2,fun j y hj hy=>?_⟩)⟩
  .unfold rC;rw[nU hd g c1]
  .by_cases e1:j=i
   .subst e1;rw[g] at hy;cases hy;exact c1
   .exact hd j y (by omega) hy
 .refine⟨?_,E⟩;unfold rC;rw[y6 fun j y hj=>hd j y (by have:=(Ya.1 hj).1;omega) hj]
theorem vl(L:List FS)(m:Ms)(b:Nat)(s:Sl)(h:Heap)(hr:Rw h 3 s (L.map qy))(ig:a8 h ⟨b,0,none⟩ m.cs)(hl:L.length<=16777216):
  Fn Pz 131 #[.slice s.a s.n s.c,.func (.func 132) #[] #[.pointer (some ⟨b,0,none⟩)]] h fun v h'=>(∃r:Bool,v=.bool r/\(r=true ↔ ∃q∈L,q.1.m=m))/\Ext h h':=by
 apply QH;unfold U3;refine (uw 132 Nc L m b s h hr ig hl fun q h hc=>HB q m b h hc).mono ?_;rintro _ h3 ⟨rfl,E⟩;refine⟨_,rfl,⟨_,rfl,?_⟩,E⟩;rw[decide_eq_true_eq];unfold rC;cases hf:L.findIdx? fun q=>decide (q.1.m=m) with
 | none=>
  rw[List.findIdx?_eq_none_iff] at hf;refine iff_of_false (by simp only;omega) ?_;rintro⟨q,hq,e⟩;have:=hf q hq;rw[decide_eq_true e] at this;cases this
 | some i=>
  refine iff_of_true (by simp only;omega) ?_;obtain⟨h1,h2,_⟩:=List.findIdx?_eq_some_iff_getElem.1 hf;exact⟨L[i],List.getElem_mem h1,bM h2⟩
theorem HF{α:Type}(L:List α)(i:Nat)(hi:i<L.length):L.reverse[i]?=L[L.length-1-i]?:=by
 rw[List.getElem?_reverse hi]
theorem wD{h0 h:Heap}{Ls:List It}(hs:St h0 h Ls)(k:Nat){s:Sl}{l:List Ac}(hk:Ls[k]?=some (.sl s 65 3 (l.map Ac.cs)))(hl:l.length<=33554432):
  Fn Pz 133 #[.slice s.a s.n s.c] h fun v h'=>v=.tuple ⟨[]⟩/\St h0 h' (Ls.set k (.sl s 65 3 (l.reverse.map Ac.cs))):=by
 apply QF s;unfold UZ;have rH:k<Ls.length:=(Ya.1 hk).1;have hn:s.n=l.length:=by have:=(hs.len k hk (by omega)).1;rwa [Yc] at this
 have dH:Ls.set k (.sl s 65 3 (l.map Ac.cs))=Ls:=by
  obtain⟨a,b⟩:=Ya.1 hk;rw[<-b];exact List.set_getElem_self a
 refine⟨fun x y h' m=>∃(i:Nat) (c:List Ac),x=i/\y=(l.length:Int)-1-i/\m=l.length-i/\2*i<=l.length+1/\c.length=l.length/\(∀t,t<l.length->c[t]?=if t<i\/l.length-i<=t then l[l.length-1-t]? else l[t]?)/\St h0 h' (Ls.set k (.sl s 65 3 (c.map Ac.cs))),
  ⟨_,0,l,rfl,by rw[aZ (by omega) (by omega)];omega,rfl,by omega,rfl,fun t ht=>by rw[if_neg (by omega)],by rw[dH];exact hs⟩,?_⟩
 clear hs;rintro-_ _ h6 m ⟨i,c,rfl,rfl,rfl,hi,ew,hc,hs⟩;have LL:(Ls.set k (.sl s 65 3 (c.map Ac.cs)))[k]?=some (.sl s 65 3 (c.map Ac.cs)):=by rw[Yq rH]
 refine aQ (fun c1=>?_) (fun c1=>?_)
 .have hj:(l.length:Int)-1-i=((l.length-1-i:Nat):Int):=by omega
  rw[hj];refine (hs.rows k LL (by omega)).aF (by omega) (by omega) fun b7 o8 x gx t=>?_;replace gx:c[l.length-1-i]?=some x:=gx;refine⟨x.a,x.b,x.l,t,?_⟩;refine (hs.rows k LL (by omega)).aF (by omega) (by omega) fun b12 o13 y gy t2=>?_;replace gy:c[i]?=some y:=gy;refine⟨y.a,y.b,y.l,t2,?_⟩;refine hs.set k LL (by omega) (x:=(i:Int)) (by omega) (by omega) x rfl rfl (fun Wk Oh ZU hs=>?_) rfl;rw[List.set_set] at hs;have Y8:(Ls.set k (.sl s 65 3 ((c.set (Int.toNat (i:Int)) x).map Ac.cs)))[k]?=some (.sl s 65 3 ((c.set (Int.toNat (i:Int)) x).map Ac.cs)):=by rw[Yq rH]
  refine hs.set k Y8 (by omega) (x:=((l.length-1-i:Nat):Int)) (by omega) (by omega) y rfl rfl (fun Wj Vv fK hs=>?_) rfl;rw[List.set_set] at hs;refine⟨_,?_,i+1,(c.set i x).set (l.length-1-i) y,by rw[aZ (by omega) (by omega)];omega,by rw[aZ (by omega) (by omega)];omega,rfl,by omega,by rw[mF,mF];exact ew,fun t ht=>?_,hs⟩
  .omega
  .have h1:=hc (l.length-1-i) (by omega);have h2:=hc i (by omega);rw[if_neg (by omega)] at h1 h2;rw[gx] at h1;rw[gy] at h2;by_cases e1:l.length-1-i=t
   .subst e1;rw[Yq (by rw[mF];omega),if_pos (by omega),show l.length-1-(l.length-1-i)=i by omega,h2]
   .rw[Yy e1];by_cases e2:i=t
    .subst e2;rw[Yq (by omega),if_pos (by omega),h1]
    .rw[Yy e2,hc t ht];by_cases e3:t<i\/l.length-i<=t
     .rw[if_pos e3,if_pos (by omega)]
     .rw[if_neg e3,if_neg (by omega)]
 .refine⟨rfl,?_⟩;have:c=l.reverse:=by
   apply wm;intro t;by_cases ht:t<l.length
   .rw[hc t ht,HF l t ht];by_cases e3:t<i\/l.length-i<=t
    .rw[if_pos e3]
    .rw[if_neg e3];congr 1;omega
   .rw[Yl (by omega),Yl (by rw[List.length_reverse];omega)]
  rw[<-this];exact hs
end Go.VC
end

section
namespace Go.VC
open Go.Proofs Go.LexS Go.Maps
theorem Ld(n:Nat):ah Pz 24 n=(List.replicate n (⟨none,0,0⟩:Sl)).map iA:=by
 have e:bL Pz 24=[.slice none 0 0]:=by kernel_rfl
 unfold ah;rw[e,List.map_replicate]
 induction n with
 | zero=>rfl
 | succ n ih=>rw[List.replicate_succ,List.replicate_succ,ss,ih];rfl
theorem TG:cn Pz 24 67 6 48=true:=by kernel_rfl
theorem Nw:cn Pz 130 134 3 40=true:=by kernel_rfl
theorem Nu:cn Pz 249 248 7 48=true:=by kernel_rfl
theorem Ny:cn Pz 68 72 2 16=true:=by kernel_rfl
def dj.v(p:dj):Value:=.agg ⟨p.cs⟩
def Il(p:dj):Prop:=p.s<1048576/\p.b<256/\p.d<256
theorem XB : ∃ fs, Pz.underlying 245 = some (.struct fs) /\ fs.all (·.name != "_") = true /\ fs.toList.map (fun f => (f.type, f.offset)) = [(3, 0), (5, 1), (5, 2)] := su (by kernel_rfl)
theorem Tz:Pz.cellsOf 245=3:=by kernel_rfl
theorem c5:Pz.cellsOf 5=1:=by kernel_rfl
theorem u5:Pz.underlying 5=some (.int .u8):=by kernel_rfl
theorem wf8{n:Nat}(h:n<256):(Lit.int .u8 ((n:Nat):Int)).wf=true:=by
 unfold Lit.wf;simp only[Yt,decide_eq_true_eq];have e1:IntKind.u8.min=0:=by decide
 have e2:IntKind.u8.max=255:=by decide
 rw[e1,e2];omega
theorem Im(p:dj)(h:Il p):∃l,keyOf Pz 245 p.v=some l:=by
 obtain⟨fs,hu,hn,hf⟩:=XB;obtain⟨h1,h2,h3⟩:=h;have eK:∃n,Pz.types.size+1=n+2:=⟨Pz.types.size-1,by kernel_rfl⟩;obtain⟨n,eK⟩:=eK;have w1:Rp ((p.s:Nat):Int):=⟨by omega,by omega⟩;have hl:Pz.keyLits (n+2) 245 p.cs=some [[.int .i64 ((p.s:Nat):Int)],[.int .u8 ((p.b:Nat):Int)],[.int .u8 ((p.d:Nat):Int)]].flatten:=by
  refine qb hu (by rw[Tz];rfl) hn hf ?_;simp only[List.mapM_cons,List.mapM_nil,c3,c5,dj.cs,List.drop_zero,List.take_succ_cons,sX,List.drop_succ_cons,nT u3 w1.wf,nT u5 (wf8 h2),nT u5 (wf8 h3)];rfl
 have Y5:Pz.keyType 245=true:=by kernel_rfl
 have OJ:p.v.formed Pz 245=true:=by
  unfold dj.v Value.formed;simp only[hu,Tz];rfl
 have e:keyOf Pz 245 p.v=(Pz.keyLits (n+2) 245 p.cs).map fun ls=>.string (keyBytes ls):=by
  unfold keyOf;simp only[hu,Y5,OJ,Bool.and_self,if_true,eK];rfl
 rw[e,hl];exact⟨_,rfl⟩
theorem HJ(a b:dj)(h:a.v=b.v):a=b:=by
 unfold dj.v dj.cs at h;obtain⟨a1,a2,a3⟩:=a;obtain⟨b1,b2,b3⟩:=b;simp at h;obtain⟨h1,h2,h3⟩:=h;congr 1<;>omega
theorem Ob:MT Pz 246 245 4 dj.v Il (.bool false) where
 K:=Keyed.of_law (deep_law_laid xi (m:=2) (by omega) (bM (by kernel_rfl)) (by kernel_rfl) (by kernel_rfl))
 ht:=by kernel_rfl
 key:=Im
 inj:=HJ
 z:=fun w=>by kernel_rfl
abbrev zM:=dj × (Int × Ac)
def vC(v:zM):List Value:=[.int .i64 (v.1.s:Nat),.int .u8 (v.1.b:Nat),.int .u8 (v.1.d:Nat),.int .i64 v.2.1,.int .i64 v.2.2.a,.int .i64 v.2.2.b,.int .i64 v.2.2.l]
structure xZ (n:Nat) (Q:List kc) (V:List zM) (K:List (dj × Bool)):Prop where
 vn:V.length=Q.length
 vq:∀(i:Nat) (v:zM) (q:kc),V[i]?=some v->Q[i]?=some q->v.1=q.1/\((v.2.1=-1/\q.2=[])\/∃(a:Nat) (qa:kc),v.2.1=a/\a<i/\Q[a]?=some qa/\q.2=qa.2++[v.2.2])
 nd:(Q.map Prod.fst).Nodup
 ok:∀q∈Q,q.1.ok n
 pl:∀(i:Nat) (q:kc),Q[i]?=some q->q.2.length<=i
 ky:∀p,p∈K.map Prod.fst ↔ p∈Q.map Prod.fst
 kt:∀q∈K,q.2=true
 kn:(K.map Prod.fst).Nodup
theorem xZ.le{n:Nat}{Q:List kc}{V:List zM}{K:List (dj × Bool)}(h:xZ n Q V K):Q.length<=n*4096:=by
 have:=KW h.nd fun p hp=>by obtain⟨q,hq,rfl⟩:=Yp.1 hp;exact h.ok q hq
 rwa [Yc] at this
theorem xZ.gH{n:Nat}{Q:List kc}{V:List zM}{K:List (dj × Bool)}(h:xZ n Q V K)(hn:n<=200):∀q∈K,Il q.1:=fun q hq=>by
 have h1:=(h.ky q.1).1 (Yp.2 ⟨q,hq,rfl⟩);obtain⟨q2,h2,h3⟩:=Yp.1 h1;obtain⟨h4,h5,h6⟩:=h.ok q2 h2;rw[h3] at h4 h5 h6;exact⟨by omega,by omega,by omega⟩
theorem tY{α β:Type}[DecidableEq α](a:α)(b:β):∀(l:List (α × β)) (q:α × β),q∈bU l a b->q∈l\/q=(a,b)
 | [],q,h=>by simp[bU] at h;exact .inr h
 | (c,y)::r,q,h=>by
  rw[bU] at h;split at h
  .rename_i e;subst e;rcases Yr.1 h with h | h
   .exact .inr h
   .exact .inl (Yn _ h)
  .rcases Yr.1 h with h | h
   .exact .inl (by rw[h];simp)
   .rcases tY a b r q h with h | h
    .exact .inl (Yn _ h)
    .exact .inr h
theorem xZ.push{n:Nat}{Q:List kc}{V:List zM}{K:List (dj × Bool)}(h:xZ n Q V K){hd:Nat}{q:kc}(hq:Q[hd]?=some q){nx:dj}{a:Ac}(fQ:nx∉Q.map Prod.fst)(pA:nx.ok n):
  xZ n (Q++[(nx,q.2++[a])]) (V++[(nx,((hd:Int),a))]) (bU K nx true):=by
 have hl:=(Ya.1 hq).1;refine⟨by rw[Yh,Yh,h.vn];rfl,fun i v p hv hp=>?_,?_,fun p hp=>?_,fun i p hp=>?_,fun p=>?_,fun p hp=>?_,eI _ _ _ h.kn⟩
 .rcases Nat.lt_or_ge i Q.length with h1 | h1
  .rw[jw (by rw[h.vn];exact h1)] at hv;rw[jw h1] at hp;obtain⟨h2,h3⟩:=h.vq i v p hv hp;refine⟨h2,h3.imp_right fun ⟨a',qa,h4,h5,h6,h7⟩=>⟨a',qa,h4,h5,?_,h7⟩⟩;rw[jw (by omega)];exact h6
  .rw[qJ (by rw[h.vn];exact h1),h.vn] at hv;rw[qJ h1] at hp;have h2:=(Ya.1 hp).1;rw[Yv] at h2;have h3:i-Q.length=0:=by omega
   rw[h3] at hv hp;cases hv;cases hp;exact⟨rfl,.inr ⟨hd,q,rfl,by omega,by rw[jw hl];exact hq,rfl⟩⟩
 .rw[Ym,List.nodup_append];exact⟨h.nd,by simp,fun x hx y hy e=>by simp only[kf,List.map_nil,Ye] at hy;subst hy;subst e;exact fQ hx⟩
 .rcases Yk.1 hp with hp | hp
  .exact h.ok p hp
  .rw[Ye] at hp;rw[hp];exact pA
 .rcases Nat.lt_or_ge i Q.length with h1 | h1
  .rw[jw h1] at hp;exact h.pl i p hp
  .rw[qJ h1] at hp;have h2:=(Ya.1 hp).1;rw[Yv] at h2;have h3:i-Q.length=0:=by omega
   rw[h3] at hp;cases hp;have:=h.pl hd q hq;simp only[Yh,Yv];omega
 .rw[et,h.ky,Ym,Yk];simp
 .rcases tY nx true K p hp with h1 | h1
  .exact h.kt p h1
  .rw[h1]
theorem xZ.look{n:Nat}{Q:List kc}{V:List zM}{K:List (dj × Bool)}(h:xZ n Q V K)(p:dj):(aG K p).elim (Value.bool false) Value.bool=.bool (decide (p∈Q.map Prod.fst)):=by
 cases hm:aG K p with
 | none=>
  rw[decide_eq_false fun hp=>?_];rfl;have:=(cw p K).2 ((h.ky p).2 hp);rw[hm] at this;cases this
 | some b=>
  have h1:=(cw p K).1 (by rw[hm];rfl);obtain⟨q,hq,rfl⟩:=Yp.1 h1;obtain⟨j,hj⟩:=Yf.1 hq;have h2:=eu h.kn (a:=q.1) (y:=q.2) hj;rw[hm] at h2;cases h2;rw[decide_eq_true ((h.ky _).1 h1),h.kt q hq];rfl
theorem Hz{g:Gl}(hV:ae g){p:dj}(hp:p.ok g.n.toNat){x:Ed}(hx:x∈g.es)(role:Int):(dw role p x).1.ok g.n.toNat:=by
 have h1:=hV.num.e x hx;have h2:=hV.GW.n6;unfold gN at h1;obtain⟨h3,h4,h5⟩:=hp;unfold dw;split
 .exact⟨by simp only;omega,or6 h4 (by omega),h5⟩
 .split
  .exact⟨by simp only;omega,h4,or6 h5 (by omega)⟩
  .exact⟨by simp only;omega,h4,h5⟩
def cJ(q:FS):It:=nest 65 3 Ac.cs (q.2,q.1.path)
def eF(gb ob mb:Nat)(g:Gl)(qu al:Sl)(V:List zM)(K:List (dj × Bool))(F:List FS)(MS:List (Sl × List Ed)):List It:=
 .sl qu 248 7 (V.map vC) :: .sl al 134 3 (F.map qy) :: .mp mb (K.map fun q=>(q.1.v,Value.bool q.2)) :: .af ob ((MS.map Prod.fst).map iA) 24 :: .af gb g.cs 27::(MS.map (nest 67 6 Ed.cs)++F.map cJ)
end Go.VC
end

section
namespace Go.VC
open Go.Proofs Go.LexS
theorem C9{gb ob mb:Nat}{g:Gl}{qu al:Sl}{V:List zM}{K:List (dj × Bool)}{F:List FS}{MS:List (Sl × List Ed)}(f:FS):(eF gb ob mb g qu al V K (F++[f]) MS).Perm (cJ f :: .sl qu 248 7 (V.map vC) :: .sl al 134 3 ((F++[f]).map qy) :: .mp mb (K.map fun q=>(q.1.v,Value.bool q.2)) :: .af ob ((MS.map Prod.fst).map iA) 24 :: .af gb g.cs 27::(MS.map (nest 67 6 Ed.cs)++F.map cJ)):=by
 unfold eF;rw[Ym (f:=cJ),<-Yz];refine List.Perm.trans (List.Perm.of_eq ?_) (List.perm_append_comm (l₁:=.sl qu 248 7 (V.map vC) :: .sl al 134 3 ((F++[f]).map qy) :: .mp mb (K.map fun q=>(q.1.v,Value.bool q.2)) :: .af ob ((MS.map Prod.fst).map iA) 24 :: .af gb g.cs 27::(MS.map (nest 67 6 Ed.cs)++F.map cJ)) (l₂:=[cJ f]));simp
theorem HL{h0 xE pG rO:Heap}{hd:Nat}{g:Gl}{gb ob mb:Nat}{qu al:Sl}{V:List zM}{K:List (dj × Bool)}{F:List FS}{MS:List (Sl × List Ed)}{R:List It}{Q:List kc}{q:kc}{x:Ac}{m:Ms}{n:Nat}{J:Sl->Heap->Prop}
  (hs:St h0 pG (.sl ⟨some ⟨xE.size,0,none⟩,1,1⟩ 65 3 ([x].map Ac.cs) :: .af rO.size m.cs 72::(R++eF gb ob mb g qu al V K F MS))) (hQ:xZ n Q V K) (hn:n<=200) (hq:Q[hd]?=some q) (hF:F.length<=16777216)
  (hJ:∀(Cx r:Sl) (h':Heap),St h0 h' (R++eF gb ob mb g qu Cx V K (F++[(⟨m,q.2++[x]⟩,r)]) MS)->J Cx h') :
  NW xE (hd:Nat) pG qu rO al J:=by
 unfold NW;have hle:=hQ.le;have hn2:n*4096<=200*4096:=Nat.mul_le_mul_right _ hn;refine⟨fun path y h' μ=>∃(i:Nat) (qi:kc) (JT:List Ac),y=i/\μ=i/\Q[i]?=some qi/\q.2=qi.2++JT/\St h0 h' (.sl path 65 3 ((x::JT.reverse).map Ac.cs) :: .af rO.size m.cs 72::(R++eF gb ob mb g qu al V K F MS)),⟨_,hd,q,[],rfl,rfl,hq,by simp,hs⟩,?_⟩;clear hs;rintro-path _ h150 i ⟨_,qi,JT,rfl,rfl,RO,hsf,hs⟩;have wh:=(Ya.1 RO).1;have sR:=hQ.pl hd q hq;have LV:=(Ya.1 hq).1;have pt:JT.length<=q.2.length:=by rw[hsf,Yh];omega
 have uP:=hs.len 0 (s:=path) (e:=65) (n:=3) (rows:=(x::JT.reverse).map Ac.cs) rfl (by omega);rw[Yc,mD,List.length_reverse] at uP;have jY:∀ {it:It},it∈eF gb ob mb g qu al V K F MS->it∈(.sl path 65 3 ((x::JT.reverse).map Ac.cs) :: .af rO.size m.cs 72::(R++eF gb ob mb g qu al V K F MS)):=fun h=>Yn _ (Yn _ (List.mem_append_right _ h));have YN:Rw h150 7 qu (V.map vC):=hs.Dd (e:=248) (jY (by unfold eF;simp)) (by omega);have py:=YN.ln;have Lo:=hQ.vn;obtain⟨v,hv⟩:=get_some (l:=V) (i:=i) (by omega);obtain⟨h1,h2⟩:=hQ.vq i v qi hv RO;refine YN.aF (by omega) (by omega) fun aat XV v' gv t=>?_;replace gv:V[i]?=some v':=gv;rw[hv] at gv;cases gv;refine⟨v.2.1,t.nth 3 rfl,aQ (fun c=>?_) (fun c=>?_)⟩
 .obtain⟨a,qa,h3,h4,h5,h6⟩:∃(a:Nat) (qa:kc),v.2.1=a/\a<i/\Q[a]?=some qa/\qi.2=qa.2++[v.2.2]:=by
   rcases h2 with ⟨h2,_⟩ | h2
   .omega
   .exact h2
  refine YN.aF (by omega) (by omega) fun acS abw v' gv t2=>?_;replace gv:V[i]?=some v':=gv;rw[hv] at gv;cases gv;refine⟨v.2.2.a,v.2.2.b,v.2.2.l,t2.sub 4 3 rfl,?_⟩;refine hs.app 0 rfl qG (m:=1) [v.2.2.cs] rfl rfl (fun r hr=>by rw[Ye] at hr;rw[hr];rfl) rfl (by omega) (by simp only[maxLen];omega) fun abm ZX n160 hs=>?_;have YM:Rw ZX 7 qu (V.map vC):=hs.Dd (e:=248) (Yn _ (Yn _ (List.mem_append_right _ (by unfold eF;simp)))) (by omega);refine YM.aF (by omega) (by omega) fun acR abv v' gv t3=>?_;replace gv:V[i]?=some v':=gv;rw[hv] at gv;cases gv;refine⟨v.2.1,t3.nth 3 rfl,a,h4,a,qa,v.2.2::JT,h3,rfl,h5,by rw[hsf,h6,Yz];rfl,?_⟩;rw[List.reverse_cons,<-List.cons_append,Ym];exact hs
 .have YV:qi.2=[]:=by
   rcases h2 with ⟨_,h2⟩ | ⟨a,_,h3,_⟩
   .exact h2
   .omega
  rw[YV,List.nil_append] at hsf;refine (wD hs 0 rfl (by rw[mD,List.length_reverse];omega)).mono ?_;rintro _ Mw ⟨rfl,hs⟩;have er:(x::JT.reverse).reverse=q.2++[x]:=by rw[List.reverse_cons,List.reverse_reverse,hsf]
  rw[er] at hs;refine⟨rfl,m.p,m.l,hs.at 1 rfl (o:=0) (n:=2) rfl,?_⟩;refine hs.ak fun SL adg hs=>?_;have hs:St h0 SL (.sl al 134 3 (F.map qy) :: .af Mw.size (qy ((⟨m,q.2++[x]⟩:mH),path)) 134 :: .sl path 65 3 ((q.2++[x]).map Ac.cs) :: .af rO.size m.cs 72::(R++(.sl qu 248 7 (V.map vC) :: .mp mb (K.map fun q=>(q.1.v,Value.bool q.2)) :: .af ob ((MS.map Prod.fst).map iA) 24 :: .af gb g.cs 27::(MS.map (nest 67 6 Ed.cs)++F.map cJ)))):=by
   refine hs.perm ?_;refine List.Perm.trans (List.Perm.of_eq ?_) (List.Perm.trans (List.perm_middle (l₁:=.af Mw.size (qy ((⟨m,q.2++[x]⟩:mH),path)) 134 :: .sl path 65 3 ((q.2++[x]).map Ac.cs) :: .af rO.size m.cs 72::(R++[.sl qu 248 7 (V.map vC)])) (a:=.sl al 134 3 (F.map qy)) (l₂:=.mp mb (K.map fun q=>(q.1.v,Value.bool q.2)) :: .af ob ((MS.map Prod.fst).map iA) 24 :: .af gb g.cs 27::(MS.map (nest 67 6 Ed.cs)++F.map cJ))) (List.Perm.of_eq ?_))
   .simp[eF,qy]
   .simp
  have Zt:=hs.len 0 (s:=al) (e:=134) (n:=3) (rows:=F.map qy) rfl (by omega);rw[Yc] at Zt;refine hs.appended 0 rfl Nw (news:=[qy ((⟨m,q.2++[x]⟩:mH),path)]) (hs.at 1 rfl (o:=0) (n:=3) rfl) rfl (fun r hr=>by rw[Ye] at hr;rw[hr];rfl) rfl (by show (al.n+1)*40<=140737488355328;omega) (by show al.n+1<=9223372036854775807;omega) fun KS SJ n171 hs=>?_;refine hJ KS path SJ ?_;have hs:St h0 SJ (.sl KS 134 3 ((F++[((⟨m,q.2++[x]⟩:mH),path)]).map qy)::cJ ((⟨m,q.2++[x]⟩:mH),path)::(R++(.sl qu 248 7 (V.map vC) :: .mp mb (K.map fun q=>(q.1.v,Value.bool q.2)) :: .af ob ((MS.map Prod.fst).map iA) 24 :: .af gb g.cs 27::(MS.map (nest 67 6 Ed.cs)++F.map cJ)))):=by
   rw[Ym];exact hs.sub (.cons_cons _ (.cons _ (.cons_cons _ (.cons _ (List.Sublist.refl _)))))
  refine hs.perm ?_;refine List.Perm.symm ((List.Perm.append_left R (C9 _)).trans ?_);refine List.Perm.trans (List.Perm.of_eq ?_) (List.Perm.trans (List.perm_middle (l₁:=R++[cJ ((⟨m,q.2++[x]⟩:mH),path),.sl qu 248 7 (V.map vC)]) (a:=.sl KS 134 3 ((F++[((⟨m,q.2++[x]⟩:mH),path)]).map qy)) (l₂:=.mp mb (K.map fun q=>(q.1.v,Value.bool q.2)) :: .af ob ((MS.map Prod.fst).map iA) 24 :: .af gb g.cs 27::(MS.map (nest 67 6 Ed.cs)++F.map cJ))) (List.Perm.cons _ ?_))
  .simp
  .refine List.Perm.trans (List.Perm.of_eq ?_) (List.perm_middle (l₁:=R) (a:=cJ ((⟨m,q.2++[x]⟩:mH),path)));simp
structure CC (g:Gl) (F:List mH):Prop where
 nd:(F.map (·.m)).Nodup
 e:∀f∈F,∃x∈g.es,f.m=⟨x.a,x.l⟩
 pl:∀f∈F,f.path.length<=1000000
theorem CC.len{g:Gl}{F:List mH}(h:CC g F):F.length<=g.es.length:=by
 have:=List.Nodup.length_le_of_subset h.nd (l₂:=g.es.map fun x=>(⟨x.a,x.l⟩:Ms)) fun m hm=>by
  obtain⟨f,hf,rfl⟩:=Yp.1 hm;obtain⟨x,hx,e⟩:=h.e f hf;exact Yp.2 ⟨x,hx,e.symm⟩
 rwa [Yc,Yc] at this
theorem CC.note{g:Gl}{F:List mH}(h:CC g F){x:Ed}(hx:x∈g.es){path:List Ac}(hp:path.length<=1000000):CC g (pZ F ⟨⟨x.a,x.l⟩,path⟩):=by
 unfold pZ;split
 .exact h
 .rename_i fQ;refine⟨?_,fun f hf=>?_,fun f hf=>?_⟩
  .rw[Ym,List.nodup_append];refine⟨h.nd,by simp,fun a ha b hb e=>?_⟩;simp only[kf,List.map_nil,Ye] at hb;subst hb;subst e;obtain⟨y,hy,e⟩:=Yp.1 ha;exact fQ ⟨y,hy,e⟩
  .rcases Yk.1 hf with hf | hf
   .exact h.e f hf
   .rw[Ye] at hf;subst hf;exact⟨x,hx,rfl⟩
  .rcases Yk.1 hf with hf | hf
   .exact h.pl f hf
   .rw[Ye] at hf;subst hf;exact hp
theorem Db{g:Gl}{role:Int}{p:dj}{path:List Ac}{st:List kc × List mH}{x:Ed}(h:CC g st.2)(hx:x∈g.es)(hp:path.length<1000000):CC g (eG role p path st x).2:=by
 unfold eG;simp only;split
 .exact h.note hx (by rw[Yh,Yv];omega)
 .exact h
theorem Ja{h0 xF EE rQ BI:Heap}{hd:Nat}{g:Gl}{gb ob mb:Nat}{qu al:Sl}{V:List zM}{K:List (dj × Bool)}{F:List FS}{MS:List (Sl × List Ed)}{Q:List kc}{q:kc}{x:Ed}{role:Int}{Rk:Nat}{I:Sl->Sl->Int->Heap->Nat->Prop}{y:Int}
  (hV:ae g) (hr:role=((role.toNat:Nat):Int))
  (hs:St h0 xF (.af BI.size [.int .i64 x.t,.int .u8 (q.1.b:Nat),.int .u8 (q.1.d:Nat)] 245 :: .af rQ.size x.cs 67 :: .af EE.size q.1.cs 245::eF gb ob mb g qu al V K F MS)) (hQ:xZ g.n.toNat Q V K) (hq:Q[hd]?=some q) (hF:CC g (F.map Prod.fst)) (hx:x∈g.es)
  (hI:∀(XH Cx:Sl) (Q':List kc) (V':List zM) (K':List (dj × Bool)) (F':List FS) (h':Heap),St h0 h' (.af EE.size q.1.cs 245::eF gb ob mb g XH Cx V' K' F' MS)->xZ g.n.toNat Q' V' K'->(Q',F'.map Prod.fst)=eG role q.1 q.2 (Q,F.map Prod.fst) x->(∀(k:Nat) z,Q[k]?=some z->Q'[k]?=some z)->∃m,m<Rk/\I XH Cx (IntKind.wrap .i64 (y+1)) h' m) :
  NV xF EE rQ BI al role (hd:Nat) qu (some mb) Rk I y:=by
 unfold NV;have hN:=hV.num.n;have hM:=hV.num.m;have h6:=hV.GW.n6;have Cl:=hV.num.e x hx;unfold gN at Cl;have RJ:=hQ.ok q (Yb hq);obtain⟨RT,OH,ho3⟩:=RJ;have hnx:=Hz hV (hQ.ok q (Yb hq)) hx role;have Vz:x.a=((x.a.toNat:Nat):Int):=by omega
 have Ll:x.b=((x.b.toNat:Nat):Int):=by omega
 have Ea:x.t=((x.t.toNat:Nat):Int):=by omega
 have ie:=hF.len;rw[Yc] at ie;have b1:=FD ⟨q.1.b,by omega⟩ ⟨x.a.toNat,by omega⟩;have b2:=FD ⟨q.1.d,by omega⟩ ⟨x.a.toNat,by omega⟩;have b3:=FD ⟨q.1.b,by omega⟩ ⟨x.b.toNat,by omega⟩;simp only[<-Vz,<-Ll] at b1 b2 b3;refine⟨fun Cx h'=>∃F':List FS,St h0 h' (.af BI.size (dw role q.1 x).1.cs 245 :: .af rQ.size x.cs 67 :: .af EE.size q.1.cs 245::eF gb ob mb g qu Cx V K F' MS)/\F'.map Prod.fst=(if (dw role q.1 x).2 then pZ (F.map Prod.fst) ⟨⟨x.a,x.l⟩,q.2++[x.act]⟩ else F.map Prod.fst),?_,?_⟩
 .refine⟨(q.1.b:Nat),hs.rd 2 rfl (i:=1) rfl,x.a,hs.rd 1 rfl (i:=1) rfl,by omega,?_⟩;rw[b1.1];refine aa (fun c=>?_) (fun c=>?_)
  .refine⟨(q.1.b:Nat),hs.rd 0 rfl (i:=1) rfl,x.b,hs.rd 1 rfl (i:=2) rfl,by omega,?_⟩;rw[b3.2.2];refine hs.put 0 rfl (o:=1) (vs:=[.int .u8 ((q.1.b|||2^x.b.toNat:Nat):Int)]) rfl (show 2<=3 by decide) fun acH hs=>?_;have e:dw role q.1 x=(⟨x.t.toNat,q.1.b|||2^x.b.toNat,q.1.d⟩,false):=by unfold dw;rw[if_pos c]
   rw[e];refine⟨F,?_,rfl⟩;unfold dj.cs;simp only;rw[<-Ea];exact hs
  .refine⟨x.b,hs.rd 1 rfl (i:=2) rfl,?_⟩;have e0:∀(e:dj),(⟨x.t.toNat,q.1.b,q.1.d⟩:dj).cs=[.int .i64 x.t,.int .u8 (q.1.b:Nat),.int .u8 (q.1.d:Nat)]:=fun _=>by unfold dj.cs;simp only;rw[<-Ea]
   refine eh (fun c2=>?_) (fun c2=>?_)
   .refine⟨(q.1.d:Nat),hs.rd 2 rfl (i:=2) rfl,x.a,hs.rd 1 rfl (i:=1) rfl,by omega,?_⟩;rw[b2.2.1];refine aa (fun c3=>?_) (fun c3=>?_)
    .have c3':q.1.d.testBit x.a.toNat=false:=bF c3;have e:dw role q.1 x=(⟨x.t.toNat,q.1.b,q.1.d|||2^x.a.toNat⟩,true):=by unfold dw;rw[if_neg (by rw[c];decide),if_pos ⟨c2,c3'⟩]
     refine⟨(q.1.d:Nat),hs.rd 0 rfl (i:=2) rfl,x.a,hs.rd 1 rfl (i:=1) rfl,by omega,?_⟩;rw[b2.2.2];refine hs.put 0 rfl (o:=2) (vs:=[.int .u8 ((q.1.d|||2^x.a.toNat:Nat):Int)]) rfl (show 3<=3 by decide) fun rO hs=>?_;refine⟨x.a,hs.rd 1 rfl (i:=1) rfl,x.l,hs.rd 1 rfl (i:=3) rfl,?_⟩;refine hs.ai (vs:=[.int .i64 x.a,.int .i64 x.l]) rfl rfl fun IQ hs=>?_;have hs:St h0 IQ (.af rO.size (⟨x.a,x.l⟩:Ms).cs 72 :: .af BI.size (⟨x.t.toNat,q.1.b,q.1.d|||2^x.a.toNat⟩:dj).cs 245 :: .af rQ.size x.cs 67 :: .af EE.size q.1.cs 245::eF gb ob mb g qu al V K F MS):=by
      unfold dj.cs;simp only;rw[<-Ea];exact hs
     refine (vl F ⟨x.a,x.l⟩ rO.size al IQ (hs.rw 5 rfl (by omega)) (hs.at 0 rfl (o:=0) (n:=2) rfl) (by omega)).mono ?_;rintro _ xE ⟨⟨r,rfl,rF⟩,E⟩;replace hs:=hs.step E;have hr3:r=true ↔ ∃y∈F.map Prod.fst,y.m=⟨x.a,x.l⟩:=rF.trans ⟨fun ⟨y,h1,h2⟩=>⟨y.1,Yp.2 ⟨y,h1,rfl⟩,h2⟩,fun ⟨y,h1,h2⟩=>by obtain⟨z,h3,rfl⟩:=Yp.1 h1;exact⟨z,h3,h2⟩⟩;rw[e];simp only[if_true];refine⟨r,rfl,aa (fun c4=>?_) (fun c4=>?_)⟩
     .have fQ:¬∃y∈F.map Prod.fst,y.m=⟨x.a,x.l⟩:=fun h9=>by rw[hr3.2 h9] at c4;cases c4
      refine⟨x.a,x.b,x.l,hs.at 2 rfl (o:=1) (n:=3) rfl,?_⟩;refine hs.aq fun pG hs=>?_;have hs:=hs.fx 1 3 ([x.act].map Ac.cs) rfl (fun r hr=>by obtain⟨x,_,rfl⟩:=Yp.1 hr;rfl) rfl (by decide);refine HL (R:=[.af BI.size (⟨x.t.toNat,q.1.b,q.1.d|||2^x.a.toNat⟩:dj).cs 245,.af rQ.size x.cs 67,.af EE.size q.1.cs 245]) (q:=q) (m:=⟨x.a,x.l⟩) hs hQ (by omega) hq (by omega) fun Cx r h' hs=>⟨_,hs,?_⟩;unfold pZ;rw[if_neg fQ,Ym];rfl
     .refine⟨F,hs.drop 1,?_⟩;unfold pZ;rw[if_pos (hr3.1 (bT c4))]
    .have e:dw role q.1 x=(⟨x.t.toNat,q.1.b,q.1.d⟩,false):=by unfold dw;rw[if_neg (by rw[c];decide),if_neg (fun h9=>by rw[h9.2] at c3;cases c3)]
     rw[e];refine⟨F,?_,rfl⟩;rw[e0 q.1];exact hs
   .have e:dw role q.1 x=(⟨x.t.toNat,q.1.b,q.1.d⟩,false):=by unfold dw;rw[if_neg (by rw[c];decide),if_neg (fun h9=>c2 h9.1)]
    rw[e];refine⟨F,?_,rfl⟩;rw[e0 q.1];exact hs
 .clear hs b1 b2 b3;rintro-Cx ZV ⟨F',hs,OS⟩;generalize hnxt:(dw role q.1 x).1=nx at *;obtain⟨LH,hn2,hn3⟩:=hnx;have Bs:∀Q':List kc,Q'=(if nx∈Q.map Prod.fst then Q else Q++[(nx,q.2++[x.act])])->(Q',F'.map Prod.fst)=eG role q.1 q.2 (Q,F.map Prod.fst) x:=fun Q' e=>by
   unfold eG;simp only;rw[hnxt,<-e,OS]
  refine⟨(nx.s:Nat),(nx.b:Nat),(nx.d:Nat),hs.at 0 rfl (o:=0) (n:=3) rfl,?_⟩;refine hs.DP (cv:=Value.bool) (l:=K) Ob 5 rfl (hQ.gH (by omega)) hQ.kn (a:=nx) ⟨by omega,by omega,by omega⟩ ?_;rw[hQ.look];refine⟨_,rfl,aa (fun c=>?_) (fun c=>?_)⟩
  .have fQ:nx∉Q.map Prod.fst:=eB (bF c);refine⟨(nx.s:Nat),(nx.b:Nat),(nx.d:Nat),hs.at 0 rfl (o:=0) (n:=3) rfl,?_⟩;refine hs.Bf (cv:=Value.bool) (l:=K) Ob 5 rfl (hQ.gH (by omega)) hQ.kn (a:=nx) ⟨by omega,by omega,by omega⟩ true fun acy hs=>?_;refine⟨(nx.s:Nat),(nx.b:Nat),(nx.d:Nat),hs.at 0 rfl (o:=0) (n:=3) rfl,x.a,x.b,x.l,hs.at 1 rfl (o:=1) (n:=3) rfl,?_⟩;have Iw:=hs.len 3 (s:=qu) (e:=248) (n:=7) (rows:=V.map vC) rfl (by omega);rw[Yc] at Iw;have hle:=hQ.le;have Lo:=hQ.vn;have abX:g.n.toNat*4096<=200*4096:=Nat.mul_le_mul_right _ (by omega);refine hs.app 3 rfl Nu (m:=1) [vC (nx,((hd:Int),x.act))] rfl rfl (fun r hr=>by rw[Ye] at hr;rw[hr];rfl) rfl (by omega) (by simp only[maxLen];omega) fun XD ZT n192 hs=>?_;refine hI XD Cx _ (V++[(nx,((hd:Int),x.act))]) (bU K nx true) F' ZT ?_ (hQ.push hq fQ ⟨LH,hn2,hn3⟩) (Bs _ (by rw[if_neg fQ])) fun k z hz=>by rw[jw (Ya.1 hz).1];exact hz
   have hs:=hs.drop 2;unfold eF;rw[Ym (f:=vC)];exact hs
  .have dQ:nx∈Q.map Prod.fst:=bM (bT c);exact hI qu Cx Q V K F' _ (hs.drop 2) hQ (Bs Q (by rw[if_pos dQ])) fun k z hz=>hz
theorem AL{es:List Ed}{role:Int}{f hd:Nat}{Q:List kc}{F:List mH}{q:kc}(hq:Q[hd]?=some q):jD es role (f+1) hd Q F=jD es role f (hd+1) ((fS es q.1.s).foldl (eG role q.1 q.2) (Q,F)).1 ((fS es q.1.s).foldl (eG role q.1 q.2) (Q,F)).2:=by
 rw[jD,hq]
theorem C8{es:List Ed}{role:Int}{f hd:Nat}{Q:List kc}{F:List mH}(hq:Q[hd]?=none):jD es role f hd Q F=F:=by
 cases f with
 | zero=>rfl
 | succ f=>rw[jD,hq]
theorem va{es:List Ed}{j:Nat}{x:Ed}(hx:es[j]?=some x)(s:Nat):(es.take (j+1)).filter (fun y=>decide (y.f=(s:Int)))=(es.take j).filter (fun y=>decide (y.f=(s:Int)))++(if x.f=(s:Int) then [x] else []):=by
 rw[aj hx,List.filter_append];congr 1;by_cases h:x.f=(s:Int)
 .rw[if_pos h,List.filter_cons_of_pos (by rw[decide_eq_true h])];rfl
 .rw[if_neg h,List.filter_cons_of_neg (by rw[decide_eq_false h];decide)];rfl
theorem aN{α:Type}{L:List α}{n:Nat}{f:Nat->α}(h:L=(List.range n).map f){s:Nat}(hs:s<n):L[s]?=some (f s):=by
 rw[h,Yd,xX hs];rfl
theorem pO(g:Gl)(i:Nat)(x0:Ed)(h:Heap)(hg:GI h g)(hx:Gm h)(hV:ae g)(hi:g.es[i]?=some x0):
  Fn Pz 68 #[g.v,.int .i64 (i:Nat)] h fun v h'=>Ext h h'/\∃(s:Sl) (F:List FS),v=.tuple ⟨[.slice s.a s.n s.c,.int .i64 0]⟩/\F.map Prod.fst=fU g i/\RL h' 3 s qy F/\(∀q∈F,RL h' 3 q.2 Ac.cs q.1.path)/\CC g (fU g i)/\St h h' (.sl s 134 3 (F.map qy)::F.map cJ):=by
 apply W8 (bs g.nm) g.hr g.hd g.n g.s g.e g.he g.ht (i:Nat);unfold W68;have hN:=hV.num.n;have hM:=hV.num.m;have h6:=hV.GW.n6;have qk:=hg.e.ln;have wh:=(Ya.1 hi).1;have Cl:=hV.num.e x0 (Yb hi);have hE:=hV.num.e;unfold gN at Cl;have Ll:x0.b=((x0.b.toNat:Nat):Int):=by omega
 have Ea:x0.t=((x0.t.toNat:Nat):Int):=by omega
 refine (St.refl h).aq fun h9 hs=>?_;refine⟨_,_,_,_,_,_,_,_,hs.at 0 rfl (n:=8) rfl,?_⟩;refine (mT g h9 (hg.ext hs.ext) (hx.ext hs.ext)).mono ?_;rintro _ aA ⟨rfl,E20⟩;replace hs:=hs.step E20;refine⟨_,rfl,?_⟩;rw[decide_eq_true hV];refine iX rfl ?_;refine aQ (fun c=>by omega) (fun _=>?_);refine⟨g.he,hs.rd 0 rfl (i:=6) rfl,aQ (fun c=>by omega) (fun _=>?_)⟩;refine⟨g.n,hs.rd 0 rfl (i:=3) rfl,by omega,?_⟩;rw[Ld];refine hs.aq fun qt hs=>?_;have hs:=hs.tS (α:=Ed) (e:=67) (k:=6) (cs:=Ed.cs) (A:=[_,_]) (B:=[]) g.n.toNat;refine⟨g.he,hs.rd 1 rfl (i:=6) rfl,?_⟩;refine⟨fun x h' μ=>∃(j:Nat) (MS:List (Sl × List Ed)),x=(j:Int)/\μ=g.es.length-j/\j<=g.es.length/\MS.map Prod.snd=((List.range g.n.toNat).map fun s:Nat=>(g.es.take j).filter (fun y=>decide (y.f=(s:Int)))) /\
  St h h' ([.af aA.size ((MS.map Prod.fst).map iA) 24,.af h.size g.cs 27]++MS.map (nest 67 6 Ed.cs)++[]),
  ⟨_,0,List.replicate g.n.toNat ((⟨.none,0,0⟩,[]):Sl × List Ed),rfl,rfl,by omega,?_,?_⟩,?_⟩
 .rw[sX,List.map_replicate];apply wm;intro s;rw[List.getElem?_replicate,Yd];by_cases hs:s<g.n.toNat
  .rw[if_pos hs,xX hs];rfl
  .rw[if_neg hs,Yl (by rw[mG];omega)];rfl
 .rw[List.map_replicate (f:=Prod.fst)];exact hs
 clear hs;rintro-_ O2 μ ⟨j,MS,rfl,rfl,hj,hMS,hs⟩;have SC:MS.length=g.n.toNat:=by have:=congrArg List.length hMS;simpa using this
 refine aQ (fun c1=>?_) (fun c1=>?_)
 .refine (hg.e.rw.ext hs.ext).aF (by omega) (by omega) fun b30 o31 x gx t=>?_;replace gx:g.es[j]?=some x:=gx;have jT:=hE x (Yb gx);unfold gN at jT;obtain⟨q,hq⟩:=get_some (l:=MS) (i:=x.f.toNat) (by omega);refine⟨_,_,_,_,_,_,t,?_⟩;refine hs.ai (vs:=x.cs) rfl rfl fun Cu hs=>?_;refine⟨x.f,hs.rd 0 rfl (i:=0) rfl,x.f,hs.rd 0 rfl (i:=0) rfl,⟨by omega,by omega⟩,?_⟩;rw[show 0+Int.toNat x.f*1=x.f.toNat by omega];refine⟨q.1,hs.rd 1 rfl (by rw[Yd,Yd,hq];rfl),?_⟩;refine⟨_,_,_,_,_,_,hs.at 0 rfl (o:=0) (n:=6) rfl,?_⟩;refine hs.ak fun h49 E49 hs=>⟨E49.sm,?_⟩;have hs:St h h49 ((.af Cu.size x.cs 67 :: .af O2.size x.cs 67::[.af aA.size ((MS.map Prod.fst).map iA) 24,.af h.size g.cs 27])++MS.map (nest 67 6 Ed.cs)++[]):=hs;have py:=(hs.lF hq (by omega)).ln;have jX:q.2=(g.es.take j).filter (fun y=>decide (y.f=((x.f.toNat:Nat):Int))):=by
   have h1:=aN hMS (s:=x.f.toNat) (by omega);rw[Yd,hq] at h1;exact eU h1
  have Ei:q.2.length<=400:=by rw[jX];refine mQ (List.length_filter_le _ _) ?_;rw[Yu];omega
  refine hs.nL hq TG x (hs.at 0 rfl (o:=0) (n:=6) rfl) rfl rfl (by omega) (by simp only[maxLen];omega) fun r BG hr mg=>?_;refine⟨fT (hs.same mg 1 1 rfl rfl) lu,⟨by omega,by omega⟩,?_⟩;refine mg.put 2 rfl (o:=x.f.toNat) (vs:=[iA r]) rfl (by rw[Yc,Yc,Yv];omega) fun EF hs=>?_;rw[fW iA (by rw[Yc];omega)] at hs;refine⟨_,by omega,j+1,MS.set x.f.toNat (r,q.2++[x]),by rw[aZ (by omega) (by omega)];omega,rfl,by omega,?_,?_⟩
  .apply wm;intro s;rw[Yd,Yd];by_cases jU:s<g.n.toNat
   .rw[xX jU];have h1:=aN hMS jU;rw[Yd] at h1;by_cases e:x.f.toNat=s
    .subst e;rw[Yq (by omega),Option.map_some,Option.map_some,va gx,if_pos (by omega),jX]
    .rw[Yy e,h1,Option.map_some,va gx,if_neg (by omega),Yw]
   .rw[Yl (by rw[mF];omega),Yl (by rw[mG];omega)];rfl
  .rw[List.map_set];exact hs.drop 2
 have OI:j=g.es.length:=by omega
 subst OI;rw[xW] at hMS;refine⟨fun x h' μ=>∃(j:Nat) (MS:List (Sl × List Ed)),x=(j:Int)/\μ=g.n.toNat-j/\j<=g.n.toNat/\MS.map Prod.snd=((List.range g.n.toNat).map fun s:Nat=>if s<j then fS g.es s else g.es.filter (fun y=>decide (y.f=(s:Int)))) /\
  St h h' ([.af aA.size ((MS.map Prod.fst).map iA) 24,.af h.size g.cs 27]++MS.map (nest 67 6 Ed.cs)++[]),
  ⟨_,0,MS,rfl,rfl,by omega,by rw[hMS];rfl,hs⟩,?_⟩
 clear hs hMS SC hj c1;rintro-_ ZN μ ⟨j,MS,rfl,rfl,hj,hMS,hs⟩;have SC:MS.length=g.n.toNat:=by have:=congrArg List.length hMS;simpa using this
 refine aQ (fun c1=>?_) (fun c1=>?_)
 .obtain⟨q,hq⟩:=get_some (l:=MS) (i:=j) (by omega);refine⟨⟨by omega,by omega⟩,?_⟩;rw[show 0+Int.toNat ((j:Nat):Int)*1=j by omega];refine⟨q.1,hs.rd 0 rfl (by rw[Yd,Yd,hq];rfl),?_⟩;have Ep:j<(MS.map (nest 67 6 Ed.cs)).length:=by rw[Yc];omega
  have jX:q.2=g.es.filter (fun y=>decide (y.f=((j:Nat):Int))):=by
   have h1:=aN hMS (s:=j) (by omega);rw[Yd,hq,if_neg (by omega)] at h1;exact eU h1
  have Ei:q.2.length<=400:=by rw[jX];exact mQ (List.length_filter_le _ _) hM
  have jf:=rV (P:=[.af aA.size ((MS.map Prod.fst).map iA) 24,.af h.size g.cs 27]) (R:=[]) Ep;rw[Yd,hq] at jf;refine (Hu hs _ jf (by omega)).mono ?_;rintro _ Mn ⟨rfl,l',hp,hw,hs⟩;have k6:l'=fS g.es j:=by unfold fS;rw[<-jX];exact KP hp hw (by rw[jX];exact ka hV _)
  rw[yk Ep] at hs;refine⟨rfl,_,by omega,j+1,MS.set j (q.1,l'),by rw[aZ (by omega) (by omega)];omega,rfl,by omega,?_,?_⟩
  .apply wm;intro s;rw[Yd,Yd];by_cases jU:s<g.n.toNat
   .rw[xX jU];have h1:=aN hMS jU;rw[Yd] at h1;by_cases e:j=s
    .subst e;rw[Yq (by omega),Option.map_some,Option.map_some,if_pos (by omega),k6]
    .rw[Yy e,h1,Option.map_some];by_cases e2:s<j
     .rw[if_pos e2,if_pos (by omega)]
     .rw[if_neg e2,if_neg (by omega)]
   .rw[Yl (by rw[mF];omega),Yl (by rw[mG];omega)];rfl
  .have e1:(MS.map Prod.fst).set j (q.1,l').1=MS.map Prod.fst:=by
    have h9:(MS.map Prod.fst)[j]?=some q.1:=by rw[Yd,hq];rfl
    obtain⟨a,b⟩:=Ya.1 h9;show (MS.map Prod.fst).set j q.1=_;rw[<-b];exact List.set_getElem_self a
   rw[List.map_set (f:=Prod.fst),e1,List.map_set (f:=nest 67 6 Ed.cs)];exact hs
 have ZD:MS.map Prod.snd=(List.range g.n.toNat).map (fS g.es):=by
  rw[hMS];apply List.map_congr_left;intro s hs;rw[List.mem_range] at hs;rw[if_pos (by omega)]
 clear hMS c1 hj;rw[Yw] at hs;refine⟨g.he,hs.rd 1 rfl (i:=6) rfl,?_⟩;refine (hg.e.rw.ext hs.ext).aF (by omega) (by omega) fun b64 o65 x gx t=>?_;replace gx:g.es[i]?=some x:=gx;rw[hi] at gx;cases gx;refine⟨x0.b,t.nth 2 rfl,g.he,hs.rd 1 rfl (i:=6) rfl,?_⟩;refine (hg.e.rw.ext hs.ext).aF (by omega) (by omega) fun b68 o69 x gx t2=>?_;replace gx:g.es[i]?=some x:=gx;rw[hi] at gx;cases gx;refine⟨x0.t,t2.nth 4 rfl,by omega,?_⟩;have e8:=Xy ⟨x0.b.toNat,by omega⟩;simp only[<-Ll] at e8;rw[e8];have YS:(⟨x0.t.toNat,2^x0.b.toNat,0⟩:dj).ok g.n.toNat:=⟨by simp only;omega,Xw (by omega),(show 0<64 by decide)⟩;have VM:Il (⟨x0.t.toNat,2^x0.b.toNat,0⟩:dj):=⟨by simp only;omega,Xv (by omega),(show 0<256 by decide)⟩;have ace:(⟨x0.t.toNat,2^x0.b.toNat,0⟩:dj).cs=[.int .i64 x0.t,.int .u8 ((2^x0.b.toNat:Nat):Int),.int .u8 0]:=by unfold dj.cs;simp only;rw[<-Ea];rfl
 refine hs.ak fun Kx E71 hs=>⟨E71.sm,?_⟩;refine hs.put 0 rfl (o:=0) (vs:=[.int .i64 x0.t,.int .u8 ((2^x0.b.toNat:Nat):Int),.int .u8 0]) rfl (aY 3) fun Mm hs=>?_;refine hs.yY 246 fun jZ E75 hs=>⟨some Mm.size,rfl,?_⟩;refine⟨((x0.t.toNat:Nat):Int),((2^x0.b.toNat:Nat):Int),((0:Nat):Int),by rw[<-Ea];exact hs.at 1 rfl (o:=0) (n:=3) rfl,?_⟩;refine hs.Bf (cv:=Value.bool) (l:=[]) Ob 0 rfl (fun q hq=>by cases hq) .nil (a:=⟨x0.t.toNat,2^x0.b.toNat,0⟩) VM true fun SH hs=>?_;refine⟨((x0.t.toNat:Nat):Int),((2^x0.b.toNat:Nat):Int),((0:Nat):Int),by rw[<-Ea];exact hs.at 1 rfl (o:=0) (n:=3) rfl,?_⟩;refine hs.aq fun h83 hs=>?_;generalize Ej:(⟨x0.t.toNat,2^x0.b.toNat,0⟩:dj)=p0 at *;have hs:=hs.fx 1 7 ([(p0,((-1:Int),(⟨0,0,0⟩:Ac)))].map vC) (by subst Ej;rfl) (fun r hr=>by obtain⟨x,_,rfl⟩:=Yp.1 hr;rfl) rfl (by decide);have hs:=hs.cN 134 3;have hs:St h h83 (eF h.size aA.size Mm.size g ⟨some ⟨SH.size,0,none⟩,1,1⟩ ⟨none,0,0⟩ [(p0,((-1:Int),(⟨0,0,0⟩:Ac)))] [(p0,true)] [] MS):=by
  refine (hs.sub (.cons_cons _ (.cons_cons _ (.cons_cons _ (.cons _ (List.Sublist.refl _)))))).perm ?_;unfold eF;rw[List.map_nil (f:=cJ),Yw];exact List.Perm.swap _ _ _
 have SA:xZ g.n.toNat [(p0,[])] [(p0,((-1:Int),(⟨0,0,0⟩:Ac)))] [(p0,true)]:=by
  refine⟨rfl,fun k v q hv hq=>?_,by simp,fun q hq=>?_,fun k q hq=>?_,fun p=>by simp,fun q hq=>?_,by simp⟩
  .have:=(Ya.1 hv).1;rw[Yv] at this;obtain rfl:k=0:=by omega
   cases hv;cases hq;exact⟨rfl,.inl ⟨rfl,rfl⟩⟩
  .rw[Ye] at hq;rw[hq];exact YS
  .have:=(Ya.1 hq).1;rw[Yv] at this;obtain rfl:k=0:=by omega
   cases hq;exact Nat.zero_le _
  .rw[Ye] at hq;rw[hq]
 have hF0:CC g (([]:List FS).map Prod.fst):=⟨.nil,fun f hf=>(by cases hf),fun f hf=>(by cases hf)⟩;have hS0:fU g i=jD g.es x0.b (g.n.toNat*65536+1-0) 0 [(p0,[])] (([]:List FS).map Prod.fst):=by unfold fU;rw[hi];simp only;rw[Ej];rfl
 refine⟨fun qu al x h' μ=>∃(hd:Nat) (Q:List kc) (V:List zM) (K:List (dj × Bool)) (F:List FS),x=(hd:Int)/\μ=g.n.toNat*4096-hd/\hd<=Q.length/\St h h' (eF h.size aA.size Mm.size g qu al V K F MS)/\xZ g.n.toNat Q V K/\CC g (F.map Prod.fst)/\fU g i=jD g.es x0.b (g.n.toNat*65536+1-hd) hd Q (F.map Prod.fst),⟨_,0,_,_,_,[],rfl,rfl,Nat.zero_le _,hs,SA,hF0,hS0⟩,?_⟩;clear hs SA hF0 hS0;rintro-qu al _ EE μ ⟨hd,Q,V,K,F,rfl,rfl,hhd,hs,hQ,hF,hS⟩;have hle:=hQ.le;have Lo:=hQ.vn;have hn4:g.n.toNat*4096<=200*4096:=Nat.mul_le_mul_right _ (by omega);have Iw:=hs.len 0 (s:=qu) (e:=248) (n:=7) (rows:=V.map vC) rfl (by omega);rw[Yc] at Iw;refine aQ (fun c=>?_) (fun c=>?_)
 .obtain⟨q,hq⟩:=get_some (l:=Q) (i:=hd) (by omega);obtain⟨v,hv⟩:=get_some (l:=V) (i:=hd) (by omega);have hvq:=(hQ.vq hd v q hv hq).1;obtain⟨RT,OH,ho3⟩:=hQ.ok q (Yb hq);refine (hs.rows 0 rfl (by omega)).aF (by omega) (by omega) fun b91 o92 v' gv t=>?_;replace gv:V[hd]?=some v':=gv;rw[hv] at gv;cases gv;refine⟨(v.1.s:Nat),(v.1.b:Nat),(v.1.d:Nat),t.Q3 3 rfl,?_⟩;rw[hvq];refine hs.ai (vs:=q.1.cs) rfl rfl fun h97 hs=>?_;refine⟨(q.1.s:Nat),hs.rd 0 rfl (i:=0) rfl,⟨by omega,by omega⟩,?_⟩;rw[show 0+Int.toNat ((q.1.s:Nat):Int)*1=q.1.s by omega];obtain⟨ms,Bw⟩:=get_some (l:=MS) (i:=q.1.s) (by omega);have LJ:ms.2=fS g.es q.1.s:=by
   have h1:=aN ZD (s:=q.1.s) RT;rw[Yd,Bw] at h1;exact eU h1
  have abY:ms.2.length<=400:=by rw[LJ];unfold fS;rw[CU];exact mQ (List.length_filter_le _ _) hM
  have abO:=(Ya.1 hq).1;have abN:=hQ.pl hd q hq;refine⟨ms.1,hs.rd 4 rfl (by rw[Yd,Yd,Bw];rfl),?_⟩;have jY:∀ {qu al V K F},.sl ms.1 67 6 (ms.2.map Ed.cs)∈(.af EE.size q.1.cs 245::eF h.size aA.size Mm.size g qu al V K F MS:List It):=fun {qu al V K F}=>by
   refine Yn _ ?_;unfold eF;simp only[Yr,Yk]
   right;right;right;right;right;left
   exact Yp.2 ⟨ms,Yb Bw,rfl⟩
  have Kc:=hs.Dd (jY) (by omega);have uG:ms.1.n=ms.2.length:=by have:=Kc.1;rwa [Yc] at this
  refine⟨fun qu al x h' μ=>∃(j:Nat) (Q':List kc) (V:List zM) (K:List (dj × Bool)) (F':List FS),x=(j:Int)/\μ=ms.1.n-j/\j<=ms.1.n/\St h h' (.af EE.size q.1.cs 245::eF h.size aA.size Mm.size g qu al V K F' MS)/\xZ g.n.toNat Q' V K/\CC g (F'.map Prod.fst)/\Q'[hd]?=some q/\(Q',F'.map Prod.fst)=((fS g.es q.1.s).take j).foldl (eG x0.b q.1 q.2) (Q,F.map Prod.fst),⟨_,0,Q,V,K,F,rfl,rfl,Nat.zero_le _,hs,hQ,hF,hq,rfl⟩,?_⟩;have SA:=hQ;clear hs hQ hF Iw Lo hle hv Kc;rintro-qu al _ rQ μ ⟨j,Q',V,K,F',rfl,rfl,hj,hs,hQ,hF,uI,hfold⟩;have dq:Rw rQ 6 ms.1 (ms.2.map Ed.cs):=hs.Dd jY (by omega);refine aQ (fun c2=>?_) (fun c2=>?_)
  .refine dq.aF (by omega) (by omega) fun adb abF x gx t3=>?_;replace gx:ms.2[j]?=some x:=gx;rw[LJ] at gx;have J6:x∈g.es:=by
    have h1:=(eD _ _).1 (Yb gx);exact (List.mem_filter.1 h1).1
   refine⟨x.f,x.a,x.b,x.l,x.t,x.ag,t3,?_⟩;refine hs.ai (vs:=x.cs) rfl rfl fun BI hs=>?_;refine⟨x.t,hs.rd 0 rfl (i:=4) rfl,(q.1.b:Nat),hs.rd 1 rfl (i:=1) rfl,(q.1.d:Nat),hs.rd 1 rfl (i:=2) rfl,?_⟩;refine hs.ai (vs:=[.int .i64 x.t,.int .u8 (q.1.b:Nat),.int .u8 (q.1.d:Nat)]) rfl rfl fun xF hs=>?_;refine Ja hV Ll hs hQ uI hF J6 fun XH Cx Q2 V2 K2 F2 h' cp hQ2 he hk=>?_;refine⟨_,?_,j+1,Q2,V2,K2,F2,by rw[aZ (by omega) (by omega)];omega,rfl,by omega,cp,hQ2,?_,hk hd q uI,?_⟩
   .omega
   .have abZ:=SA.le;have:=Db (role:=x0.b) (p:=q.1) (path:=q.2) (st:=(Q',F'.map Prod.fst)) hF J6 (by omega);rw[<-he] at this;exact this
   .rw[aj gx,List.foldl_append,<-hfold,he];rfl
  .rw[Yj (by rw[<-LJ];omega)] at hfold;have hle:=SA.le;have hqd:=(Ya.1 uI).1;refine⟨_,?_,hd+1,Q',V,K,F',by rw[aZ (by omega) (by omega)];omega,rfl,by omega,hs.drop 1,hQ,hF,?_⟩
   .omega
   .rw[hS,show g.n.toNat*65536+1-hd=(g.n.toNat*65536+1-(hd+1))+1 by omega,AL hq,<-hfold]
 .have Si:fU g i=F.map Prod.fst:=by rw[hS,C8 (Yl (by omega))]
  have ie:=hF.len;rw[Yc] at ie;refine⟨hs.ext,al,F,rfl,Si.symm,RL.wM hs 1 rfl (by omega) (by omega),fun f hf=>?_,by rw[Si];exact hF,hs.sub (.cons _ (.cons_cons _ (.cons _ (.cons _ (.cons _ (List.sublist_append_right _ _))))))⟩;have hm:cJ f∈eF h.size aA.size Mm.size g qu al V K F MS:=by
   unfold eF;simp only[Yr,Yk]
   right;right;right;right;right;right
   exact Yp.2 ⟨f,hf,rfl⟩
  obtain⟨k,hk⟩:=Yf.1 hm;exact RL.wM hs k hk (by omega) (by have:=hF.pl f.1 (Yp.2 ⟨f,hf,rfl⟩);omega)
def kD(x:Ms):List Ms->List Ms
 | []=>[x]
 | y::r=>if dP y x then y::kD x r else x::y::r
def pN(l:List Ms):List Ms:=l.foldr kD []
theorem yU{x y z:Ms}(h1:dP x y)(h2:dP y z):dP x z:=by unfold dP at *;omega
theorem DJ(x:Ms):¬dP x x:=by unfold dP;omega
theorem tZ{x y:Ms}(h:x≠y)(h1:¬dP y x):dP x y:=by
 obtain⟨a,b⟩:=x;obtain⟨a',b'⟩:=y;unfold dP at *;simp only[ne_eq,Ms.mk.injEq] at h;simp only at *;omega
theorem lG(x z:Ms):∀l:List Ms,z∈kD x l ↔ z=x\/z∈l
 | []=>by simp[kD]
 | y::r=>by
  unfold kD;split
  .rw[Yr,lG x z r,Yr];constructor
   .rintro (h | h | h)
    .exact .inr (.inl h)
    .exact .inl h
    .exact .inr (.inr h)
   .rintro (h | h | h)
    .exact .inr (.inl h)
    .exact .inl h
    .exact .inr (.inr h)
  .simp
theorem kC{x:Ms}:∀ {l:List Ms},l.Pairwise dP->(∀y∈l,y≠x)->(kD x l).Pairwise dP
 | [],_,_=>by simp[kD]
 | y::r,hl,hx=>by
  obtain⟨h1,h2⟩:=List.pairwise_cons.1 hl;unfold kD;by_cases h:dP y x
  .rw[if_pos h,List.pairwise_cons];refine⟨fun z hz=>?_,kC h2 fun z hz=>hx z (Yn _ hz)⟩;rcases (lG x z r).1 hz with rfl | hz
   .exact h
   .exact h1 z hz
  .rw[if_neg h,List.pairwise_cons];have h3:dP x y:=tZ (fun e=>hx y (by simp) e.symm) h;refine⟨fun z hz=>?_,hl⟩;rcases Yr.1 hz with rfl | hz
   .exact h3
   .exact yU h3 (h1 z hz)
theorem lr(l:List Ms)(z:Ms):z∈pN l ↔ z∈l:=by
 induction l with
 | nil=>simp[pN]
 | cons a l ih=>
  show z∈kD a (pN l) ↔ _;rw[lG,ih,Yr]
theorem kh:∀ {l:List Ms},l.Nodup->(pN l).Pairwise dP
 | [],_=>.nil
 | a::l,h=>by
  obtain⟨h1,h2⟩:=List.nodup_cons.1 h;exact kC (kh h2) fun y hy e=>h1 (by rw[<-e];exact (lr l y).1 hy)
theorem CT{l l':List Ms}(hp:l'.Perm l)(hw:l'.Pairwise fun a b=>¬dP b a)(hd:l.Nodup):l'=pN l:=by
 refine eY (R:=dP) DJ (fun a b c=>yU) _ _ ?_ (kh hd) fun x=>by rw[lr];exact hp.mem_iff
 exact (hw.and (hp.nodup_iff.2 hd)).imp fun ⟨h1,h2⟩=>tZ h2 h1
def dU(g:Gl)(i:Nat):List Ms:=pN ((fU g i).map (·.m))
def eW(g:Gl)(i:Nat)(m:Ms):List Ac:=((fU g i).find? fun f=>decide (f.m=m)).elim [] (·.path)
theorem Fg(g:Gl)(i:Nat)(x0:Ed)(h:Heap)(hg:GI h g)(hx:Gm h)(hV:ae g)(hi:g.es[i]?=some x0):
  Fn Pz 31 #[g.v,.int .i64 (i:Nat)] h fun v h'=>Ext h h'/\∃s:Sl,v=.tuple ⟨[.slice s.a s.n s.c,.int .i64 0]⟩/\St h h' [.sl s 72 2 ((dU g i).map Ms.cs)]/\(dU g i).length<=400:=by
 apply Xm (bs g.nm) g.hr g.hd g.n g.s g.e g.he g.ht (i:Nat);unfold W31;have hM:=hV.num.m;refine (St.refl h).aq fun h9 hs=>?_;refine⟨_,_,_,_,_,_,_,_,hs.at 0 rfl (n:=8) rfl,?_⟩;refine (pO g i x0 h9 (hg.ext hs.ext) (hx.ext hs.ext) hV hi).mono ?_;rintro _ mn ⟨E,s,F,rfl,hF,hr,_,hI,_⟩;have E21:=(hs.step E).ext;have VX:=hI.len;have ZG:F.length=(fU g i).length:=by rw[<-hF,Yc]
 have jU:=hr.ln;refine⟨s,0,rfl,?_⟩;have hs:=(St.refl mn).cN 72 2;refine⟨fun out x h' μ=>∃j:Nat,x=j/\μ=s.n-j/\j<=s.n/\St mn h' [.sl out 72 2 (((F.take j).map (·.1.m)).map Ms.cs)],⟨_,0,rfl,rfl,Nat.zero_le _,hs⟩,?_⟩;clear hs;rintro-out _ IP μ ⟨j,rfl,rfl,hj,hs⟩;have RR:=hs.len 0 (s:=out) (e:=72) (n:=2) rfl (by omega);rw[Yc,Yc,Yu] at RR;refine aQ (fun c=>?_) (fun c=>?_)
 .refine (hr.ext hs.ext).rw.aF (by omega) (by omega) fun b28 o29 f gf t=>?_;replace gf:F[j]?=some f:=gf;refine⟨f.1.m.p,f.1.m.l,f.2,t,?_⟩;refine hs.ai (vs:=qy f) rfl rfl fun mm hs=>?_;refine⟨f.1.m.p,f.1.m.l,hs.at 0 rfl (o:=0) (n:=2) rfl,?_⟩;refine hs.app 1 rfl Ny (m:=1) [f.1.m.cs] rfl rfl (fun r hr=>by rw[Ye] at hr;rw[hr];rfl) rfl (by omega) (by simp only[maxLen];omega) fun s38 Cu n38 hs=>?_;refine⟨_,by omega,j+1,by rw[aZ (by omega) (by omega)];omega,rfl,by omega,?_⟩;rw[aj gf,Ym,Ym];exact hs.drop 1
 .rw[Yj (by omega)] at hs;have Bw:F.map (·.1.m)=(fU g i).map (·.m):=by rw[<-hF,List.map_map];rfl
  rw[Bw] at hs;have hlm:((fU g i).map (·.m)).length<=400:=by rw[Yc];omega
  refine (Hw hs 0 rfl (by omega)).mono ?_;rintro _ xA ⟨rfl,l',hp,hw,hs⟩;have k6:l'=dU g i:=CT hp hw hI.nd;refine⟨rfl,E21.trans hs.ext,out,rfl,?_⟩;rw[<-k6];exact⟨((St.refl h).step E21).join hs,by rw[hp.length_eq];exact hlm⟩
theorem yr(g:Gl)(i:Nat)(x0:Ed)(m:Ms)(h:Heap)(hg:GI h g)(hx:Gm h)(hV:ae g)(hi:g.es[i]?=some x0)(hm:m∈dU g i):
  Fn Pz 32 #[g.v,.int .i64 (i:Nat),.agg ⟨m.cs⟩] h fun v h'=>Ext h h'/\∃s:Sl,v=.tuple ⟨[.slice s.a s.n s.c,.int .i64 0]⟩/\St h h' [.sl s 65 3 ((eW g i m).map Ac.cs)]/\(eW g i m).length<=1000000:=by
 apply Xl (bs g.nm) g.hr g.hd g.n g.s g.e g.he g.ht (i:Nat) m.p m.l;unfold W32;have hM:=hV.num.m;refine (St.refl h).aq fun xG hs=>?_;refine hs.aq fun SN hs=>?_;refine⟨_,_,_,_,_,_,_,_,hs.at 1 rfl (n:=8) rfl,?_⟩;refine (pO g i x0 SN (hg.ext hs.ext) (hx.ext hs.ext) hV hi).mono ?_;rintro _ EI ⟨E,s,F,rfl,hF,hr,hp,hI,Cn⟩;have Kb:=hs;replace hs:=hs.step E;have VX:=hI.len;have ZG:F.length=(fU g i).length:=by rw[<-hF,Yc]
 have jU:=hr.ln;refine⟨s,0,rfl,iC (fun c=>absurd rfl c) (fun _=>?_)⟩;refine (uw 72 Ng F m xG.size s EI hr.rw (hs.at 0 rfl (o:=0) (n:=2) rfl) (by omega) fun q h hc=>HC q m xG.size h hc).mono ?_;rintro _ IP ⟨rfl,E2⟩;refine⟨_,rfl,?_⟩;have dQ:∃f∈F,f.1.m=m:=by
  have h1:=(lr _ _).1 hm;rw[<-hF] at h1;obtain⟨f,h2,h3⟩:=Yp.1 h1;obtain⟨q,h4,rfl⟩:=Yp.1 h2;exact⟨q,h4,h3⟩
 unfold rC;cases hf:F.findIdx? fun q=>decide (q.1.m=m) with
 | none=>
  rw[List.findIdx?_eq_none_iff] at hf;obtain⟨f,h1,h2⟩:=dQ;have:=hf f h1;rw[decide_eq_true h2] at this;cases this
 | some k=>
  obtain⟨h1,h2,_⟩:=List.findIdx?_eq_some_iff_getElem.1 hf;simp only;refine aQ (fun c=>by omega) (fun _=>?_);refine (hr.ext E2).rw.aF (by omega) (by omega) fun b28 o29 f gf t=>?_;replace gf:F[k]?=some f:=gf;have VR:f.1.m=m:=by
   rw[Yi h1] at gf;rw[<-eU gf];exact bM h2
  have Zf:=Yb gf;have hpe:eW g i m=f.1.path:=by
   have jY:f.1∈fU g i:=by rw[<-hF];exact Yp.2 ⟨f,Zf,rfl⟩
   unfold eW;cases hq:(fU g i).find? fun f=>decide (f.m=m) with
   | none=>have:=List.find?_eq_none.1 hq f.1 jY;rw[decide_eq_true VR] at this;exact absurd rfl this
   | some f'=>
    have h3:=List.mem_of_find?_eq_some hq;have h4:f'.m=m:=by have:=List.find?_some hq;exact bM this
    show f'.path=f.1.path;obtain⟨a,ha⟩:=Yf.1 h3;obtain⟨b,hb⟩:=Yf.1 jY;have h5:((fU g i).map (·.m))[a]?=some m:=by rw[Yd,ha,<-h4];rfl
    have h6:((fU g i).map (·.m))[b]?=some m:=by rw[Yd,hb,<-VR];rfl
    have h7:=kv hI.nd h5 h6;subst h7;rw[ha] at hb;cases hb;rfl
  refine⟨f.2,t.nth 2 rfl,(hs.ext.trans E2),f.2,rfl,?_⟩;rw[hpe];refine⟨(Kb.sub (List.nil_sublist _)).join ((Cn.step E2).sub (List.singleton_sublist.2 (Yn _ (Yp.2 ⟨f,Zf,rfl⟩)))),hI.pl f.1 (by rw[<-hF];exact Yp.2 ⟨f,Zf,rfl⟩)⟩
noncomputable abbrev de(a:Heap)(g:Gl):It:=.af a.size (ah Pz 102 (Int.toNat g.n)) 102
noncomputable abbrev dd(a:Heap)(g:Gl):It:=.af a.size (ah Pz 192 (Int.toNat g.n)) 192
noncomputable abbrev dc(a:Heap)(g:Gl):It:=.af a.size (ah Pz 4 (Int.toNat g.n)) 4
noncomputable abbrev cZ(a:Heap)(g:Gl):It:=.af a.size (ah Pz 4 (Int.toNat g.n)) 4
noncomputable abbrev cY(a:Heap)(g:Gl):It:=.af a.size (ah Pz 274 (Int.toNat g.n)) 274
def aD(g:Gl)(role:Int)(h:Heap)(R:Value->Heap->Prop):Prop:=∀hF a b c d e:Heap,St h hF [de a g,dd b g,dc c g,cZ d g,cY e g,.af h.size g.cs 27]->xY hF (bs g.nm) g.hr g.hd g.n g.s g.e g.he g.ht role a g.n b g.n c g.n d g.n e g.n h R
theorem q9{g:Gl}{role:Int}{h sU aA bx fA qs:Heap}{R:Value->Heap->Prop}(hT:aD g role h R)(hn:1<=g.n/\g.n<=200)(hs:St h sU [de aA g,dd bx g,dc fA g,cZ qs g,.af h.size g.cs 27]):Ca g.n sU h (bs g.nm) g.hr g.hd g.n g.s g.e g.he g.ht role aA g.n bx g.n fA g.n qs g.n R:=by
 unfold Ca;refine⟨⟨by omega,by omega,by omega⟩,hs.ak fun Cu E hs=>⟨E.sm,?_⟩⟩;have hs:=hs.perm (List.perm_middle (l₁:=[_,_,_,_])).symm;exact hT _ _ _ _ _ _ hs
theorem wQ{g:Gl}{role:Int}{h qs aA bx fA:Heap}{R:Value->Heap->Prop}(hT:aD g role h R)(hn:1<=g.n/\g.n<=200)(hs:St h qs [de aA g,dd bx g,dc fA g,.af h.size g.cs 27]):F4 g.n qs h g.n (bs g.nm) g.hr g.hd g.n g.s g.e g.he g.ht role aA g.n bx g.n fA g.n R:=by
 unfold F4;refine⟨⟨by omega,by omega,by omega⟩,hs.ak fun sU E hs=>⟨E.sm,?_⟩⟩;have hs:=hs.perm (List.perm_middle (l₁:=[_,_,_])).symm;exact q9 hT hn hs
theorem ri{g:Gl}{role:Int}{h xC aA bx fA qs:Heap}{R:Value->Heap->Prop}(hT:aD g role h R)(hn:1<=g.n/\g.n<=200)(hs:St h xC [de aA g,dd bx g,dc fA g,cY qs g,.af h.size g.cs 27]):Cc g.n xC h (bs g.nm) g.hr g.hd g.n g.s g.e g.he g.ht role aA g.n bx g.n fA g.n qs g.n R:=by
 unfold Cc;refine⟨⟨by omega,by omega,by omega⟩,hs.ak fun ZV E hs=>⟨E.sm,?_⟩⟩;have hs:=hs.perm (List.perm_middle (l₁:=[_,_,_])).symm;exact hT _ _ _ _ _ _ hs
theorem wU{g:Gl}{role:Int}{h qs aA bx fA:Heap}{R:Value->Heap->Prop}(hT:aD g role h R)(hn:1<=g.n/\g.n<=200)(hs:St h qs [de aA g,dd bx g,dc fA g,.af h.size g.cs 27]):F8 g.n qs h g.n (bs g.nm) g.hr g.hd g.n g.s g.e g.he g.ht role aA g.n bx g.n fA g.n R:=by
 unfold F8;refine⟨⟨by omega,by omega,by omega⟩,hs.ak fun xC E hs=>⟨E.sm,?_⟩⟩;have hs:=hs.perm (List.perm_middle (l₁:=[_,_,_])).symm;exact ri hT hn hs
theorem tT{g:Gl}{role:Int}{h fA aA bx:Heap}{R:Value->Heap->Prop}(hT:aD g role h R)(hn:1<=g.n/\g.n<=200)(hs:St h fA [de aA g,dd bx g,.af h.size g.cs 27]):sv g.n fA h g.n g.n (bs g.nm) g.hr g.hd g.n g.s g.e g.he g.ht role aA g.n bx g.n R:=by
 unfold sv;refine⟨⟨by omega,by omega,by omega⟩,hs.ak fun qs E hs=>⟨E.sm,?_⟩⟩;have hs:=hs.perm (List.perm_middle (l₁:=[_,_])).symm;exact⟨wQ hT hn hs,wU hT hn hs⟩
theorem wT{g:Gl}{role:Int}{h rN aA bx fA:Heap}{R:Value->Heap->Prop}(hT:aD g role h R)(hn:1<=g.n/\g.n<=200)(hs:St h rN [de aA g,dd bx g,cZ fA g,.af h.size g.cs 27]):F7 g.n rN h g.n (bs g.nm) g.hr g.hd g.n g.s g.e g.he g.ht role aA g.n bx g.n fA g.n R:=by
 unfold F7;refine⟨⟨by omega,by omega,by omega⟩,hs.ak fun acn E hs=>⟨E.sm,?_⟩⟩;have hs:=hs.perm (List.perm_middle (l₁:=[_,_])).symm;exact q9 hT hn hs
theorem rh{g:Gl}{role:Int}{h Mq aA bx fA rN:Heap}{R:Value->Heap->Prop}(hT:aD g role h R)(hn:1<=g.n/\g.n<=200)(hs:St h Mq [de aA g,dd bx g,cZ fA g,cY rN g,.af h.size g.cs 27]):Cb g.n Mq h (bs g.nm) g.hr g.hd g.n g.s g.e g.he g.ht role aA g.n bx g.n fA g.n rN g.n R:=by
 unfold Cb;refine⟨⟨by omega,by omega,by omega⟩,hs.ak fun acm E hs=>⟨E.sm,?_⟩⟩;have hs:=hs.perm (List.perm_middle (l₁:=[_,_])).symm;exact hT _ _ _ _ _ _ hs
theorem wY{g:Gl}{role:Int}{h rN aA bx fA:Heap}{R:Value->Heap->Prop}(hT:aD g role h R)(hn:1<=g.n/\g.n<=200)(hs:St h rN [de aA g,dd bx g,cZ fA g,.af h.size g.cs 27]):Gc g.n rN h g.n (bs g.nm) g.hr g.hd g.n g.s g.e g.he g.ht role aA g.n bx g.n fA g.n R:=by
 unfold Gc;refine⟨⟨by omega,by omega,by omega⟩,hs.ak fun Mq E hs=>⟨E.sm,?_⟩⟩;have hs:=hs.perm (List.perm_middle (l₁:=[_,_,_])).symm;exact rh hT hn hs
theorem tU{g:Gl}{role:Int}{h fA aA bx:Heap}{R:Value->Heap->Prop}(hT:aD g role h R)(hn:1<=g.n/\g.n<=200)(hs:St h fA [de aA g,dd bx g,.af h.size g.cs 27]):sw g.n fA h g.n g.n (bs g.nm) g.hr g.hd g.n g.s g.e g.he g.ht role aA g.n bx g.n R:=by
 unfold sw;refine⟨⟨by omega,by omega,by omega⟩,hs.ak fun rN E hs=>⟨E.sm,?_⟩⟩;have hs:=hs.perm (List.perm_middle (l₁:=[_,_])).symm;exact⟨wT hT hn hs,wY hT hn hs⟩
theorem wS{g:Gl}{role:Int}{h BE aA bx fA:Heap}{R:Value->Heap->Prop}(hT:aD g role h R)(hn:1<=g.n/\g.n<=200)(hs:St h BE [de aA g,dd bx g,cY fA g,.af h.size g.cs 27]):F6 g.n BE h g.n (bs g.nm) g.hr g.hd g.n g.s g.e g.he g.ht role aA g.n bx g.n fA g.n R:=by
 unfold F6;refine⟨⟨by omega,by omega,by omega⟩,hs.ak fun ack E hs=>⟨E.sm,?_⟩⟩;have hs:=hs.perm (List.perm_middle (l₁:=[_,_])).symm;exact ri hT hn hs
theorem wR{g:Gl}{role:Int}{h BE aA bx fA:Heap}{R:Value->Heap->Prop}(hT:aD g role h R)(hn:1<=g.n/\g.n<=200)(hs:St h BE [de aA g,dd bx g,cY fA g,.af h.size g.cs 27]):F5 g.n BE h g.n (bs g.nm) g.hr g.hd g.n g.s g.e g.he g.ht role aA g.n bx g.n fA g.n R:=by
 unfold F5;refine⟨⟨by omega,by omega,by omega⟩,hs.ak fun aci E hs=>⟨E.sm,?_⟩⟩;have hs:=hs.perm (List.perm_middle (l₁:=[_,_])).symm;exact rh hT hn hs
theorem yw{g:Gl}{role:Int}{h fA aA bx:Heap}{R:Value->Heap->Prop}(hT:aD g role h R)(hn:1<=g.n/\g.n<=200)(hs:St h fA [de aA g,dd bx g,.af h.size g.cs 27]):zP g.n fA h g.n g.n (bs g.nm) g.hr g.hd g.n g.s g.e g.he g.ht role aA g.n bx g.n R:=by
 unfold zP;refine⟨⟨by omega,by omega,by omega⟩,hs.ak fun BE E hs=>⟨E.sm,?_⟩⟩;have hs:=hs.perm (List.perm_middle (l₁:=[_,_])).symm;exact⟨wS hT hn hs,wR hT hn hs⟩
theorem yy{g:Gl}{role:Int}{h dX aA bx:Heap}{R:Value->Heap->Prop}(hT:aD g role h R)(hn:1<=g.n/\g.n<=200)(hs:St h dX [de aA g,dc bx g,.af h.size g.cs 27]):zR g.n dX h g.n g.n (bs g.nm) g.hr g.hd g.n g.s g.e g.he g.ht role aA g.n bx g.n R:=by
 unfold zR;refine⟨⟨by omega,by omega,by omega⟩,hs.ak fun ach E hs=>⟨E.sm,?_⟩⟩;have hs:=hs.perm (List.perm_middle (l₁:=[_])).symm;exact⟨wQ hT hn hs,wU hT hn hs⟩
theorem xc{g:Gl}{role:Int}{h kM aA bx dX:Heap}{R:Value->Heap->Prop}(hT:aD g role h R)(hn:1<=g.n/\g.n<=200)(hs:St h kM [de aA g,dc bx g,cZ dX g,.af h.size g.cs 27]):Gq g.n kM h g.n (bs g.nm) g.hr g.hd g.n g.s g.e g.he g.ht role aA g.n bx g.n dX g.n R:=by
 unfold Gq;refine⟨⟨by omega,by omega,by omega⟩,hs.ak fun abl E hs=>⟨E.sm,?_⟩⟩;have hs:=hs.perm (List.perm_middle (l₁:=[_])).symm;exact q9 hT hn hs
theorem rk{g:Gl}{role:Int}{h EM aA bx dX kM:Heap}{R:Value->Heap->Prop}(hT:aD g role h R)(hn:1<=g.n/\g.n<=200)(hs:St h EM [de aA g,dc bx g,cZ dX g,cY kM g,.af h.size g.cs 27]):Ce g.n EM h (bs g.nm) g.hr g.hd g.n g.s g.e g.he g.ht role aA g.n bx g.n dX g.n kM g.n R:=by
 unfold Ce;refine⟨⟨by omega,by omega,by omega⟩,hs.ak fun abk E hs=>⟨E.sm,?_⟩⟩;have hs:=hs.perm (List.perm_middle (l₁:=[_])).symm;exact hT _ _ _ _ _ _ hs
theorem xb{g:Gl}{role:Int}{h kM aA bx dX:Heap}{R:Value->Heap->Prop}(hT:aD g role h R)(hn:1<=g.n/\g.n<=200)(hs:St h kM [de aA g,dc bx g,cZ dX g,.af h.size g.cs 27]):Gp g.n kM h g.n (bs g.nm) g.hr g.hd g.n g.s g.e g.he g.ht role aA g.n bx g.n dX g.n R:=by
 unfold Gp;refine⟨⟨by omega,by omega,by omega⟩,hs.ak fun EM E hs=>⟨E.sm,?_⟩⟩;have hs:=hs.perm (List.perm_middle (l₁:=[_,_,_])).symm;exact rk hT hn hs
theorem yx{g:Gl}{role:Int}{h dX aA bx:Heap}{R:Value->Heap->Prop}(hT:aD g role h R)(hn:1<=g.n/\g.n<=200)(hs:St h dX [de aA g,dc bx g,.af h.size g.cs 27]):zQ g.n dX h g.n g.n (bs g.nm) g.hr g.hd g.n g.s g.e g.he g.ht role aA g.n bx g.n R:=by
 unfold zQ;refine⟨⟨by omega,by omega,by omega⟩,hs.ak fun kM E hs=>⟨E.sm,?_⟩⟩;have hs:=hs.perm (List.perm_middle (l₁:=[_,_])).symm;exact⟨xc hT hn hs,xb hT hn hs⟩
theorem xa{g:Gl}{role:Int}{h qw aA bx dX:Heap}{R:Value->Heap->Prop}(hT:aD g role h R)(hn:1<=g.n/\g.n<=200)(hs:St h qw [de aA g,dc bx g,cY dX g,.af h.size g.cs 27]):Gn g.n qw h g.n (bs g.nm) g.hr g.hd g.n g.s g.e g.he g.ht role aA g.n bx g.n dX g.n R:=by
 unfold Gn;refine⟨⟨by omega,by omega,by omega⟩,hs.ak fun abj E hs=>⟨E.sm,?_⟩⟩;have hs:=hs.perm (List.perm_middle (l₁:=[_])).symm;exact ri hT hn hs
theorem wZ{g:Gl}{role:Int}{h qw aA bx dX:Heap}{R:Value->Heap->Prop}(hT:aD g role h R)(hn:1<=g.n/\g.n<=200)(hs:St h qw [de aA g,dc bx g,cY dX g,.af h.size g.cs 27]):Gd g.n qw h g.n (bs g.nm) g.hr g.hd g.n g.s g.e g.he g.ht role aA g.n bx g.n dX g.n R:=by
 unfold Gd;refine⟨⟨by omega,by omega,by omega⟩,hs.ak fun abi E hs=>⟨E.sm,?_⟩⟩;have hs:=hs.perm (List.perm_middle (l₁:=[_,_])).symm;exact rk hT hn hs
theorem yN{g:Gl}{role:Int}{h dX aA bx:Heap}{R:Value->Heap->Prop}(hT:aD g role h R)(hn:1<=g.n/\g.n<=200)(hs:St h dX [de aA g,dc bx g,.af h.size g.cs 27]):Af g.n dX h g.n g.n (bs g.nm) g.hr g.hd g.n g.s g.e g.he g.ht role aA g.n bx g.n R:=by
 unfold Af;refine⟨⟨by omega,by omega,by omega⟩,hs.ak fun qw E hs=>⟨E.sm,?_⟩⟩;have hs:=hs.perm (List.perm_middle (l₁:=[_,_])).symm;exact⟨xa hT hn hs,wZ hT hn hs⟩
theorem yQ{g:Gl}{role:Int}{h eN aA bx:Heap}{R:Value->Heap->Prop}(hT:aD g role h R)(hn:1<=g.n/\g.n<=200)(hs:St h eN [de aA g,cZ bx g,.af h.size g.cs 27]):Ai g.n eN h g.n g.n (bs g.nm) g.hr g.hd g.n g.s g.e g.he g.ht role aA g.n bx g.n R:=by
 unfold Ai;refine⟨⟨by omega,by omega,by omega⟩,hs.ak fun abh E hs=>⟨E.sm,?_⟩⟩;have hs:=hs.perm (List.perm_middle (l₁:=[_])).symm;exact⟨wT hT hn hs,wY hT hn hs⟩
theorem yB{g:Gl}{role:Int}{h eN aA bx:Heap}{R:Value->Heap->Prop}(hT:aD g role h R)(hn:1<=g.n/\g.n<=200)(hs:St h eN [de aA g,cZ bx g,.af h.size g.cs 27]):zU g.n eN h g.n g.n (bs g.nm) g.hr g.hd g.n g.s g.e g.he g.ht role aA g.n bx g.n R:=by
 unfold zU;refine⟨⟨by omega,by omega,by omega⟩,hs.ak fun abg E hs=>⟨E.sm,?_⟩⟩;have hs:=hs.perm (List.perm_middle (l₁:=[_])).symm;exact⟨xc hT hn hs,xb hT hn hs⟩
theorem w9{g:Gl}{role:Int}{h qv aA bx eN:Heap}{R:Value->Heap->Prop}(hT:aD g role h R)(hn:1<=g.n/\g.n<=200)(hs:St h qv [de aA g,cZ bx g,cY eN g,.af h.size g.cs 27]):Gk g.n qv h g.n (bs g.nm) g.hr g.hd g.n g.s g.e g.he g.ht role aA g.n bx g.n eN g.n R:=by
 unfold Gk;refine⟨⟨by omega,by omega,by omega⟩,hs.ak fun abf E hs=>⟨E.sm,?_⟩⟩;have hs:=hs.perm (List.perm_middle (l₁:=[_])).symm;exact rh hT hn hs
theorem wX{g:Gl}{role:Int}{h qv aA bx eN:Heap}{R:Value->Heap->Prop}(hT:aD g role h R)(hn:1<=g.n/\g.n<=200)(hs:St h qv [de aA g,cZ bx g,cY eN g,.af h.size g.cs 27]):Gb g.n qv h g.n (bs g.nm) g.hr g.hd g.n g.s g.e g.he g.ht role aA g.n bx g.n eN g.n R:=by
 unfold Gb;refine⟨⟨by omega,by omega,by omega⟩,hs.ak fun abe E hs=>⟨E.sm,?_⟩⟩;have hs:=hs.perm (List.perm_middle (l₁:=[_])).symm;exact rk hT hn hs
theorem yP{g:Gl}{role:Int}{h eN aA bx:Heap}{R:Value->Heap->Prop}(hT:aD g role h R)(hn:1<=g.n/\g.n<=200)(hs:St h eN [de aA g,cZ bx g,.af h.size g.cs 27]):Ah g.n eN h g.n g.n (bs g.nm) g.hr g.hd g.n g.s g.e g.he g.ht role aA g.n bx g.n R:=by
 unfold Ah;refine⟨⟨by omega,by omega,by omega⟩,hs.ak fun qv E hs=>⟨E.sm,?_⟩⟩;have hs:=hs.perm (List.perm_middle (l₁:=[_,_])).symm;exact⟨w9 hT hn hs,wX hT hn hs⟩
theorem yO{g:Gl}{role:Int}{h kL aA bx:Heap}{R:Value->Heap->Prop}(hT:aD g role h R)(hn:1<=g.n/\g.n<=200)(hs:St h kL [de aA g,cY bx g,.af h.size g.cs 27]):Ag g.n kL h g.n g.n (bs g.nm) g.hr g.hd g.n g.s g.e g.he g.ht role aA g.n bx g.n R:=by
 unfold Ag;refine⟨⟨by omega,by omega,by omega⟩,hs.ak fun abd E hs=>⟨E.sm,?_⟩⟩;have hs:=hs.perm (List.perm_middle (l₁:=[_])).symm;exact⟨wS hT hn hs,wR hT hn hs⟩
theorem yA{g:Gl}{role:Int}{h kL aA bx:Heap}{R:Value->Heap->Prop}(hT:aD g role h R)(hn:1<=g.n/\g.n<=200)(hs:St h kL [de aA g,cY bx g,.af h.size g.cs 27]):zT g.n kL h g.n g.n (bs g.nm) g.hr g.hd g.n g.s g.e g.he g.ht role aA g.n bx g.n R:=by
 unfold zT;refine⟨⟨by omega,by omega,by omega⟩,hs.ak fun abc E hs=>⟨E.sm,?_⟩⟩;have hs:=hs.perm (List.perm_middle (l₁:=[_])).symm;exact⟨xa hT hn hs,wZ hT hn hs⟩
theorem yz{g:Gl}{role:Int}{h kL aA bx:Heap}{R:Value->Heap->Prop}(hT:aD g role h R)(hn:1<=g.n/\g.n<=200)(hs:St h kL [de aA g,cY bx g,.af h.size g.cs 27]):zS g.n kL h g.n g.n (bs g.nm) g.hr g.hd g.n g.s g.e g.he g.ht role aA g.n bx g.n R:=by
 unfold zS;refine⟨⟨by omega,by omega,by omega⟩,hs.ak fun abb E hs=>⟨E.sm,?_⟩⟩;have hs:=hs.perm (List.perm_middle (l₁:=[_])).symm;exact⟨w9 hT hn hs,wX hT hn hs⟩
theorem yL{g:Gl}{role:Int}{h cd aA aP:Heap}{R:Value->Heap->Prop}(hT:aD g role h R)(hn:1<=g.n/\g.n<=200)(hs:St h cd [dd aA g,dc aP g,.af h.size g.cs 27]):Ad g.n cd h g.n g.n (bs g.nm) g.hr g.hd g.n g.s g.e g.he g.ht role aA g.n aP g.n R:=by
 unfold Ad;refine⟨⟨by omega,by omega,by omega⟩,hs.ak fun aaZ E hs=>⟨E.sm,?_⟩⟩;exact⟨wQ hT hn hs,wU hT hn hs⟩
theorem w8{g:Gl}{role:Int}{h kK aA aP cd:Heap}{R:Value->Heap->Prop}(hT:aD g role h R)(hn:1<=g.n/\g.n<=200)(hs:St h kK [dd aA g,dc aP g,cZ cd g,.af h.size g.cs 27]):Gj g.n kK h g.n (bs g.nm) g.hr g.hd g.n g.s g.e g.he g.ht role aA g.n aP g.n cd g.n R:=by
 unfold Gj;refine⟨⟨by omega,by omega,by omega⟩,hs.ak fun aaY E hs=>⟨E.sm,?_⟩⟩;exact q9 hT hn hs
theorem rj{g:Gl}{role:Int}{h EG aA aP cd kK:Heap}{R:Value->Heap->Prop}(hT:aD g role h R)(hn:1<=g.n/\g.n<=200)(hs:St h EG [dd aA g,dc aP g,cZ cd g,cY kK g,.af h.size g.cs 27]):Cd g.n EG h (bs g.nm) g.hr g.hd g.n g.s g.e g.he g.ht role aA g.n aP g.n cd g.n kK g.n R:=by
 unfold Cd;refine⟨⟨by omega,by omega,by omega⟩,hs.ak fun aaX E hs=>⟨E.sm,?_⟩⟩;exact hT _ _ _ _ _ _ hs
theorem w7{g:Gl}{role:Int}{h kK aA aP cd:Heap}{R:Value->Heap->Prop}(hT:aD g role h R)(hn:1<=g.n/\g.n<=200)(hs:St h kK [dd aA g,dc aP g,cZ cd g,.af h.size g.cs 27]):Gi g.n kK h g.n (bs g.nm) g.hr g.hd g.n g.s g.e g.he g.ht role aA g.n aP g.n cd g.n R:=by
 unfold Gi;refine⟨⟨by omega,by omega,by omega⟩,hs.ak fun EG E hs=>⟨E.sm,?_⟩⟩;have hs:=hs.perm (List.perm_middle (l₁:=[_,_,_])).symm;exact rj hT hn hs
theorem yv{g:Gl}{role:Int}{h cd aA aP:Heap}{R:Value->Heap->Prop}(hT:aD g role h R)(hn:1<=g.n/\g.n<=200)(hs:St h cd [dd aA g,dc aP g,.af h.size g.cs 27]):zO g.n cd h g.n g.n (bs g.nm) g.hr g.hd g.n g.s g.e g.he g.ht role aA g.n aP g.n R:=by
 unfold zO;refine⟨⟨by omega,by omega,by omega⟩,hs.ak fun kK E hs=>⟨E.sm,?_⟩⟩;have hs:=hs.perm (List.perm_middle (l₁:=[_,_])).symm;exact⟨w8 hT hn hs,w7 hT hn hs⟩
theorem w6{g:Gl}{role:Int}{h qq aA aP cd:Heap}{R:Value->Heap->Prop}(hT:aD g role h R)(hn:1<=g.n/\g.n<=200)(hs:St h qq [dd aA g,dc aP g,cY cd g,.af h.size g.cs 27]):Gh g.n qq h g.n (bs g.nm) g.hr g.hd g.n g.s g.e g.he g.ht role aA g.n aP g.n cd g.n R:=by
 unfold Gh;refine⟨⟨by omega,by omega,by omega⟩,hs.ak fun aaW E hs=>⟨E.sm,?_⟩⟩;exact ri hT hn hs
theorem wW{g:Gl}{role:Int}{h qq aA aP cd:Heap}{R:Value->Heap->Prop}(hT:aD g role h R)(hn:1<=g.n/\g.n<=200)(hs:St h qq [dd aA g,dc aP g,cY cd g,.af h.size g.cs 27]):Ga g.n qq h g.n (bs g.nm) g.hr g.hd g.n g.s g.e g.he g.ht role aA g.n aP g.n cd g.n R:=by
 unfold Ga;refine⟨⟨by omega,by omega,by omega⟩,hs.ak fun aaV E hs=>⟨E.sm,?_⟩⟩;have hs:=hs.perm (List.perm_middle (l₁:=[_,_])).symm;exact rj hT hn hs
theorem yK{g:Gl}{role:Int}{h cd aA aP:Heap}{R:Value->Heap->Prop}(hT:aD g role h R)(hn:1<=g.n/\g.n<=200)(hs:St h cd [dd aA g,dc aP g,.af h.size g.cs 27]):Ab g.n cd h g.n g.n (bs g.nm) g.hr g.hd g.n g.s g.e g.he g.ht role aA g.n aP g.n R:=by
 unfold Ab;refine⟨⟨by omega,by omega,by omega⟩,hs.ak fun qq E hs=>⟨E.sm,?_⟩⟩;have hs:=hs.perm (List.perm_middle (l₁:=[_,_])).symm;exact⟨w6 hT hn hs,wW hT hn hs⟩
theorem yJ{g:Gl}{role:Int}{h eM aA aP:Heap}{R:Value->Heap->Prop}(hT:aD g role h R)(hn:1<=g.n/\g.n<=200)(hs:St h eM [dd aA g,cZ aP g,.af h.size g.cs 27]):Aa g.n eM h g.n g.n (bs g.nm) g.hr g.hd g.n g.s g.e g.he g.ht role aA g.n aP g.n R:=by
 unfold Aa;refine⟨⟨by omega,by omega,by omega⟩,hs.ak fun aaU E hs=>⟨E.sm,?_⟩⟩;exact⟨wT hT hn hs,wY hT hn hs⟩
theorem yu{g:Gl}{role:Int}{h eM aA aP:Heap}{R:Value->Heap->Prop}(hT:aD g role h R)(hn:1<=g.n/\g.n<=200)(hs:St h eM [dd aA g,cZ aP g,.af h.size g.cs 27]):zN g.n eM h g.n g.n (bs g.nm) g.hr g.hd g.n g.s g.e g.he g.ht role aA g.n aP g.n R:=by
 unfold zN;refine⟨⟨by omega,by omega,by omega⟩,hs.ak fun aaT E hs=>⟨E.sm,?_⟩⟩;have hs:=hs.perm (List.perm_middle (l₁:=[_])).symm;exact⟨w8 hT hn hs,w7 hT hn hs⟩
theorem w5{g:Gl}{role:Int}{h qp aA aP eM:Heap}{R:Value->Heap->Prop}(hT:aD g role h R)(hn:1<=g.n/\g.n<=200)(hs:St h qp [dd aA g,cZ aP g,cY eM g,.af h.size g.cs 27]):Gg g.n qp h g.n (bs g.nm) g.hr g.hd g.n g.s g.e g.he g.ht role aA g.n aP g.n eM g.n R:=by
 unfold Gg;refine⟨⟨by omega,by omega,by omega⟩,hs.ak fun aaS E hs=>⟨E.sm,?_⟩⟩;exact rh hT hn hs
theorem wV{g:Gl}{role:Int}{h qp aA aP eM:Heap}{R:Value->Heap->Prop}(hT:aD g role h R)(hn:1<=g.n/\g.n<=200)(hs:St h qp [dd aA g,cZ aP g,cY eM g,.af h.size g.cs 27]):F9 g.n qp h g.n (bs g.nm) g.hr g.hd g.n g.s g.e g.he g.ht role aA g.n aP g.n eM g.n R:=by
 unfold F9;refine⟨⟨by omega,by omega,by omega⟩,hs.ak fun aaR E hs=>⟨E.sm,?_⟩⟩;have hs:=hs.perm (List.perm_middle (l₁:=[_])).symm;exact rj hT hn hs
theorem yI{g:Gl}{role:Int}{h eM aA aP:Heap}{R:Value->Heap->Prop}(hT:aD g role h R)(hn:1<=g.n/\g.n<=200)(hs:St h eM [dd aA g,cZ aP g,.af h.size g.cs 27]):z7 g.n eM h g.n g.n (bs g.nm) g.hr g.hd g.n g.s g.e g.he g.ht role aA g.n aP g.n R:=by
 unfold z7;refine⟨⟨by omega,by omega,by omega⟩,hs.ak fun qp E hs=>⟨E.sm,?_⟩⟩;have hs:=hs.perm (List.perm_middle (l₁:=[_,_])).symm;exact⟨w5 hT hn hs,wV hT hn hs⟩
theorem yH{g:Gl}{role:Int}{h kJ aA aP:Heap}{R:Value->Heap->Prop}(hT:aD g role h R)(hn:1<=g.n/\g.n<=200)(hs:St h kJ [dd aA g,cY aP g,.af h.size g.cs 27]):z6 g.n kJ h g.n g.n (bs g.nm) g.hr g.hd g.n g.s g.e g.he g.ht role aA g.n aP g.n R:=by
 unfold z6;refine⟨⟨by omega,by omega,by omega⟩,hs.ak fun aaQ E hs=>⟨E.sm,?_⟩⟩;exact⟨wS hT hn hs,wR hT hn hs⟩
theorem tX{g:Gl}{role:Int}{h kJ aA aP:Heap}{R:Value->Heap->Prop}(hT:aD g role h R)(hn:1<=g.n/\g.n<=200)(hs:St h kJ [dd aA g,cY aP g,.af h.size g.cs 27]):sz g.n kJ h g.n g.n (bs g.nm) g.hr g.hd g.n g.s g.e g.he g.ht role aA g.n aP g.n R:=by
 unfold sz;refine⟨⟨by omega,by omega,by omega⟩,hs.ak fun aaP E hs=>⟨E.sm,?_⟩⟩;have hs:=hs.perm (List.perm_middle (l₁:=[_])).symm;exact⟨w6 hT hn hs,wW hT hn hs⟩
theorem tW{g:Gl}{role:Int}{h kJ aA aP:Heap}{R:Value->Heap->Prop}(hT:aD g role h R)(hn:1<=g.n/\g.n<=200)(hs:St h kJ [dd aA g,cY aP g,.af h.size g.cs 27]):sy g.n kJ h g.n g.n (bs g.nm) g.hr g.hd g.n g.s g.e g.he g.ht role aA g.n aP g.n R:=by
 unfold sy;refine⟨⟨by omega,by omega,by omega⟩,hs.ak fun aaO E hs=>⟨E.sm,?_⟩⟩;have hs:=hs.perm (List.perm_middle (l₁:=[_])).symm;exact⟨w5 hT hn hs,wV hT hn hs⟩
theorem yG{g:Gl}{role:Int}{h eL aA ca:Heap}{R:Value->Heap->Prop}(hT:aD g role h R)(hn:1<=g.n/\g.n<=200)(hs:St h eL [dc aA g,cZ ca g,.af h.size g.cs 27]):zZ g.n eL h g.n g.n (bs g.nm) g.hr g.hd g.n g.s g.e g.he g.ht role aA g.n ca g.n R:=by
 unfold zZ;refine⟨⟨by omega,by omega,by omega⟩,hs.ak fun aaL E hs=>⟨E.sm,?_⟩⟩;exact⟨xc hT hn hs,xb hT hn hs⟩
theorem yF{g:Gl}{role:Int}{h eL aA ca:Heap}{R:Value->Heap->Prop}(hT:aD g role h R)(hn:1<=g.n/\g.n<=200)(hs:St h eL [dc aA g,cZ ca g,.af h.size g.cs 27]):zY g.n eL h g.n g.n (bs g.nm) g.hr g.hd g.n g.s g.e g.he g.ht role aA g.n ca g.n R:=by
 unfold zY;refine⟨⟨by omega,by omega,by omega⟩,hs.ak fun aaK E hs=>⟨E.sm,?_⟩⟩;exact⟨w8 hT hn hs,w7 hT hn hs⟩
theorem w4{g:Gl}{role:Int}{h ql aA ca eL:Heap}{R:Value->Heap->Prop}(hT:aD g role h R)(hn:1<=g.n/\g.n<=200)(hs:St h ql [dc aA g,cZ ca g,cY eL g,.af h.size g.cs 27]):Gf g.n ql h g.n (bs g.nm) g.hr g.hd g.n g.s g.e g.he g.ht role aA g.n ca g.n eL g.n R:=by
 unfold Gf;refine⟨⟨by omega,by omega,by omega⟩,hs.ak fun aaJ E hs=>⟨E.sm,?_⟩⟩;exact rk hT hn hs
theorem w3{g:Gl}{role:Int}{h ql aA ca eL:Heap}{R:Value->Heap->Prop}(hT:aD g role h R)(hn:1<=g.n/\g.n<=200)(hs:St h ql [dc aA g,cZ ca g,cY eL g,.af h.size g.cs 27]):Ge g.n ql h g.n (bs g.nm) g.hr g.hd g.n g.s g.e g.he g.ht role aA g.n ca g.n eL g.n R:=by
 unfold Ge;refine⟨⟨by omega,by omega,by omega⟩,hs.ak fun aaI E hs=>⟨E.sm,?_⟩⟩;exact rj hT hn hs
theorem yE{g:Gl}{role:Int}{h eL aA ca:Heap}{R:Value->Heap->Prop}(hT:aD g role h R)(hn:1<=g.n/\g.n<=200)(hs:St h eL [dc aA g,cZ ca g,.af h.size g.cs 27]):zX g.n eL h g.n g.n (bs g.nm) g.hr g.hd g.n g.s g.e g.he g.ht role aA g.n ca g.n R:=by
 unfold zX;refine⟨⟨by omega,by omega,by omega⟩,hs.ak fun ql E hs=>⟨E.sm,?_⟩⟩;have hs:=hs.perm (List.perm_middle (l₁:=[_,_])).symm;exact⟨w4 hT hn hs,w3 hT hn hs⟩
theorem yD{g:Gl}{role:Int}{h kI aA ca:Heap}{R:Value->Heap->Prop}(hT:aD g role h R)(hn:1<=g.n/\g.n<=200)(hs:St h kI [dc aA g,cY ca g,.af h.size g.cs 27]):zW g.n kI h g.n g.n (bs g.nm) g.hr g.hd g.n g.s g.e g.he g.ht role aA g.n ca g.n R:=by
 unfold zW;refine⟨⟨by omega,by omega,by omega⟩,hs.ak fun aaH E hs=>⟨E.sm,?_⟩⟩;exact⟨xa hT hn hs,wZ hT hn hs⟩
theorem yC{g:Gl}{role:Int}{h kI aA ca:Heap}{R:Value->Heap->Prop}(hT:aD g role h R)(hn:1<=g.n/\g.n<=200)(hs:St h kI [dc aA g,cY ca g,.af h.size g.cs 27]):zV g.n kI h g.n g.n (bs g.nm) g.hr g.hd g.n g.s g.e g.he g.ht role aA g.n ca g.n R:=by
 unfold zV;refine⟨⟨by omega,by omega,by omega⟩,hs.ak fun aaG E hs=>⟨E.sm,?_⟩⟩;exact⟨w6 hT hn hs,wW hT hn hs⟩
theorem tV{g:Gl}{role:Int}{h kI aA ca:Heap}{R:Value->Heap->Prop}(hT:aD g role h R)(hn:1<=g.n/\g.n<=200)(hs:St h kI [dc aA g,cY ca g,.af h.size g.cs 27]):sx g.n kI h g.n g.n (bs g.nm) g.hr g.hd g.n g.s g.e g.he g.ht role aA g.n ca g.n R:=by
 unfold sx;refine⟨⟨by omega,by omega,by omega⟩,hs.ak fun aaF E hs=>⟨E.sm,?_⟩⟩;have hs:=hs.perm (List.perm_middle (l₁:=[_])).symm;exact⟨w4 hT hn hs,w3 hT hn hs⟩
theorem yS{g:Gl}{role:Int}{h fY aA kH:Heap}{R:Value->Heap->Prop}(hT:aD g role h R)(hn:1<=g.n/\g.n<=200)(hs:St h fY [cZ aA g,cY kH g,.af h.size g.cs 27]):Ak g.n fY h g.n g.n (bs g.nm) g.hr g.hd g.n g.s g.e g.he g.ht role aA g.n kH g.n R:=by
 unfold Ak;refine⟨⟨by omega,by omega,by omega⟩,hs.ak fun aab E hs=>⟨E.sm,?_⟩⟩;exact⟨w9 hT hn hs,wX hT hn hs⟩
theorem yR{g:Gl}{role:Int}{h fY aA kH:Heap}{R:Value->Heap->Prop}(hT:aD g role h R)(hn:1<=g.n/\g.n<=200)(hs:St h fY [cZ aA g,cY kH g,.af h.size g.cs 27]):Aj g.n fY h g.n g.n (bs g.nm) g.hr g.hd g.n g.s g.e g.he g.ht role aA g.n kH g.n R:=by
 unfold Aj;refine⟨⟨by omega,by omega,by omega⟩,hs.ak fun aaa E hs=>⟨E.sm,?_⟩⟩;exact⟨w5 hT hn hs,wV hT hn hs⟩
theorem yM{g:Gl}{role:Int}{h fY aA kH:Heap}{R:Value->Heap->Prop}(hT:aD g role h R)(hn:1<=g.n/\g.n<=200)(hs:St h fY [cZ aA g,cY kH g,.af h.size g.cs 27]):Ae g.n fY h g.n g.n (bs g.nm) g.hr g.hd g.n g.s g.e g.he g.ht role aA g.n kH g.n R:=by
 unfold Ae;refine⟨⟨by omega,by omega,by omega⟩,hs.ak fun Z8 E hs=>⟨E.sm,?_⟩⟩;exact⟨w4 hT hn hs,w3 hT hn hs⟩
theorem H2{g:Gl}{role:Int}{h aA:Heap}{R:Value->Heap->Prop}(hT:aD g role h R)(hn:1<=g.n/\g.n<=200)(hs:St h aA [.af h.size g.cs 27]):Gv g.n aA h g.n g.n g.n g.n (bs g.nm) g.hr g.hd g.n g.s g.e g.he g.ht role R:=by
 unfold Gv;refine⟨⟨by omega,by omega,by omega⟩,hs.ak fun bx E hs=>⟨E.sm,?_,?_,?_,?_⟩⟩
 .refine⟨⟨by omega,by omega,by omega⟩,hs.ak fun fA E hs=>⟨E.sm,?_⟩⟩;have hs:=hs.perm (List.perm_middle (l₁:=[_])).symm;exact⟨tT hT hn hs,tU hT hn hs,yw hT hn hs⟩
 .refine⟨⟨by omega,by omega,by omega⟩,hs.ak fun dX E hs=>⟨E.sm,?_⟩⟩;have hs:=hs.perm (List.perm_middle (l₁:=[_])).symm;exact⟨yy hT hn hs,yx hT hn hs,yN hT hn hs⟩
 .refine⟨⟨by omega,by omega,by omega⟩,hs.ak fun eN E hs=>⟨E.sm,?_⟩⟩;have hs:=hs.perm (List.perm_middle (l₁:=[_])).symm;exact⟨yQ hT hn hs,yB hT hn hs,yP hT hn hs⟩
 .refine⟨⟨by omega,by omega,by omega⟩,hs.ak fun kL E hs=>⟨E.sm,?_⟩⟩;have hs:=hs.perm (List.perm_middle (l₁:=[_])).symm;exact⟨yO hT hn hs,yA hT hn hs,yz hT hn hs⟩
theorem HZ{g:Gl}{role:Int}{h aA:Heap}{R:Value->Heap->Prop}(hT:aD g role h R)(hn:1<=g.n/\g.n<=200)(hs:St h aA [.af h.size g.cs 27]):Gu g.n aA h g.n g.n g.n g.n (bs g.nm) g.hr g.hd g.n g.s g.e g.he g.ht role R:=by
 unfold Gu;refine⟨⟨by omega,by omega,by omega⟩,hs.ak fun aP E hs=>⟨E.sm,?_,?_,?_,?_⟩⟩
 .refine⟨⟨by omega,by omega,by omega⟩,hs.ak fun aba E hs=>⟨E.sm,?_⟩⟩;exact⟨tT hT hn hs,tU hT hn hs,yw hT hn hs⟩
 .refine⟨⟨by omega,by omega,by omega⟩,hs.ak fun cd E hs=>⟨E.sm,?_⟩⟩;have hs:=hs.perm (List.perm_middle (l₁:=[_])).symm;exact⟨yL hT hn hs,yv hT hn hs,yK hT hn hs⟩
 .refine⟨⟨by omega,by omega,by omega⟩,hs.ak fun eM E hs=>⟨E.sm,?_⟩⟩;have hs:=hs.perm (List.perm_middle (l₁:=[_])).symm;exact⟨yJ hT hn hs,yu hT hn hs,yI hT hn hs⟩
 .refine⟨⟨by omega,by omega,by omega⟩,hs.ak fun kJ E hs=>⟨E.sm,?_⟩⟩;have hs:=hs.perm (List.perm_middle (l₁:=[_])).symm;exact⟨yH hT hn hs,tX hT hn hs,tW hT hn hs⟩
theorem HY{g:Gl}{role:Int}{h aA:Heap}{R:Value->Heap->Prop}(hT:aD g role h R)(hn:1<=g.n/\g.n<=200)(hs:St h aA [.af h.size g.cs 27]):Gt g.n aA h g.n g.n g.n g.n (bs g.nm) g.hr g.hd g.n g.s g.e g.he g.ht role R:=by
 unfold Gt;refine⟨⟨by omega,by omega,by omega⟩,hs.ak fun ca E hs=>⟨E.sm,?_,?_,?_,?_⟩⟩
 .refine⟨⟨by omega,by omega,by omega⟩,hs.ak fun aaN E hs=>⟨E.sm,?_⟩⟩;exact⟨yy hT hn hs,yx hT hn hs,yN hT hn hs⟩
 .refine⟨⟨by omega,by omega,by omega⟩,hs.ak fun aaM E hs=>⟨E.sm,?_⟩⟩;exact⟨yL hT hn hs,yv hT hn hs,yK hT hn hs⟩
 .refine⟨⟨by omega,by omega,by omega⟩,hs.ak fun eL E hs=>⟨E.sm,?_⟩⟩;have hs:=hs.perm (List.perm_middle (l₁:=[_])).symm;exact⟨yG hT hn hs,yF hT hn hs,yE hT hn hs⟩
 .refine⟨⟨by omega,by omega,by omega⟩,hs.ak fun kI E hs=>⟨E.sm,?_⟩⟩;have hs:=hs.perm (List.perm_middle (l₁:=[_])).symm;exact⟨yD hT hn hs,yC hT hn hs,tV hT hn hs⟩
theorem HX{g:Gl}{role:Int}{h aA:Heap}{R:Value->Heap->Prop}(hT:aD g role h R)(hn:1<=g.n/\g.n<=200)(hs:St h aA [.af h.size g.cs 27]):Gs g.n aA h g.n g.n g.n g.n (bs g.nm) g.hr g.hd g.n g.s g.e g.he g.ht role R:=by
 unfold Gs;refine⟨⟨by omega,by omega,by omega⟩,hs.ak fun kH E hs=>⟨E.sm,?_,?_,?_,?_⟩⟩
 .refine⟨⟨by omega,by omega,by omega⟩,hs.ak fun aaE E hs=>⟨E.sm,?_⟩⟩;exact⟨yQ hT hn hs,yB hT hn hs,yP hT hn hs⟩
 .refine⟨⟨by omega,by omega,by omega⟩,hs.ak fun aaf E hs=>⟨E.sm,?_⟩⟩;exact⟨yJ hT hn hs,yu hT hn hs,yI hT hn hs⟩
 .refine⟨⟨by omega,by omega,by omega⟩,hs.ak fun aae E hs=>⟨E.sm,?_⟩⟩;exact⟨yG hT hn hs,yF hT hn hs,yE hT hn hs⟩
 .refine⟨⟨by omega,by omega,by omega⟩,hs.ak fun fY E hs=>⟨E.sm,?_⟩⟩;have hs:=hs.perm (List.perm_middle (l₁:=[_])).symm;exact⟨yS hT hn hs,yR hT hn hs,yM hT hn hs⟩
theorem HW{g:Gl}{role:Int}{h aA:Heap}{R:Value->Heap->Prop}(hT:aD g role h R)(hn:1<=g.n/\g.n<=200)(hs:St h aA [.af h.size g.cs 27]):Gr g.n aA h g.n g.n g.n g.n (bs g.nm) g.hr g.hd g.n g.s g.e g.he g.ht role R:=by
 unfold Gr;refine⟨⟨by omega,by omega,by omega⟩,hs.ak fun Z7 E hs=>⟨E.sm,?_,?_,?_,?_⟩⟩
 .refine⟨⟨by omega,by omega,by omega⟩,hs.ak fun Z6 E hs=>⟨E.sm,?_⟩⟩;exact⟨yO hT hn hs,yA hT hn hs,yz hT hn hs⟩
 .refine⟨⟨by omega,by omega,by omega⟩,hs.ak fun Z5 E hs=>⟨E.sm,?_⟩⟩;exact⟨yH hT hn hs,tX hT hn hs,tW hT hn hs⟩
 .refine⟨⟨by omega,by omega,by omega⟩,hs.ak fun Z2 E hs=>⟨E.sm,?_⟩⟩;exact⟨yD hT hn hs,yC hT hn hs,tV hT hn hs⟩
 .refine⟨⟨by omega,by omega,by omega⟩,hs.ak fun ZZ E hs=>⟨E.sm,?_⟩⟩;exact⟨yS hT hn hs,yR hT hn hs,yM hT hn hs⟩
theorem St.qF{h0 h:Heap}{L:List It}(hs:St h0 h L)(k:Nat){b:Nat}{xs:List Value}{e:TypeId}(hk:L[k]?=some (.af b xs e))(m n:Nat)(rows:List (List Value))(hx:xs=rows.flatten)(hr:∀r∈rows,r.length=n)(hl:rows.length=m)(hm:m<=maxLen):St h0 h (L.set k (.sl ⟨some ⟨b,0,none⟩,m,m⟩ e n rows)):=by
 have hp:L.Perm (.af b xs e::L.eraseIdx k):=by
  obtain⟨A,B,rfl,rfl⟩:=th hk;rw[List.eraseIdx_append_of_length_le (aY _),Nat.sub_self];exact List.perm_middle
 have h1:=(hs.perm hp).fx m n rows hx hr hl hm;refine h1.perm ?_;obtain⟨A,B,rfl,rfl⟩:=th hk;rw[List.eraseIdx_append_of_length_le (aY _),Nat.sub_self,List.set_append_right _ _ (aY _),Nat.sub_self];exact List.perm_middle.symm
theorem y4(n:Nat):ah Pz 102 n=((List.replicate n (⟨none,0,0⟩:Sl)).map fB).flatten:=by
 have e:bL Pz 102=[.slice none 0 0]:=by kernel_rfl
 unfold ah;rw[e,List.map_replicate];rfl
theorem DW(n:Nat):ah Pz 274 n=((List.replicate n (⟨none,0,0⟩:Sl)).map fB).flatten:=by
 have e:bL Pz 274=[.slice none 0 0]:=by kernel_rfl
 unfold ah;rw[e,List.map_replicate];rfl
def Tf:Ev:=⟨false,0,0⟩
def xh:Lm:=⟨0,Tf⟩
theorem DX(n:Nat):ah Pz 192 n=((List.replicate n xh).map Lm.cs).flatten:=by
 have e:bL Pz 192=Lm.cs xh:=by kernel_rfl
 unfold ah;rw[e,List.map_replicate]
theorem NF:cn Pz 184 195 2 32=true:=by kernel_rfl
theorem Nx:cn Pz 274 276 4 32=true:=by kernel_rfl
abbrev Ap:=Sl × List Int
abbrev qL:=Sl × List fk
def KA(f:Fs):It:=.sl f.s 188 3 (f.l.map Ev.cs)
def NK(g:Gl)(role:Int)(ho bO bE bc bI bV:Sl):List Value:=g.cs++[.int .i64 role,.slice ho.a ho.n ho.c,.slice bO.a bO.n bO.c,.slice bE.a bE.n bE.c,.slice bc.a bc.n bc.c,.slice bI.a bI.n bI.c,.slice bV.a bV.n bV.c]
def oO(ab gb:Nat)(g:Gl)(role:Int)(ho bO bE bc bI bV:Sl)(OU:List Ap)(FI:List Fs)(LI:List Lm)(AG OW:List Bool)(AR:List qL):List It:=
 [.af ab (NK g role ho bO bE bc bI bV) 186,.sl ho 102 1 ((OU.map Prod.fst).map fB),.sl bO 195 2 (FI.map Fs.cs),.sl bE 192 4 (LI.map Lm.cs),.sl bc 4 1 (AG.map bC),.sl bI 4 1 (OW.map bC),.sl bV 274 1 ((AR.map Prod.fst).map fB),.af gb g.cs 27]++OU.map (nest 3 1 a6)++(FI.map KA++AR.map (nest 276 4 fk.cs))
def jo(g:Gl)(role:Int)(t:To):Lm:=⟨t.k,(bm role (eA g.es t.e.toNat)).getD Tf⟩
def cx(g:Gl)(role:Int)(ts:List To)(s:Nat):Lm:=ts.foldl (fun b t=>if t.s=(s:Int) then jo g role t else b) xh
def du(es:List Ed)(s:Nat):Bool:=es.any fun x=>decide (x.f=(s:Int))&&x.ag
def cW(es:List Ed)(role:Int)(s:Nat):Bool:=es.any fun x=>decide (x.f=(s:Int))&&decide (x.a=role)
def nH(es:List Ed)(j s:Nat):List Nat:=(List.range j).filter (dD es (s:Int))
theorem pU{es:List Ed}{j:Nat}{x:Ed}(hx:es[j]?=some x)(s:Nat):nH es (j+1) s=nH es j s++(if x.f=(s:Int) then [j] else []):=by
 unfold nH;rw[List.range_succ,List.filter_append];congr 1;have hp:dD es (s:Int) j=decide (x.f=(s:Int)):=by unfold dD;rw[hx]
 by_cases e:x.f=(s:Int)
 .rw[if_pos e,List.filter_cons_of_pos (by rw[hp];exact decide_eq_true e)];rfl
 .rw[if_neg e,List.filter_cons_of_neg (by rw[hp,decide_eq_false e];simp)];rfl
theorem vE{α:Type}{l:List α}{j:Nat}{x:α}(hx:l[j]?=some x)(p:α->Bool):(l.take (j+1)).any p=((l.take j).any p||p x):=by
 rw[aj hx,List.any_append];simp
theorem ep{α:Type}{n:Nat}{f f':Nat->α}{k:Nat}{y:α}(hk:k<n)(h1:f' k=y)(h2:∀s,s≠k->f' s=f s):((List.range n).map f).set k y=(List.range n).map f':=by
 apply wm;intro s;by_cases hs:s<n
 .by_cases e:k=s
  .subst e;rw[Yq (by rw[Yc,mG];exact hs),Yd,xX hs,<-h1];rfl
  .rw[Yy e,Yd,Yd,xX hs];show some (f s)=some (f' s);rw[h2 s (fun h=>e h.symm)]
 .rw[Yl (by rw[mF,Yc,mG];omega),Yl (by rw[Yc,mG];omega)]
theorem cU{α:Type}{n:Nat}(f:Nat->α){s:Nat}(hs:s<n):((List.range n).map f)[s]?=some (f s):=by rw[Yd,xX hs];rfl
theorem lB{es:List Ed}{j:Nat}{x:Ed}(hx:es[j]?=some x)(role:Int)(s:Nat):cW (es.take (j+1)) role s=(cW (es.take j) role s||(decide (x.f=(s:Int))&&decide (x.a=role))):=by unfold cW;rw[vE hx]
theorem lS{es:List Ed}{j:Nat}{x:Ed}(hx:es[j]?=some x)(s:Nat):du (es.take (j+1)) s=(du (es.take j) s||(decide (x.f=(s:Int))&&x.ag)):=by unfold du;rw[vE hx]
theorem K3{h0 SH Cu oL:Heap}{m44:Nat}{I:Int->Heap->Nat->Prop}{y:Int}{g:Gl}{role:Int}{ho bO bE bc bI bV:Sl}{OU:List Ap}{FI:List Fs}{LI:List Lm}{AG:List Bool}{AR:List qL}{gb j n:Nat}{x:Ed}(hx:g.es[j]?=some x)(pD:0<=x.f)(hf1:x.f.toNat<n)
  (hs:St h0 SH (.af oL.size x.cs 67::oO Cu.size gb g role ho bO bE bc bI bV OU FI LI AG ((List.range n).map (cW (g.es.take j) role)) AR))
  (hI:∀h':Heap,St h0 h' (oO Cu.size gb g role ho bO bE bc bI bV OU FI LI AG ((List.range n).map (cW (g.es.take (j+1)) role)) AR)->∃m,m<m44/\I (IntKind.wrap .i64 (y+1)) h' m) :
  vO SH Cu oL m44 I y role:=by
 unfold vO;have hwn:=(hs.len 6 (s:=bI) (e:=4) (n:=1) (rows:=((List.range n).map (cW (g.es.take j) role)).map bC) rfl (by omega)).1;rw[Yc,Yc,mG] at hwn;have Ct:((x.f.toNat:Nat):Int)=x.f:=Int.toNat_of_nonneg pD;have fin:∀(v:Bool),v=cW (g.es.take (j+1)) role x.f.toNat->((List.range n).map (cW (g.es.take j) role)).set x.f.toNat v=(List.range n).map (cW (g.es.take (j+1)) role):=fun v hv=>ep hf1 hv.symm fun s dW=>by
  rw[lB hx,decide_eq_false (by omega)];simp
 refine⟨bI,hs.rd 1 rfl (i:=13) rfl,x.f,hs.rd 0 rfl (i:=0) rfl,bI,hs.rd 1 rfl (i:=13) rfl,x.f,hs.rd 0 rfl (i:=0) rfl,?_⟩;refine (hs.rows 6 rfl (by omega)).aF (by omega) (by omega) fun b84 o85 d gd t=>?_;rw[cU _ hf1] at gd;cases gd;refine⟨_,t.hd,aa (fun c=>?_) (fun c=>?_)⟩
 .refine hs.set 6 rfl (by omega) (x:=x.f) (by omega) (by omega) true rfl rfl (fun b87 o88 OT hs=>hI OT ?_) rfl;rw[fin true (by rw[lB hx,c];rfl)] at hs;exact hs.drop 1
 .refine⟨x.a,hs.rd 0 rfl (i:=1) rfl,?_⟩;refine hs.set 6 rfl (by omega) (x:=x.f) (by omega) (by omega) (x.a==role) rfl rfl (fun b92 o93 h94 hs=>hI h94 ?_) rfl;rw[fin (x.a==role) (by rw[lB hx,c,Ct,decide_eq_true rfl,Bool.false_or,Bool.true_and];exact (Bool.eq_iff_iff.2 (by simp)))] at hs;exact hs.drop 1
theorem KI{h0 h:Heap}{ab gb:Nat}{g:Gl}{role:Int}{ho bO bE bc bI bV:Sl}{OU:List Ap}{FI:List Fs}{LI:List Lm}{AG OW:List Bool}{AR:List qL}{R:List It}(hs:St h0 h (oO ab gb g role ho bO bE bc bI bV OU FI LI AG OW AR++R))(hg:GI h0 g)(hO:OU.map Prod.snd=(List.range g.n.toNat).map fun s=>aK (ao g.es (s:Nat))):
  Hd h ab g role ho (fun i=>((OU[i]?).map Prod.fst).getD ⟨none,0,0⟩):=by
 have ZA:OU.length=g.n.toNat:=by have:=congrArg List.length hO;simpa using this
 refine⟨hs.at 0 rfl (o:=0) (n:=10) rfl,hg.ext hs.ext,?_,fun i hi=>?_⟩
 .have h1:=hs.rw 1 (s:=ho) (e:=102) (n:=1) (rows:=(OU.map Prod.fst).map fB) rfl (by omega);have e:(OU.map Prod.fst).map fB=(List.range g.n.toNat).map fun i=>fB (((OU[i]?).map Prod.fst).getD ⟨none,0,0⟩):=by
   apply wm;intro i;rw[Yd,Yd,Yd];by_cases hi:i<g.n.toNat
   .obtain⟨q,hq⟩:=get_some (l:=OU) (i:=i) (by omega);rw[hq,xX hi,Option.map_some,Option.map_some,Option.map_some,hq];rfl
   .rw[Yl (by omega),Yl (by rw[mG];omega)];rfl
  rw[e] at h1;exact h1
 .obtain⟨q,hq⟩:=get_some (l:=OU) (i:=i) (by omega);have h1:=aN hO hi;rw[Yd,hq] at h1;have h2:q.2=aK (ao g.es (i:Nat)):=eU h1;show Rw h 1 ((Option.map Prod.fst OU[i]?).getD ⟨none,0,0⟩) _;rw[hq,<-h2];refine hs.Dd (e:=3) ?_ (by omega);unfold oO;refine List.mem_append_left _ (List.mem_append_left _ (List.mem_append_right _ (Yp.2 ⟨q,Yb hq,rfl⟩)))
def sJ(g:Gl)(role:Int)(OU:List Ap)(FI:List Fs)(LI:List Lm)(AG OW:List Bool):Prop:=
 OU.map Prod.snd=((List.range g.n.toNat).map fun s=>aK (ao g.es (s:Nat)))/\FI.map (fun f=>(f.l,f.b))=((List.range g.n.toNat).map fun s=>(aH g role (s:Nat),bP g role (s:Nat)))/\LI=(List.range g.n.toNat).map (cx g role g.ts)/\AG=(List.range g.n.toNat).map (du g.es)/\OW=(List.range g.n.toNat).map (cW g.es role)
abbrev aB:Sl:=⟨none,0,0⟩
theorem Ds(es:List Ed)(j s:Nat):(nH es j s).length<=j:=mQ (List.length_filter_le _ _) (by rw[mG];exact aY _)
theorem wP(l:List Nat)(j:Nat):aK (l++[j])=aK l++[(j:Int)]:=by unfold aK;rw[Ym];rfl
theorem Ho{g:Gl}{role:Int}{h:Heap}{R:Value->Heap->Prop}(hg:GI h g)(hV:ae g)
  (hK:∀(ab:Nat) (ho bO bE bc bI bV:Sl) (OU:List Ap) (FI:List Fs) (LI:List Lm) (AG OW:List Bool) (h':Heap),St h h' (oO ab h.size g role ho bO bE bc bI bV OU FI LI AG OW (List.replicate g.n.toNat (aB,[])))->sJ g role OU FI LI AG OW->R (.tuple ⟨[.pointer (some ⟨ab,0,none⟩),.int .i64 0]⟩) h') :
  aD g role h R:=by
 intro hF a b c d e hs;unfold xY;have hN:=hV.num.n;have hM:=hV.num.m;have hE:=hV.num.e;have qk:=hg.e.ln;have Lr:=hg.t.ln;have Bq:=hg.t.sm;have wg:g.n.toNat<=9223372036854775807:=by omega
 refine hs.aq fun uU hs=>?_;have hs:=hs.qF 1 rfl g.n.toNat 1 ((List.replicate g.n.toNat aB).map fB) (y4 _) (fun r hr=>by obtain⟨x,_,rfl⟩:=Yp.1 hr;rfl) (by rw[Yc,Yg]) wg;have hs:=hs.qF 2 rfl g.n.toNat 4 ((List.replicate g.n.toNat xh).map Lm.cs) (DX _) (fun r hr=>by obtain⟨x,_,rfl⟩:=Yp.1 hr;rfl) (by rw[Yc,Yg]) wg;have hs:=hs.qF 3 rfl g.n.toNat 1 ((List.replicate g.n.toNat false).map bC) (DU _) (fun r hr=>by obtain⟨x,_,rfl⟩:=Yp.1 hr;rfl) (by rw[Yc,Yg]) wg;have hs:=hs.qF 4 rfl g.n.toNat 1 ((List.replicate g.n.toNat false).map bC) (DU _) (fun r hr=>by obtain⟨x,_,rfl⟩:=Yp.1 hr;rfl) (by rw[Yc,Yg]) wg;have hs:=hs.qF 5 rfl g.n.toNat 1 ((List.replicate g.n.toNat aB).map fB) (DW _) (fun r hr=>by obtain⟨x,_,rfl⟩:=Yp.1 hr;rfl) (by rw[Yc,Yg]) wg;have hs:=(hs.cN 195 2).perm (List.perm_middle (l₁:=[_,_])).symm;have hs:=hs.tS (α:=fk) (e:=276) (k:=4) (cs:=fk.cs) (A:=[_,_,_,_,_,_,_,_]) (B:=[]) g.n.toNat;rw[Yw] at hs;have hs:=hs.tS (α:=Int) (e:=3) (k:=1) (cs:=a6) (A:=[_,_,_,_,_,_,_,_]) (B:=_) g.n.toNat;generalize hho:(⟨some ⟨a.size,0,none⟩,g.n.toNat,g.n.toNat⟩:Sl)=ho at *;generalize hhl:(⟨some ⟨b.size,0,none⟩,g.n.toNat,g.n.toNat⟩:Sl)=bE at *;generalize hha:(⟨some ⟨c.size,0,none⟩,g.n.toNat,g.n.toNat⟩:Sl)=bc at *;generalize hhw:(⟨some ⟨d.size,0,none⟩,g.n.toNat,g.n.toNat⟩:Sl)=bI at *;generalize hhr:(⟨some ⟨e.size,0,none⟩,g.n.toNat,g.n.toNat⟩:Sl)=bV at *;have hs:St h uU (oO hF.size h.size g role ho aB bE bc bI bV (List.replicate g.n.toNat (aB,[])) [] (List.replicate g.n.toNat xh) (List.replicate g.n.toNat false) (List.replicate g.n.toNat false) (List.replicate g.n.toNat (aB,[]))):=by
  subst hho hhl hha hhw hhr;unfold oO;rw[List.map_replicate (f:=Prod.fst),List.map_replicate (f:=Prod.fst)];exact hs
 clear hho hhl hha hhw hhr;refine⟨g.he,hs.rd 7 rfl (i:=6) rfl,?_⟩;have rr:∀ {α:Type} (f:Nat->α) (z:α),(∀s,f s=z)->List.replicate g.n.toNat z=(List.range g.n.toNat).map f:=fun {α} f z hz=>by
  apply wm;intro s;rw[List.getElem?_replicate];by_cases jU:s<g.n.toNat
  .rw[if_pos jU,cU f jU,hz]
  .rw[if_neg jU,Yl (by rw[Yc,mG];omega)]
 refine⟨fun x h' μ=>∃(j:Nat) (OU:List Ap),x=(j:Int)/\μ=g.es.length-j/\j<=g.es.length/\OU.map Prod.snd=((List.range g.n.toNat).map fun s=>aK (nH g.es j s)) /\
  St h h' (oO hF.size h.size g role ho aB bE bc bI bV OU [] (List.replicate g.n.toNat xh) ((List.range g.n.toNat).map (du (g.es.take j))) ((List.range g.n.toNat).map (cW (g.es.take j) role)) (List.replicate g.n.toNat (aB,[]))),
  ⟨_,0,List.replicate g.n.toNat (aB,[]),rfl,rfl,by omega,?_,?_⟩,?_⟩
 .rw[List.map_replicate];exact rr _ _ fun s=>rfl
 .rw[<-rr (du (g.es.take 0)) false fun s=>rfl,<-rr (cW (g.es.take 0) role) false fun s=>rfl];exact hs
 clear hs;rintro-_ oL μ ⟨j,OU,rfl,rfl,hj,hOU,hs⟩;have ZA:OU.length=g.n.toNat:=by have:=congrArg List.length hOU;simpa using this
 refine aQ (fun c1=>?_) (fun c1=>?_)
 .refine (hg.e.rw.ext hs.ext).aF (by omega) (by omega) fun b47 o48 x gx t=>?_;replace gx:g.es[j]?=some x:=gx;have jT:=hE x (Yb gx);unfold gN at jT;have sQ:((x.f.toNat:Nat):Int)=x.f:=by omega
  have Ck:x.f.toNat<g.n.toNat:=by omega
  obtain⟨q,hq⟩:=get_some (l:=OU) (i:=x.f.toNat) (by omega);refine⟨_,_,_,_,_,_,t,?_⟩;refine hs.ai (vs:=x.cs) rfl rfl fun oK hs=>?_;refine⟨ho,hs.rd 1 rfl (i:=9) rfl,x.f,hs.rd 0 rfl (i:=0) rfl,ho,hs.rd 1 rfl (i:=9) rfl,x.f,hs.rd 0 rfl (i:=0) rfl,?_⟩;have RR:=(hs.len 2 (s:=ho) (e:=102) (n:=1) (rows:=(OU.map Prod.fst).map fB) rfl (by omega)).1;rw[Yc,Yc] at RR;refine (hs.rows 2 rfl (by omega)).aF (by omega) (by omega) fun b61 XP d gd u=>?_;rw[Yd,hq] at gd;cases gd;refine⟨q.1,u.hd,?_⟩;refine hs.ak fun V5 E64 hs=>⟨E64.sm,?_⟩;have jX:q.2=aK (nH g.es j x.f.toNat):=by
   have h1:=aN hOU Ck;rw[Yd,hq] at h1;exact eU h1
  have Ei:q.2.length<=400:=by rw[jX];unfold aK;rw[Yc];have:=Ds g.es j x.f.toNat;omega
  have hs:St h V5 ((.af oK.size (a6 (j:Int)) 3 :: .af oL.size x.cs 67::[.af hF.size (NK g role ho aB bE bc bI bV) 186,.sl ho 102 1 ((OU.map Prod.fst).map fB),.sl aB 195 2 (([]:List Fs).map Fs.cs),.sl bE 192 4 ((List.replicate g.n.toNat xh).map Lm.cs),.sl bc 4 1 (((List.range g.n.toNat).map (du (g.es.take j))).map bC),.sl bI 4 1 (((List.range g.n.toNat).map (cW (g.es.take j) role)).map bC),.sl bV 274 1 (((List.replicate g.n.toNat ((aB,[]):qL)).map Prod.fst).map fB),.af h.size g.cs 27])++OU.map (nest 3 1 a6)++(([]:List Fs).map KA++(List.replicate g.n.toNat ((aB,[]):qL)).map (nest 276 4 fk.cs))):=hs;have py:=(hs.lF hq (by omega)).ln;refine hs.nL hq jv (j:Int) (hs.at 0 rfl (o:=0) (n:=1) rfl) rfl rfl (by omega) (by simp only[maxLen];omega) fun r xy hr mg=>?_;refine⟨fT (hs.same mg 1 1 rfl rfl) (fT (hs.same mg 2 2 rfl rfl) lu),?_⟩;refine mg.set 3 rfl (by omega) (x:=x.f) (by omega) (by omega) r rfl rfl (fun b67 o68 V4 hs=>?_) rfl;replace hs:=hs.drop 1;have hs:St h V4 (.af oL.size x.cs 67::oO hF.size h.size g role ho aB bE bc bI bV (OU.set x.f.toNat (r,q.2++[(j:Int)])) [] (List.replicate g.n.toNat xh) ((List.range g.n.toNat).map (du (g.es.take j))) ((List.range g.n.toNat).map (cW (g.es.take j) role)) (List.replicate g.n.toNat (aB,[]))):=by
   unfold oO;rw[List.map_set (f:=Prod.fst)];exact hs
  have ZB:(OU.set x.f.toNat (r,q.2++[(j:Int)])).map Prod.snd=((List.range g.n.toNat).map fun s=>aK (nH g.es (j+1) s)):=by
   rw[List.map_set,hOU];refine ep Ck ?_ fun s hs=>?_
   .show aK (nH g.es (j+1) x.f.toNat)=q.2++[(j:Int)];rw[pU gx,if_pos sQ.symm,wP,jX]
   .show aK (nH g.es (j+1) s)=aK (nH g.es j s);rw[pU gx,if_neg (by omega),Yw]
  generalize OU.set x.f.toNat (r,q.2++[(j:Int)])=OU' at *;have Zu:=(hs.len 5 (s:=bc) (e:=4) (n:=1) (rows:=((List.range g.n.toNat).map (du (g.es.take j))).map bC) rfl (by omega)).1;rw[Yc,Yc,mG] at Zu;have fin:∀(v:Bool),v=du (g.es.take (j+1)) x.f.toNat->((List.range g.n.toNat).map (du (g.es.take j))).set x.f.toNat v=(List.range g.n.toNat).map (du (g.es.take (j+1))):=fun v hv=>ep Ck hv.symm fun s dW=>by
   rw[lS gx,decide_eq_false (by omega)];simp
  refine⟨bc,hs.rd 1 rfl (i:=12) rfl,x.f,hs.rd 0 rfl (i:=0) rfl,bc,hs.rd 1 rfl (i:=12) rfl,x.f,hs.rd 0 rfl (i:=0) rfl,?_⟩;refine (hs.rows 5 rfl (by omega)).aF (by omega) (by omega) fun b74 o75 d gd u2=>?_;rw[cU _ Ck] at gd;cases gd;have last:∀ {hZ:Heap},St h hZ (.af oL.size x.cs 67::oO hF.size h.size g role ho aB bE bc bI bV OU' [] (List.replicate g.n.toNat xh) ((List.range g.n.toNat).map (du (g.es.take (j+1)))) ((List.range g.n.toNat).map (cW (g.es.take j) role)) (List.replicate g.n.toNat (aB,[]))) ->
    vO hZ hF oL (g.es.length-j) (fun x h' μ=>∃(j:Nat) (OU:List Ap),x=(j:Int)/\μ=g.es.length-j/\j<=g.es.length/\OU.map Prod.snd=((List.range g.n.toNat).map fun s=>aK (nH g.es j s))/\St h h' (oO hF.size h.size g role ho aB bE bc bI bV OU [] (List.replicate g.n.toNat xh) ((List.range g.n.toNat).map (du (g.es.take j))) ((List.range g.n.toNat).map (cW (g.es.take j) role)) (List.replicate g.n.toNat (aB,[])))) j role:=fun {hZ} hs=>by
   refine K3 gx (by omega) Ck hs fun h' dW=>⟨_,?_,j+1,OU',by rw[aZ (by omega) (by omega)];omega,rfl,by omega,ZB,dW⟩;omega
  refine⟨_,u2.hd,aa (fun c2=>?_) (fun c2=>?_)⟩
  .refine hs.set 5 rfl (by omega) (x:=x.f) (by omega) (by omega) true rfl rfl (fun b77 o78 SH hs=>last ?_) rfl;rw[fin true (by rw[lS gx,c2];rfl)] at hs;exact hs
  .refine⟨x.ag,hs.rd 0 rfl (i:=5) rfl,?_⟩;refine hs.set 5 rfl (by omega) (x:=x.f) (by omega) (by omega) x.ag rfl rfl (fun b97 o98 h99 hs=>last ?_) rfl;rw[fin x.ag (by rw[lS gx,c2,sQ,decide_eq_true rfl,Bool.false_or,Bool.true_and])] at hs;exact hs
 .have OI:j=g.es.length:=by omega
  subst OI;rw[xW] at hs;refine⟨g.ht,hs.rd 7 rfl (i:=7) rfl,?_⟩;refine⟨fun x h' μ=>∃j:Nat,x=(j:Int)/\μ=g.ht.n-j/\j<=g.ht.n/\St h h' (oO hF.size h.size g role ho aB bE bc bI bV OU [] ((List.range g.n.toNat).map (cx g role (g.ts.take j))) ((List.range g.n.toNat).map (du g.es)) ((List.range g.n.toNat).map (cW g.es role)) (List.replicate g.n.toNat (aB,[]))),⟨_,0,rfl,rfl,by omega,?_⟩,?_⟩
  .rw[<-rr (cx g role (g.ts.take 0)) xh fun s=>rfl];exact hs
  clear hs c1;rintro-_ xF μ ⟨k,rfl,rfl,hk,hs⟩;refine aQ (fun c2=>?_) (fun c2=>?_)
  .refine (hg.t.rw.ext hs.ext).aF (by omega) (by omega) fun acX abB t gt u=>?_;replace gt:g.ts[k]?=some t:=gt;have htS:=hV.Hn k t gt;obtain⟨OL,x,hx,sQ,_⟩:=htS.e;have Ck:=(Ya.1 hx).1;have jT:=hE x (Yb hx);unfold gN at jT;have mW:t.s.toNat<g.n.toNat:=by omega
   refine⟨t.s,t.k,t.e,u,?_⟩;refine hs.ai (vs:=t.cs) rfl rfl fun Mx hs=>?_;refine⟨g.he,hs.rd 8 rfl (i:=6) rfl,t.e,hs.rd 0 rfl (i:=2) rfl,?_⟩;refine (hg.e.rw.ext hs.ext).aF (by omega) (by omega) fun acV abz x' gx u2=>?_;rw[hx] at gx;cases gx;refine⟨_,_,_,_,_,_,u2,?_⟩;refine (km ⟨hF.size,0,none⟩ role x Mx (hs.rd 1 rfl (i:=8) rfl)).mono ?_;rintro _ pG ⟨E144,rfl⟩;replace hs:=hs.step E144;have Y4:=(hs.len 4 (s:=bE) (e:=192) (n:=4) (rows:=((List.range g.n.toNat).map (cx g role (g.ts.take k))).map Lm.cs) rfl (by omega)).1;rw[Yc,Yc,mG] at Y4;have rest:∀(y:Ev) (hy:(bm role x).getD Tf=y) {hZ:Heap},St h hZ (.af pG.size y.cs 188 :: .af xF.size t.cs 149::oO hF.size h.size g role ho aB bE bc bI bV OU [] ((List.range g.n.toNat).map (cx g role (g.ts.take k))) ((List.range g.n.toNat).map (du g.es)) ((List.range g.n.toNat).map (cW g.es role)) (List.replicate g.n.toNat (aB,[]))) ->
     (NB bE.a fun Ns K4=>(0<=t.s/\t.s<(bE.n:Nat))/\(fG hZ ⟨Ns,K4+Int.toNat t.s*4,none⟩ 4/\∀BH:Heap,BH=bh hZ ⟨Ns,K4+Int.toNat t.s*4,none⟩ 0 [.int .i64 t.k,.bool y.send,.int .i64 y.peer,.int .i64 y.label]->(∃Ri,Ri<g.ht.n-k/\∃j:Nat,IntKind.wrap .i64 ((k:Int)+1)=(j:Int)/\Ri=g.ht.n-j/\j<=g.ht.n/\St h BH (oO hF.size h.size g role ho aB bE bc bI bV OU [] ((List.range g.n.toNat).map (cx g role (g.ts.take j))) ((List.range g.n.toNat).map (du g.es)) ((List.range g.n.toNat).map (cW g.es role)) (List.replicate g.n.toNat (aB,[])))))):=fun y hy {hZ} hs=>by
    refine hs.set 5 rfl (by omega) (x:=t.s) (by omega) (by omega) (⟨t.k,y⟩:Lm) rfl rfl (fun Ns K4 BH hs=>⟨_,?_,k+1,by rw[aZ (by omega) (by omega)];omega,rfl,by omega,?_⟩) rfl
    .omega
    .have e1:((List.range g.n.toNat).map (cx g role (g.ts.take k))).set t.s.toNat (⟨t.k,y⟩:Lm)=(List.range g.n.toNat).map (cx g role (g.ts.take (k+1))):=by
      refine ep mW ?_ fun s hs=>?_
      .unfold cx;rw[aj gt,List.foldl_append];show (if t.s=((t.s.toNat:Nat):Int) then jo g role t else _)=_;rw[if_pos (by omega)];unfold jo;rw[aI hx,hy]
      .unfold cx;rw[aj gt,List.foldl_append];show (if t.s=((s:Nat):Int) then jo g role t else _)=_;rw[if_neg (by omega)]
     rw[e1] at hs;exact hs.drop 2
   cases hvis:bm role x with
   | some y=>
    refine⟨y.send,y.peer,y.label,true,rfl,?_⟩;refine hs.ai (vs:=y.cs) rfl rfl fun Z3 hs=>?_;refine⟨bE,hs.rd 2 rfl (i:=11) rfl,t.s,hs.rd 1 rfl (i:=0) rfl,t.k,hs.rd 1 rfl (i:=1) rfl,y.send,y.peer,y.label,hs.at 0 rfl (o:=0) (n:=3) rfl,?_⟩;exact rest y (by rw[hvis];rfl) hs
   | none=>
    refine⟨false,0,0,false,rfl,?_⟩;refine hs.ai (vs:=Tf.cs) rfl rfl fun Z3 hs=>?_;refine⟨bE,hs.rd 2 rfl (i:=11) rfl,t.s,hs.rd 1 rfl (i:=0) rfl,t.k,hs.rd 1 rfl (i:=1) rfl,false,0,0,hs.at 0 rfl (o:=0) (n:=3) rfl,?_⟩;exact rest Tf (by rw[hvis];rfl) hs
  .rw[Yj (by omega)] at hs;refine⟨g.n,hs.rd 7 rfl (i:=3) rfl,?_⟩;refine⟨fun x h' μ=>∃(j:Nat) (bO:Sl) (FI:List Fs),x=(j:Int)/\μ=g.n.toNat-j/\j<=g.n.toNat/\FI.map (fun f=>(f.l,f.b))=((List.range j).map fun s=>(aH g role (s:Nat),bP g role (s:Nat)))/\St h h' (oO hF.size h.size g role ho bO bE bc bI bV OU FI ((List.range g.n.toNat).map (cx g role g.ts)) ((List.range g.n.toNat).map (du g.es)) ((List.range g.n.toNat).map (cW g.es role)) (List.replicate g.n.toNat (aB,[]))),⟨_,0,aB,[],rfl,rfl,Nat.zero_le _,rfl,hs⟩,?_⟩;clear hs c2 hk;rintro-_ h162 μ ⟨k,bO,FI,rfl,rfl,hk,hFI,hs⟩;have VX:FI.length=k:=by have:=congrArg List.length hFI;simpa using this
   refine aQ (fun c3=>?_) (fun c3=>?_)
   .refine⟨bO,hs.rd 0 rfl (i:=10) rfl,?_⟩;have hOG:OU.map Prod.snd=((List.range g.n.toNat).map fun s=>aK (ao g.es (s:Nat))):=hOU;have hG:=KI (R:=[]) (by rw[Yw];exact hs) hg hOG;refine (xJ hF.size g role ho _ k h162 hG hV (by omega)).mono ?_;rintro _ Mw ⟨r,rfl,cp⟩;refine⟨r,bP g role (k:Nat),rfl,cp.ext.sm,?_⟩;have hs:=hs.join cp;refine hs.ak fun acA aaA hs=>⟨aaA.sm,?_⟩;have ie:=hs.len 3 (s:=bO) (e:=195) (n:=2) (rows:=FI.map Fs.cs) rfl (by omega);rw[Yc] at ie;refine hs.appended 3 rfl NF (news:=[Fs.cs ⟨r,aH g role (k:Nat),bP g role (k:Nat)⟩]) (hs.at 0 rfl (o:=0) (n:=2) rfl) rfl (fun q hq=>by rw[Ye] at hq;rw[hq];rfl) rfl (by show (bO.n+1)*32<=140737488355328;omega) (by show bO.n+1<=9223372036854775807;omega) fun tv SL n169 hs=>?_;refine hs.put 1 rfl (o:=10) (vs:=[.slice tv.a tv.n tv.c]) rfl (show 11<=15 by decide) fun acz hs=>?_;refine⟨_,?_,k+1,tv,FI++[⟨r,aH g role (k:Nat),bP g role (k:Nat)⟩],by rw[aZ (by omega) (by omega)];omega,rfl,by omega,by rw[Ym,hFI,List.range_succ,Ym];rfl,?_⟩
    .omega
    .refine (hs.drop 1).perm ?_;unfold oO;rw[Ym (f:=Fs.cs),Ym (f:=KA)];refine List.Perm.trans (List.Perm.of_eq (l₂:=[.af hF.size (NK g role ho tv bE bc bI bV) 186,.sl ho 102 1 ((OU.map Prod.fst).map fB),.sl tv 195 2 (FI.map Fs.cs++[⟨r,aH g role (k:Nat),bP g role (k:Nat)⟩].map Fs.cs),.sl bE 192 4 (((List.range g.n.toNat).map (cx g role g.ts)).map Lm.cs),.sl bc 4 1 (((List.range g.n.toNat).map (du g.es)).map bC),.sl bI 4 1 (((List.range g.n.toNat).map (cW g.es role)).map bC),.sl bV 274 1 (((List.replicate g.n.toNat ((aB,[]):qL)).map Prod.fst).map fB),.af h.size g.cs 27]++OU.map (nest 3 1 a6)++((FI.map KA++(List.replicate g.n.toNat ((aB,[]):qL)).map (nest 276 4 fk.cs))++[.sl r 188 3 ((aH g role (k:Nat)).map Ev.cs)])) ?_) (List.Perm.append_left _ ?_)
     .exact Yz ([.af hF.size (NK g role ho tv bE bc bI bV) 186,.sl ho 102 1 ((OU.map Prod.fst).map fB),.sl tv 195 2 (FI.map Fs.cs++[⟨r,aH g role (k:Nat),bP g role (k:Nat)⟩].map Fs.cs),.sl bE 192 4 (((List.range g.n.toNat).map (cx g role g.ts)).map Lm.cs),.sl bc 4 1 (((List.range g.n.toNat).map (du g.es)).map bC),.sl bI 4 1 (((List.range g.n.toNat).map (cW g.es role)).map bC),.sl bV 274 1 (((List.replicate g.n.toNat ((aB,[]):qL)).map Prod.fst).map fB),.af h.size g.cs 27]++OU.map (nest 3 1 a6)) (FI.map KA++(List.replicate g.n.toNat ((aB,[]):qL)).map (nest 276 4 fk.cs)) [.sl r 188 3 ((aH g role (k:Nat)).map Ev.cs)]
     .rw[Yz,Yz];exact List.Perm.append_left _ List.perm_append_comm
   .have Y6:k=g.n.toNat:=by omega
    subst Y6;exact hK hF.size ho bO bE bc bI bV OU FI _ _ _ h162 hs ⟨hOU,hFI,rfl,rfl,rfl⟩
theorem xV(g:Gl)(role:Int)(h:Heap)(hg:GI h g)(hx:Gm h):
  Fn Pz 49 #[g.v,.int .i64 role] h fun v h'=>(¬(ae g/\0<=role/\role<g.rs.length)/\v=.tuple ⟨[.pointer none,.int .i64 1]⟩/\Ext h h') \/
   ((ae g/\0<=role/\role<g.rs.length)/\∃(ab:Nat) (ho bO bE bc bI bV:Sl) (OU:List Ap) (FI:List Fs) (LI:List Lm) (AG OW:List Bool),v=.tuple ⟨[.pointer (some ⟨ab,0,none⟩),.int .i64 0]⟩/\St h h' (oO ab h.size g role ho bO bE bc bI bV OU FI LI AG OW (List.replicate g.n.toNat (aB,[])))/\sJ g role OU FI LI AG OW):=by
 apply Xa (bs g.nm) g.hr g.hd g.n g.s g.e g.he g.ht role;unfold W49;have uG:=hg.r.ln;refine (St.refl h).aq fun h9 hs=>?_;refine⟨_,_,_,_,_,_,_,_,hs.at 0 rfl (n:=8) rfl,?_⟩;refine (mT g h9 (hg.ext hs.ext) (hx.ext hs.ext)).mono ?_;rintro _ aA ⟨rfl,E20⟩;replace hs:=hs.step E20;refine⟨_,rfl,?_⟩;by_cases hV:ae g
 .rw[decide_eq_true hV];refine iX rfl ?_;refine aQ (fun c=>.inl ⟨fun h=>by omega,rfl,hs.ext⟩) (fun c1=>?_);refine⟨g.hr,hs.rd 0 rfl (i:=1) rfl,aQ (fun c=>.inl ⟨fun h=>by omega,rfl,hs.ext⟩) (fun c2=>?_)⟩;have hN:=hV.num.n;refine⟨_,_,_,_,_,_,_,_,hs.at 0 rfl (n:=8) rfl,g.n,hs.rd 0 rfl (i:=3) rfl,g.n,hs.rd 0 rfl (i:=3) rfl,g.n,hs.rd 0 rfl (i:=3) rfl,g.n,hs.rd 0 rfl (i:=3) rfl,g.n,hs.rd 0 rfl (i:=3) rfl,?_⟩;have hT:aD g role h fun v h'=>(¬(ae g/\0<=role/\role<g.rs.length)/\v=.tuple ⟨[.pointer none,.int .i64 1]⟩/\Ext h h') \/
   ((ae g/\0<=role/\role<g.rs.length)/\∃(ab:Nat) (ho bO bE bc bI bV:Sl) (OU:List Ap) (FI:List Fs) (LI:List Lm) (AG OW:List Bool),v=.tuple ⟨[.pointer (some ⟨ab,0,none⟩),.int .i64 0]⟩/\St h h' (oO ab h.size g role ho bO bE bc bI bV OU FI LI AG OW (List.replicate g.n.toNat (aB,[])))/\sJ g role OU FI LI AG OW):=
   Ho hg hV fun ab ho bO bE bc bI bV OU FI LI AG OW h' hs Cm=>.inr ⟨⟨hV,by omega,by omega⟩,ab,ho,bO,bE,bc,bI,bV,OU,FI,LI,AG,OW,rfl,hs,Cm⟩
  have hn:1<=g.n/\g.n<=200:=⟨by omega,by omega⟩;exact⟨H2 hT hn hs,HZ hT hn hs,HY hT hn hs,HX hT hn hs,HW hT hn hs⟩
 .rw[decide_eq_false hV];refine oU rfl (.inl ⟨fun h=>hV h.1,rfl,hs.ext⟩)
def iu(g:Gl)(i:Nat)(m:Ms):fk:=⟨(i:Int),1+((eW g i m).length:Int),m⟩
def vB(g:Gl)(i:Nat)(l:List Ms):List fk:=(l.filter fun m=>decide (m.p≠(eA g.es i).a)).map (iu g i)
def iv(g:Gl)(role:Int)(i:Nat):List fk:=if (eA g.es i).b=role then vB g i (dU g i) else []
def dt(g:Gl)(role:Int)(s:Nat):List fk:=(ao g.es (s:Nat)).flatMap (iv g role)
theorem vA{g:Gl}{i:Nat}{l:List Ms}{k:Nat}{m:Ms}(hm:l[k]?=some m):vB g i (l.take (k+1))=vB g i (l.take k)++(if m.p≠(eA g.es i).a then [iu g i m] else []):=by
 unfold vB;rw[aj hm,List.filter_append,Ym];congr 1;by_cases e:m.p≠(eA g.es i).a
 .rw[if_pos e,List.filter_cons_of_pos (by rw[decide_eq_true e])];rfl
 .rw[if_neg e,List.filter_cons_of_neg (by rw[decide_eq_false e];decide)];rfl
def qH(ab gb:Nat)(g:Gl)(role:Int)(ho bO bE bc bI bV:Sl)(OU:List Ap)(FI:List Fs)(LI:List Lm)(AG OW:List Bool)(AR:List qL)(R:List It):List It:=
 ([.af ab (NK g role ho bO bE bc bI bV) 186,.sl ho 102 1 ((OU.map Prod.fst).map fB),.sl bO 195 2 (FI.map Fs.cs),.sl bE 192 4 (LI.map Lm.cs),.sl bc 4 1 (AG.map bC),.sl bI 4 1 (OW.map bC),.sl bV 274 1 ((AR.map Prod.fst).map fB),.af gb g.cs 27]++OU.map (nest 3 1 a6)++FI.map KA)++AR.map (nest 276 4 fk.cs)++R
theorem FU(ab gb:Nat)(g:Gl)(role:Int)(ho bO bE bc bI bV:Sl)(OU:List Ap)(FI:List Fs)(LI:List Lm)(AG OW:List Bool)(AR:List qL)(R:List It):qH ab gb g role ho bO bE bc bI bV OU FI LI AG OW AR R=oO ab gb g role ho bO bE bc bI bV OU FI LI AG OW AR++R:=by
 unfold qH oO;simp only[Yz]
structure JB (g:Gl) (role:Int) (f:Nat->List fk) (AR:List qL):Prop where
 l:AR.map Prod.snd=(List.range g.n.toNat).map f
 b:∀q∈AR,∀x∈q.2,0<x.n/\x.n<=1048577
theorem JB.len{g:Gl}{role:Int}{f:Nat->List fk}{AR:List qL}(h:JB g role f AR):AR.length=g.n.toNat:=by have:=congrArg List.length h.l;simpa using this
theorem Fh{h0 h:Heap}{ab gb:Nat}{g:Gl}{role:Int}{ho bO bE bc bI bV:Sl}{OU:List Ap}{FI:List Fs}{LI:List Lm}{AG OW:List Bool}{R:List It}(hs:St h0 h (qH ab gb g role ho bO bE bc bI bV OU FI LI AG OW (List.replicate g.n.toNat (aB,[])) R))(hg:GI h0 g)(hx:Gm h0)(hV:ae g)
  (hO:OU.map Prod.snd=(List.range g.n.toNat).map fun s=>aK (ao g.es (s:Nat))) :
  Fn Pz 82 #[.pointer (some ⟨ab,0,none⟩)] h fun v h'=>v=.tuple ⟨[]⟩/\∃AR:List qL,St h0 h' (qH ab gb g role ho bO bE bc bI bV OU FI LI AG OW AR R)/\JB g role (dt g role) AR/\∀q∈AR,q.2.length<=160000:=by
 apply WW ⟨ab,0,none⟩;unfold W82;have hN:=hV.num.n;have hM:=hV.num.m;have hE:=hV.num.e;have qk:=hg.e.ln;have ZA:OU.length=g.n.toNat:=by have:=congrArg List.length hO;simpa using this
 refine⟨g.n,hs.rd 0 rfl (i:=3) rfl,?_⟩;refine⟨fun x h' μ=>∃(s:Nat) (AR:List qL),x=(s:Int)/\μ=g.n.toNat-s/\s<=g.n.toNat/\St h0 h' (qH ab gb g role ho bO bE bc bI bV OU FI LI AG OW AR R)/\JB g role (fun t=>if t<s then dt g role t else []) AR/\∀q∈AR,q.2.length<=160000,⟨_,0,_,rfl,rfl,Nat.zero_le _,hs,⟨?_,fun q hq x hx=>?_⟩,fun q hq=>?_⟩,?_⟩
 .rw[List.map_replicate];apply wm;intro s;rw[List.getElem?_replicate,Yd];by_cases hs:s<g.n.toNat
  .rw[if_pos hs,xX hs];rfl
  .rw[if_neg hs,Yl (by rw[mG];omega)];rfl
 .rw[List.eq_of_mem_replicate hq] at hx;cases hx
 .rw[List.eq_of_mem_replicate hq];exact Nat.zero_le _
 clear hs;rintro-_ h6 μ ⟨s,AR,rfl,rfl,jU,hs,lK,uT⟩;refine aQ (fun c=>?_) (fun c=>?_)
 .obtain⟨qo,RJ⟩:=get_some (l:=OU) (i:=s) (by omega);have RH:qo.2=aK (ao g.es (s:Nat)):=by
   have h1:=aN hO (s:=s) (by omega);rw[Yd,RJ] at h1;exact eU h1
  have we:=cX g.es (s:Nat);have LO:=(hs.len 1 (s:=ho) (e:=102) (n:=1) (rows:=(OU.map Prod.fst).map fB) rfl (by omega)).1;rw[Yc,Yc] at LO;refine⟨ho,hs.rd 0 rfl (i:=9) rfl,?_⟩;refine (hs.rows 1 rfl (by omega)).aF (by omega) (by omega) fun b8 o9 d gd u=>?_;replace gd:(OU.map Prod.fst)[s]?=some d:=gd;rw[Yd,RJ] at gd;cases gd;refine⟨qo.1,u.hd,?_⟩;have jY:∀ {AR F},.sl qo.1 3 1 (qo.2.map a6)∈(F++qH ab gb g role ho bO bE bc bI bV OU FI LI AG OW AR R:List It):=fun {AR F}=>by
   refine List.mem_append_right _ ?_;unfold qH;refine List.mem_append_left _ (List.mem_append_left _ (List.mem_append_left _ (List.mem_append_right _ (Yp.2 ⟨qo,Yb RJ,rfl⟩))))
  have RF:Rw h6 1 qo.1 (qo.2.map a6):=hs.Dd (jY (F:=[])) (by omega);have py:qo.1.n=(ao g.es (s:Nat)).length:=by have:=RF.1;rw[Yc,RH] at this;rw[this];exact Yc _
  clear RF;refine⟨fun x h' μ=>∃(j:Nat) (AR:List qL),x=(j:Int)/\μ=qo.1.n-j/\j<=qo.1.n/\St h0 h' (qH ab gb g role ho bO bE bc bI bV OU FI LI AG OW AR R)/\JB g role (fun t=>if t<s then dt g role t else if t=s then ((ao g.es (s:Nat)).take j).flatMap (iv g role) else []) AR/\(∀q∈AR,q.2.length<=160000)/\(((ao g.es (s:Nat)).take j).flatMap (iv g role)).length<=400*j,⟨_,0,AR,rfl,rfl,Nat.zero_le _,hs,?_,uT,Nat.zero_le _⟩,?_⟩
  .refine⟨?_,lK.b⟩;rw[lK.l];apply List.map_congr_left;intro t _;by_cases e1:t<s
   .rw[if_pos e1,if_pos e1]
   .rw[if_neg e1,if_neg e1];by_cases e2:t=s
    .rw[if_pos e2];rfl
    .rw[if_neg e2]
  clear hs lK uT;rintro-_ mq μ ⟨j,AR,rfl,rfl,hj,hs,lK,uT,Eo⟩;have kF:Rw mq 1 qo.1 (qo.2.map a6):=hs.Dd (jY (F:=[])) (by omega);refine aQ (fun c2=>?_) (fun c2=>?_)
  .refine kF.aF (by omega) (by omega) fun b16 XT d gd u2=>?_;rw[RH] at gd;obtain⟨k,hk,rfl⟩:=bS gd;replace hk:(ao g.es (s:Nat))[j]?=some k:=hk;obtain⟨x0,jr,sQ⟩:=az.1 (Yb hk);have rH:=(Ya.1 jr).1;have jT:=aI jr;have JQ:∀ {AR':List qL},JB g role (fun t=>if t<s then dt g role t else if t=s then ((ao g.es (s:Nat)).take j).flatMap (iv g role)++iv g role k else []) AR'->JB g role (fun t=>if t<s then dt g role t else if t=s then ((ao g.es (s:Nat)).take (j+1)).flatMap (iv g role) else []) AR':=fun {AR'} h9=>by
    rw[aj hk,List.flatMap_append,List.flatMap_singleton];exact h9
   refine⟨(k:Int),u2.hd,g.he,hs.rd 0 rfl (i:=6) rfl,?_⟩;refine (hg.e.rw.ext hs.ext).aF (by omega) (by omega) fun Wj Vv x gx u3=>?_;replace gx:g.es[k]?=some x:=gx;rw[jr] at gx;cases gx;refine⟨x0.b,u3.nth 2 rfl,role,hs.rd 0 rfl (i:=8) rfl,iC (fun c3=>?_) (fun c3=>?_)⟩
   .have e1:iv g role k=[]:=by unfold iv;rw[jT,if_neg c3]
    refine⟨_,?_,j+1,AR,by rw[aZ (by omega) (by omega)];omega,rfl,by omega,hs,JQ (by rw[e1,Yw];exact lK),uT,?_⟩
    .omega
    .rw[aj hk,List.flatMap_append,List.flatMap_singleton,e1,Yw];omega
   .have e1:iv g role k=vB g k (dU g k):=by unfold iv;rw[jT,if_pos c3]
    refine⟨_,_,_,_,_,_,_,_,hs.at 0 rfl (o:=0) (n:=8) rfl,?_⟩;refine (Fg g k x0 mq (hg.ext hs.ext) (hx.ext hs.ext) hV jr).mono ?_;rintro _ fA ⟨E36,sl,rfl,Cn,Zh⟩;replace hs:=(hs.join Cn).perm (List.perm_append_comm (l₁:=qH ab gb g role ho bO bE bc bI bV OU FI LI AG OW AR R) (l₂:=[_]));refine⟨sl,0,rfl,?_⟩;refine⟨fun x h' μ=>∃(l:Nat) (AR:List qL),x=(l:Int)/\μ=sl.n-l/\l<=sl.n/\St h0 h' (.sl sl 72 2 ((dU g k).map Ms.cs)::qH ab gb g role ho bO bE bc bI bV OU FI LI AG OW AR R)/\JB g role (fun t=>if t<s then dt g role t else if t=s then ((ao g.es (s:Nat)).take j).flatMap (iv g role)++vB g k ((dU g k).take l) else []) AR/\(∀q∈AR,q.2.length<=160000)/\(vB g k ((dU g k).take l)).length<=l,⟨_,0,AR,rfl,rfl,Nat.zero_le _,hs,?_,uT,Nat.zero_le _⟩,?_⟩
    .have:vB g k ((dU g k).take 0)=[]:=rfl;rw[this,Yw];exact lK
    clear hs lK uT kF;rintro-_ Mr μ ⟨l,AR,rfl,rfl,hl,hs,lK,uT,Cr⟩;have pt:=(hs.len 0 (s:=sl) (e:=72) (n:=2) (rows:=(dU g k).map Ms.cs) rfl (by omega)).1;rw[Yc] at pt;refine aQ (fun c4=>?_) (fun c4=>?_)
    .refine (hs.rows 0 rfl (by omega)).aF (by omega) (by omega) fun b42 o43 m gm u4=>?_;replace gm:(dU g k)[l]?=some m:=gm;have Em:=Yb gm;refine⟨m.p,m.l,u4,?_⟩;refine hs.ai (vs:=m.cs) rfl rfl fun pF hs=>?_;refine⟨m.p,hs.rd 0 rfl (i:=0) rfl,g.he,hs.rd 2 rfl (i:=6) rfl,?_⟩;refine (hg.e.rw.ext hs.ext).aF (by omega) (by omega) fun b50 o51 x gx u5=>?_;replace gx:g.es[k]?=some x:=gx;rw[jr] at gx;cases gx;refine⟨x0.a,u5.nth 1 rfl,eh (fun c5=>?_) (fun c5=>?_)⟩
     .have e2:vB g k ((dU g k).take (l+1))=vB g k ((dU g k).take l):=by rw[vA gm,if_neg (by rw[jT];exact fun h9=>h9 c5),Yw]
      refine⟨_,?_,l+1,AR,by rw[aZ (by omega) (by omega)];omega,rfl,by omega,hs.drop 1,by rw[e2];exact lK,uT,by rw[e2];omega⟩;omega
     .have e2:vB g k ((dU g k).take (l+1))=vB g k ((dU g k).take l)++[iu g k m]:=by rw[vA gm,if_pos (by rw[jT];exact c5)]
      refine⟨_,_,_,_,_,_,_,_,hs.at 2 rfl (o:=0) (n:=8) rfl,m.p,m.l,hs.at 0 rfl (o:=0) (n:=2) rfl,?_⟩;refine (yr g k x0 m pF (hg.ext hs.ext) (hx.ext hs.ext) hV jr Em).mono ?_;rintro _ ZM ⟨E67,sp,rfl,Cm,sR⟩;replace hs:=hs.step E67;have Ee:=(Cm.len 0 (s:=sp) (e:=65) (n:=3) rfl (by omega)).1;rw[Yc] at Ee;have SG:=lK.len;obtain⟨q,hq⟩:=get_some (l:=AR) (i:=s) (by omega);have jX:q.2=((ao g.es (s:Nat)).take j).flatMap (iv g role)++vB g k ((dU g k).take l):=by
       have h1:=aN lK.l (s:=s) (by omega);rw[Yd,hq,if_neg (by omega),if_pos rfl] at h1;exact eU h1
      have Ei:q.2.length<=400*j+l:=by rw[jX,Yh];omega
      have Sd:=(hs.len 8 (s:=bV) (e:=274) (n:=1) (rows:=(AR.map Prod.fst).map fB) rfl (by omega)).1;rw[Yc,Yc] at Sd;refine⟨sp,0,rfl,bV,hs.rd 2 rfl (i:=14) rfl,bV,hs.rd 2 rfl (i:=14) rfl,?_⟩;refine (hs.rows 8 rfl (by omega)).aF (by omega) (by omega) fun b70 o71 d gd u6=>?_;replace gd:(AR.map Prod.fst)[s]?=some d:=gd;rw[Yd,hq] at gd;cases gd;refine⟨q.1,u6.hd,m.p,m.l,hs.at 0 rfl (o:=0) (n:=2) rfl,?_⟩;have hw:IntKind.wrap .i64 (1+(sp.n:Int))=1+((eW g k m).length:Int):=by rw[aZ (by omega) (by omega),Ee]
      rw[hw];refine hs.ak fun jZ E75 hs=>⟨E75.sm,?_⟩;have hs:St h0 jZ ((.af ZM.size (iu g k m).cs 276 :: .af Mr.size m.cs 72 :: .sl sl 72 2 ((dU g k).map Ms.cs)::([.af ab (NK g role ho bO bE bc bI bV) 186,.sl ho 102 1 ((OU.map Prod.fst).map fB),.sl bO 195 2 (FI.map Fs.cs),.sl bE 192 4 (LI.map Lm.cs),.sl bc 4 1 (AG.map bC),.sl bI 4 1 (OW.map bC),.sl bV 274 1 ((AR.map Prod.fst).map fB),.af gb g.cs 27]++OU.map (nest 3 1 a6)++FI.map KA))++AR.map (nest 276 4 fk.cs)++R):=hs;have py:=(hs.lF hq (by omega)).ln;refine hs.nL hq Nx (iu g k m) (hs.at 0 rfl (o:=0) (n:=4) rfl) rfl rfl (by omega) (by simp only[maxLen];omega) fun r h77 hr mg=>⟨?_,?_⟩
      .exact fT (hs.same mg 3 3 rfl rfl) lu
      .refine mg.set 9 rfl (by omega) (x:=(s:Int)) (by omega) (by omega) r rfl rfl (fun b78 o79 h80 hs=>?_) rfl;refine⟨_,?_,l+1,AR.set s (r,q.2++[iu g k m]),by rw[aZ (by omega) (by omega)];omega,rfl,by omega,?_,⟨?_,fun q' uI x rE=>?_⟩,fun q' uI=>?_,by rw[e2,Yh,Yv];omega⟩
       .omega
       .have hs:=hs.drop 2;unfold qH;rw[List.map_set (f:=Prod.fst)];exact hs
       .rw[List.map_set,lK.l];refine ep (by omega) ?_ fun t ht=>?_
        .simp only[Nat.lt_irrefl,if_false,if_true];rw[e2,jX,Yz]
        .show (if t<s then dt g role t else if t=s then _ else _)=(if t<s then dt g role t else if t=s then _ else _);by_cases e3:t<s
         .rw[if_pos e3,if_pos e3]
         .rw[if_neg e3,if_neg e3,if_neg ht,if_neg ht]
       .rcases List.mem_or_eq_of_mem_set uI with uI | rfl
        .exact lK.b q' uI x rE
        .rcases Yk.1 rE with rE | rE
         .exact lK.b q (Yb hq) x rE
         .rw[Ye] at rE;subst rE;show 0<1+((eW g k m).length:Int)/\1+((eW g k m).length:Int)<=1048577;omega
       .rcases List.mem_or_eq_of_mem_set uI with uI | rfl
        .exact uT q' uI
        .show (q.2++[iu g k m]).length<=160000;rw[Yh,Yv];omega
    .rw[Yj (l:=dU g k) (by omega)] at lK Cr;refine⟨_,?_,j+1,AR,by rw[aZ (by omega) (by omega)];omega,rfl,by omega,hs.drop 1,JQ (by rw[e1];exact lK),uT,?_⟩
     .omega
     .rw[aj hk,List.flatMap_append,List.flatMap_singleton,Yh,e1];omega
  .rw[Yj (by omega)] at lK;refine⟨_,?_,s+1,AR,by rw[aZ (by omega) (by omega)];omega,rfl,by omega,hs,⟨?_,lK.b⟩,uT⟩
   .omega
   .rw[lK.l];apply List.map_congr_left;intro t _;by_cases e1:t<s
    .rw[if_pos e1,if_pos (by omega)]
    .rw[if_neg e1];by_cases e2:t=s
     .subst e2;rw[if_pos rfl,if_pos (by omega)];rfl
     .rw[if_neg e2,if_neg (by omega)]
 .refine⟨rfl,AR,hs,⟨?_,lK.b⟩,uT⟩;rw[lK.l];apply List.map_congr_left;intro t ht;rw[List.mem_range] at ht;rw[if_pos (by omega)]
def a7:Int:=1073741824
def dO(O:List (Pr × Nat))(p:Pr):Int:=(aG O p).elim a7 fun k=>(k:Int)
theorem zH(ob:Nat)(O:List (Pr × Nat))(p:Pr)(h:Heap)(hm:It.ok h (.mp ob (O.map fun q=>(pV q.1,mM q.2))))(hk:∀q∈O,dG q.1)(hn:(O.map Prod.fst).Nodup)(hp:dG p):
  Fn Pz 165 #[.map (some ob),.agg ⟨pC p⟩] h fun v h'=>v=.int .i64 (dO O p)/\Ext h h':=by
 apply Qo (some ob) (p.1:Nat) (p.2:Nat);unfold UI;refine (St.refl h).aq fun h3 hs=>?_;refine⟨_,_,hs.at 0 rfl (o:=0) (n:=2) rfl,?_⟩;refine rq (a:=p) GJ (hm.bH fun b hb=>hs.ext.2 b (hm.lt hb)) hk hn hp true ?_;unfold dO;generalize aG O p=o;cases o with
 | none=>exact⟨0,false,rfl,rfl,hs.ext⟩
 | some k=>exact⟨(k:Int),true,rfl,rfl,hs.ext⟩
def Bd(D:Pr->Int)(p:Pr)(m:aV):Bool:=decide ((bu m:Int)+D (bp m)=D p)
theorem M6(ob:Nat)(O:List (Pr × Nat))(m:aV)(p:Pr)(c0 c1:Addr)(h:Heap)(ig:hc h c0=some (.map (some ob)))(uS:a8 h c1 (pC p))(hm:It.ok h (.mp ob (O.map fun q=>(pV q.1,mM q.2))))(hk:∀q∈O,dG q.1)(hn:(O.map Prod.fst).Nodup)(hp:dG p)(hq:dG (bp m))(e1:((bp m).1:Int)=m.s)(e2:((bp m).2:Int)=m.t)(hb:0<=dO O (bp m)/\dO O (bp m)<=a7):
  Fn Pz 168 #[.agg ⟨m.cs⟩,.pointer (some c0),.pointer (some c1)] h fun v h'=>v=.bool (Bd (dO O) p m)/\Ext h h':=by
 apply Ql m.x m.y m.s m.t c0 c1;unfold UF;have VI:pC (bp m)=[.int .i64 m.s,.int .i64 m.t]:=by unfold pC;rw[e1,e2]
 have sR:=cV m;unfold a7 at hb;refine (St.refl h).aq fun h5 hs=>?_;refine⟨_,_,_,_,hs.at 0 rfl (o:=0) (n:=4) rfl,some ob,aw hs.ext ig,_,_,hs.at 0 rfl (o:=2) (n:=2) rfl,some ob,aw hs.ext ig,_,_,fj hs.ext uS,?_⟩;refine (nO m.x m.y m.s m.t h5).mono ?_;rintro _ xB ⟨rfl,E1⟩;replace hs:=hs.step E1;refine⟨_,rfl,E1.sm,?_⟩;have EJ:=zH ob O (bp m) xB (hm.bH fun b hb=>hs.ext.2 b (hm.lt hb)) hk hn hq;rw[VI] at EJ;refine EJ.mono ?_;rintro _ mn ⟨rfl,E2⟩;replace hs:=hs.step E2;refine⟨_,rfl,E2.sm,?_⟩;refine (zH ob O p mn (hm.bH fun b hb=>hs.ext.2 b (hm.lt hb)) hk hn hp).mono ?_;rintro _ EI ⟨rfl,E3⟩;replace hs:=hs.step E3;refine⟨_,rfl,E3.sm,?_,hs.ext⟩;have hw:(if 0<=m.x/\0<=m.y then (2:Int) else 1)=(bu m:Int):=by unfold bu;split<;>rfl
 rw[hw,aZ (by omega) (by omega)];unfold Bd;congr 1
theorem Nj:au Pz 168=true:=by kernel_rfl
theorem D5(ob:Nat)(O:List (Pr × Nat))(L:List aV)(p:Pr)(c0 c1:Addr)(s:Sl)(h:Heap)(hr:Rw h 4 s (L.map aV.cs))(hl:L.length<=16777216)(ig:hc h c0=some (.map (some ob)))(uS:a8 h c1 (pC p))(hm:It.ok h (.mp ob (O.map fun q=>(pV q.1,mM q.2))))(hk:∀q∈O,dG q.1)(hn:(O.map Prod.fst).Nodup)(hp:dG p)
  (hL:∀m∈L,dG (bp m)/\((bp m).1:Int)=m.s/\((bp m).2:Int)=m.t/\0<=dO O (bp m)/\dO O (bp m)<=a7) :
  Fn Pz 167 #[.slice s.a s.n s.c,.func (.func 168) #[] #[.pointer (some c0),.pointer (some c1)]] h fun v h'=>v=.int .i64 (rC (Bd (dO O) p) L)/\Ext h h':=by
 apply Qm;unfold UG;have VK:=hr.1;rw[Yc] at VK;refine⟨fun x h' μ=>∃i:Nat,x=i/\μ=s.n-i/\i<=s.n/\Ext h h'/\∀(j:Nat) (y:aV),j<i->L[j]?=some y->Bd (dO O) p y=false,⟨_,0,rfl,rfl,Nat.zero_le _,.cD,fun j y hj=>by omega⟩,?_⟩;rintro-_ h5 μ ⟨i,rfl,rfl,hi,E,hd⟩;refine aQ (fun c=>?_) (fun c=>?_)
 .refine (hr.ext E).aF (by omega) (by omega) fun b6 o7 q g t=>?_;replace g:L[i]?=some q:=g;obtain⟨q1,q2,q3,q4⟩:=hL q (Yb g);refine⟨q.x,q.y,q.s,q.t,t,?_⟩;show cond (au Pz 168) _ _;rw[Nj,cond_true];refine (M6 ob O q p c0 c1 h5 (aw E ig) (fj E uS) (hm.bH fun b hb=>E.2 b (hm.lt hb)) hk hn hp q1 q2 q3 q4).mono ?_;rintro _ fR ⟨rfl,E2⟩;refine⟨_,rfl,aa (fun c1=>⟨?_,E.trans E2⟩) (fun c1=>⟨_,by omega,i+1,by rw[aZ (by omega) (by omega)];omega,rfl,by omega,E.trans E2,fun j y hj hy=>?_⟩)⟩
  .unfold rC;rw[nU hd g c1]
  .by_cases e1:j=i
   .subst e1;rw[g] at hy;cases hy;exact c1
   .exact hd j y (by omega) hy
 .refine⟨?_,E⟩;unfold rC;rw[y6 fun j y hj=>hd j y (by have:=(Ya.1 hj).1;omega) hj]
structure Au where
 r:Int
 s:Bool
 p:Int
 l:Int
 deriving DecidableEq
def Au.cs(x:Au):List Value:=[.int .i64 x.r,.bool x.s,.int .i64 x.p,.int .i64 x.l,.slice none 0 0]
def cL:Au:=⟨0,false,0,0⟩
structure Wt where
 k:Int
 r:Int
 f:Sl
 s:Sl
 e:Au
 o:Au
def Wt.cs(w:Wt):List Value:=[.int .i64 w.k,.int .i64 w.r,.slice w.f.a w.f.n w.f.c,.slice w.s.a w.s.n w.s.c,.int .i64 w.e.r,.bool w.e.s,.int .i64 w.e.p,.int .i64 w.e.l,.slice none 0 0,.int .i64 w.o.r,.bool w.o.s,.int .i64 w.o.p,.int .i64 w.o.l,.slice none 0 0]
def gA:Wt:=⟨0,0,aB,aB,cL,cL⟩
def aR(role:Int)(x:Ev):Au:=⟨role,x.send,x.peer,x.label⟩
theorem kN(b:Nat)(role:Int)(x:Ev)(h:Heap)(Cp:hc h ⟨b,8,none⟩=some (.int .i64 role)):Fn Pz 171 #[.pointer (some ⟨b,0,none⟩),.agg ⟨x.cs⟩] h fun v h'=>Ext h h'/\v=.agg ⟨(aR role x).cs⟩:=by
 apply Qi ⟨b,0,none⟩ x.send x.peer x.label;unfold UC;refine (St.refl h).aq fun h4 hs=>?_;refine hs.aq fun h5 hs=>?_;refine⟨role,aw hs.ext Cp,x.send,hs.rd 1 rfl (i:=0) rfl,x.peer,hs.rd 1 rfl (i:=1) rfl,x.label,hs.rd 1 rfl (i:=2) rfl,?_⟩;refine hs.put 0 rfl (o:=0) (vs:=(aR role x).cs) rfl (aY 5) fun cA hs=>?_;exact⟨_,_,_,_,aB,hs.at 0 rfl (o:=0) (n:=5) rfl,hs.ext,rfl⟩
inductive mS (mv:Pr->List aV) (bj:Pr->Option Int) (D:Pr->Int) (p0:Pr):List aV->Pr->Prop
 | nil:mS mv bj D p0 [] p0
 | snoc {ms:List aV} {p:Pr} {m:aV} {k:Nat}:mS mv bj D p0 ms p->bj p≠some (D p)->(mv p).findIdx? (Bd D p)=some k->(mv p)[k]?=some m->mS mv bj D p0 (ms++[m]) (bp m)
def facts(g:Gl)(ms:List aV):List Ac:=ms.flatMap fun m=>if 0<=m.x then [(eA g.es m.x.toNat).act] else []
def eZ(g:Gl)(ms:List aV):List Ac:=ms.flatMap fun m=>if 0<=m.y then [(eA g.es m.y.toNat).act] else []
theorem xK(g:Gl)(ms:List aV)(m:aV):facts g (ms++[m])=facts g ms++if 0<=m.x then [(eA g.es m.x.toNat).act] else []:=by
 unfold facts;rw[List.flatMap_append,List.flatMap_singleton]
theorem wz(g:Gl)(ms:List aV)(m:aV):eZ g (ms++[m])=eZ g ms++if 0<=m.y then [(eA g.es m.y.toNat).act] else []:=by
 unfold eZ;rw[List.flatMap_append,List.flatMap_singleton]
theorem BN(g:Gl)(ms:List aV):(facts g ms).length<=ms.length:=by
 induction ms with
 | nil=>exact Nat.zero_le _
 | cons a l ih=>
  unfold facts at *;rw[List.flatMap_cons,Yh,mD];split<;>simp only[Yv,List.length_nil]<;>omega
theorem AM(g:Gl)(ms:List aV):(eZ g ms).length<=ms.length:=by
 induction ms with
 | nil=>exact Nat.zero_le _
 | cons a l ih=>
  unfold eZ at *;rw[List.flatMap_cons,Yh,mD];split<;>simp only[Yv,List.length_nil]<;>omega
theorem H8{g:Gl}{role:Int}{s t:Nat}{m:aV}(hm:m∈bA g.es role s t):(0<=m.x->m.x.toNat<g.es.length)/\(0<=m.y->m.y.toNat<g.es.length):=by
 have hE:∀ {k:Nat} {s:Int},k∈ao g.es s->k<g.es.length:=fun {k s} hk=>by
  obtain⟨x,hx,_⟩:=az.1 hk;exact (Ya.1 hx).1
 unfold bA at hm;rcases Yk.1 hm with hm | hm
 .rcases Yk.1 hm with hm | hm
  .obtain⟨k,hk,rfl⟩:=Yp.1 hm;have:=hE (List.mem_filter.1 hk).1;exact⟨fun _=>this,fun h9=>absurd h9 (by show ¬(0:Int) <= -1;decide)⟩
  .obtain⟨k,hk,rfl⟩:=Yp.1 hm;have:=hE (List.mem_filter.1 hk).1;exact⟨fun h9=>absurd h9 (by show ¬(0:Int) <= -1;decide),fun _=>this⟩
 .unfold nP at hm;obtain⟨i,hi,hm⟩:=List.mem_flatMap.1 hm;unfold sP at hm;split at hm
  .cases hm
  .obtain⟨k,hk,rfl⟩:=Yp.1 hm;exact⟨fun _=>hE hi,fun _=>hE (List.mem_filter.1 hk).1⟩
theorem St.FN{h0 h h2:Heap}{L:List It}(hs:St h0 h L)(kb ks:Nat){cb:Nat}{xs:List Value}{e0 t e:TypeId}{n bytes:Nat}{α:Type}{cs:α->List Value}{so:Sl}{X:List α}{x:α}(Bz:L[kb]?=some (.af cb xs e0))(G2:L[ks]?=some (.sl so e n (X.map cs)))
  (hT:cn Pz t e n bytes=true) (e2:h2=h.push (.cells ⟨cs x⟩ e)) (hc:(cs x).length=n) (ho:(cs x).all fF=true) (hn:X.length<=16777216) (Ki:0<n/\bytes<=128) (f:Nat) (hf:f<xs.length) (bz:ks≠kb) {K:Heap->Prop}
  (hK:∀(s':Sl) (h':Heap),St h0 h' ((L.set ks (.sl s' e n ((X++[x]).map cs))).set kb (.af cb (ay xs f [.slice s'.a s'.n s'.c]) e0))->K h') :
  App Pz t t (.slice so.a so.n so.c) (.slice (some ⟨h.size,0,none⟩) 1 1) h2 fun ko oK=>fG oK ⟨cb,f,none⟩ 1/\∀wk:Heap,wk=bh oK ⟨cb,f,none⟩ 0 [.slice ko.a ko.n ko.c]->K wk:=by
 have cp:St h0 h2 (.af h.size (cs x) e::L):=hs.aq (K:=fun h2=>St h0 h2 (.af h.size (cs x) e::L)) (fun _ h=>h) h2 e2;have hl:=(hs.len ks (s:=so) G2 Ki.1).1;rw[Yc] at hl;have rL:(so.n+1)*bytes<=16777217*128:=Nat.mul_le_mul (by omega) Ki.2;refine cp.appended (ks+1) (s:=so) G2 hT (x:=⟨h.size,0,none⟩) (m:=1) (c:=1) (news:=[cs x]) (cp.at 0 rfl (o:=0) (n:=n) (by rw[List.drop_zero,<-hc,xW];simp)) rfl (by intro r hr;rw[Ye.1 hr];exact hc) (by simpa using ho) (by omega) (by simp only[maxLen];omega) fun ko oK n55 mg=>?_;have mg:St h0 oK (L.set ks (.sl ko e n (X.map cs++[cs x]))):=mg.drop 1;refine mg.put kb (by rw[Yy bz];exact Bz) (o:=f) (vs:=[.slice ko.a ko.n ko.c]) rfl (by show f+1<=xs.length;omega) fun wk Ir=>hK ko wk ?_;rw[Ym];exact Ir
def FB(wb pb lb ob:Nat)(kind role:Int)(wf ws:Sl)(p:Pr)(F S:List Ac):List It:=
 [.af wb (Wt.cs ⟨kind,role,wf,ws,cL,cL⟩) 35,.af pb (pC p) 97,.af lb [.map (some ob)] 293,.sl wf 65 3 (F.map Ac.cs),.sl ws 65 3 (S.map Ac.cs)]
def EV(g:Gl)(x:Int):List Ac:=if 0<=x then [(eA g.es x.toNat).act] else []
theorem Hr{hb n4 h4 h6 fR:Heap}{b ob mb:Nat}{kind role:Int}{wf ws all:Sl}{p:Pr}{F S:List Ac}{g:Gl}{X:An}{A:List Pr}{l:List (Pr × Sl)}{O:List (Pr × Nat)}{k:Nat}{m:aV}{Rh:Nat}{Vh:Heap->Nat->Prop}
  (hs:St hb n4 (FB fR.size h6.size h4.size ob kind role wf ws p F S)) (hA:s7 hb b g role X) (hV:ae g) (hM:Hb hb g role all mb A l) (Kj:It.ok hb (.mp ob (O.map fun q=>(pV q.1,mM q.2)))) (hk:∀q∈O,dG q.1) (hn:(O.map Prod.fst).Nodup) (hp:p∈A)
  (je:(cO g role p).findIdx? (Bd (dO O) p)=some k) (gm:(cO g role p)[k]?=some m) (hF:F.length<=8388608) (hS:S.length<=8388608) (IJ:∀q∈A,0<=dO O q/\dO O q<=a7)
  (hI:∀(h':Heap) (Ci WA:Sl),St hb h' (FB fR.size h6.size h4.size ob kind role Ci WA (bp m) (F++EV g m.x) (S++EV g m.y))->∃m9,m9<Rh/\Vh h' m9):F3 n4 h6 (some mb) h4 fR ⟨b,0,none⟩ Rh Vh:=by
 unfold F3;have hN:=hV.num.n;have hE:=hV.num.m;have hg:=hA.gg.gi;have qk:=hg.e.ln;have zg:∀p∈A,(p.1:Int)<g.n/\(p.2:Int)<g.n:=fun p hp=>((hM.pr p).1 hp).lt hV;have rJ:∀p∈A,dG p:=fun p hp=>by have:=zg p hp;exact⟨by omega,by omega⟩
 have ew:∀m∈cO g role p,bp m∈A:=fun m hm=>(hM.pr _).2 (.step ((hM.pr p).1 hp) hm);have Em:=Yb gm;have Cr:=(Ya.1 gm).1;have hlen:(cO g role p).length<=160800:=kx (by omega);have Cq:=jO hV (zg p hp) Em;obtain⟨edx,edy⟩:=H8 Em;obtain⟨r,YK,rF⟩:=hM.mv p hp;have uG:r.n=(cO g role p).length:=rF.ln;refine⟨_,_,hs.at 1 rfl (o:=0) (n:=2) rfl,?_⟩;refine rq (a:=p) (cv:=iA) vU (hM.mp.bH fun b hb=>hs.ext.2 b (hM.mp.lt hb)) hM.lk hM.ln (rJ p hp) false ?_;rw[YK];refine⟨r,rfl,?_⟩;refine (D5 ob O (cO g role p) p ⟨h4.size,0,none⟩ ⟨h6.size,0,none⟩ r n4 (rF.ext hs.ext).rw (by omega) (hs.rd 2 rfl (i:=0) rfl) (hs.at 1 rfl (o:=0) (n:=2) rfl) (Kj.bH fun b hb=>hs.ext.2 b (Kj.lt hb)) hk hn (rJ p hp) fun m hm=>?_).mono ?_
 .have h1:=jO hV (zg p hp) hm;have h2:=IJ _ (ew m hm);exact⟨rJ _ (ew m hm),h1.2.2.1,h1.2.2.2,h2.1,h2.2⟩
 rintro _ ZQ ⟨rfl,E⟩;replace hs:=hs.step E;refine⟨_,rfl,?_⟩;have VN:rC (Bd (dO O) p) (cO g role p)=(k:Int):=by unfold rC;rw[je]
 rw[VN];refine (rF.ext hs.ext).rw.aF (by omega) (by omega) fun acP abt m' Wa t=>?_;replace Wa:(cO g role p)[k]?=some m':=Wa;rw[gm] at Wa;cases Wa;refine⟨m.x,m.y,m.s,m.t,t,?_⟩;refine hs.ai (vs:=m.cs) rfl rfl fun ZO hs=>?_;refine⟨fun h'=>∃Ci,St hb h' (.af ZQ.size m.cs 200::FB fR.size h6.size h4.size ob kind role Ci ws p (F++EV g m.x) S),?_,?_⟩
 .refine⟨m.x,hs.rd 0 rfl (i:=0) rfl,aQ (fun c=>?_) (fun c=>?_)⟩
  .have Ck:=edx c;refine⟨wf,hs.rd 1 rfl (i:=2) rfl,g.he,aw hs.ext (hA.gg.at_.nth 6 rfl),m.x,hs.rd 0 rfl (i:=0) rfl,?_⟩;refine (hg.e.rw.ext hs.ext).aF (by omega) (by omega) fun aap XQ x gx u=>?_;replace gx:g.es[m.x.toNat]?=some x:=gx;have Eu:EV g m.x=[x.act]:=by unfold EV;rw[if_pos c,aI gx]
   refine⟨x.a,x.b,x.l,u.sub 1 3 rfl,fun EH e2=>⟨?_,?_⟩⟩
   .exact (show Ext ZO EH by rw[e2];exact Ext.push _ _).sm
   .refine hs.FN 1 4 rfl rfl qG (x:=x.act) e2 rfl rfl (by omega) (by decide) 2 (by show 2<14;decide) (by decide) fun s' h' hs=>?_;refine⟨s',?_⟩;rw[Eu];exact hs
  .have Eu:EV g m.x=[]:=by unfold EV;rw[if_neg c]
   refine⟨wf,?_⟩;rw[Eu,Yw];exact hs
 .clear hs t;rintro-Mt ⟨Ci,hs⟩;have VI:pC (bp m)=[.int .i64 m.s,.int .i64 m.t]:=by unfold pC;rw[Cq.2.2.1,Cq.2.2.2]
  refine⟨m.y,hs.rd 0 rfl (i:=1) rfl,aQ (fun c=>?_) (fun c=>?_)⟩
  .have hyl:=edy c;refine⟨ws,hs.rd 1 rfl (i:=3) rfl,g.he,aw hs.ext (hA.gg.at_.nth 6 rfl),m.y,hs.rd 0 rfl (i:=1) rfl,?_⟩;refine (hg.e.rw.ext hs.ext).aF (by omega) (by omega) fun aap XQ x gx u=>?_;replace gx:g.es[m.y.toNat]?=some x:=gx;have Eu:EV g m.y=[x.act]:=by unfold EV;rw[if_pos c,aI gx]
   refine⟨x.a,x.b,x.l,u.sub 1 3 rfl,fun EH e2=>⟨?_,?_⟩⟩
   .exact (show Ext Mt EH by rw[e2];exact Ext.push _ _).sm
   .refine hs.FN 1 5 rfl rfl qG (x:=x.act) e2 rfl rfl (by omega) (by decide) 3 (by show 3<14;decide) (by decide) fun s' h' hs=>?_;refine⟨m.s,m.t,hs.at 0 rfl (o:=2) (n:=2) rfl,?_⟩;refine hs.put 2 rfl (o:=0) (vs:=[.int .i64 m.s,.int .i64 m.t]) rfl (aY 2) fun h' hs=>hI h' Ci s' ?_;have hs:=hs.drop 1;unfold FB;rw[Eu,VI];exact hs
  .have Eu:EV g m.y=[]:=by unfold EV;rw[if_neg c]
   refine⟨m.s,m.t,hs.at 0 rfl (o:=2) (n:=2) rfl,?_⟩;refine hs.put 2 rfl (o:=0) (vs:=[.int .i64 m.s,.int .i64 m.t]) rfl (aY 2) fun h' hs=>hI h' Ci ws ?_;have hs:=hs.drop 1;unfold FB;rw[Eu,Yw,VI];exact hs
theorem CS{xz h6 h4 fR:Heap}{mp:Option Nat}{p0:Addr}{Rh:Nat}{Vh:Heap->Nat->Prop}(h:F3 xz h6 mp h4 fR p0 Rh Vh):Vg xz h6 mp h4 fR p0 Rh Vh:=h
end Go.VC
end
