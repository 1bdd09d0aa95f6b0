/- SxY SxZ SxRp SxMa SxMb SxMc SxMd SxMe SxNa SxNb SxNc SxNd SxNe SxRa SxRb SxRc SxRd SxRe0 SxRe SxRf SxRg SxHa SxIa SxHb SxHc SxHd SxIb SxIc SxId SxIe SxUa SxUb SxUc SxUd SxUe SxUf SxUg SxUh SxUi SxKm SxLa SxLb SxLc. -/
import Derived.Test.YtajglkbckhgboaaGreatDoorHM05
set_option linter.all false
set_option maxRecDepth 100000
set_option maxHeartbeats 8000000

section
namespace Go.VC
open Go.Proofs Go.LexS
def mD(x:Nm):Dc:=⟨x,⟨none,0,0⟩,0,⟨none,0,0⟩,⟨none,0,0⟩,[],[],[]⟩
def cQ:Bool->List Ed
 | true=>[⟨0,0,1,0,1,false⟩,⟨0,0,1,1,2,false⟩,⟨1,1,2,0,3,false⟩,⟨2,1,2,1,4,false⟩,⟨3,2,1,2,5,false⟩,⟨4,2,1,3,5,false⟩]
 | false=>[⟨0,0,1,0,1,false⟩,⟨0,0,1,1,2,false⟩,⟨1,2,1,2,3,false⟩,⟨2,2,1,3,3,false⟩]
def dj(b:Bool)(hr hd he ht:Sl):Gl:=⟨[101],hr,hd,if b then 6 else 4,0,if b then 5 else 3,he,ht,[[112],[113],[114]],[mD [97],mD [98],mD [99],mD [100]],cQ b,[]⟩
theorem gu(p0 p1 p2 p3 p4:Int)(h:Heap):Fn Pz 87 #[.int .i64 p0,.int .i64 p1,.int .i64 p2,.int .i64 p3,.int .i64 p4] h fun v h'=>v=.agg ⟨Ed.cs ⟨p0,p1,p2,p3,p4,false⟩⟩/\Ext h h':=by
 apply aaW;unfold W87;have hs:=St.refl h;refine hs.ao (vs:=Ed.cs ⟨p0,p1,p2,p3,p4,false⟩) rfl rfl fun h2 hs=>?_;exact⟨_,_,_,_,_,_,hs.at 0 rfl (n:=6) rfl,rfl,hs.ext⟩
theorem RL.none_{α:Type}{h:Heap}{k:Nat}{cs:α->List Value}:RL h k ⟨none,0,0⟩ cs []:=⟨Rw.nil,bc _,fun _=>⟨rfl,rfl⟩,Nat.zero_le _⟩
theorem St.rl{α:Type}{h0 h:Heap}{L:List It}(hs:St h0 h L)(k:Nat){s:Sl}{e:TypeId}{n:Nat}{cs:α->List Value}{l:List α}(hk:L[k]?=some (.sl s e n (l.map cs)))(hn:0<n)(hl:l.length<=1048576):RL h n s cs l:=by
 have:=hs.len k hk hn;exact⟨hs.rows k hk hn,this.2.1,this.2.2,hl⟩
theorem OO(L:List Nm):∀r∈L.map DM,r.length=1:=fun r hr=>by obtain⟨x,_,rfl⟩:=Yp.1 hr;rfl
theorem QC(L:List Dc):∀r∈L.map Dc.cs,r.length=5:=fun r hr=>by obtain⟨x,_,rfl⟩:=Yp.1 hr;rfl
theorem HR(L:List Ed):∀r∈L.map Ed.cs,r.length=6:=fun r hr=>by obtain⟨x,_,rfl⟩:=Yp.1 hr;rfl
theorem tG(b:Bool)(h:Heap):Fn Pz 38 #[.bool b] h fun v h'=>Ext h h'/\∃hr hd he:Sl,v=(dj b hr hd he ⟨none,0,0⟩).v/\GI h' (dj b hr hd he ⟨none,0,0⟩):=by
 apply abw;unfold W38 RU;have hs:=St.refl h;refine hs.ak fun h1 hs=>?_;refine hs.ak fun h2 hs=>?_;have hs:=hs.dP 3 1 ([[112],[113],[114]].map DM) rfl (OO _) rfl (by decide);refine hs.ak fun h3 hs=>?_;have hs:=hs.dP 4 5 ([mD [97],mD [98],mD [99],mD [100]].map Dc.cs) rfl (QC _) rfl (by decide);refine hs.ao (vs:=[.string (bs [101]),.slice (some ⟨h1.size,0,none⟩) 3 3,.slice (some ⟨h2.size,0,none⟩) 4 4,.int .i64 4,.int .i64 0,.int .i64 3,.slice none 0 0,.slice none 0 0]) rfl rfl fun h5 hs=>?_;refine (gu _ _ _ _ _ _).mono ?_;rintro _ _ ⟨rfl,E⟩;replace hs:=hs.step E;clear E;refine⟨_,_,_,_,_,_,rfl,?_⟩;refine (gu _ _ _ _ _ _).mono ?_;rintro _ _ ⟨rfl,E⟩;replace hs:=hs.step E;clear E;refine⟨_,_,_,_,_,_,rfl,?_⟩;refine (gu _ _ _ _ _ _).mono ?_;rintro _ _ ⟨rfl,E⟩;replace hs:=hs.step E;clear E;refine⟨_,_,_,_,_,_,rfl,?_⟩;refine (gu _ _ _ _ _ _).mono ?_;rintro _ _ ⟨rfl,E⟩;replace hs:=hs.step E;clear E;refine⟨_,_,_,_,_,_,rfl,?_⟩;refine hs.ak fun tB hs=>?_;have hs:=hs.dP 4 6 ((cQ false).map Ed.cs) rfl (HR _) rfl (by decide);refine hs.put 1 rfl (o:=6) (vs:=[.slice (some ⟨_,0,none⟩) 4 4]) rfl (show 7<=8 by decide) fun B6 hs=>?_;cases b
 .refine ja rfl ?_;refine⟨_,⟨some ⟨h1.size,0,none⟩,3,3⟩,⟨some ⟨h2.size,0,none⟩,4,4⟩,_,_,_,⟨some ⟨_,0,none⟩,4,4⟩,⟨none,0,0⟩,hs.at 1 rfl (n:=8) rfl,?_⟩;refine hs.put 4 rfl (o:=0) (vs:=(dj false ⟨some ⟨h1.size,0,none⟩,3,3⟩ ⟨some ⟨h2.size,0,none⟩,4,4⟩ ⟨some ⟨_,0,none⟩,4,4⟩ ⟨none,0,0⟩).cs) rfl (show 8<=8 by decide) fun aeb hs=>?_;refine⟨_,⟨some ⟨h1.size,0,none⟩,3,3⟩,⟨some ⟨h2.size,0,none⟩,4,4⟩,_,_,_,⟨some ⟨_,0,none⟩,4,4⟩,⟨none,0,0⟩,hs.at 4 rfl (n:=8) rfl,hs.ext,_,_,_,rfl,?_⟩;refine⟨hs.rl 3 rfl (by decide) (show 3<=1048576 by decide),⟨hs.rl 2 rfl (by decide) (show 4<=1048576 by decide),fun d hd=>?_⟩,hs.rl 0 rfl (by decide) (show 4<=1048576 by decide),RL.none_⟩;have hd:d∈[mD [97],mD [98],mD [99],mD [100]]:=hd;simp only[Yr,List.not_mem_nil,or_false] at hd;rcases hd with rfl | rfl | rfl | rfl<;>exact⟨RL.none_,RL.none_,RL.none_⟩
 .refine qf rfl ?_;refine hs.put 1 rfl (o:=3) (vs:=[.int .i64 6]) rfl (show 4<=8 by decide) fun sz hs=>?_;refine hs.put 1 rfl (o:=5) (vs:=[.int .i64 5]) rfl (show 6<=8 by decide) fun LJ hs=>?_;refine (gu _ _ _ _ _ _).mono ?_;rintro _ _ ⟨rfl,E⟩;replace hs:=hs.step E;clear E;refine⟨_,_,_,_,_,_,rfl,?_⟩;refine (gu _ _ _ _ _ _).mono ?_;rintro _ _ ⟨rfl,E⟩;replace hs:=hs.step E;clear E;refine⟨_,_,_,_,_,_,rfl,?_⟩;refine (gu _ _ _ _ _ _).mono ?_;rintro _ _ ⟨rfl,E⟩;replace hs:=hs.step E;clear E;refine⟨_,_,_,_,_,_,rfl,?_⟩;refine (gu _ _ _ _ _ _).mono ?_;rintro _ _ ⟨rfl,E⟩;replace hs:=hs.step E;clear E;refine⟨_,_,_,_,_,_,rfl,?_⟩;refine (gu _ _ _ _ _ _).mono ?_;rintro _ _ ⟨rfl,E⟩;replace hs:=hs.step E;clear E;refine⟨_,_,_,_,_,_,rfl,?_⟩;refine (gu _ _ _ _ _ _).mono ?_;rintro _ _ ⟨rfl,E⟩;replace hs:=hs.step E;clear E;refine⟨_,_,_,_,_,_,rfl,?_⟩;refine hs.ak fun B3 hs=>?_;have hs:=hs.dP 6 6 ((cQ true).map Ed.cs) rfl (HR _) rfl (by decide);refine hs.put 2 rfl (o:=6) (vs:=[.slice (some ⟨_,0,none⟩) 6 6]) rfl (show 7<=8 by decide) fun h91 hs=>?_;refine⟨_,⟨some ⟨h1.size,0,none⟩,3,3⟩,⟨some ⟨h2.size,0,none⟩,4,4⟩,_,_,_,⟨some ⟨_,0,none⟩,6,6⟩,⟨none,0,0⟩,hs.at 2 rfl (n:=8) rfl,?_⟩;refine hs.put 5 rfl (o:=0) (vs:=(dj true ⟨some ⟨h1.size,0,none⟩,3,3⟩ ⟨some ⟨h2.size,0,none⟩,4,4⟩ ⟨some ⟨_,0,none⟩,6,6⟩ ⟨none,0,0⟩).cs) rfl (show 8<=8 by decide) fun aeb hs=>?_;refine⟨_,⟨some ⟨h1.size,0,none⟩,3,3⟩,⟨some ⟨h2.size,0,none⟩,4,4⟩,_,_,_,⟨some ⟨_,0,none⟩,6,6⟩,⟨none,0,0⟩,hs.at 5 rfl (n:=8) rfl,hs.ext,_,_,_,rfl,?_⟩;refine⟨hs.rl 4 rfl (by decide) (show 3<=1048576 by decide),⟨hs.rl 3 rfl (by decide) (show 4<=1048576 by decide),fun d hd=>?_⟩,hs.rl 0 rfl (by decide) (show 6<=1048576 by decide),RL.none_⟩;have hd:d∈[mD [97],mD [98],mD [99],mD [100]]:=hd;simp only[Yr,List.not_mem_nil,or_false] at hd;rcases hd with rfl | rfl | rfl | rfl<;>exact⟨RL.none_,RL.none_,RL.none_⟩
deriving instance DecidableEq for Ed
theorem q8(b:Bool)(hr hd he ht:Sl):af (dj b hr hd he ht):=by
 have BI:(dj b hr hd he ht).rs=[[112],[113],[114]]:=rfl;have hds:(dj b hr hd he ht).ds=[mD [97],mD [98],mD [99],mD [100]]:=rfl;have Ec:(dj b hr hd he ht).es=cQ b:=rfl;have dq:bX [mD [97],mD [98],mD [99],mD [100]]=[]:=rfl;have Xm:∀ {α:Type} {P:Nat->α->Prop} {l:List α},(∀i (hi:i<l.length),P i l[i])->∀i x,l[i]?=some x->P i x:=by
  intro α P l h i x hx;obtain⟨h1,h2⟩:=Ya.1 hx;rw[<-h2];exact h i h1
 refine⟨⟨by rfl,by rw[BI];decide,by rw[BI];decide,?_⟩,⟨?_,?_,?_⟩,?_,⟨?_,?_,?_⟩,?_,?_,?_⟩
 .rw[BI];refine Xm (P:=fun i s=>isWord s=true/\s∉List.take i [[112],[113],[114]]) fun i hi=>?_;have hi:i<3:=hi
  match i,hi with
  | 0,_=>exact cd rfl
  | 1,_=>exact cd rfl
  | 2,_=>exact cd rfl
 .cases b<;>exact⟨cd rfl,cd rfl,cd rfl,cd rfl,cd rfl,cd rfl⟩
 .rw[Ec];cases b<;>decide
 .rw[Ec];unfold gU;rw[BI,hds];cases b
  .show ∀x∈cQ false,0<=x.f/\0<=x.t/\0<=x.a/\0<=x.b/\0<=x.l/\x.f<4/\x.t<4/\x.a<((3:Nat):Int)/\x.b<((3:Nat):Int)/\x.a≠x.b/\x.l<((4:Nat):Int);decide
  .show ∀x∈cQ true,0<=x.f/\0<=x.t/\0<=x.a/\0<=x.b/\0<=x.l/\x.f<6/\x.t<6/\x.a<((3:Nat):Int)/\x.b<((3:Nat):Int)/\x.a≠x.b/\x.l<((4:Nat):Int);decide
 .rw[hds];refine⟨by decide,by rw[dq];decide,?_⟩;refine Xm (P:=fun i d=>DcS [mD [97],mD [98],mD [99],mD [100]] i d) fun i hi=>?_;have hi:i<4:=hi;have hg:nH [] [] []:=⟨by decide,by decide,fun x hx=>(by cases hx),fun x hx=>(by cases hx)⟩
  match i,hi with
  | 0,_=>exact⟨by rfl,cd rfl,cd rfl,by rfl,fun k f hf=>(by cases hf),by rw[dq];exact hg⟩
  | 1,_=>exact⟨by rfl,cd rfl,cd rfl,by rfl,fun k f hf=>(by cases hf),by rw[dq];exact hg⟩
  | 2,_=>exact⟨by rfl,cd rfl,cd rfl,by rfl,fun k f hf=>(by cases hf),by rw[dq];exact hg⟩
  | 3,_=>exact⟨by rfl,cd rfl,cd rfl,by rfl,fun k f hf=>(by cases hf),by rw[dq];exact hg⟩
 .rw[Ec];cases b
  .show ∀x∈cQ false,x.f≠3;decide
  .show ∀x∈cQ true,x.f≠5;decide
 .rw[Ec];cases b
  .show ∀x∈cQ false,x.ag=true->x.f≠0;decide
  .show ∀x∈cQ true,x.ag=true->x.f≠0;decide
 .rw[Ec];have key:((cQ b).zipIdx.all fun p=>(cQ b).zipIdx.all fun q=>!decide ((p.2≠q.2/\p.1.f=q.1.f/\((p.1.a=q.1.a/\p.1.b=q.1.b/\p.1.l=q.1.l)\/p.1.a≠q.1.a\/p.1.ag=true))\/(p.1.ag=true/\q.1.t=p.1.f/\(p.1.a≠q.1.a\/p.1.l≠q.1.l))))=true:=by
   cases b<;>decide
  intro i x hx k y hy acT;have h1:=List.all_eq_true.1 key (x,i) (Yf.2 ⟨i,by rw[List.getElem?_zipIdx,hx];simp⟩);have h2:=List.all_eq_true.1 h1 (y,k) (Yf.2 ⟨k,by rw[List.getElem?_zipIdx,hy];simp⟩);have h3:=eU (Bool.not_eq_true' _ ▸ h2);exact h3 acT
 .intro i t ht;exact absurd ht (by show ([]:List To)[i]?≠some t;simp)
 .intro v h0 h1;rw[Ec];cases b
  .have h1:v<4:=h1;show gC (cQ false) false 0 v;have s0:gC (cQ false) false 0 0:=.refl;have s1:gC (cQ false) false 0 1:=.step s0 ⟨⟨0,0,1,0,1,false⟩,by decide,rfl,rfl⟩;have s2:gC (cQ false) false 0 2:=.step s0 ⟨⟨0,0,1,1,2,false⟩,by decide,rfl,rfl⟩;have s3:gC (cQ false) false 0 3:=.step s1 ⟨⟨1,2,1,2,3,false⟩,by decide,rfl,rfl⟩;have:v=0\/v=1\/v=2\/v=3:=by omega
   rcases this with rfl | rfl | rfl | rfl<;>assumption
  .have h1:v<6:=h1;show gC (cQ true) false 0 v;have s0:gC (cQ true) false 0 0:=.refl;have s1:gC (cQ true) false 0 1:=.step s0 ⟨⟨0,0,1,0,1,false⟩,by decide,rfl,rfl⟩;have s2:gC (cQ true) false 0 2:=.step s0 ⟨⟨0,0,1,1,2,false⟩,by decide,rfl,rfl⟩;have s3:gC (cQ true) false 0 3:=.step s1 ⟨⟨1,1,2,0,3,false⟩,by decide,rfl,rfl⟩;have s4:gC (cQ true) false 0 4:=.step s2 ⟨⟨2,1,2,1,4,false⟩,by decide,rfl,rfl⟩;have s5:gC (cQ true) false 0 5:=.step s3 ⟨⟨3,2,1,2,5,false⟩,by decide,rfl,rfl⟩;have:v=0\/v=1\/v=2\/v=3\/v=4\/v=5:=by omega
   rcases this with rfl | rfl | rfl | rfl | rfl | rfl<;>assumption
 .intro v h0 h1;rw[Ec];cases b
  .have h1:v<4:=h1;show gC (cQ false) true 3 v;have s3:gC (cQ false) true 3 3:=.refl;have s1:gC (cQ false) true 3 1:=.step s3 ⟨⟨1,2,1,2,3,false⟩,by decide,rfl,rfl⟩;have s2:gC (cQ false) true 3 2:=.step s3 ⟨⟨2,2,1,3,3,false⟩,by decide,rfl,rfl⟩;have s0:gC (cQ false) true 3 0:=.step s1 ⟨⟨0,0,1,0,1,false⟩,by decide,rfl,rfl⟩;have:v=0\/v=1\/v=2\/v=3:=by omega
   rcases this with rfl | rfl | rfl | rfl<;>assumption
  .have h1:v<6:=h1;show gC (cQ true) true 5 v;have s5:gC (cQ true) true 5 5:=.refl;have s3:gC (cQ true) true 5 3:=.step s5 ⟨⟨3,2,1,2,5,false⟩,by decide,rfl,rfl⟩;have s4:gC (cQ true) true 5 4:=.step s5 ⟨⟨4,2,1,3,5,false⟩,by decide,rfl,rfl⟩;have s1:gC (cQ true) true 5 1:=.step s3 ⟨⟨1,1,2,0,3,false⟩,by decide,rfl,rfl⟩;have s2:gC (cQ true) true 5 2:=.step s4 ⟨⟨2,1,2,1,4,false⟩,by decide,rfl,rfl⟩;have s0:gC (cQ true) true 5 0:=.step s1 ⟨⟨0,0,1,0,1,false⟩,by decide,rfl,rfl⟩;have:v=0\/v=1\/v=2\/v=3\/v=4\/v=5:=by omega
   rcases this with rfl | rfl | rfl | rfl | rfl | rfl<;>assumption

def RBo(h:Heap)(v:Value)(h':Heap):Prop:=(∃b:Bool,v=.bool b)/\Ext h h'
theorem RBo.mk{h h':Heap}{b:Bool}(E:Ext h h'):RBo h (.bool b) h':=⟨⟨b,rfl⟩,E⟩
theorem Ext.iC{h:Heap}:Ext h h:=⟨bc _,fun _ _=>rfl⟩
def RP(p:Prop)(h:Heap)(v:Value)(h':Heap):Prop:=(∃b:Bool,v=.bool b/\(b=true ↔ p))/\Ext h h'
theorem RP.t{p:Prop}{h h':Heap}(hp:p)(E:Ext h h'):RP p h (.bool true) h':=⟨⟨true,rfl,iff_of_true rfl hp⟩,E⟩
theorem RP.f{p:Prop}{h h':Heap}(hp:¬p)(E:Ext h h'):RP p h (.bool false) h':=⟨⟨false,rfl,iff_of_false (by decide) hp⟩,E⟩
theorem RP.e{p:Prop}{h h':Heap}{b:Bool}(hb:b=true ↔ p)(E:Ext h h'):RP p h (.bool b) h':=⟨⟨b,rfl,hb⟩,E⟩
theorem cw{p:Prop}{b:Bool}(hp:b=true ↔ p)(c:b=false):¬p:=fun hq=>by
 rw[hp.2 hq] at c;cases c
theorem Vj{al:List Addr}{h h':Heap}(E:Ext h h'):Sm al h h':=fun _ _ _ _ hv=>ay E hv
theorem Jv{al:List Addr}{h h':Heap}{b:Nat}(hB:kr b h h')(hn:∀a∈al,a.block≠b):Sm al h h':=fun a ha k v hv=>by
 rw[dA (hB.2 _ (by rw[eK];exact hn a ha))];exact hv
theorem et{h:Heap}{a:Addr}{v:Value}(hv:hc h a=some v):a.block<h.size:=by
 rcases Nat.lt_or_ge a.block h.size with h1 | h1
 .exact h1
 .unfold VC.hc at hv;simp[Array.getElem?_eq_none h1] at hv
def Ot(x y:Mv):Bool:=decide (x.send=y.send/\x.peer=y.peer/\x.label=y.label/\x.ag=y.ag)
def VK(li:List To)(s:Int):Option Nat:=li.findIdx? fun t=>decide (t.s=s)
def Ks(m:mw)(a b:Int):Bool:=match VK m.li a,VK m.li b with
 | none,none=>true
 | some i,some k=>match m.li[i]?,m.li[k]? with
  | some x,some y=>match m.mv[x.e.toNat]?,m.mv[y.e.toNat]? with
   | some p,some q=>decide (x.k=y.k)&&Ot p q
   | _,_=>false
  | _,_=>false
 | _,_=>false
def yl(g:Gl):Prop:=g.es.length<=50/\g.rs.length<=6/\g.ds.length<=40/\g.ts.length<=50
instance (g:Gl):Decidable (yl g):=by unfold yl;infer_instance
theorem Xu(g:Gl)(h:Heap)(hg:GI h g):Fn Pz 39 #[g.v] h fun v h'=>v=.bool (decide (yl g))/\Ext h h':=by
 apply abv (bs g.nm) g.hr g.hd g.n g.s g.e g.he g.ht;unfold W39;have hs:=St.refl h;have h1:=hg.e.ln;have h2:=hg.r.ln;have h3:=hg.d.r.ln;have h4:=hg.t.ln;refine hs.ak fun h9 hs=>?_;refine⟨_,hs.rd 0 rfl rfl,?_⟩;refine aM (fun c1=>?_) (fun c1=>⟨dF fun hc=>by unfold yl at hc;omega,hs.ext⟩);refine⟨_,hs.rd 0 rfl rfl,?_⟩;refine aM (fun c2=>?_) (fun c2=>⟨dF fun hc=>by unfold yl at hc;omega,hs.ext⟩);refine⟨_,hs.rd 0 rfl rfl,?_⟩;refine aM (fun c3=>?_) (fun c3=>⟨dF fun hc=>by unfold yl at hc;omega,hs.ext⟩);refine⟨_,hs.rd 0 rfl rfl,?_,hs.ext⟩;congr 1;rw[decide_eq_decide];unfold yl;omega
theorem Xv(g:Gl)(h:Heap)(hg:GI h g):Fn Pz 13 #[g.v] h fun v h'=>v=.bool (decide (yl g/\g.n<=25))/\Ext h h':=by
 apply abH (bs g.nm) g.hr g.hd g.n g.s g.e g.he g.ht;unfold W13;have hs:=St.refl h;refine hs.ak fun h9 hs=>?_;refine⟨_,_,_,_,_,_,_,_,hs.at 0 rfl (n:=8) rfl,?_⟩;refine (Xu g h9 (hg.ext hs.ext)).mono ?_;rintro _ aG ⟨rfl,E20⟩;replace hs:=hs.step E20;refine⟨_,rfl,?_⟩;refine aM (fun c1=>?_) (fun c1=>⟨dF fun hc=>c1 hc.1,hs.ext⟩);refine⟨_,hs.rd 0 rfl rfl,?_,hs.ext⟩;congr 1;rw[decide_eq_decide];exact⟨fun h=>⟨c1,h⟩,fun h=>h.2⟩

def base(m:mw)(i k:Nat):Bool:=decide (m.fin.getD i false=m.fin.getD k false)&&Ks m i k

end Go.VC
end

section
namespace Go.VC
open Go.LexS




end Go.VC
end

section
namespace Go.VC
open Go.Proofs Go.LexS

theorem te(b:UInt8)(h:Heap):Fn Pz 227 #[.int .u8 b.toNat] h fun v h'=>v=.bool (lt b)/\h'=h:=by
 apply TW;unfold Zi;unfold lt isLetter;generalize (b.toNat:Int)=n
 repeat' first
  | refine aM (fun _=>?_) (fun _=>?_)
 all_goals
  refine⟨?_,rfl⟩;congr 1;rw[Bool.eq_iff_iff];simp only[Bool.or_eq_true,Yt,decide_eq_true_eq,Bool.false_eq_true,true_iff,false_iff];omega
theorem HX(b:UInt8)(h:Heap):Fn Pz 275 #[.int .u8 b.toNat] h fun v h'=>v=.bool (dg b)/\h'=h:=by
 apply TA;unfold YV;unfold dg isDigit;refine aM (fun c=>⟨?_,rfl⟩) (fun c=>⟨?_,rfl⟩)
 .rw[decide_eq_true (p:=(48:Int)<=b.toNat) c,Bool.true_and]
 .rw[decide_eq_false (p:=(48:Int)<=b.toNat) c,Bool.false_and]
theorem GY(b:UInt8)(h:Heap):Fn Pz 228 #[.int .u8 b.toNat] h fun v h'=>v=.bool (inn b)/\h'=h:=by
 apply TV;unfold Zh;refine (te b h).mono ?_;rintro _ h3 ⟨rfl,rfl⟩;refine⟨_,rfl,aa (fun c=>?_) (fun c=>?_)⟩
 .exact⟨by rw[show inn b=(lt b||dg b||((b.toNat:Int)==95)) from rfl,c];rfl,rfl⟩
 .refine (HX b _).mono ?_;rintro _ h6 ⟨rfl,rfl⟩;refine⟨_,rfl,aa (fun d=>?_) (fun d=>?_)⟩
  .exact⟨by rw[show inn b=(lt b||dg b||((b.toNat:Int)==95)) from rfl,c,d];rfl,rfl⟩
  .exact⟨by rw[show inn b=(lt b||dg b||((b.toNat:Int)==95)) from rfl,c,d];rfl,rfl⟩
theorem DT(s:ByteArray)(h:Heap):Fn Pz 176 #[.string s] h fun v h'=>v=.bool (isName s.data.toList)/\h'=h:=by
 apply Ul;unfold ZF;have fA:=ll s;rw[pW];generalize hL:s.data.toList=L at *;refine aa (fun he=>?_) (fun he=>?_)
 .have:L=[]:=cd he;subst this;exact⟨rfl,rfl⟩
 .have bH:L≠[]:=eU he;have fB:0<L.length:=List.length_pos_iff.2 bH;obtain⟨b,hb,BW⟩:=jt (s:=s) (i:=0) (by omega);rw[hL] at hb;have xp:L=b::L.drop 1:=by have:=drop_cons hb;rwa [List.drop_zero] at this
  have PC:isName L=(decide (L.length<=16)&&lt b&&L.all inn):=by
   conv=>lhs;rw[xp]
   rw[isName,<-xp]
  rw[PC];refine⟨⟨by omega,by omega⟩,?_⟩;rw[show Int.toNat 0=0 from rfl,BW];refine (te _ _).mono ?_;rintro v h3 ⟨rfl,rfl⟩;refine⟨_,rfl,aa (fun qO=>?_) (fun qO=>?_)⟩
  .refine⟨?_,rfl⟩;rw[show lt b=false from by rw[Bool.not_eq_true'] at qO;exact qO,Bool.and_false];rfl
  rw[show lt b=true from by rw[Bool.not_eq_false'] at qO;exact qO];refine aa (fun Hn=>?_) (fun Hn=>?_)
  .refine⟨?_,rfl⟩;rw[decide_eq_false (by have:=cd Hn;omega)];rfl
  .have cy:L.length<=16:=by have:=eU Hn;omega
   rw[decide_eq_true cy];refine eB (n:=s.size) (fun i h'=>h'=h3/\∀(j:Nat) (b:UInt8),j<i->L[j]?=some b->(!inn b)=false) ⟨rfl,fun j b hj=>by omega⟩ ?_;rintro-i h8 hi ⟨rfl,hd⟩;refine aa (fun bR=>?_) (fun Fh=>?_)
   .have ss:=bU bR;obtain⟨y,hy,PG⟩:=jt ss;rw[hL] at hy;refine⟨⟨by omega,by omega⟩,?_⟩;rw[show Int.toNat (i:Int)=i from rfl,PG];refine (GY _ _).mono ?_;rintro v iQ ⟨rfl,rfl⟩;refine⟨_,rfl,aa (fun hp=>?_) (fun hp=>?_)⟩
    .refine⟨?_,rfl⟩;have:L.all inn=false:=by
      rw[<-Bool.not_eq_true,jR];intro hh;have:=hh y i hy;rw[Bool.not_eq_true'] at hp;rw[show inn y=false from hp] at this;cases this
     rw[this];rfl
    .exact Up.next ss (by omega) ⟨rfl,eh (p:=fun b=>!inn b) hy hp hd⟩
   .have acJ:=cj Fh;refine⟨?_,rfl⟩;rw[(jR inn L).2 fun b j hb=>by simpa using hd j b (by have:=(Ya.1 hb).1;omega) hb];rfl
theorem VO(l:List Nm)(s:Sl)(x:ByteArray)(h:Heap)(hr:Rw h 1 s (l.map DM))(hm:l.length<=1048576):Fn Pz 177 #[.slice s.a s.n s.c,.string x] h fun v h'=>v=.bool (decide (x.data.toList∈l))/\h'=h:=by
 apply Uk;unfold ZE;have hn:=hr.ln;refine eB (n:=s.n) (fun i h'=>h'=h/\x.data.toList∉l.take i) ⟨rfl,fun e=>by simp at e⟩ ?_;rintro-i h8 hi ⟨rfl,hd⟩;refine aa (fun c=>?_) (fun c=>?_)
 .replace c:=bU c;refine hr.aD (by omega) (by omega) fun b o d g t=>?_;replace g:l[i]?=some d:=g;refine⟨_,t.hd,?_⟩;rw[pW,df];refine aa (fun he=>?_) (fun bH=>?_)
  .replace he:=cd he;exact⟨by rw[decide_eq_true (by first | (rw[he];exact Yb g) | (rw[<-he];exact Yb g))],rfl⟩
  .replace bH:=eU bH;refine Up.next c (by omega) ⟨rfl,fun kh=>?_⟩;rw[List.take_add_one,g] at kh;rcases Yk.1 kh with kh | kh
   .exact hd kh
   .first | exact bH (Ye.1 kh) | exact bH (Ye.1 kh).symm
 .replace c:=cj c;refine⟨?_,rfl⟩;rw[Yj (by omega)] at hd;rw[decide_eq_false hd]
theorem G5(l:List Nm)(s:Sl)(x:ByteArray)(h:Heap)(hr:Rw h 1 s (l.map DM))(hm:l.length<=1048576):Fn Pz 101 #[.slice s.a s.n s.c,.string x] h fun v h'=>(∃k:Int,v=.int .i64 k/\(∀i:Nat,i<l.length->(k<(i:Int) ↔ x.data.toList∈l.take i\/x.data.toList∉l)))/\h'=h:=by
 apply U9;unfold aar;have hn:=hr.ln;refine eB (n:=s.n) (fun i h'=>h'=h/\x.data.toList∉l.take i) ⟨rfl,fun e=>by simp at e⟩ ?_;rintro-i h8 hi ⟨rfl,hd⟩;refine aa (fun c=>?_) (fun c=>?_)
 .replace c:=bU c;refine hr.aD (by omega) (by omega) fun b o d g t=>?_;replace g:l[i]?=some d:=g;refine⟨_,t.hd,?_⟩;rw[pW,df];refine aa (fun he=>?_) (fun bH=>?_)
  .replace he:=cd he;have he2:x.data.toList=d:=by first | exact he | exact he.symm
   have eH:x.data.toList∈l:=by rw[he2];exact Yb g
   refine⟨⟨_,rfl,fun k hk=>⟨fun hik=>.inl ?_,fun nZ=>?_⟩⟩,rfl⟩
   .have:l[i]?=some x.data.toList:=by rw[he2];exact g
    exact Yb (i:=i) (by rw[tQ,if_pos (by omega)];exact this)
   .rcases nZ with nZ | nZ
    .apply Classical.byContradiction;intro Ps;have:l.take k=(l.take i).take k:=by rw[List.take_take,Nat.min_eq_left (by omega)]
     rw[this] at nZ;exact hd (List.mem_of_mem_take nZ)
    .exact absurd eH nZ
  .replace bH:=eU bH;refine Up.next c (by omega) ⟨rfl,fun kh=>?_⟩;rw[List.take_add_one,g] at kh;rcases Yk.1 kh with kh | kh
   .exact hd kh
   .first | exact bH (Ye.1 kh) | exact bH (Ye.1 kh).symm
 .replace c:=cj c;rw[Yj (by omega)] at hd;exact⟨⟨_,rfl,fun k hk=>⟨fun _=>.inr hd,fun _=>by omega⟩⟩,rfl⟩
def kwB:List ByteArray:=[⟨#[97,103,97,105,110]⟩,⟨#[97,110,100]⟩,⟨#[97,115]⟩,⟨#[97,116]⟩,⟨#[99,97,108,108]⟩,⟨#[99,104,111,105,99,101]⟩,⟨#[101,108,115,101]⟩,⟨#[102,114,111,109]⟩,⟨#[105,102]⟩,⟨#[105,110,116]⟩,⟨#[108,101,110]⟩,⟨#[108,111,111,112]⟩,⟨#[109,101,115,115,97,103,101]⟩,⟨#[111,102]⟩,⟨#[111,102,102,101,114]⟩,⟨#[111,110]⟩,⟨#[111,114]⟩,⟨#[112,97,114]⟩,⟨#[112,108,97,121,115]⟩,⟨#[112,114,111,116,111,99,111,108]⟩,⟨#[115,101,114,118,105,99,101]⟩,⟨#[116,101,120,116]⟩,⟨#[116,105,109,101,115]⟩,⟨#[116,111]⟩,⟨#[118,97,114]⟩,⟨#[119,104,101,114,101]⟩,⟨#[119,104,105,108,101]⟩,⟨#[119,105,116,104,105,110]⟩]
theorem O3:(kwB.map fun b=>b.data.toList)=fx:=rfl
theorem w5(h:Heap):Fn Pz 178 #[] h fun v h'=>Ext h h'/\∃s:Sl,v=.slice s.a s.n s.c/\Rw h' 1 s (fx.map DM):=by
 apply Uj;unfold ZD;intro h1 e;have ho:Own h1 h.size (kwB.map Value.string) 9:=by rw[e];exact Own.push
 have hl:kwB.length=28:=rfl;rw[<-O3];refine⟨by rw[e];exact Ext.push _ _,⟨some ⟨h.size,0,none⟩,28,28⟩,rfl,by rw[Yc,Yc,hl],fun _=>⟨h.size,0,rfl,fun i row hi=>?_⟩⟩;rw[List.map_map,Yd] at hi;obtain⟨x,Lj,zC⟩:=sH.1 hi;subst zC;refine ho.a6 fun j v hj=>?_
 match j,hj with
 | 0,hj=>cases hj;rw[show 0+i*1+0=i by omega,Yd,Lj];rfl
theorem jH(s:ByteArray)(h:Heap):Fn Pz 100 #[.string s] h fun v h'=>v=.bool (isWord s.data.toList)/\Ext h h':=by
 apply Va;unfold aas;refine (DT s h).mono ?_;rintro _ h3 ⟨rfl,rfl⟩;refine⟨_,rfl,aa (fun c=>?_) (fun c=>?_)⟩
 .refine (w5 h3).mono ?_;rintro _ h6 ⟨E2,k,rfl,hk⟩;refine⟨_,rfl,?_⟩;refine (VO _ k s h6 hk (by decide)).mono ?_;rintro _ h9 ⟨rfl,rfl⟩;exact⟨_,rfl,by rw[isWord,c];rfl,E2⟩
 .exact⟨by rw[isWord,c];rfl,.iC⟩
theorem AF(s:ByteArray)(h:Heap):Fn Pz 229 #[.string s] h fun v h'=>v=.bool (isWord s.data.toList)/\Ext h h':=by
 apply TU;unfold Zg;refine (jH s h).mono ?_;rintro _ h3 ⟨rfl,E⟩;exact⟨_,rfl,rfl,E⟩
theorem zz{l:Nm}:Lib.index l [46]=Lib.indexByte l 46:=Lib.index_one l 46
theorem wD{l:Nm}(hn:∀k:Nat,l[k]?≠some 46):pieces l=[l]:=by
 have h1:Lib.index l [46]=-1:=by
  have h0:=Lib.index_ge l [46];apply Classical.byContradiction;intro h2;obtain⟨o,ho⟩:∃o:Nat,Lib.index l [46]=o:=⟨(Lib.index l [46]).toNat,by omega⟩;rw[zz] at ho;exact hn o (Lib.indexByte_some ho).1
 unfold pieces Lib.split;rw[Lib.count_miss h1];rfl
theorem yS{l:Nm}{i:Nat}(hi:l[i]?=some 46)(hn:∀k:Nat,k<i->l[k]?≠some 46):pieces l=l.take i::pieces (l.drop (i+1)):=by
 have h1:Lib.index l [46]=(i:Int):=by
  have h0:=Lib.index_ge l [46];have h2:Lib.index l [46] ≠ -1:=fun h2=>by rw[zz] at h2;exact Lib.indexByte_none h2 i hi
  obtain⟨o,ho⟩:∃o:Nat,Lib.index l [46]=o:=⟨(Lib.index l [46]).toNat,by omega⟩;have h3:=Lib.indexByte_some (zz (l:=l) ▸ ho);have:o=i:=by
   rcases Nat.lt_trichotomy o i with h | h | h
   .exact absurd h3.1 (hn o h)
   .exact h
   .exact absurd hi (h3.2 i h)
  rw[ho,this]
 unfold pieces Lib.split;rw[Lib.count_hit (i:=i) (by decide) h1,Nat.add_comm 1,Lib.splitK,if_neg (by rw[h1];intro e;have:=eq_of_beq e;omega),h1];rfl
theorem DS(s:ByteArray)(h:Heap)(hs:s.size<=1048576):Fn Pz 181 #[.string s] h fun v h'=>v=.bool (ie s.data.toList)/\Ext h h':=by
 apply Ug;unfold ZA Jo;have fA:=ll s;generalize hL:s.data.toList=L at *;refine⟨fun f i h' m=>∃a b:Nat,f=a/\i=b/\a<=b/\b<=s.size+1/\m=s.size+1-b/\Ext h h'/\(b<=s.size->(∀k:Nat,a<=k->k<b->L[k]?≠some 46)/\(pieces L).all isWord=(pieces (L.drop a)).all isWord)/\(s.size<b->(pieces L).all isWord=true),⟨_,0,0,rfl,rfl,bc _,by omega,rfl,.iC,fun _=>⟨fun k _ hk=>by omega,rfl⟩,fun hb=>by omega⟩,?_⟩;rintro-_ _ h6 m ⟨a,b,rfl,rfl,mA,hb,rfl,E,hq,hz⟩;refine aa (fun c=>?_) (fun c=>?_)
 .replace c:=cd c;have hbs:b<=s.size:=by omega
  obtain⟨q1,q2⟩:=hq hbs;have hw:IntKind.wrap .i64 ((b:Int)+1)=((b+1:Nat):Int):=by rw[a7 (by omega) (by omega)];omega
  have nX:(s.extract (Int.toNat (a:Int)) (Int.toNat (b:Int))).data.toList=(L.drop a).take (b-a):=by
   rw[show Int.toNat (a:Int)=a from rfl,show Int.toNat (b:Int)=b from rfl,HN,hL]
  refine aa (fun c2=>?_) (fun c2=>?_)
  .have Ht:b=s.size:=by
    have:(b:Int)=s.size:=by simpa using c2
    omega
   have hp:pieces (L.drop a)=[L.drop a]:=wD fun k hk=>by
    rw[List.getElem?_drop] at hk;exact q1 (a+k) (by omega) (by have:=(Ya.1 hk).1;omega) hk
   have hta:(L.drop a).take (b-a)=L.drop a:=Yj (by rw[List.length_drop];omega);refine⟨⟨by omega,by omega,by omega⟩,?_⟩;refine (AF _ h6).mono ?_;rintro _ h9 ⟨rfl,E2⟩;rw[nX,hta];rw[hp,List.all_cons,List.all_nil,Bool.and_true] at q2;refine⟨_,rfl,aa (fun c3=>?_) (fun c3=>⟨_,by omega,b+1,b+1,hw,hw,by omega,by omega,rfl,E.trans E2,fun jK=>by omega,fun _=>?_⟩)⟩
   .refine⟨?_,E.trans E2⟩;rw[ie,q2,bF c3,Bool.and_false]
   .rw[q2,bT c3]
  .have bH:(b:Int)≠s.size:=by simpa using c2
   obtain⟨y,hy,BW⟩:=jt (s:=s) (i:=b) (by omega);rw[hL] at hy;refine⟨⟨by omega,by omega⟩,?_⟩;rw[show Int.toNat (b:Int)=b from rfl] at *;rw[BW];refine aa (fun c3=>?_) (fun c3=>⟨_,by omega,a,b+1,rfl,hw,by omega,by omega,rfl,E,fun _=>⟨fun k Wo jn=>?_,q2⟩,fun jK=>by omega⟩)
   .have aci:y=46:=by
     have h4:(y.toNat:Int)=46:=by simpa using c3
     exact UInt8.toNat_inj.1 (by rw[show (46:UInt8).toNat=46 from rfl];omega)
    subst aci;have hp:pieces (L.drop a)=(L.drop a).take (b-a)::pieces ((L.drop a).drop (b-a+1)):=yS (by rw[List.getElem?_drop,show a+(b-a)=b by omega];exact hy) fun k hk=>by
     rw[List.getElem?_drop];exact q1 (a+k) (by omega) (by omega)
    rw[List.drop_drop,show a+(b-a+1)=b+1 by omega] at hp;rw[hp,List.all_cons] at q2;refine⟨⟨by omega,by omega,by omega⟩,?_⟩;refine (AF _ h6).mono ?_;rintro _ h9 ⟨rfl,E2⟩;rw[nX];refine⟨_,rfl,aa (fun c4=>?_) (fun c4=>⟨_,by omega,b+1,b+1,hw,hw,by omega,by omega,rfl,E.trans E2,fun jK=>⟨fun k _ _=>by omega,?_⟩,fun jK=>by omega⟩)⟩
    .refine⟨?_,E.trans E2⟩;rw[ie,q2,bF c4,Bool.false_and,Bool.and_false]
    .rw[q2,bT c4,Bool.true_and]
   .by_cases Pt:k=b
    .subst Pt;rw[hy];intro e;cases e;simp at c3
    .exact q1 k Wo (by omega)
 .replace c:=eU c;refine⟨?_,E⟩;rw[ie,hz (by omega),Bool.and_true];first | rfl | (congr 1;rw[decide_eq_decide];omega)
theorem tW(ds:List Dc)(s:Sl)(h:Heap)(hd:DL h s ds):Fn Pz 179 #[.slice s.a s.n s.c] h fun v h'=>v=.int .i64 ((bX ds).length:Nat)/\(bX ds).length<=1099511627776/\h'=h:=by
 apply Ui;unfold ZC;have hn:=hd.r.ln;have hm:=hd.r.sm;have hle:∀i,i<=ds.length->(bX (ds.take i)).length<=i*1048576:=fun i hi=>by
  have:=vg (ds.take i) fun d hd2=>(hd.i d (List.mem_of_mem_take hd2)).pf.sm;rw[Yu,Nat.min_eq_left hi] at this;exact this
 have yy:∀i,i<=ds.length->(bX (ds.take i)).length<=1099511627776:=fun i hi=>by
  have:=hle i hi;have:i*1048576<=1048576*1048576:=Nat.mul_le_mul_right _ (by omega);omega
 refine⟨fun q i h' m=>∃b:Nat,i=b/\b<=s.n/\m=s.n-b/\h'=h/\q=((bX (ds.take b)).length:Nat),⟨_,0,rfl,by omega,rfl,rfl,rfl⟩,?_⟩;rintro-nn _ h6 m ⟨b,rfl,hb,rfl,rfl,rfl⟩;refine aa (fun c=>?_) (fun c=>?_)
 .replace c:=bU c;refine hd.r.rw.aD (by omega) (by omega) fun b7 o8 d g t=>?_;replace g:ds[b]?=some d:=g;have BQ:=(hd.i d (Yb g)).pf.ln;refine⟨_,t.nth 1 rfl,_,?_,b+1,by rw[a7 (by omega) (by omega)];omega,by omega,rfl,rfl,?_⟩
  .omega
  .have h1:=yy (b+1) (by omega);rw[List.take_add_one,g,Option.toList_some,gQ,Yh] at h1 ⊢;rw[a7 (by omega) (by omega)];omega
 .replace c:=cj c;have h1:=yy ds.length (bc _);rw[yd] at h1;rw[Yj (by omega)];exact⟨rfl,h1,rfl⟩
theorem xv(a b c:Int)(h:Heap):Fn Pz 180 #[.agg ⟨[.int .i64 a,.int .i64 b,.int .i64 c]⟩] h (RP (rG a b c) h):=by
 apply Uh;unfold ZB Jp;refine (St.refl h).ak fun h4 hs=>?_;refine⟨fun l m h'=>h'=h4/\((a=2/\l=0/\m=40)\/(a≠2/\l=-1000/\m=1000)),⟨_,hs.rd 0 rfl rfl,aM (fun c=>⟨rfl,.inl ⟨by simpa using c,rfl,rfl⟩⟩) (fun c=>⟨rfl,.inr ⟨by simpa using c,rfl,rfl⟩⟩)⟩,?_⟩;rintro-l m _ ⟨rfl,hlm⟩
 repeat' (first
  | (refine⟨_,hs.rd 0 rfl rfl,?_⟩)
  | (refine aM (fun _=>?_) (fun _=>?_)))
 all_goals
  refine RP.e ?_ hs.ext;unfold rG;simp only[Bool.false_eq_true,decide_eq_true_eq,beq_iff_eq,false_iff,true_iff] at *;omega
theorem HM(ds:List Dc)(s:Sl)(p:Int)(h:Heap)(hd:DL h s ds)(h0:0<=p)(h1:p<(bX ds).length)(h2:(bX ds).length<=1099511627776):
  Fn Pz 276 #[.slice s.a s.n s.c,.int .i64 p] h fun v h'=>(∃f,(bX ds)[p.toNat]?=some f/\v=.agg ⟨f.cs⟩)/\Ext h h':=by
 apply Tz;unfold YU Jg;have hn:=hd.r.ln;have hm:=hd.r.sm;refine (St.refl h).ak fun Qe hs=>?_;refine⟨fun x i h' m=>∃b:Nat,i=b/\b<=s.n/\m=s.n-b/\h'=Qe/\0<=x/\x+((bX (ds.take b)).length:Nat)=p,⟨_,0,rfl,by omega,rfl,rfl,h0,by show p+((0:Nat):Int)=p;omega⟩,?_⟩;rintro-x _ h7 m ⟨b,rfl,hb,rfl,rfl,jJ,Lj⟩;refine aa (fun c=>?_) (fun c=>?_)
 .replace c:=bU c;have jX:=hd.r.rw.ext hs.ext;refine jX.aD (by omega) (by omega) fun b8 o9 d g t=>?_;replace g:ds[b]?=some d:=g;have BT:=hd.i d (Yb g);have BQ:=BT.pf.ln;have hfm:=BT.pf.sm;have Fa:bX ds=bX (ds.take b)++(d.fs++bX (ds.drop (b+1))):=by
   have e:ds=ds.take b++d::ds.drop (b+1):=by
    have h3:=(List.take_append_drop b ds).symm;have hl:=(Ya.1 g).1;rw[List.drop_eq_getElem_cons hl,(Ya.1 g).2] at h3;exact h3
   conv=>lhs;rw[e]
   unfold bX;rw[List.flatMap_append,List.flatMap_cons]
  refine⟨_,t.nth 1 rfl,aa (fun c2=>?_) (fun c2=>?_)⟩
  .replace c2:=cd c2;refine jX.aD (by omega) (by omega) fun b11 o12 d2 g2 t2=>?_;replace g2:ds[b]?=some d2:=g2;rw[g] at g2;cases g2;refine⟨_,t2.nth 1 rfl,?_⟩;refine (BT.pf.rw.ext hs.ext).aD jJ c2 fun b14 o15 f g3 t3=>?_;refine⟨_,_,_,_,t3,?_⟩;refine hs.put 0 rfl (o:=0) (vs:=f.cs) rfl (show 4<=4 by decide) fun aG hs=>?_;refine⟨_,_,_,_,hs.at 0 rfl (o:=0) (n:=4) rfl,⟨f,?_,rfl⟩,hs.ext⟩;have BE:=(Ya.1 g3).1;rw[Fa,tR (by omega),jw (by omega),<-g3];congr 1;omega
  .replace c2:=eU c2;refine jX.aD (by omega) (by omega) fun b11 o12 d2 g2 t2=>?_;replace g2:ds[b]?=some d2:=g2;rw[g] at g2;cases g2;refine⟨_,t2.nth 1 rfl,s.n-(b+1),by omega,b+1,by rw[a7 (by omega) (by omega)];omega,by omega,rfl,rfl,?_⟩;rw[a7 (by omega) (by omega)];refine⟨by omega,?_⟩;rw[List.take_add_one,g,Option.toList_some,gQ,Yh];omega
 .replace c:=cj c;rw[Yj (by omega)] at Lj;omega
theorem AM(ds:List Dc)(s:Sl)(p:Int)(h:Heap)(hd:DL h s ds):Fn Pz 230 #[.slice s.a s.n s.c,.int .i64 p] h (RP (gT (bX ds) p) h):=by
 apply TT;unfold Zf;refine aa (fun c=>?_) (fun c=>?_)
 .replace c:=cd c;refine (tW ds s h hd).mono ?_;rintro _ h3 ⟨rfl,hk,rfl⟩;refine⟨_,rfl,aa (fun c2=>?_) (fun c2=>?_)⟩
  .replace c2:=cd c2;refine (HM ds s p _ hd (by omega) (by omega) hk).mono ?_;rintro _ h9 ⟨⟨f,hf,rfl⟩,E⟩;refine⟨_,_,_,_,rfl,RP.e ⟨fun hb=>⟨by omega,f,hf,by simpa using hb⟩,?_⟩ E⟩;rintro⟨_,f2,hf2,jn⟩;rw[hf] at hf2;cases hf2;simpa using jn
  .replace c2:=eU c2;refine RP.f ?_ .iC;rintro⟨_,f2,hf2,_⟩;have:=(Ya.1 hf2).1;omega
 .replace c:=eU c;exact RP.f (fun hT=>by have:=hT.1;omega) .iC
theorem uW(ds:List Dc)(s:Sl)(d:Dc)(h:Heap)(hd:DL h s ds)(hi:DI h d):
  Fn Pz 182 #[.slice s.a s.n s.c,.agg ⟨[.slice d.hd.a d.hd.n d.hd.c,.slice d.he.a d.he.n d.he.c]⟩] h (RP (nH (bX ds) d.ds d.es) h):=by
 apply Uf s d.hd d.he;unfold Zz;have rL:=hi.pd.ln;have Lw:=hi.pd.sm;have ki:=hi.pe.ln;have Fi:=hi.pe.sm;refine (St.refl h).ak fun h3 hs=>?_;refine (tW ds s h3 (hd.ext hs.ext)).mono ?_;rintro _ h6 ⟨rfl,hk,rfl⟩;refine⟨_,rfl,?_⟩;refine aL (n:=d.hd.n) hs (fun i=>∀(j:Nat) (x:Df),j<i->d.ds[j]?=some x -> -1<=min x.x x.y/\max x.x x.y<(bX ds).length /\ -20000<=x.c/\x.c<=20000) (fun j x hj=>by omega) ?_;rintro-i iQ cN ⟨hs,hq⟩;refine⟨_,hs.rd 0 rfl rfl,aa (fun c=>?_) (fun c=>?_)⟩
 .replace c:=bU c;refine⟨_,hs.rd 0 rfl rfl,?_⟩;refine (hi.pd.rw.ext hs.ext).aD (by omega) (by omega) fun b o x g t=>?_;replace g:d.ds[i]?=some x:=g;refine⟨_,_,_,t,?_⟩;refine hs.ao (vs:=x.cs) rfl rfl fun aG hs=>?_
  repeat' (first
    | (refine⟨_,hs.rd 0 rfl rfl,?_⟩)
    | (refine⟨_,hs.rd 1 rfl rfl,?_⟩)
    | (refine aM (fun _=>?_) (fun _=>?_))
    | (refine dp (fun _=>?_) (fun _=>?_))
    | (refine fZ (fun _=>?_) (fun _=>?_)))
  all_goals first
   | exact RP.f (fun hG=>by have:=hG.d x (Yb g);omega) hs.ext
   | (refine Up.next c (by omega) ⟨hs.drop 1,fun j y hj hy=>?_⟩
      by_cases e:j=i
      .subst e;rw[g] at hy;cases hy;omega
      .exact hq j y (by omega) hy)
 .replace c:=cj c;have hqd:∀x∈d.ds,-1<=min x.x x.y/\max x.x x.y<(bX ds).length /\ -20000<=x.c/\x.c<=20000:=fun x hx=>by
   obtain⟨j,hj⟩:=Yf.1 hx;exact hq j x (by have:=(Ya.1 hj).1;omega) hj
  clear hq;refine aL (n:=d.he.n) hs (fun i=>∀(j:Nat) (x:JD),j<i->d.es[j]?=some x->gT (bX ds) x.x/\gT (bX ds) x.y) (fun j x hj=>by omega) ?_;rintro-i W9 cN ⟨hs,hq⟩;refine⟨_,hs.rd 0 rfl rfl,aa (fun c=>?_) (fun c=>?_)⟩
  .replace c:=bU c;refine⟨_,hs.rd 0 rfl rfl,?_⟩;refine (hi.pe.rw.ext hs.ext).aD (by omega) (by omega) fun b o x g t=>?_;replace g:d.es[i]?=some x:=g;refine⟨⟨by omega,by omega⟩,_,t.nth 0 rfl,?_⟩;refine (AM ds s _ W9 (hd.ext hs.ext)).mono ?_;rintro _ sz ⟨⟨b1,rfl,n5⟩,E⟩;have hs:=hs.step E;refine⟨_,rfl,aa (fun c1=>RP.f (fun hG=>cw n5 (bF c1) (hG.e x (Yb g)).1) hs.ext) (fun c1=>?_)⟩;refine⟨_,hs.rd 0 rfl rfl,?_⟩;refine (hi.pe.rw.ext hs.ext).aD (by omega) (by omega) fun b o x' g' t=>?_;replace g':d.es[i]?=some x':=g';rw[g] at g';cases g';refine⟨⟨by omega,by omega⟩,_,t.nth 1 rfl,?_⟩;refine (AM ds s _ sz (hd.ext hs.ext)).mono ?_;rintro _ qR ⟨⟨b2,rfl,jK⟩,E⟩;have hs:=hs.step E;refine⟨_,rfl,aa (fun c2=>RP.f (fun hG=>cw jK (bF c2) (hG.e x (Yb g)).2) hs.ext) (fun c2=>Up.next c (by omega) ⟨hs,fun j y hj hy=>?_⟩)⟩;by_cases e:j=i
   .subst e;rw[g] at hy;cases hy;exact⟨n5.1 (bT c1),jK.1 (bT c2)⟩
   .exact hq j y (by omega) hy
  .replace c:=cj c;have SA:∀x∈d.es,gT (bX ds) x.x/\gT (bX ds) x.y:=fun x hx=>by
    obtain⟨j,hj⟩:=Yf.1 hx;exact hq j x (by have:=(Ya.1 hj).1;omega) hj
   refine⟨_,hs.rd 0 rfl rfl,aa (fun c1=>⟨_,hs.rd 0 rfl rfl,?_⟩) (fun c1=>?_)⟩
   .replace c1:=cd c1;refine RP.e ⟨fun hb=>⟨by omega,by have:=cd hb;omega,hqd,SA⟩,fun hG=>?_⟩ hs.ext;have:=hG.ne;exact decide_eq_true (by omega)
   .replace c1:=eU c1;exact RP.f (fun hG=>by have:=hG.nd;omega) hs.ext
def JA(ds:List Dc):Prop:=∀d∈ds,d.nm.length<=1048576
theorem pK{α:Type}{l:List α}{p:α->Bool}:(l.any p)=false ↔ ∀(j:Nat) (y:α),l[j]?=some y->p y=false:=by
 rw[List.any_eq_false];refine⟨fun h j y hj=>?_,fun h y hy=>?_⟩
 .have:=h y (Yb hj);cases hp:p y<;>simp_all
 .obtain⟨j,hj⟩:=Yf.1 hy;rw[h j y hj];decide
theorem wm(ds:List Dc)(s:Sl)(h:Heap)(hd:DL h s ds)(hN:JA ds):Fn Pz 102 #[.slice s.a s.n s.c] h (RP (oB ds) h):=by
 apply U8;unfold aaq;have hn:=hd.r.ln;have hm:=hd.r.sm;refine aa (fun c0=>RP.f (fun hG=>by have:=hG.pn;have:=cd c0;omega) .iC) (fun c0=>?_);replace c0:=eU c0;refine (tW ds s h hd).mono ?_;rintro _ h3 ⟨rfl,hk,rfl⟩;refine⟨_,rfl,aa (fun S5=>RP.f (fun hG=>by have:=hG.pv;have:=cd S5;omega) .iC) (fun S5=>?_)⟩;replace S5:=eU S5;refine⟨fun f i h' m=>∃b:Nat,i=b/\b<=s.n/\m=s.n-b/\St h3 h' []/\f=((bX (ds.take b)).length:Nat)/\∀(j:Nat) (y:Dc),j<b->ds[j]?=some y->DcS ds j y,⟨_,0,rfl,by omega,rfl,St.refl _,rfl,fun j y hj=>by omega⟩,?_⟩;rintro-_ _ h9 m ⟨b,rfl,hb,rfl,hs,rfl,hq⟩;refine aa (fun c=>?_) (fun c=>RP.t ⟨by omega,by omega,fun j y hy=>hq j y (by have:=cj c;have:=(Ya.1 hy).1;omega) hy⟩ hs.ext);replace c:=bU c;refine (hd.r.rw.ext hs.ext).aD (by omega) (by omega) fun b10 o11 d g t=>?_;replace g:ds[b]?=some d:=g;have Lw:=Yb g;have BT:=hd.i d Lw;have BQ:=BT.pf.ln;have hfm:=BT.pf.sm;refine⟨_,_,_,_,_,t,?_⟩;refine hs.ao (vs:=d.cs) rfl rfl fun fN hs=>?_;refine aL (n:=b) hs (fun i=>∀(j:Nat) (y:Dc),j<i->ds[j]?=some y->y.nm≠d.nm) (fun j y hj=>by omega) ?_;rintro-k1 uT Wo ⟨hs,my⟩;refine aa (fun c1=>?_) (fun c1=>?_)
 .replace c1:=bU c1;refine (hd.r.rw.ext hs.ext).aD (by omega) (by omega) fun b24 o25 d2 g2 t2=>?_;replace g2:ds[k1]?=some d2:=g2;refine⟨_,t2.nth 0 rfl,_,hs.rd 0 rfl rfl,sBs (fun e=>?_) (fun e=>Up.next c1 (by omega) ⟨hs,fun j y hj hy=>?_⟩)⟩
  .refine RP.f (fun hG=>?_) hs.ext;have:=pK.1 (hG.pd b d g).pd k1 d2 (by rw[tQ,if_pos c1];exact g2);exact eU this e
  .by_cases e2:j=k1
   .subst e2;rw[g2] at hy;cases hy;exact e
   .exact my j y (by omega) hy
 replace c1:=cj c1;have acN:((ds.take b).any fun x=>decide (x.nm=d.nm))=false:=pK.2 fun j y hy=>by
  rw[tQ] at hy;split at hy
  .exact decide_eq_false (my j y (by omega) hy)
  .cases hy
 clear my;refine aL (n:=d.hf.n) hs (fun i=>∀(j:Nat) (y:oA),j<i->d.fs[j]?=some y->JC d.fs j y) (fun j y hj=>by omega) ?_;rintro-k2 NQ jn ⟨hs,fL⟩;refine⟨_,hs.rd 0 rfl rfl,aa (fun c2=>?_) (fun c2=>?_)⟩
 .replace c2:=bU c2;refine⟨_,hs.rd 0 rfl rfl,?_⟩;refine (BT.pf.rw.ext hs.ext).aD (by omega) (by omega) fun b36 o37 f g3 t3=>?_;replace g3:d.fs[k2]?=some f:=g3;refine⟨_,_,_,t3.sub 1 3 rfl,?_⟩;refine (xv _ _ _ NQ).mono ?_;rintro _ SU ⟨⟨b1,rfl,n5⟩,E⟩;have hs:=hs.step E;refine⟨_,rfl,aa (fun c3=>RP.f (fun hG=>cw n5 (bF c3) ((hG.pd b d g).Sb k2 f g3).ps) hs.ext) (fun c3=>?_)⟩;refine⟨_,hs.rd 0 rfl rfl,?_⟩;refine (BT.pf.rw.ext hs.ext).aD (by omega) (by omega) fun b45 o46 f2 g4 t4=>?_;replace g4:d.fs[k2]?=some f2:=g4;rw[g3] at g4;cases g4;refine⟨_,t4.nth 0 rfl,?_⟩;refine (jH (bs f.nm) SU).mono ?_;rintro _ oc ⟨rfl,E⟩;have hs:=hs.step E;refine⟨_,rfl,aa (fun c4=>RP.f (fun hG=>?_) hs.ext) (fun c4=>?_)⟩
  .have:=((hG.pd b d g).Sb k2 f g3).pw;rw[df,this] at c4;cases c4
  refine aL (n:=k2) hs (fun i=>∀(j:Nat) (y:oA),j<i->d.fs[j]?=some y->y.nm≠f.nm) (fun j y hj=>by omega) ?_;rintro-j1 h55 hj1 ⟨hs,hq3⟩;refine aa (fun c5=>?_) (fun c5=>?_)
  .replace c5:=bU c5;refine⟨_,hs.rd 0 rfl rfl,?_⟩;refine (BT.pf.rw.ext hs.ext).aD (by omega) (by omega) fun b57 o58 f3 g5 t5=>?_;replace g5:d.fs[j1]?=some f3:=g5;refine⟨_,t5.nth 0 rfl,_,hs.rd 0 rfl rfl,?_⟩;refine (BT.pf.rw.ext hs.ext).aD (by omega) (by omega) fun b61 o62 f4 g6 t6=>?_;replace g6:d.fs[k2]?=some f4:=g6;rw[g3] at g6;cases g6;refine⟨_,t6.nth 0 rfl,sBs (fun e=>?_) (fun e=>Up.next c5 (by omega) ⟨hs,fun j y hj hy=>?_⟩)⟩
   .refine RP.f (fun hG=>?_) hs.ext;have:=pK.1 ((hG.pd b d g).Sb k2 f g3).pd j1 f3 (by rw[tQ,if_pos c5];exact g5);exact eU this e
   .by_cases e2:j=j1
    .subst e2;rw[g5] at hy;cases hy;exact e
    .exact hq3 j y (by omega) hy
  .replace c5:=cj c5;refine Up.next c2 (by omega) ⟨hs,fun j y hj hy=>?_⟩;by_cases e2:j=k2
   .subst e2;rw[g3] at hy;cases hy;refine⟨?_,n5.1 (bT c3),pK.2 fun j' y' E7=>?_⟩
    .have:=bT c4;rw[df] at this;exact this
    .rw[tQ] at E7;split at E7
     .exact decide_eq_false (hq3 j' y' (by omega) E7)
     .cases E7
   .exact fL j y (by omega) hy
 .replace c2:d.hf.n<=k2:=by have:=eU c2;omega
  have fJ:∀k f,d.fs[k]?=some f->JC d.fs k f:=fun k f hf=>fL k f (by have:=(Ya.1 hf).1;omega) hf;refine⟨_,hs.rd 0 rfl rfl,?_⟩;refine (DS (bs d.nm) NQ (hN d Lw)).mono ?_;rintro _ PX ⟨rfl,E⟩;have hs:=hs.step E;refine⟨_,rfl,aa (fun c3=>RP.f (fun hG=>?_) hs.ext) (fun c3=>?_)⟩
  .have:=(hG.pd b d g).pp;rw[df,this] at c3;cases c3
  have V6:ie d.nm=true:=by have:=bT c3;rw[df] at this;exact this
  refine⟨_,hs.rd 0 rfl rfl,aa (fun c4=>RP.f (fun hG=>by have:=(hG.pd b d g).pn;have:=cd c4;omega) hs.ext) (fun c4=>?_)⟩;replace c4:=eU c4;refine⟨_,hs.rd 0 rfl rfl,fZ (fun c5=>RP.f (fun hG=>by have:=(hG.pd b d g).pf;omega) hs.ext) (fun c5=>?_)⟩;refine⟨_,_,hs.at 0 rfl (o:=3) (n:=2) rfl,?_⟩;refine (uW ds s d PX (hd.ext hs.ext) (BT.ext hs.ext)).mono ?_;rintro _ W4 ⟨⟨b2,rfl,jK⟩,E⟩;have hs:=hs.step E;refine⟨_,rfl,aa (fun c6=>RP.f (fun hG=>cw jK (bF c6) (hG.pd b d g).pg) hs.ext) (fun c6=>?_)⟩;refine⟨_,hs.rd 0 rfl rfl,s.n-(b+1),by omega,b+1,by rw[a7 (by omega) (by omega)];omega,by omega,rfl,hs.drop 1,?_,fun j y hj hy=>?_⟩
  .have h1:(bX (ds.take (b+1))).length<=(bX ds).length:=tP ds (b+1);rw[List.take_add_one,g,Option.toList_some,gQ,Yh] at h1 ⊢;rw[a7 (by omega) (by omega)];omega
  .by_cases e2:j=b
   .subst e2;rw[g] at hy;cases hy;exact⟨V6,by omega,by omega,acN,fJ,jK.1 (bT c6)⟩
   .exact hq j y (by omega) hy
theorem St.cut{h0 h:Heap}{L:List It}(hs:St h0 h L)(k:Nat){s:Sl}{e:TypeId}{n:Nat}{rows:List (List Value)}(hk:L[k]?=some (.sl s e n rows))(hn:0<n)(i:Nat)(hi:i<=s.n):
  St h0 h (L.set k (.sl ⟨s.a,i,s.c⟩ e n (rows.take i))):=by
 have j4:=hs.get hk;have sv:=(hs.rw k hk hn).1;refine hs.iA hk (bc _) (j:=.sl ⟨s.a,i,s.c⟩ e n (rows.take i)) ?_ (fun b hb=>.inr hb) (fun _ _ _=>rfl);have xi:∀r∈rows.take i,r.length=n:=fun r hr=>j4.2 r (List.mem_of_mem_take hr);have fJ:(rows.take i).flatten=rows.flatten.take (i*n):=by
  have h5:rows=rows.take i++rows.drop i:=(List.take_append_drop i rows).symm;rw[congrArg List.flatten h5,List.flatten_append,S6 (by rw[aZ _ xi,Yu,Nat.min_eq_left (by omega)];exact bc _)];rw[Yj (l:=(rows.take i).flatten) (by rw[aZ _ xi,Yu,Nat.min_eq_left (by omega)];exact bc _)]
 have cN:i*n<=s.n*n:=Nat.mul_le_mul_right _ hi;refine⟨⟨by rw[aZ _ xi,Yu];show min i rows.length*n=i*n;rw[Nat.min_eq_left (by omega)],?_⟩,xi⟩;rcases j4.1.2 with ⟨ha,h2,h3⟩ | ⟨g,cur,ha,Eh,hh,D7,BV,fA,VT⟩
 .exact .inl ⟨ha,by show i=0;omega,h3⟩
 .refine .inr ⟨g,cur,ha,Eh,hh,by show i<=s.c;omega,BV,fA,?_⟩;show cur.toList.take (i*n)=_;rw[fJ,<-VT,List.take_take,Nat.min_eq_left cN]
theorem pY{xs:List Value}{i:Nat}{v:Value}(h:i<xs.length):aH xs i [v]=xs.set i v:=by
 unfold aH;rw[List.set_eq_take_append_cons_drop,if_pos h];simp
theorem iV(g:Gl)(p:Int)(h:Heap):Fn Pz 103 #[g.v,.int .i64 p] h (RP (0<=p/\p<g.n) h):=by
 apply U7 (bs g.nm) g.hr g.hd g.n g.s g.e g.he g.ht;unfold aap;refine (St.refl h).ak fun h9 hs=>?_;refine aa (fun c=>?_) (fun c=>?_)
 .refine⟨_,hs.rd 0 rfl rfl,RP.e ?_ hs.ext⟩;have:=cd c;rw[decide_eq_true_eq];omega
 .exact RP.f (by have:=eU c;omega) hs.ext
structure R4 (g:Gl):Prop where
 n:1<=g.n/\g.n<=200
 s:0<=g.s/\g.s<g.n
 e:0<=g.e/\g.e<g.n
 es:∀x∈g.es,0<=x.f/\x.f<g.n/\0<=x.t/\x.t<g.n
theorem yi.R{g:Gl}(h:yi g):R4 g:=⟨⟨h.n.1,h.n.2.1⟩,⟨h.n.2.2.1,h.n.2.2.2.2.1⟩,⟨h.n.2.2.2.1,h.n.2.2.2.2.2⟩,fun x hx=>by
 have:=h.e x hx;unfold gU at this;omega⟩
theorem DK(g:Gl)(h:Heap)(hg:GI h g):Fn Pz 44 #[g.v] h (RP (yi g) h):=by
 apply abq (bs g.nm) g.hr g.hd g.n g.s g.e g.he g.ht;unfold W44;have ki:=hg.e.ln;have Fi:=hg.e.sm;have jY:=hg.r.ln;have rL:=hg.d.r.ln;refine (St.refl h).ak fun h9 hs=>?_;refine aL (n:=g.he.n) hs (fun i=>∀j x,j<i->g.es[j]?=some x->gU g x) (fun j x hj=>by omega) ?_;rintro-i B7 hi ⟨hs,hq⟩;refine⟨_,hs.rd 0 rfl rfl,aa (fun c=>?_) (fun c=>?_)⟩
 .replace c:=bU c;refine⟨_,hs.rd 0 rfl rfl,?_⟩;refine (hg.e.rw.ext hs.ext).aD (by omega) (by omega) fun b o x gx t=>?_;replace gx:g.es[i]?=some x:=gx;refine⟨_,_,_,_,_,_,t,?_⟩;refine hs.ao (vs:=x.cs) rfl rfl fun rN hs=>?_;refine⟨_,_,_,_,_,_,_,_,hs.at 1 rfl (o:=0) (n:=8) rfl,_,hs.rd 0 rfl rfl,?_⟩;refine (iV g x.f rN).mono ?_;rintro _ tB ⟨⟨b1,rfl,n5⟩,E⟩;have hs:=hs.step E;refine⟨_,rfl,aa (fun c1=>RP.f (fun hG=>by have:=cw n5 (bF c1);have:=hG.e x (Yb gx);unfold gU at this;omega) hs.ext) (fun c1=>?_)⟩;refine⟨_,_,_,_,_,_,_,_,hs.at 1 rfl (o:=0) (n:=8) rfl,_,hs.rd 0 rfl rfl,?_⟩;refine (iV g x.t tB).mono ?_;rintro _ oc ⟨⟨b2,rfl,jK⟩,E⟩;have hs:=hs.step E;refine⟨_,rfl,aa (fun c2=>RP.f (fun hG=>by have:=cw jK (bF c2);have:=hG.e x (Yb gx);unfold gU at this;omega) hs.ext) (fun c2=>?_)⟩;have f1:=n5.1 (bT c1);have f2:=jK.1 (bT c2)
  repeat' (first
     | (refine⟨_,hs.rd 0 rfl rfl,?_⟩)
     | (refine⟨_,hs.rd 1 rfl rfl,?_⟩)
     | (refine⟨_,hs.rd 2 rfl rfl,?_⟩)
     | (refine⟨_,_,_,hs.at 0 rfl (o:=1) (n:=3) rfl,?_⟩)
     | (refine⟨_,_,_,hs.at 1 rfl (o:=1) (n:=3) rfl,?_⟩)
     | (refine aM (fun _=>?_) (fun _=>?_))
     | (refine dp (fun _=>?_) (fun _=>?_))
     | (refine fZ (fun _=>?_) (fun _=>?_))
     | (refine aa (fun _=>?_) (fun _=>?_)))
  all_goals first
   | exact RP.f (fun hG=>by have:=hG.e x (Yb gx);unfold gU at this;omega) hs.ext
   | (refine Up.next c (by omega) ⟨hs.drop 1,fun j y hj hy=>?_⟩
      by_cases e:j=i
      .subst e;rw[gx] at hy;cases hy;unfold gU;omega
      .exact hq j y (by omega) hy)
 .replace c:=cj c;refine⟨_,hs.rd 0 rfl rfl,aa (fun c1=>?_) (fun c1=>RP.f (fun hG=>by have:=eU c1;have:=hG.n;omega) hs.ext)⟩;refine⟨_,hs.rd 0 rfl rfl,aa (fun c2=>?_) (fun c2=>RP.f (fun hG=>by have:=eU c2;have:=hG.n;omega) hs.ext)⟩;refine⟨_,_,_,_,_,_,_,_,hs.at 0 rfl (o:=0) (n:=8) rfl,_,hs.rd 0 rfl rfl,?_⟩;refine (iV g g.s B7).mono ?_;rintro _ W4 ⟨⟨b3,rfl,JS⟩,E⟩;have hs:=hs.step E;refine⟨_,rfl,aa (fun c3=>?_) (fun c3=>RP.f (fun hG=>by have:=cw JS c3;have:=hG.n;omega) hs.ext)⟩;refine⟨_,_,_,_,_,_,_,_,hs.at 0 rfl (o:=0) (n:=8) rfl,_,hs.rd 0 rfl rfl,?_⟩;refine (iV g g.e W4).mono ?_;rintro _ h88 ⟨⟨b4,rfl,LB⟩,E⟩;have hs:=hs.step E;refine⟨_,rfl,aa (fun c4=>?_) (fun c4=>RP.f (fun hG=>by have:=cw LB c4;have:=hG.n;omega) hs.ext)⟩;have f1:=cd c1;have f2:=cd c2;have f3:=JS.1 c3;have f4:=LB.1 c4;refine⟨_,hs.rd 0 rfl rfl,RP.e ⟨fun hb=>⟨by omega,by have:=cd hb;omega,fun x hx=>?_⟩,fun hG=>decide_eq_true (by have:=hG.m;omega)⟩ hs.ext⟩;obtain⟨j,hj⟩:=Yf.1 hx;exact hq j x (by have:=(Ya.1 hj).1;omega) hj
structure ApS (g:Gl):Prop where
 s:∀x∈g.es,x.ag=true->x.f≠g.s
 p:∀i x,g.es[i]?=some x->∀k y,g.es[k]?=some y->¬cz i k x y
theorem Mq(g:Gl)(h:Heap)(hg:GI h g):Fn Pz 45 #[g.v] h (RP (ApS g) h):=by
 apply abp (bs g.nm) g.hr g.hd g.n g.s g.e g.he g.ht;unfold W45 RS Mz;have ki:=hg.e.ln;have Fi:=hg.e.sm;refine (St.refl h).ak fun h9 hs=>?_;refine aL (n:=g.he.n) hs (fun i=>∀(j:Nat) (x:Ed),j<i->g.es[j]?=some x->(x.ag=true->x.f≠g.s)/\∀k y,g.es[k]?=some y->¬cz j k x y) (fun j y hj=>by omega) ?_;rintro-i B7 hi ⟨hs,hq⟩;refine⟨_,hs.rd 0 rfl rfl,aa (fun c=>?_) (fun c=>RP.t ⟨fun x hx=>?_,fun j x hx=>?_⟩ hs.ext)⟩
 .replace c:=bU c;refine⟨_,hs.rd 0 rfl rfl,?_⟩;refine (hg.e.rw.ext hs.ext).aD (by omega) (by omega) fun b o x gx t=>?_;replace gx:g.es[i]?=some x:=gx;refine⟨_,_,_,_,_,_,t,?_⟩;refine hs.ao (vs:=x.cs) rfl rfl fun rN hs=>?_;refine⟨_,hs.rd 0 rfl rfl,aa (fun cg=>?_) (fun cg=>?_)⟩;refine⟨_,hs.rd 0 rfl rfl,_,hs.rd 1 rfl rfl,dp (fun cs=>RP.f (fun hG=>hG.s x (Yb gx) cg cs) hs.ext) (fun cs=>?_)⟩;rotate_left;all_goals
   refine aL (n:=g.he.n) hs (fun k=>∀(j:Nat) (y:Ed),j<k->g.es[j]?=some y->¬cz i j x y) (fun j y hj=>by omega) ?_;rintro-k oe hk ⟨hs,fL⟩;refine⟨_,hs.rd 1 rfl rfl,aa (fun c2=>?_) (fun c2=>?_)⟩
   .replace c2:=bU c2;refine⟨_,hs.rd 1 rfl rfl,?_⟩;refine (hg.e.rw.ext hs.ext).aD (by omega) (by omega) fun b o y gy ty=>?_;replace gy:g.es[k]?=some y:=gy;refine⟨_,_,_,_,_,_,ty,?_⟩;refine hs.ao (vs:=y.cs) rfl rfl fun od hs=>?_
    repeat' (first
       | (refine⟨_,hs.rd 0 rfl rfl,?_⟩)
       | (refine⟨_,hs.rd 1 rfl rfl,?_⟩)
       | (refine⟨_,hs.rd 2 rfl rfl,?_⟩)
       | (refine⟨_,_,_,hs.at 0 rfl (o:=1) (n:=3) rfl,?_⟩)
       | (refine⟨_,_,_,hs.at 1 rfl (o:=1) (n:=3) rfl,?_⟩)
       | (refine aM (fun _=>?_) (fun _=>?_))
       | (refine dp (fun _=>?_) (fun _=>?_))
       | (refine fZ (fun _=>?_) (fun _=>?_))
       | (refine aa (fun _=>?_) (fun _=>?_)))
    all_goals first
     | (refine RP.f (fun hG=>hG.p i x gx k y gy ?_) hs.ext;clear hq fL hs hg t ty;unfold cz;grind)
     | (refine Up.next c2 (by omega) ⟨hs.drop 1,fun j z hj hz=>?_⟩
        by_cases e:j=k
        .subst e;rw[gy] at hz;cases hz;clear hq fL hs hg t ty;unfold cz;grind
        .exact fL j z (by omega) hz)
   .replace c2:g.he.n<=k:=by have:=eU c2;omega
    refine Up.next c (by omega) ⟨hs.drop 1,fun j z hj hz=>?_⟩;by_cases e:j=i
    .subst e;rw[gx] at hz;cases hz;exact⟨by grind,fun k' y' E7=>fL k' y' (by have:=(Ya.1 E7).1;omega) E7⟩
    .exact hq j z (by omega) hz
 .obtain⟨j,hj⟩:=Yf.1 hx;exact (hq j x (by have:=cj c;have:=(Ya.1 hj).1;omega) hj).1
 .exact (hq j x (by have:=cj c;have:=(Ya.1 hx).1;omega) hx).2
theorem Kg(g:Gl)(h:Heap)(hg:GI h g)(hN:yi g):Fn Pz 47 #[g.v] h (RP (Ao g) h):=by
 apply abn (bs g.nm) g.hr g.hd g.n g.s g.e g.he g.ht;unfold W47 RR;have ki:=hg.e.ln;have Fi:=hg.e.sm;have Sw:=hg.t.ln;have Pa:=hg.t.sm;refine (St.refl h).ak fun h9 hs=>?_;refine aL (n:=g.ht.n) hs (fun i=>∀(j:Nat) (x:To),j<i->g.ts[j]?=some x->TmS g j x) (fun j y hj=>by omega) ?_;rintro-i B7 hi ⟨hs,hq⟩;refine⟨_,hs.rd 0 rfl rfl,aa (fun c=>?_) (fun c=>RP.t (fun j x hx=>hq j x (by have:=cj c;have:=(Ya.1 hx).1;omega) hx) hs.ext)⟩;replace c:=bU c;refine⟨_,hs.rd 0 rfl rfl,?_⟩;refine (hg.t.rw.ext hs.ext).aD (by omega) (by omega) fun b o x gx t=>?_;replace gx:g.ts[i]?=some x:=gx;have no:∀ {q:Prop},(TmS g i x->q)->Ao g->q:=fun f hT=>f (hT i x gx);refine⟨_,_,_,t,?_⟩;refine hs.ao (vs:=x.cs) rfl rfl fun uT hs=>?_;refine⟨_,_,_,_,_,_,_,_,hs.at 1 rfl (o:=0) (n:=8) rfl,_,hs.rd 0 rfl rfl,?_⟩;refine (iV g x.s uT).mono ?_;rintro _ bK ⟨⟨b1,rfl,n5⟩,E⟩;have hs:=hs.step E;refine⟨_,rfl,aa (fun c1=>RP.f (no fun hT=>?_) hs.ext) (fun c1=>?_)⟩
 .obtain⟨_,y,hy,hf,_⟩:=hT.e;have:=cw n5 (bF c1);have:=hN.R.es y (Yb hy);omega
 have f1:=n5.1 (bT c1);refine aM (fun c2=>?_) (fun c2=>?_);have hw:IntKind.wrap .i64 ((i:Int)-1)=((i-1:Nat):Int):=by rw[a7 (by omega) (by omega)];omega
 refine⟨_,hs.rd 0 rfl rfl,_,hs.rd 1 rfl rfl,?_⟩;rw[hw];refine (hg.t.rw.ext hs.ext).aD (by omega) (by omega) fun b o z gz tz=>?_;replace gz:g.ts[i-1]?=some z:=gz;have hl:lM g.ts i=z.s:=by unfold lM;rw[if_neg (by omega),gz]
 refine⟨_,tz.nth 0 rfl,aM (fun d0=>RP.f (no fun hT=>by have:=hT.o;omega) hs.ext) (fun d0=>?_)⟩;have ho:lM g.ts i<x.s:=by omega
 rotate_left;have ho:lM g.ts i<x.s:=by unfold lM;rw[if_pos (by omega)];omega
 all_goals
  refine⟨_,hs.rd 0 rfl rfl,aM (fun d1=>RP.f (no fun hT=>by have:=hT.k;omega) hs.ext) (fun d1=>?_)⟩;refine⟨_,hs.rd 0 rfl rfl,aM (fun d2=>RP.f (no fun hT=>by have:=hT.k;omega) hs.ext) (fun d2=>?_)⟩;refine⟨_,hs.rd 0 rfl rfl,aM (fun d3=>RP.f (no fun hT=>by have:=hT.e.1;omega) hs.ext) (fun d3=>?_)⟩;refine⟨_,hs.rd 0 rfl rfl,_,hs.rd 1 rfl rfl,aM (fun d4=>RP.f (no fun hT=>by obtain⟨_,y,hy,_⟩:=hT.e;have:=(Ya.1 hy).1;omega) hs.ext) (fun d4=>?_)⟩;refine⟨_,hs.rd 1 rfl rfl,_,hs.rd 0 rfl rfl,?_⟩;refine (hg.e.rw.ext hs.ext).aD (by omega) (by omega) fun b o y gy ty=>?_;refine⟨_,ty.nth 0 rfl,_,hs.rd 0 rfl rfl,fZ (fun d5=>RP.f (no fun hT=>by obtain⟨_,z,hz,hf,_⟩:=hT.e;rw[gy] at hz;cases hz;omega) hs.ext) (fun d5=>⟨_,hs.rd 1 rfl rfl,_,hs.rd 0 rfl rfl,?_⟩)⟩;refine (hg.e.rw.ext hs.ext).aD (by omega) (by omega) fun b o y2 gy2 ty=>?_;rw[gy] at gy2;cases gy2;refine⟨_,ty.nth 5 rfl,aa (fun d6=>RP.f (no fun hT=>by obtain⟨_,z,hz,_,hf⟩:=hT.e;rw[gy] at hz;cases hz;rw[hf] at d6;cases d6) hs.ext) (fun d6=>?_)⟩;refine Up.next c (by omega) ⟨hs.drop 1,fun j z hj hz=>?_⟩;by_cases e:j=i
  .subst e;rw[gx] at hz;cases hz;exact⟨ho,by omega,by omega,y,gy,by omega,d6⟩
  .exact hq j z (by omega) hz
theorem EE(g:Gl)(p q:Int)(h:Heap)(hg:GI h g)(tq:0<=p)(hp1:p<g.es.length)(Hh:0<=q)(my:q<g.es.length):Fn Pz 183 #[g.v,.int .i64 p,.int .i64 q] h (RBo h):=by
 apply Ue (bs g.nm) g.hr g.hd g.n g.s g.e g.he g.ht;unfold Zy Jn;have ki:=hg.e.ln;refine (St.refl h).ak fun h9 hs=>?_;have jX:=hg.e.rw.ext hs.ext;have fA:h.size<h9.size:=et (hs.rd 0 rfl (i:=0) rfl);refine⟨_,hs.rd 0 rfl rfl,?_⟩;refine jX.aD (by omega) (by omega) fun b1 o1 x _ t1=>?_;refine⟨_,_,_,t1.sub 1 3 rfl,_,hs.rd 0 rfl rfl,?_⟩;refine jX.aD (by omega) (by omega) fun b2 o2 y _ t2=>?_;have jK:b2<h9.size:=et t2.hd;refine⟨_,_,_,t2.sub 1 3 rfl,?_,?_⟩
 .intro dX e22;have E22:Ext h9 dX:=by rw[e22];exact Ext.push _ _
  refine⟨Vj E22,?_⟩;have hs:St h dX [.ae h9.size [.int .i64 0,.int .i64 0,.int .i64 0] 65,.ae h.size g.cs 27]:=hs.ak (K:=fun dX=>St h dX [.ae h9.size [.int .i64 0,.int .i64 0,.int .i64 0] 65,.ae h.size g.cs 27]) (fun _ hs=>hs) dX e22;intro uT e23;have E23:Ext dX uT:=by rw[e23];exact Ext.push _ _
  refine⟨Vj E23,?_⟩;have hs:St h uT [.ae dX.size [.int .i64 0,.int .i64 0,.int .i64 0] 65,.ae h9.size [.int .i64 0,.int .i64 0,.int .i64 0] 65,.ae h.size g.cs 27]:=hs.ak (K:=fun uT=>St h uT [.ae dX.size [.int .i64 0,.int .i64 0,.int .i64 0] 65,.ae h9.size [.int .i64 0,.int .i64 0,.int .i64 0] 65,.ae h.size g.cs 27]) (fun _ hs=>hs) uT e23;obtain⟨k1,k2⟩:=hs.put (K:=fun h'=>St h h' [.ae dX.size [.int .i64 0,.int .i64 0,.int .i64 0] 65,.ae h9.size [.int .i64 x.a,.int .i64 x.b,.int .i64 x.l] 65,.ae h.size g.cs 27]) 1 rfl (o:=0) (vs:=[.int .i64 x.a,.int .i64 x.b,.int .i64 x.l]) (n:=3) rfl (show 3<=3 by decide) (fun h' hs=>hs);refine⟨k1,fun rO e24=>?_⟩;have hs:=k2 rO e24;have hB:kr h9.size uT rO:=by rw[e24];exact kr.bI (a:=⟨h9.size,0,none⟩) _ _ _
  refine⟨Jv hB (fun a ha=>?_),?_⟩
  .simp only[Yr,List.not_mem_nil,or_false] at ha;rcases ha with rfl | rfl
   .show b2≠h9.size;omega
   .show h.size≠h9.size;omega
  refine hs.put 0 rfl (o:=0) (vs:=[.int .i64 y.a,.int .i64 y.b,.int .i64 y.l]) rfl (show 3<=3 by decide) fun h25 hs=>?_
  repeat' (first
    | exact .mk hs.ext
    | (refine aa (fun _=>?_) (fun _=>?_))
    | (refine⟨_,hs.rd 0 rfl rfl,?_⟩)
    | (refine⟨_,hs.rd 1 rfl rfl,?_⟩))
 .intro oe e34;have E34:Ext h9 oe:=by rw[e34];exact Ext.push _ _
  refine⟨Vj E34,?_⟩;have hs:St h oe [.ae h9.size [.int .i64 0,.int .i64 0,.int .i64 0] 65,.ae h.size g.cs 27]:=hs.ak (K:=fun oe=>St h oe [.ae h9.size [.int .i64 0,.int .i64 0,.int .i64 0] 65,.ae h.size g.cs 27]) (fun _ hs=>hs) oe e34;intro bK e35;have E35:Ext oe bK:=by rw[e35];exact Ext.push _ _
  refine⟨Vj E35,?_⟩;have aeT:h9.size<oe.size:=by rw[e34];simp
  have hs:St h bK [.ae oe.size [.int .i64 0,.int .i64 0,.int .i64 0] 65,.ae h9.size [.int .i64 0,.int .i64 0,.int .i64 0] 65,.ae h.size g.cs 27]:=hs.ak (K:=fun bK=>St h bK [.ae oe.size [.int .i64 0,.int .i64 0,.int .i64 0] 65,.ae h9.size [.int .i64 0,.int .i64 0,.int .i64 0] 65,.ae h.size g.cs 27]) (fun _ hs=>hs) bK e35;obtain⟨k1,k2⟩:=hs.put (K:=fun h'=>St h h' [.ae oe.size [.int .i64 x.a,.int .i64 x.b,.int .i64 x.l] 65,.ae h9.size [.int .i64 0,.int .i64 0,.int .i64 0] 65,.ae h.size g.cs 27]) 0 rfl (o:=0) (vs:=[.int .i64 x.a,.int .i64 x.b,.int .i64 x.l]) (n:=3) rfl (show 3<=3 by decide) (fun h' hs=>hs);refine⟨k1,fun gn e36=>?_⟩;have hs:=k2 gn e36;have hB:kr oe.size bK gn:=by rw[e36];exact kr.bI (a:=⟨oe.size,0,none⟩) _ _ _
  refine⟨Jv hB (fun a ha=>?_),?_⟩
  .simp only[Yr,List.not_mem_nil,or_false] at ha;rcases ha with rfl | rfl
   .show b2≠oe.size;omega
   .show h.size≠oe.size;omega
  refine hs.put 1 rfl (o:=0) (vs:=[.int .i64 y.a,.int .i64 y.b,.int .i64 y.l]) rfl (show 3<=3 by decide) fun pI hs=>?_
  repeat' (first
    | exact .mk hs.ext
    | (refine aa (fun _=>?_) (fun _=>?_))
    | (refine⟨_,hs.rd 0 rfl rfl,?_⟩)
    | (refine⟨_,hs.rd 1 rfl rfl,?_⟩))
theorem VM{h:Heap}{s:Sl}{L:List Int}(hr:Rw h 1 s (L.map aO))(hc:s.n<=s.c){i:Nat}(hi:i<=s.n):Rw h 1 ⟨aQ s.a i s.c 1,s.n-i,s.c-i⟩ ((L.drop i).map aO):=by
 have hn:=hr.ln;rw[List.map_drop];by_cases h0:i=s.n
 .rw[List.drop_eq_nil_of_le (by rw[Yc];omega)];exact Rw.empty (by show s.n-i=0;omega)
 .exact hr.from hc (by omega)
theorem FK{s:Sl}{i:Nat}(Fe:s.a=none->s.n=0/\s.c=0)(h:aQ s.a i s.c 1=none):s.n-i=0/\s.c-i=0:=by
 unfold aQ at h;split at h
 .have:=Fe h;omega
 .cases ha:s.a with
  | none=>have:=Fe ha;omega
  | some a=>rw[ha] at h;cases h
def LOk(g:Gl)(p:Int)(i:Nat)(L:List Int):Prop:=(∀y∈L,0<=y/\y<g.es.length)/\(L=[] ↔ ∀(j:Nat) (x:Ed),j<i->g.es[j]?=some x->x.f≠p)
theorem HS(g:Gl)(p:Int)(h:Heap)(hg:GI h g):Fn Pz 105 #[g.v,.int .i64 p] h fun v h'=>(∃s:Sl,v=.slice s.a s.n s.c/\(s.n=0 ↔ ∀x∈g.es,x.f≠p))/\Ext h h':=by
 apply U5 (bs g.nm) g.hr g.hd g.n g.s g.e g.he g.ht;unfold aan Ju;have ki:=hg.e.ln;have Fi:=hg.e.sm;refine (St.refl h).ak fun h9 hs=>?_;have hs:=hs.bJ 3 1;refine⟨fun out x h' m=>∃(i:Nat) (L:List Int),x=i/\i<=g.he.n/\m=g.he.n-i/\L.length<=i/\LOk g p i L/\St h h' [.sl out 3 1 (L.map aO),.ae h.size g.cs 27],
  ⟨_,0,[],rfl,by omega,rfl,bc _,⟨(fun y hy=>by cases hy),iff_of_true rfl fun j x hj=>by omega⟩,hs⟩,?_⟩
 rintro-out _ rP m ⟨i,L,rfl,hi,rfl,LD,hL,hs⟩;refine⟨_,hs.rd 1 rfl rfl,aa (fun c=>?_) (fun c=>⟨⟨_,rfl,?_⟩,hs.ext⟩)⟩;rotate_left
 .replace c:=cj c;have tt:=hs.len 0 rfl (by omega);rw[Yc] at tt;have hLe:out.n=0 ↔ L=[]:=by rw[<-List.length_eq_zero_iff];omega
  rw[hLe,hL.2];exact⟨fun hq x hx=>by obtain⟨j,hj⟩:=Yf.1 hx;exact hq j x (by have:=(Ya.1 hj).1;omega) hj,fun hq j x _ hj=>hq x (Yb hj)⟩
 replace c:=bU c;refine⟨_,hs.rd 1 rfl rfl,?_⟩;refine (hg.e.rw.ext hs.ext).aD (by omega) (by omega) fun b18 o19 x gx t=>?_;replace gx:g.es[i]?=some x:=gx;refine⟨_,t.nth 0 rfl,fZ (fun cf=>?_) (fun cf=>?_)⟩
 .refine⟨_,by omega,i+1,L,by rw[a7 (by omega) (by omega)];omega,by omega,rfl,by omega,⟨hL.1,hL.2.trans ⟨fun hq j y hj hy=>?_,fun hq j y hj hy=>hq j y (by omega) hy⟩⟩,hs⟩;by_cases e:j=i
  .subst e;rw[gx] at hy;cases hy;exact cf
  .exact hq j y (by omega) hy
 have tt:=hs.len 0 rfl (by omega);rw[Yc] at tt
 have ins:∀(a:Nat) (sz:Heap),a<=out.n->St h sz [.sl out 3 1 (L.map aO),.ae h.size g.cs 27]->∀B5:Heap,B5=sz.push (.cells ⟨[.int .i64 i]⟩ 3) ->
   App Pz 102 102 (.slice (some ⟨sz.size,0,none⟩) 1 1) (.slice (aQ out.a a out.c 1) (out.n-a) (out.c-a)) B5 fun Kw uQ=>
    App Pz 102 102 (.slice out.a a out.c) (.slice Kw.a Kw.n Kw.c) uQ fun s45 od=>∃m47,m47<g.he.n-i/\(∃(i':Nat) (L:List Int),IntKind.wrap .i64 ((i:Int)+1)=i'/\i'<=g.he.n/\m47=g.he.n-i'/\L.length<=i'/\LOk g p i' L/\St h od [.sl s45 3 1 (L.map aO),.ae h.size g.cs 27]):=by
  intro a sz ha hs;refine hs.ak fun B5 hs=>?_;have bG:=hs.dP 1 1 ([(i:Int)].map aO) rfl (cL _) rfl (by decide);refine bG.dY 0 rfl dv (y:=⟨aQ out.a a out.c 1,out.n-a,out.c-a⟩) (VM (bG.rows 1 rfl (by omega)) tt.2.1 ha) (cL _) (fun hn=>FK tt.2.2 hn) (by rw[List.all_eq_true];intro v hv;obtain⟨r,hr,Nl⟩:=List.mem_flatten.1 hv;obtain⟨z,_,rfl⟩:=Yp.1 hr;rw[Ye.1 Nl];rfl) (by show (1+(out.n-a))*8<=_;omega) (by show 1+(out.n-a)<=9223372036854775807;omega) fun Kw uQ Wf hs=>?_;replace hs:St h uQ [.sl Kw 3 1 (((i:Int)::L.drop a).map aO),.sl out 3 1 (L.map aO),.ae h.size g.cs 27]:=hs;have Eg:=hs.cut 1 rfl (by omega) a ha;rw[<-List.map_take] at Eg;replace Eg:St h uQ [.sl Kw 3 1 (((i:Int)::L.drop a).map aO),.sl ⟨out.a,a,out.c⟩ 3 1 ((L.take a).map aO),.ae h.size g.cs 27]:=Eg;have SU:=Eg.len 0 rfl (by omega);refine Eg.dY 1 rfl dv (Eg.rows 0 rfl (by omega)) (cL _) SU.2.2 (by rw[List.all_eq_true];intro v hv;obtain⟨r,hr,Nl⟩:=List.mem_flatten.1 hv;obtain⟨z,_,rfl⟩:=Yp.1 hr;rw[Ye.1 Nl];rfl) (by show (a+Kw.n)*8<=_;rw[Wf];show (a+(1+(out.n-a)))*8<=_;omega) (by show a+Kw.n<=9223372036854775807;rw[Wf];show a+(1+(out.n-a))<=_;omega) fun s45 od agt hs=>?_;replace hs:St h od [.sl Kw 3 1 (((i:Int)::L.drop a).map aO),.sl s45 3 1 ((L.take a).map aO++((i:Int)::L.drop a).map aO),.ae h.size g.cs 27]:=hs;rw[<-Ym] at hs;refine⟨g.he.n-(i+1),by omega,i+1,L.take a++((i:Int)::L.drop a),by rw[a7 (by omega) (by omega)];omega,by omega,rfl,?_,⟨fun y hy=>?_,iff_of_false (by simp) fun hq=>hq i x (by omega) gx cf⟩,hs.drop 1⟩
  .rw[Yh,j8,Yu,List.length_drop];omega
  .rcases Yk.1 hy with hy | hy
   .exact hL.1 y (List.mem_of_mem_take hy)
   .rcases Yr.1 hy with rfl | hy
    .omega
    .exact hL.1 y (List.mem_of_mem_drop hy)
 refine aL (n:=out.n) hs (fun _=>True) trivial ?_;rintro-a rN ha ⟨hs,-⟩;have ht1:Int.toNat ((a:Nat):Int)=a:=by simp
 have ht2:Int.toNat ((out.n:Nat):Int)=out.n:=by simp
 refine aa (fun c1=>?_) (fun c1=>?_)
 .replace c1:=bU c1;refine⟨_,_,_,_,_,_,_,_,hs.at 1 rfl (o:=0) (n:=8) rfl,?_⟩;refine (hs.rows 0 rfl (by omega)).aD (by omega) (by omega) fun YC Vv y gy ty=>?_;have hy:=hL.1 y (Yb gy);refine⟨_,ty.nth 0 rfl,?_⟩;refine (EE g y i rN (hg.ext hs.ext) hy.1 hy.2 (by omega) (by omega)).mono ?_;rintro _ sz ⟨⟨bb,rfl⟩,E⟩;have hs:=hs.step E;refine⟨_,rfl,aa (fun _=>Up.next c1 (by omega) ⟨hs,trivial⟩) (fun _=>?_)⟩;refine⟨⟨by omega,by omega,by omega⟩,⟨by omega,by omega,by omega⟩,?_⟩;rw[ht1,ht2,show Int.toNat 0=0 from rfl,cJ,Nat.sub_zero,Nat.sub_zero];exact ins a sz (by omega) hs
 .replace c1:=cj c1;refine⟨⟨by omega,by omega,by omega⟩,⟨by omega,by omega,by omega⟩,?_⟩;rw[ht1,ht2,show Int.toNat 0=0 from rfl,cJ,Nat.sub_zero,Nat.sub_zero];exact ins a rN (by omega) hs
end Go.VC
end

section
namespace Go.VC
structure EN (es:List Ed) (e:Int) (N n:Nat) (D:List Int):Prop where
 len:D.length=N
 src:mu D e
 r:∀v,mu D v->gC es true e v
 b:∀d∈D,-1<=d/\d+D.count (-1)<=(N:Int)-1
 c:∀x∈es,∀d,0<=x.t->D[x.t.toNat]?=some d->0<=d->d<n->mu D x.f
def ME(es:List Ed)(n k:Nat)(D:List Int):Prop:=∀(j:Nat) (y:Ed),j<k->es[j]?=some y->0<=y.t->D[y.t.toNat]?=some (n:Int)->mu D y.f
theorem Et(N:Nat):(List.replicate N (-1:Int)).count (-1)=N:=by rw[List.count_replicate,if_pos (by simp)]
theorem EN.start{es:List Ed}{e:Int}{N:Nat}(h0:0<=e)(h1:e<N):EN es e N 0 ((List.replicate N (-1:Int)).set e.toNat 0):=by
 have hl:e<(List.replicate N (-1:Int)).length:=by rw[Yg];exact h1
 have hv:∀v,mu ((List.replicate N (-1:Int)).set e.toNat 0) v ↔ v=e:=fun v=>by
  rw[jA h0 hl (by omega)];refine⟨fun h=>h.elim id fun h=>?_,.inl⟩;obtain⟨_,d,hd,h2⟩:=h;have:=List.eq_of_mem_replicate (Yb hd);omega
 have hc:((List.replicate N (-1:Int)).set e.toNat 0).count (-1)+1=N:=by
  rw[List.count_set (by rw[Yg];omega),Et,List.getElem_replicate];simp;omega
 refine⟨by rw[jT,Yg],(hv e).2 rfl,fun v h=>?_,fun d hd=>?_,fun x _ d _ _ yz WG=>by omega⟩
 .rw[(hv v).1 h];exact .refl
 .rcases List.mem_or_eq_of_mem_set hd with hd | rfl
  .rw[List.eq_of_mem_replicate hd];omega
  .omega
theorem EN.set{es:List Ed}{e:Int}{N n k:Nat}{D:List Int}(h:EN es e N n D)(hk:ME es n k D){x:Ed}(hx:es[k]?=some x){d:Int}(ht0:0<=x.t)(ht:D[x.t.toNat]?=some (n:Int))(sx:0<=x.f)(hf:D[x.f.toNat]?=some d)(hd:d<0):
  EN es e N n (D.set x.f.toNat (n+1))/\ME es n (k+1) (D.set x.f.toNat (n+1)):=by
 have fJ:=(Ya.1 hf).1;have uN:=(Ya.1 hf).2;have WG:d=-1:=by have:=(h.b d (Yb hf)).1;omega
 subst WG;have zF:∀v,mu (D.set x.f.toNat (n+1)) v ↔ v=x.f\/mu D v:=fun v=>jA sx (by omega) (by omega);have fB:0<D.count (-1):=List.count_pos_iff.2 (Yb hf);have Lx:(D.set x.f.toNat ((n:Int)+1)).count (-1)+1=D.count (-1):=by
  rw[List.count_set fJ,uN];have:(((n:Int)+1)==(-1:Int))=false:=by simp;omega
  rw[this];simp;omega
 have hub:=(h.b n (Yb ht)).2;have bH:∀ {y:Int} {d:Int},0<=y->(D.set x.f.toNat ((n:Int)+1))[y.toNat]?=some d->d<=n->D[y.toNat]?=some d:=fun {y d} hy hg hle=>by
  by_cases e:y.toNat=x.f.toNat
  .rw[e,Yq fJ] at hg;cases hg;omega
  .rwa [Yy (by omega)] at hg
 refine⟨⟨by rw[jT];exact h.len,(zF e).2 (.inr h.src),fun v hv=>?_,fun d hd=>?_,fun y hy d h0 hg yz WG=>?_⟩,fun j y hj hy h0 hg=>?_⟩
 .rcases (zF v).1 hv with rfl | hv
  .exact (h.r x.t ⟨ht0,_,ht,by omega⟩).step ⟨x,Yb hx,rfl,rfl⟩
  .exact h.r v hv
 .rcases List.mem_or_eq_of_mem_set hd with hd | rfl
  .have:=h.b d hd;omega
  .omega
 .exact (zF y.f).2 (.inr (h.c y hy d h0 (bH h0 hg (by omega)) yz WG))
 .by_cases e:j=k
  .subst e;rw[hx] at hy;cases hy;exact (zF x.f).2 (.inl rfl)
  .exact (zF y.f).2 (.inr (hk j y (by omega) hy h0 (bH h0 hg (by omega))))
theorem ME.skip{es:List Ed}{n k:Nat}{D:List Int}(hk:ME es n k D){x:Ed}(hx:es[k]?=some x)(h:0<=x.t->D[x.t.toNat]?=some (n:Int)->mu D x.f):ME es n (k+1) D:=fun j y hj hy h0 hg=>by
 by_cases e:j=k
 .subst e;rw[hx] at hy;cases hy;exact h h0 hg
 .exact hk j y (by omega) hy h0 hg
theorem EN.next{es:List Ed}{e:Int}{N n k:Nat}{D:List Int}(h:EN es e N n D)(hk:ME es n k D)(hl:es.length<=k):EN es e N (n+1) D:=
 ⟨h.len,h.src,h.r,h.b,fun x hx d h0 hg yz WG=>by
  obtain⟨j,hj⟩:=Yf.1 hx;by_cases hd:d=n
  .subst hd;exact hk j x (by have:=(Ya.1 hj).1;omega) hj h0 hg
  .exact h.c x hx d h0 hg yz (by omega)⟩
theorem EN.end_{es:List Ed}{e:Int}{N:Nat}{D:List Int}(h:EN es e N N D)(v:Int):mu D v ↔ gC es true e v:=by
 refine⟨h.r v,fun hr=>?_⟩
 induction hr with
 | refl=>exact h.src
 | step _ hbc ih=>
  obtain⟨x,hx,h1,h2⟩:=hbc;obtain⟨h0,d,hd,yz⟩:=ih;have hb:=(h.b d (Yb hd)).2;have Qe:x.t=_:=h1;have SV:x.f=_:=h2;rw[<-SV];rw[<-Qe] at hd h0;exact h.c x hx d h0 hd yz (by omega)
def VB(R:List Bool)(v:Int):Prop:=0<=v/\R[v.toNat]?=some true
def ClB(es:List Ed)(k:Nat)(R:List Bool):Prop:=∀(j:Nat) (y:Ed),j<k->es[j]?=some y->VB R y.f->VB R y.t
structure RE (es:List Ed) (s:Int) (N:Nat) (R:List Bool):Prop where
 len:R.length=N
 src:VB R s
 r:∀v,VB R v->gC es false s v
def RN(es:List Ed)(n k:Nat)(R:List Bool):Prop:=ClB es es.length R\/(n+1<=R.count true/\(ClB es k R\/n+2<=R.count true))
theorem FA{R:List Bool}{b v:Int}(Eh:0<=b)(hb:b.toNat<R.length):VB (R.set b.toNat true) v ↔ v=b\/VB R v:=by
 unfold VB;constructor
 .rintro⟨h0,h1⟩;by_cases e:v=b
  .exact .inl e
  .rw[Yy (by omega)] at h1;exact .inr ⟨h0,h1⟩
 .rintro (rfl | ⟨h0,h1⟩)
  .exact⟨Eh,by rw[Yq hb]⟩
  .by_cases e:v=b
   .subst e;exact⟨Eh,by rw[Yq hb]⟩
   .exact⟨h0,by rw[Yy (by omega)];exact h1⟩
theorem RE.start{es:List Ed}{s:Int}{N:Nat}(h0:0<=s)(h1:s<N):RE es s N ((List.replicate N false).set s.toNat true)/\RN es 0 0 ((List.replicate N false).set s.toNat true):=by
 have hv:∀v,VB ((List.replicate N false).set s.toNat true) v ↔ v=s:=fun v=>by
  rw[FA h0 (by rw[Yg];omega)];refine⟨fun h=>h.elim id fun h=>?_,.inl⟩;have:=List.eq_of_mem_replicate (Yb h.2);cases this
 refine⟨⟨by rw[jT,Yg],(hv s).2 rfl,fun v h=>by rw[(hv v).1 h];exact .refl⟩,.inr ⟨?_,.inl fun j y hj=>by omega⟩⟩;exact List.count_pos_iff.2 (Yb (i:=s.toNat) (by rw[Yq (by rw[Yg];omega)]))
theorem RE.set{es:List Ed}{s:Int}{N n k:Nat}{R:List Bool}(h:RE es s N R)(hn:RN es n k R){x:Ed}(hx:es[k]?=some x)(ht0:0<=x.t)(ht:R[x.t.toNat]?=some false)(sx:0<=x.f)(hf:R[x.f.toNat]?=some true):
  RE es s N (R.set x.t.toNat true)/\RN es n (k+1) (R.set x.t.toNat true):=by
 have No:=(Ya.1 ht).1;have hte:=(Ya.1 ht).2;have zF:∀v,VB (R.set x.t.toNat true) v ↔ v=x.t\/VB R v:=fun v=>FA ht0 No;have Lx:(R.set x.t.toNat true).count true=R.count true+1:=by
  rw[List.count_set No,hte];simp
 refine⟨⟨by rw[jT];exact h.len,(zF s).2 (.inr h.src),fun v hv=>?_⟩,?_⟩
 .rcases (zF v).1 hv with rfl | hv
  .exact (h.r x.f ⟨sx,hf⟩).step ⟨x,Yb hx,rfl,rfl⟩
  .exact h.r v hv
 .rcases hn with hn | ⟨h1,_⟩
  .have:=hn k x (Ya.1 hx).1 hx ⟨sx,hf⟩;rw[this.2] at ht;cases ht
  .exact .inr ⟨by omega,.inr (by omega)⟩
theorem RN.skip{es:List Ed}{n k:Nat}{R:List Bool}(hn:RN es n k R){x:Ed}(hx:es[k]?=some x)(h:VB R x.f->VB R x.t):RN es n (k+1) R:=by
 rcases hn with hn | ⟨h1,h2⟩
 .exact .inl hn
 .refine .inr ⟨h1,h2.imp_left fun hc j y hj hy hv=>?_⟩;by_cases e:j=k
  .subst e;rw[hx] at hy;cases hy;exact h hv
  .exact hc j y (by omega) hy hv
theorem RN.next{es:List Ed}{n k:Nat}{R:List Bool}(hn:RN es n k R)(hl:es.length<=k):RN es (n+1) 0 R:=by
 rcases hn with hn | ⟨h1,h2 | h2⟩
 .exact .inl hn
 .exact .inl fun j y hj hy=>h2 j y (by omega) hy
 .exact .inr ⟨by omega,.inl fun j y hj=>by omega⟩
theorem RE.end_{es:List Ed}{s:Int}{N:Nat}{R:List Bool}(h:RE es s N R)(hn:RN es N 0 R)(v:Int):VB R v ↔ gC es false s v:=by
 refine⟨h.r v,fun hr=>?_⟩;have hc:ClB es es.length R:=by
  rcases hn with hn | ⟨h1,_⟩
  .exact hn
  .have:=h.len;have:R.count true<=R.length:=List.count_le_length;omega
 induction hr with
 | refl=>exact h.src
 | step _ hbc ih=>
  obtain⟨x,hx,h1,h2⟩:=hbc;obtain⟨j,hj⟩:=Yf.1 hx;have Qe:x.f=_:=h1;have SV:x.t=_:=h2;rw[<-SV];exact hc j x (Ya.1 hj).1 hj (by rw[Qe];exact ih)
end Go.VC
end

section
namespace Go.VC
open Go.Proofs Go.LexS
theorem ints_set{L:List Int}{i:Nat}(h:i<L.length)(y:Int):aH (L.map (Value.int .i64)) i [.int .i64 y]=(L.set i y).map (Value.int .i64):=by
 rw[pY (by rw[Yc];exact h),List.map_set]
theorem nC{L:List Bool}{i:Nat}(h:i<L.length)(y:Bool):aH (L.map Value.bool) i [.bool y]=(L.set i y).map Value.bool:=by
 rw[pY (by rw[Yc];exact h),List.map_set]
theorem th:∀L:List Int,L.map (Value.int .i64)=(L.map aO).flatten
 | []=>rfl
 | a::L=>by rw[gG,gG,ox,th L];rfl
theorem GP(n:Nat):ai Pz 3 n=(List.replicate n (0:Int)).map (Value.int .i64):=by rw[GR,List.map_replicate]
theorem Ci{L:List Int}{i:Nat}(h:i<L.length):∃y,(L.map (Value.int .i64))[i]?=some (.int .i64 y)/\L[i]?=some y:=⟨L[i],by rw[Yd,Yi h];rfl,Yi h⟩
theorem rk{L:List Bool}{i:Nat}(h:i<L.length):∃y,(L.map Value.bool)[i]?=some (.bool y)/\L[i]?=some y:=⟨L[i],by rw[Yd,Yi h];rfl,Yi h⟩
theorem Ma(g:Gl)(h:Heap)(hg:GI h g)(hN:R4 g):Fn Pz 104 #[g.v] h fun v h'=>Ext h h'/\∃(s:Sl) (L:List Int),v=.slice s.a s.n s.c/\Rw h' 1 s (L.map aO)/\L.length=g.n.toNat/\∀v,mu L v ↔ gC g.es true g.e v:=by
 apply U6 (bs g.nm) g.hr g.hd g.n g.s g.e g.he g.ht;unfold aao;have ki:=hg.e.ln;have Fi:=hg.e.sm;obtain⟨N,hNn⟩:∃N:Nat,g.n=N:=⟨g.n.toNat,by have:=hN.n;omega⟩;have D8:=hN.n;have hE:=hN.e;have htN:g.n.toNat=N:=by omega
 refine (St.refl h).ak fun h9 hs=>?_;refine⟨_,hs.rd 0 rfl rfl,⟨by omega,by omega,by omega⟩,?_⟩;rw[GP];refine hs.ak fun iQ hs=>?_;refine⟨fun x h' m=>∃(i:Nat) (L:List Int),x=i/\i<=N/\m=N-i/\(L.length=N/\∀(j:Nat),j<i->L[j]?=some (-1))/\St h h' [.ae h9.size (L.map (Value.int .i64)) 3,.ae h.size g.cs 27],⟨_,0,_,rfl,by omega,rfl,⟨by rw[Yg];exact htN,fun j hj=>by omega⟩,hs⟩,?_⟩;rintro-_ cy m ⟨i,L,rfl,hi,rfl,⟨hL,hLv⟩,hs⟩;refine⟨_,hs.rd 1 rfl rfl,aa (fun c=>?_) (fun c0=>?_)⟩
 .replace c:=cd c;refine⟨⟨by omega,by omega⟩,?_⟩;rw[show 0+Int.toNat (i:Int)*1=i by simp];refine hs.put 0 rfl (o:=i) (vs:=[.int .i64 (-1)]) rfl (by rw[Yc];show i+1<=_;omega) fun fN hs=>?_;rw[ints_set (by omega)] at hs;refine⟨_,by omega,i+1,L.set i (-1),by rw[a7 (by omega) (by omega)];omega,by omega,rfl,⟨by rw[jT];exact hL,fun j hj=>?_⟩,hs⟩;by_cases e:j=i
  .subst e;rw[Yq (by omega)]
  .rw[Yy (by omega)];exact hLv j (by omega)
 replace c0:=eU c0;have hLr:L=List.replicate N (-1):=yG fun j=>by
  by_cases hj:j<N
  .rw[hLv j (by omega),List.getElem?_replicate,if_pos hj]
  .rw[Yl (by omega),List.getElem?_replicate,if_neg hj]
 subst hLr;refine⟨_,hs.rd 1 rfl rfl,⟨by omega,by omega⟩,?_⟩;obtain⟨e,he⟩:∃e:Nat,g.e=e:=⟨g.e.toNat,by omega⟩;rw[he,show 0+Int.toNat (e:Int)*1=e by simp];refine hs.put 0 rfl (o:=e) (vs:=[.int .i64 0]) rfl (by rw[Yc];show e+1<=_;omega) fun iP hs=>?_;rw[ints_set (by omega)] at hs;refine⟨fun x h' m=>∃(i:Nat) (L:List Int),x=i/\i<=N/\m=N-i/\EN g.es g.e N i L/\St h h' [.ae h9.size (L.map (Value.int .i64)) 3,.ae h.size g.cs 27],⟨_,0,_,rfl,by omega,rfl,?_,hs⟩,?_⟩
 .have:=EN.start (es:=g.es) (e:=g.e) (N:=N) (by omega) (by omega);rw[he] at this ⊢;exact this
 rintro-_ rN m ⟨n,pQ,rfl,hn,rfl,en2,hs⟩;have yB:=en2.len;refine⟨_,hs.rd 1 rfl rfl,aa (fun c=>?_) (fun cE=>?_)⟩
 .replace c:=cd c;refine⟨fun x h' m=>∃(i:Nat) (L:List Int),x=i/\i<=g.he.n/\m=g.he.n-i/\(EN g.es g.e N n L/\ME g.es n i L)/\St h h' [.ae h9.size (L.map (Value.int .i64)) 3,.ae h.size g.cs 27],⟨_,0,pQ,rfl,by omega,rfl,⟨en2,fun j y hj=>by omega⟩,hs⟩,?_⟩;rintro-_ W9 m ⟨k,L3,rfl,hk,rfl,⟨Qy,ek⟩,hs⟩;have hL3:=Qy.len;refine⟨_,hs.rd 1 rfl rfl,aa (fun c2=>?_) (fun c2=>⟨_,by omega,n+1,L3,by rw[a7 (by omega) (by omega)];omega,by omega,rfl,Qy.next ek (by have:=cj c2;omega),hs⟩)⟩;replace c2:=bU c2;refine⟨_,hs.rd 1 rfl rfl,?_⟩;refine (hg.e.rw.ext hs.ext).aD (by omega) (by omega) fun b o x gx t=>?_;replace gx:g.es[k]?=some x:=gx;have hx:=hN.es x (Yb gx);obtain⟨xt,yv⟩:∃a:Nat,x.t=a:=⟨x.t.toNat,by omega⟩;obtain⟨xf,DY⟩:∃a:Nat,x.f=a:=⟨x.f.toNat,by omega⟩;refine⟨_,_,_,_,_,_,t,?_⟩;refine hs.ao (vs:=x.cs) rfl rfl fun uQ hs=>?_;obtain⟨y1,VQ,DX⟩:=Ci (L:=L3) (i:=xt) (by omega);obtain⟨y2,hy2,JM⟩:=Ci (L:=L3) (i:=xf) (by omega);have Nn:x.t.toNat=xt:=by omega
  have Sx:x.f.toNat=xf:=by omega
  have s7:∀ {h':Heap} {L4:List Int},(EN g.es g.e N n L4/\ME g.es n (k+1) L4)->St h h' [.ae h9.size (L4.map (Value.int .i64)) 3,.ae h.size g.cs 27]->∃VF,VF<g.he.n-k/\∃(i:Nat) (L:List Int),IntKind.wrap .i64 ((k:Int)+1)=i/\i<=g.he.n/\VF=g.he.n-i/\(EN g.es g.e N n L/\ME g.es n i L)/\St h h' [.ae h9.size (L.map (Value.int .i64)) 3,.ae h.size g.cs 27]:=fun h4 hs=>
   ⟨_,by omega,k+1,_,by rw[a7 (by omega) (by omega)];omega,by omega,rfl,h4,hs⟩
  refine⟨x.t,hs.rd 0 rfl rfl,⟨by omega,by omega⟩,?_⟩;rw[yv,show 0+Int.toNat (xt:Int)*1=xt by simp];refine⟨y1,hs.rd 1 rfl VQ,dp (fun e1=>?_) (fun e1=>s7 ⟨Qy,ek.skip gx fun _ hg1=>by rw[Nn,DX] at hg1;cases hg1;exact absurd rfl e1⟩ (hs.drop 1))⟩;refine⟨x.f,hs.rd 0 rfl rfl,⟨by omega,by omega⟩,?_⟩;rw[DY,show 0+Int.toNat (xf:Int)*1=xf by simp];refine⟨y2,hs.rd 1 rfl hy2,aM (fun e2=>?_) (fun e2=>s7 ⟨Qy,ek.skip gx fun _ _=>⟨by omega,y2,by rw[Sx];exact JM,by omega⟩⟩ (hs.drop 1))⟩;refine⟨x.f,hs.rd 0 rfl rfl,⟨by omega,by omega⟩,?_⟩;rw[DY,show 0+Int.toNat (xf:Int)*1=xf by simp];refine hs.put 1 rfl (o:=xf) (vs:=[.int .i64 (IntKind.wrap .i64 ((n:Int)+1))]) rfl (by rw[Yc];show xf+1<=_;omega) fun oc hs=>?_;rw[ints_set (by omega)] at hs;rw[show IntKind.wrap .i64 ((n:Int)+1)=(n:Int)+1 from a7 (by omega) (by omega)] at hs;refine s7 ?_ (hs.drop 1);have:=Qy.set ek gx (by omega) (by rw[Nn,DX,e1]) (by omega) (by rw[Sx];exact JM) e2;rw[Sx] at this;exact this
 .have fJ:=th pQ;rw[htN];have bG:=hs.dP N 1 (pQ.map aO) fJ (cL _) (by rw[Yc];exact yB) (by show N<=9223372036854775807;omega);have xl:n=N:=by have:=eU cE;omega
  have Qy:EN g.es g.e N N pQ:=by rw[xl] at en2;exact en2
  exact⟨hs.ext,⟨some ⟨h9.size,0,none⟩,N,N⟩,pQ,rfl,bG.rows 0 rfl (by omega),yB,fun v=>by rw[<-he];exact Qy.end_ v⟩
theorem OT(n:Nat):ai Pz 4 n=(List.replicate n false).map Value.bool:=Nf n
structure aaA (g:Gl):Prop where
 f:∀v:Int,0<=v->v<g.n->gC g.es false g.s v
 b:∀v:Int,0<=v->v<g.n->gC g.es true g.e v
 e:∀x∈g.es,x.f≠g.e
theorem xN(g:Gl)(h:Heap)(hg:GI h g)(hN:R4 g):Fn Pz 46 #[g.v] h (RP (aaA g) h):=by
 apply abo (bs g.nm) g.hr g.hd g.n g.s g.e g.he g.ht;unfold W46;have ki:=hg.e.ln;have Fi:=hg.e.sm;obtain⟨N,hNn⟩:∃N:Nat,g.n=N:=⟨g.n.toNat,by have:=hN.n;omega⟩;have D8:=hN.n;have hS:=hN.s;have htN:g.n.toNat=N:=by omega
 refine (St.refl h).ak fun h9 hs=>?_;refine⟨_,hs.rd 0 rfl rfl,⟨by omega,by omega,by omega⟩,?_⟩;rw[OT];refine hs.ak fun iQ hs=>?_;refine⟨_,hs.rd 1 rfl rfl,⟨by omega,by omega⟩,?_⟩;obtain⟨s0,sj⟩:∃e:Nat,g.s=e:=⟨g.s.toNat,by omega⟩;rw[sj,show 0+Int.toNat (s0:Int)*1=s0 by simp];refine hs.put 0 rfl (o:=s0) (vs:=[.bool true]) rfl (by rw[Yc,Yg];show s0+1<=_;omega) fun Fl hs=>?_;rw[nC (by rw[Yg];omega)] at hs;refine⟨fun x h' m=>∃(i:Nat) (L:List Bool),x=i/\i<=N/\m=N-i/\(RE g.es g.s N L/\RN g.es i 0 L)/\St h h' [.ae h9.size (L.map Value.bool) 4,.ae h.size g.cs 27],⟨_,0,_,rfl,by omega,rfl,?_,hs⟩,?_⟩
 .have:=RE.start (es:=g.es) (s:=g.s) (N:=N) (by omega) (by omega);rw[htN];rw[sj] at this ⊢;exact this
 rintro-_ fN m ⟨n,L,rfl,hn,rfl,⟨re1,rn1⟩,hs⟩;have hL:=re1.len;refine⟨_,hs.rd 1 rfl rfl,aa (fun c=>?_) (fun cE=>?_)⟩
 .replace c:=cd c;refine⟨fun x h' m=>∃(i:Nat) (L:List Bool),x=i/\i<=g.he.n/\m=g.he.n-i/\(RE g.es g.s N L/\RN g.es n i L)/\St h h' [.ae h9.size (L.map Value.bool) 4,.ae h.size g.cs 27],⟨_,0,L,rfl,by omega,rfl,⟨re1,rn1⟩,hs⟩,?_⟩;rintro-_ rO m ⟨k,L3,rfl,hk,rfl,⟨re3,rn3⟩,hs⟩;have hL3:=re3.len;refine⟨_,hs.rd 1 rfl rfl,aa (fun c2=>?_) (fun c2=>⟨_,by omega,n+1,L3,by rw[a7 (by omega) (by omega)];omega,by omega,rfl,⟨re3,rn3.next (by have:=cj c2;omega)⟩,hs⟩)⟩;replace c2:=bU c2;have s7:∀ {h':Heap} {L4:List Bool},(RE g.es g.s N L4/\RN g.es n (k+1) L4)->St h h' [.ae h9.size (L4.map Value.bool) 4,.ae h.size g.cs 27]->∃VF,VF<g.he.n-k/\∃(i:Nat) (L:List Bool),IntKind.wrap .i64 ((k:Int)+1)=i/\i<=g.he.n/\VF=g.he.n-i/\(RE g.es g.s N L/\RN g.es n i L)/\St h h' [.ae h9.size (L.map Value.bool) 4,.ae h.size g.cs 27]:=fun h4 hs=>
   ⟨_,by omega,k+1,_,by rw[a7 (by omega) (by omega)];omega,by omega,rfl,h4,hs⟩
  refine⟨_,hs.rd 1 rfl rfl,?_⟩;have jX:=hg.e.rw.ext hs.ext;refine jX.aD (by omega) (by omega) fun b o x gx t=>?_;replace gx:g.es[k]?=some x:=gx;have hx:=hN.es x (Yb gx);obtain⟨xt,yv⟩:∃a:Nat,x.t=a:=⟨x.t.toNat,by omega⟩;obtain⟨xf,DY⟩:∃a:Nat,x.f=a:=⟨x.f.toNat,by omega⟩;obtain⟨y1,VQ,DX⟩:=rk (L:=L3) (i:=xt) (by omega);obtain⟨y2,hy2,JM⟩:=rk (L:=L3) (i:=xf) (by omega);have Nn:x.t.toNat=xt:=by omega
  have Sx:x.f.toNat=xf:=by omega
  have same:∀ {b:Bool},L3[xt]?=some b->L3.set xt b=L3:=fun {b} hb=>by
   obtain⟨hl,he⟩:=Ya.1 hb;rw[<-he,List.set_getElem_self]
  refine⟨x.t,t.nth 4 rfl,?_⟩;refine⟨_,hs.rd 1 rfl rfl,?_⟩;refine jX.aD (by omega) (by omega) fun b o x' Em t'=>?_;replace Em:g.es[k]?=some x':=Em;rw[gx] at Em;cases Em;refine⟨x.t,t'.nth 4 rfl,⟨by omega,by omega⟩,?_⟩;rw[yv,show 0+Int.toNat (xt:Int)*1=xt by simp];refine⟨y1,hs.rd 0 rfl VQ,aa (fun e1=>?_) (fun e1=>?_)⟩
  .refine⟨⟨by omega,by omega⟩,?_⟩;refine hs.put 0 rfl (o:=xt) (vs:=[.bool true]) rfl (by rw[Yc];show xt+1<=_;omega) fun bK hs=>?_;rw[nC (by omega),same (by rw[DX,e1])] at hs;exact s7 ⟨re3,rn3.skip gx fun _=>⟨by omega,by rw[Nn,DX,e1]⟩⟩ hs
  .refine⟨_,hs.rd 1 rfl rfl,?_⟩;refine jX.aD (by omega) (by omega) fun b o x' Em t'=>?_;replace Em:g.es[k]?=some x':=Em;rw[gx] at Em;cases Em;refine⟨x.f,t'.nth 0 rfl,⟨by omega,by omega⟩,?_⟩;rw[DY,show 0+Int.toNat (xf:Int)*1=xf by simp];refine⟨y2,hs.rd 0 rfl hy2,⟨by omega,by omega⟩,?_⟩;refine hs.put 0 rfl (o:=xt) (vs:=[.bool y2]) rfl (by rw[Yc];show xt+1<=_;omega) fun B5 hs=>?_;rw[nC (by omega)] at hs;refine s7 ?_ hs;cases y2 with
   | true=>
    have:=re3.set rn3 gx (by omega) (by rw[Nn,DX,e1]) (by omega) (by rw[Sx];exact JM);rw[Nn] at this;exact this
   | false=>
    rw[same (by rw[DX,e1])];exact⟨re3,rn3.skip gx fun hv=>by have:=hv.2;rw[Sx,JM] at this;cases this⟩
 .refine⟨_,_,_,_,_,_,_,_,hs.at 1 rfl (o:=0) (n:=8) rfl,?_⟩;refine (Ma g fN (hg.ext hs.ext) hN).mono ?_;rintro _ h55 ⟨E,l,pQ,rfl,hl,ig,hvis⟩;have xl:n=N:=by have:=eU cE;omega
  have rn2:RN g.es N 0 L:=by rw[xl] at rn1;exact rn1
  have Hf:=re1.end_ rn2;have hs:=hs.step E;have sv:=hl.ln;refine⟨_,rfl,?_⟩;refine⟨fun x h' m=>∃i:Nat,x=i/\i<=N/\m=N-i/\h'=h55/\∀v:Int,0<=v->v<i->gC g.es false g.s v/\gC g.es true g.e v,⟨_,0,rfl,by omega,rfl,rfl,fun v h1 h2=>by omega⟩,?_⟩;rintro-_ PY m ⟨i,rfl,hi,rfl,rfl,hq⟩;refine⟨_,hs.rd 1 rfl rfl,aa (fun c=>?_) (fun c=>?_)⟩
  .replace c:=cd c;obtain⟨y1,VQ,DX⟩:=rk (L:=L) (i:=i) (by omega);refine⟨⟨by omega,by omega⟩,?_⟩;rw[show 0+Int.toNat (i:Int)*1=i by simp];refine⟨y1,hs.rd 0 rfl VQ,aa (fun e1=>RP.f (fun hG=>?_) hs.ext) (fun e1=>?_)⟩
   .have:=((Hf i).2 (hG.f i (by omega) (by omega))).2;rw[show ((i:Int)).toNat=i from rfl,DX] at this;cases this;cases e1
   refine hl.aD (by omega) (by omega) fun b o y gy t=>?_;replace gy:pQ[i]?=some y:=gy;refine⟨_,t.nth 0 rfl,aM (fun e2=>RP.f (fun hG=>?_) hs.ext) (fun e2=>⟨_,by omega,i+1,by rw[a7 (by omega) (by omega)];omega,by omega,rfl,rfl,fun v h1 h2=>?_⟩)⟩
   .obtain⟨_,d,hd,yz⟩:=(hvis i).2 (hG.b i (by omega) (by omega));rw[show ((i:Int)).toNat=i from rfl,gy] at hd;cases hd;omega
   .by_cases e:v=(i:Int)
    .subst e;exact⟨(Hf i).1 ⟨by omega,by rw[show ((i:Int)).toNat=i from rfl,DX,bT e1]⟩,(hvis i).1 ⟨by omega,y,gy,by omega⟩⟩
    .exact hq v h1 (by omega)
  .refine⟨_,_,_,_,_,_,_,_,hs.at 1 rfl (o:=0) (n:=8) rfl,_,hs.rd 1 rfl rfl,?_⟩;refine (HS g g.e _ (hg.ext hs.ext)).mono ?_;rintro _ h78 ⟨⟨q,rfl,SA⟩,E⟩;replace c:=eU c;refine⟨_,rfl,RP.e ?_ (hs.step E).ext⟩;have hb:∀b:Bool,(b=true ↔ q.n=0)->(b=true ↔ aaA g):=fun b hb=>hb.trans (SA.trans ⟨fun he=>⟨fun v h1 h2=>(hq v h1 (by omega)).1,fun v h1 h2=>(hq v h1 (by omega)).2,he⟩,fun hG=>hG.e⟩);refine hb _ ?_;simp
theorem KM(g:Gl)(h:Heap)(hg:GI h g)(hM:JA g.ds):Fn Pz 43 #[g.v] h (RP (vr g/\oB g.ds) h):=by
 apply abr (bs g.nm) g.hr g.hd g.n g.s g.e g.he g.ht;unfold W43;have jY:=hg.r.ln;have hrm:=hg.r.sm;refine (St.refl h).ak fun h9 hs=>?_;refine aL (n:=g.hr.n) hs (fun i=>∀(j:Nat) (s:Nm),j<i->g.rs[j]?=some s->isWord s=true/\s∉g.rs.take j) (fun j s hj=>by omega) ?_;rintro-i B7 hi ⟨hs,hq⟩;refine⟨_,hs.rd 0 rfl rfl,aa (fun c=>?_) (fun c=>?_)⟩
 .replace c:=bU c;refine⟨_,hs.rd 0 rfl rfl,?_⟩;refine (hg.r.rw.ext hs.ext).aD (by omega) (by omega) fun b o x gx t=>?_;replace gx:g.rs[i]?=some x:=gx;refine⟨_,t.nth 0 rfl,?_⟩;refine (jH (bs x) B7).mono ?_;rintro _ dX ⟨rfl,E⟩;have hs:=hs.step E;refine⟨_,rfl,aa (fun c1=>RP.f (fun hG=>?_) hs.ext) (fun c1=>?_)⟩
  .have:=(hG.1.r i x gx).1;rw[df,this] at c1;cases c1
  refine⟨_,hs.rd 0 rfl rfl,_,hs.rd 0 rfl rfl,?_⟩;refine (hg.r.rw.ext hs.ext).aD (by omega) (by omega) fun b o x2 gx2 t=>?_;replace gx2:g.rs[i]?=some x2:=gx2;rw[gx] at gx2;cases gx2;refine⟨_,t.nth 0 rfl,?_⟩;refine (G5 g.rs g.hr (bs x) dX (hg.r.rw.ext hs.ext) hrm).mono ?_;rintro _ HA ⟨⟨k,rfl,hk⟩,rfl⟩;replace hk:=hk i (by omega);rw[df] at hk;have si:x∈g.rs:=Yb gx;refine⟨_,rfl,fun _ _ _ _ hv=>hv,aM (fun c2=>RP.f (fun hG=>?_) hs.ext) (fun c2=>Up.next c (by omega) ⟨hs,fun j s hj SG=>?_⟩)⟩
  .rcases hk.1 c2 with h1 | h1
   .exact (hG.1.r i x gx).2 h1
   .exact h1 si
  .by_cases e:j=i
   .subst e;rw[gx] at SG;cases SG;refine⟨by have:=bT c1;rw[df] at this;exact this,fun hm=>c2 (hk.2 (.inl hm))⟩
   .exact hq j s (by omega) SG
 .replace c:=cj c;refine⟨_,hs.rd 0 rfl rfl,?_⟩;refine (jH (bs g.nm) B7).mono ?_;rintro _ bK ⟨rfl,E⟩;have hs:=hs.step E;refine⟨_,rfl,aa (fun c1=>⟨_,hs.rd 0 rfl rfl,aM (fun c2=>⟨_,hs.rd 0 rfl rfl,aM (fun c3=>⟨_,hs.rd 0 rfl rfl,?_⟩) (fun c3=>RP.f (fun hG=>c3 (by have:=hG.1.n6;omega)) hs.ext)⟩) (fun c2=>RP.f (fun hG=>c2 (by have:=hG.1.n1;omega)) hs.ext)⟩) (fun c1=>RP.f (fun hG=>by rw[df,hG.1.w] at c1;cases c1) hs.ext)⟩;refine (wm g.ds g.hd bK (hg.d.ext hs.ext) hM).mono ?_;rintro _ LJ ⟨⟨b2,rfl,jK⟩,E⟩;refine⟨_,rfl,RP.e (jK.trans ⟨fun hd=>⟨⟨by rw[df] at c1;exact c1,by omega,by omega,fun j s hj=>hq j s (by have:=(Ya.1 hj).1;omega) hj⟩,hd⟩,fun hG=>hG.2⟩) (hs.step E).ext⟩
theorem qh(g:Gl)(h:Heap)(hg:GI h g)(hM:JA g.ds):Fn Pz 17 #[g.v] h (RP (af g) h):=by
 apply abD (bs g.nm) g.hr g.hd g.n g.s g.e g.he g.ht;unfold W17;refine (St.refl h).ak fun h9 hs=>?_;refine⟨_,_,_,_,_,_,_,_,hs.at 0 rfl (o:=0) (n:=8) rfl,?_⟩;refine (KM g h9 (hg.ext hs.ext) hM).mono ?_;rintro _ aG ⟨⟨b1,rfl,n5⟩,E⟩;have hs:=hs.step E;refine⟨_,rfl,aa (fun c1=>?_) (fun c1=>RP.f (fun hG=>cw n5 c1 ⟨hG.Nb,hG.dcl⟩) hs.ext)⟩;refine⟨_,_,_,_,_,_,_,_,hs.at 0 rfl (o:=0) (n:=8) rfl,?_⟩;refine (DK g aG (hg.ext hs.ext)).mono ?_;rintro _ fM ⟨⟨b2,rfl,jK⟩,E⟩;have hs:=hs.step E;refine⟨_,rfl,aa (fun c2=>?_) (fun c2=>RP.f (fun hG=>cw jK c2 hG.num) hs.ext)⟩;have hN:=jK.1 c2;refine⟨_,_,_,_,_,_,_,_,hs.at 0 rfl (o:=0) (n:=8) rfl,?_⟩;refine (Mq g fM (hg.ext hs.ext)).mono ?_;rintro _ B5 ⟨⟨b3,rfl,JS⟩,E⟩;have hs:=hs.step E;refine⟨_,rfl,aa (fun c3=>?_) (fun c3=>RP.f (fun hG=>cw JS c3 ⟨hG.ord.s,hG.ord.p⟩) hs.ext)⟩;refine⟨_,_,_,_,_,_,_,_,hs.at 0 rfl (o:=0) (n:=8) rfl,?_⟩;refine (xN g B5 (hg.ext hs.ext) hN.R).mono ?_;rintro _ W6 ⟨⟨b4,rfl,LB⟩,E⟩;have hs:=hs.step E;refine⟨_,rfl,aa (fun c4=>?_) (fun c4=>RP.f (fun hG=>cw LB c4 ⟨hG.fwd,hG.bwd,hG.ord.e⟩) hs.ext)⟩;refine⟨_,_,_,_,_,_,_,_,hs.at 0 rfl (o:=0) (n:=8) rfl,?_⟩;refine (Kg g W6 (hg.ext hs.ext) hN).mono ?_;rintro _ JV ⟨⟨b5,rfl,hb5⟩,E⟩;have f1:=n5.1 c1;have f3:=JS.1 c3;have f4:=LB.1 c4;exact⟨_,rfl,RP.e (hb5.trans ⟨fun ht=>⟨f1.1,hN,f1.2,⟨f4.e,f3.s,f3.p⟩,ht,f4.f,f4.b⟩,fun hG=>hG.Sa⟩) (hs.step E).ext⟩
theorem HH(g:Gl)(role:Int)(h:Heap)(hg:GI h g)(hM:JA g.ds):Fn Pz 48 #[g.v,.int .i64 role] h (RP (af g/\0<=role/\role<g.rs.length) h):=by
 apply abm (bs g.nm) g.hr g.hd g.n g.s g.e g.he g.ht;unfold W48;have jY:=hg.r.ln;refine (St.refl h).ak fun h9 hs=>?_;refine⟨_,_,_,_,_,_,_,_,hs.at 0 rfl (o:=0) (n:=8) rfl,?_⟩;refine (qh g h9 (hg.ext hs.ext) hM).mono ?_;rintro _ aG ⟨⟨b1,rfl,n5⟩,E⟩;have hs:=hs.step E;exact⟨_,rfl,aa (fun c1=>aM (fun c2=>⟨_,hs.rd 0 rfl rfl,RP.e ⟨fun hb=>⟨n5.1 c1,by omega,by have:=cd hb;omega⟩,fun hG=>decide_eq_true (by omega)⟩ hs.ext⟩) (fun c2=>RP.f (fun hG=>c2 (by omega)) hs.ext)) (fun c1=>RP.f (fun hG=>cw n5 c1 hG.1) hs.ext)⟩
structure Hv where
 role:Int
 send:Bool
 peer:Int
 label:Int
 vs:Sl
def Hv.cs(x:Hv):List Value:=[.int .i64 x.role,.bool x.send,.int .i64 x.peer,.int .i64 x.label,.slice x.vs.a x.vs.n x.vs.c]
end Go.VC
end

section
namespace Go.VC
open Go.LexS

def Hv.ev(x:Hv):Ev:=⟨x.send,x.peer,x.label⟩
end Go.VC
end

section
namespace Go.VC
open Go.Proofs Go.LexS
def cB(es:List Ed)(s:Int)(i:Nat):Bool:=match es[i]? with | some x=>decide (x.f=s) | none=>false
def ah(es:List Ed)(s:Int):List Nat:=(List.range es.length).filter (cB es s)
theorem aA{es:List Ed}{s:Int}{k:Nat}:k∈ah es s ↔ ∃x,es[k]?=some x/\x.f=s:=by
 unfold ah;rw[List.mem_filter,List.mem_range];constructor
 .rintro⟨h1,h2⟩;unfold cB at h2;rw[Yi h1] at h2;exact⟨_,Yi h1,cd h2⟩
 .rintro⟨x,hx,hf⟩;refine⟨(Ya.1 hx).1,?_⟩;unfold cB;rw[hx];exact decide_eq_true hf
theorem cA(es:List Ed)(s:Int):(ah es s).length<=es.length:=mn (List.length_filter_le _ _) (by rw[mr];exact bc _)
theorem sX(g:Gl)(s:Int)(h:Heap)(hg:GI h g):Fn Pz 55 #[g.v,.int .i64 s] h fun v h'=>Ext h h'/\∃r:Sl,v=.slice r.a r.n r.c/\Rw h' 1 r ((aw (ah g.es s)).map aO):=by
 apply Tp (bs g.nm) g.hr g.hd g.n g.s g.e g.he g.ht;unfold W55;have ki:=hg.e.ln;have Fi:=hg.e.sm;refine (St.refl h).ak fun h9 hs=>?_;have hs:=hs.bJ 3 1;refine gH (n:=g.he.n) hs (fun i rows=>rows=(aw ((List.range i).filter (cB g.es s))).map aO) rfl ?_;clear hs;rintro-i out rP rows hi hs rfl;have Hi:=hs.len 0 (s:=out) (e:=3) (n:=1) rfl (by omega);rw[Yc,show (aw ((List.range i).filter (cB g.es s))).length=((List.range i).filter (cB g.es s)).length from Yc _] at Hi;have tt:((List.range i).filter (cB g.es s)).length<=i:=mn (List.length_filter_le _ _) (by rw[mr];exact bc _);refine⟨g.he,hs.rd 1 rfl rfl,aM (fun c=>?_) (fun c=>?_)⟩
 .refine⟨g.he,hs.rd 1 rfl rfl,?_⟩;refine (hg.e.rw.ext hs.ext).aD (by omega) (by omega) fun b o x gx t=>?_;replace gx:g.es[i]?=some x:=gx;have BI:(List.range (i+1)).filter (cB g.es s)=if x.f=s then (List.range i).filter (cB g.es s)++[i] else (List.range i).filter (cB g.es s):=by
   rw[List.range_succ,List.filter_append];have hp:cB g.es s i=decide (x.f=s):=by unfold cB;rw[gx]
   by_cases e:x.f=s
   .rw[if_pos e,List.filter_cons_of_pos (by rw[hp];exact decide_eq_true e)];rfl
   .rw[if_neg e,List.filter_cons_of_neg (by rw[hp,decide_eq_false e];simp)];simp
  refine⟨_,t.hd,dp (fun c2=>?_) (fun c2=>?_)⟩
  .refine hs.app 0 rfl dv (m:=1) [aO (i:Int)] rfl rfl (fun r hr=>by rw[Ye] at hr;rw[hr];rfl) rfl (by omega) (by simp only[maxLen];omega) fun r zO ns hs=>?_;refine Fu.next (by omega) (by omega) ⟨_,hs,?_⟩;rw[BI,if_pos c2,jC,Ym];rfl
  .exact Fu.next (by omega) (by omega) ⟨_,hs,by rw[BI,if_neg c2]⟩
 .have hie:i=g.es.length:=by omega
  subst hie;exact⟨hs.ext,out,rfl,hs.rows 0 rfl (by omega)⟩
theorem mL(x:Ed)(role:Int)(h:Heap):Fn Pz 56 #[.agg ⟨x.cs⟩,.int .i64 role] h fun v h'=>v=.bool (aW role x).isSome/\Ext h h':=by
 apply abj x.f x.a x.b x.l x.t x.ag;unfold W56;refine (St.refl h).ak fun h7 hs=>?_;refine⟨_,hs.rd 0 rfl rfl,dp (fun c=>?_) (fun c=>⟨_,hs.rd 0 rfl rfl,?_,hs.ext⟩)⟩
 .refine⟨?_,hs.ext⟩;unfold aW;rw[if_pos c.symm];rfl
 .unfold aW;rw[if_neg (Ne.symm c)];by_cases e:x.b=role
  .rw[if_pos e.symm,e,beq_self_eq_true];rfl
  .rw[if_neg (Ne.symm e),beq_eq_false_iff_ne.2 e];rfl
theorem pJ(x:Ed)(role:Int)(e:Ev)(hv:aW role x=some e)(h:Heap):Fn Pz 57 #[.agg ⟨x.cs⟩,.int .i64 role] h fun v h'=>v=.agg ⟨aC role e⟩/\Ext h h':=by
 apply abi x.f x.a x.b x.l x.t x.ag;unfold W57 RQ;refine (St.refl h).ak fun h7 hs=>?_;refine hs.ak fun h8 hs=>?_;unfold aW at hv;refine⟨_,hs.rd 1 rfl rfl,dp (fun c=>?_) (fun c=>?_)⟩
 .rw[if_pos c.symm] at hv;cases hv;refine⟨_,hs.rd 1 rfl rfl,_,hs.rd 1 rfl rfl,?_⟩;refine hs.put 0 rfl (o:=0) (vs:=aC role ⟨true,x.b,x.l⟩) rfl (show 5<=5 by decide) fun kj hs=>?_;exact⟨_,_,_,_,⟨none,0,0⟩,hs.at 0 rfl (o:=0) (n:=5) rfl,rfl,hs.ext⟩
 .rw[if_neg (Ne.symm c)] at hv;split at hv
  .cases hv;refine⟨_,hs.rd 1 rfl rfl,_,hs.rd 1 rfl rfl,?_⟩;refine hs.put 0 rfl (o:=0) (vs:=aC role ⟨false,x.a,x.l⟩) rfl (show 5<=5 by decide) fun kj hs=>?_;exact⟨_,_,_,_,⟨none,0,0⟩,hs.at 0 rfl (o:=0) (n:=5) rfl,rfl,hs.ext⟩
  .cases hv
theorem eJ:cI Pz 30 65 3 24=true:=by kernel_rfl
end Go.VC
end

section
namespace Go.VC
def Sd(c:Nat):Nat->Nat
 | 0=>0
 | k+1=>c+256*Sd c k
def s1(k x:Nat):Nat:=((x/2)&&&Sd 0x55 k)+(x&&&Sd 0x55 k)
def s2(k x:Nat):Nat:=((x/4)&&&Sd 0x33 k)+(x&&&Sd 0x33 k)
def s3(k x:Nat):Nat:=(x/16+x)&&&Sd 0x0f k
def b1(b:Nat):Nat:=((b/2)&&&0x55)+(b&&&0x55)
def b2(b:Nat):Nat:=((b/4)&&&0x33)+(b&&&0x33)
def b3(b:Nat):Nat:=(b/16+b)&&&0x0f
set_option maxRecDepth 100000 in
theorem f1:∀b,b<256->∀t,t<2->(b/2+128*t)&&&0x55=(b/2)&&&0x55:=by decide
set_option maxRecDepth 100000 in
theorem f2:∀b,b<256->∀t,t<4->(b/4+64*t)&&&0x33=(b/4)&&&0x33:=by decide
set_option maxRecDepth 100000 in
theorem f3:∀b,b<69->∀t,t<5->(b/16+16*t+b)&&&0x0f=b3 b:=by decide
set_option maxRecDepth 100000 in
theorem f4:∀b,b<256->b1 b<256/\b2 (b1 b)<69/\b2 (b1 b)%16<5/\b3 (b2 (b1 b))<9/\(b3 (b2 (b1 b))=0->b=0):=by decide
end Go.VC
end

section
namespace Go.VC
open Go.Proofs Go.LexS


theorem yI{g:Gl}(hT:Ao g):∀(j i:Nat) (a b:To),i<j->g.ts[i]?=some a->g.ts[j]?=some b->a.s<b.s
 | 0,i,a,b,h,_,_=>by omega
 | j+1,i,a,b,h,ha,hb=>by
  have h1:=(hT (j+1) b hb).o;have hl:=(Ya.1 hb).1;obtain⟨c,hc⟩:=get_some (l:=g.ts) (i:=j) (by omega);rw[qI hc] at h1;by_cases e:i=j
  .subst e;rw[ha] at hc;cases hc;exact h1
  .have:=yI hT j i a c (by omega) ha hc;omega
theorem vR{g:Gl}(hT:Ao g){a b:To}(ha:a∈g.ts)(hb:b∈g.ts)(e:a.s=b.s):a=b:=by
 obtain⟨i,hi⟩:=Yf.1 ha;obtain⟨j,hj⟩:=Yf.1 hb;rcases Nat.lt_trichotomy i j with h | h | h
 .have:=yI hT j i a b h hi hj;omega
 .subst h;rw[hi] at hj;cases hj;rfl
 .have:=yI hT i j b a h hj hi;omega
end Go.VC
end

section
namespace Go.VC
open Go.LexS

theorem oQ(T:List Ti)(n:Nat)(f:Ti->Ti)(k:Nat):(rZ T n f)[k]?=if k=n then (T[k]?).map f else T[k]?:=by
 unfold rZ;split
 .rename_i t ht;by_cases e:k=n
  .subst e;rw[if_pos rfl,Yq (Ya.1 ht).1,ht];rfl
  .rw[if_neg e,Yy (fun h=>e h.symm)]
 .rename_i ht;by_cases e:k=n
  .subst e;rw[if_pos rfl,ht];rfl
  .rw[if_neg e]
theorem Gi{es:List Ed}{role:Int}{n k:Nat}(hk:k<n):(∀x∈es,0<=x.f)->(∀x∈es,¬(x.f=(k:Int)/\x.a=role))/\(um es role n).1[k]?=some false/\(um es role n).2[k]?=some MY\/∃x∈es,x.f=(k:Int)/\x.a=role/\(um es role n).1[k]?=some true/\(um es role n).2[k]?=some ⟨x.ag,0,MY.x⟩:=by
 intro hf;unfold um
 suffices h:∀(l:List Ed) (s:List Bool × List Ti),s.1.length=n->(∀x∈l,0<=x.f)->((l.foldl (uo role) s).1[k]?=s.1[k]?/\(l.foldl (uo role) s).2[k]?=s.2[k]?/\∀x∈l,¬(x.f=(k:Int)/\x.a=role))\/∃x∈l,x.f=(k:Int)/\x.a=role/\(l.foldl (uo role) s).1[k]?=some true/\∀t,s.2[k]?=some t->(l.foldl (uo role) s).2[k]?=some ⟨x.ag,t.k,t.x⟩ by
  rcases h es (List.replicate n false,List.replicate n MY) (by rw[Yg]) hf with ⟨h1,h2,h3⟩ | ⟨x,h1,h2,h3,h4,h5⟩
  .refine .inl ⟨h3,?_,?_⟩
   .rw[h1,List.getElem?_replicate,if_pos hk]
   .rw[h2,List.getElem?_replicate,if_pos hk]
  .exact .inr ⟨x,h1,h2,h3,h4,h5 MY (by rw[List.getElem?_replicate,if_pos hk])⟩
 intro l
 induction l with
 | nil=>intro s _ _;exact .inl ⟨rfl,rfl,fun x hx=>by cases hx⟩
 | cons a l ih=>
  intro s hs hf;rw[List.foldl_cons];have hfa:=hf a (Yx ..);have fJ:∀x∈l,0<=x.f:=fun x hx=>hf x (Yn _ hx);by_cases ha:a.a=role
  .have e:uo role s a=(s.1.set a.f.toNat true,rZ s.2 a.f.toNat fun t=>{ t with ag:=a.ag }):=by unfold uo;rw[if_pos ha]
   rw[e];have bL:(s.1.set a.f.toNat true).length=n:=by rw[jT];exact hs
   by_cases jn:a.f=(k:Int)
   .have ND:a.f.toNat=k:=by omega
    rw[ND] at bL ⊢;have g1:(s.1.set k true)[k]?=some true:=Yq (by omega);have g2:∀t,s.2[k]?=some t->(rZ s.2 k fun t=>{ t with ag:=a.ag })[k]?=some ⟨a.ag,t.k,t.x⟩:=fun t ht=>by rw[oQ,if_pos rfl,ht];rfl
    rcases ih (s.1.set k true,rZ s.2 k fun t=>{ t with ag:=a.ag }) bL fJ with ⟨h1,h2,h3⟩ | ⟨x,h1,h2,h3,h4,h5⟩
    .exact .inr ⟨a,Yx ..,jn,ha,by rw[h1];exact g1,fun t ht=>by rw[h2];exact g2 t ht⟩
    .exact .inr ⟨x,Yn _ h1,h2,h3,h4,fun t ht=>h5 ⟨a.ag,t.k,t.x⟩ (g2 t ht)⟩
   .have ND:¬k=a.f.toNat:=by omega
    have g1:(s.1.set a.f.toNat true)[k]?=s.1[k]?:=Yy (by omega);have g2:(rZ s.2 a.f.toNat fun t=>{ t with ag:=a.ag })[k]?=s.2[k]?:=by rw[oQ,if_neg ND]
    rcases ih (s.1.set a.f.toNat true,rZ s.2 a.f.toNat fun t=>{ t with ag:=a.ag }) bL fJ with ⟨h1,h2,h3⟩ | ⟨x,h1,h2,h3,h4,h5⟩
    .refine .inl ⟨by rw[h1];exact g1,by rw[h2];exact g2,fun x hx=>?_⟩;rcases Yr.1 hx with rfl | hx
     .exact fun h=>jn h.1
     .exact h3 x hx
    .exact .inr ⟨x,Yn _ h1,h2,h3,h4,fun t ht=>h5 t (by rw[g2];exact ht)⟩
  .have e:uo role s a=s:=by unfold uo;rw[if_neg ha]
   rw[e];rcases ih s hs fJ with ⟨h1,h2,h3⟩ | ⟨x,h1,h2,h3,h4,h5⟩
   .refine .inl ⟨h1,h2,fun x hx=>?_⟩;rcases Yr.1 hx with rfl | hx
    .exact fun h=>ha h.2
    .exact h3 x hx
   .exact .inr ⟨x,Yn _ h1,h2,h3,h4,h5⟩
theorem qv{es:List Ed}{O:List Bool}{k:Nat}(hO:O[k]?=some true):∀(l:List To) (T:List Ti) (t:Ti),(∀u∈l,0<=u.s/\∃z,es[u.e.toNat]?=some z)->T[k]?=some t ->
  ((∀u∈l,u.s≠(k:Int))/\(l.foldl (wG es O) T)[k]?=some t)\/∃u∈l,u.s=(k:Int)/\∃z,es[u.e.toNat]?=some z/\(l.foldl (wG es O) T)[k]?=some ⟨t.ag,u.k,⟨true,z.b,z.l⟩⟩
 | [],T,t,_,ht=>.inl ⟨fun u hu=>(by cases hu),ht⟩
 | u::l,T,t,hl,ht=>by
  rw[List.foldl_cons];obtain⟨hu0,z,hz⟩:=hl u (Yx ..);have k8:∀u∈l,0<=u.s/\∃z,es[u.e.toNat]?=some z:=fun u hu=>hl u (Yn _ hu);by_cases hk:u.s=(k:Int)
  .have ND:u.s.toNat=k:=by omega
   have e:wG es O T u=rZ T k fun q=>⟨q.ag,u.k,⟨true,z.b,z.l⟩⟩:=by
    unfold wG;rw[ND,hO,hz]
   have g:(wG es O T u)[k]?=some ⟨t.ag,u.k,⟨true,z.b,z.l⟩⟩:=by rw[e,oQ,if_pos rfl,ht];rfl
   rcases qv hO l _ _ k8 g with ⟨_,h2⟩ | ⟨v,h1,h2,z',h3,h4⟩
   .exact .inr ⟨u,Yx ..,hk,z,hz,h2⟩
   .exact .inr ⟨v,Yn _ h1,h2,z',h3,h4⟩
  .have g:(wG es O T u)[k]?=some t:=by
    unfold wG;split
    .rw[oQ,if_neg (by omega)];exact ht
    .exact ht
   rcases qv hO l _ _ k8 g with ⟨h1,h2⟩ | ⟨v,h1,h2,z',h3,h4⟩
   .refine .inl ⟨fun v hv=>?_,h2⟩;rcases Yr.1 hv with rfl | hv
    .exact hk
    .exact h1 v hv
   .exact .inr ⟨v,Yn _ h1,h2,z',h3,h4⟩
theorem eE{g:Gl}(hV:af g){x y:Ed}(hx:x∈g.es)(hy:y∈g.es)(e:x.f=y.f):x.a=y.a/\x.ag=y.ag:=by
 obtain⟨i,hi⟩:=Yf.1 hx;obtain⟨k,hk⟩:=Yf.1 hy;by_cases S2:i=k
 .subst S2;rw[hi] at hk;cases hk;exact⟨rfl,rfl⟩
 .have h1:=hV.ord.p i x hi k y hk;have h2:=hV.ord.p k y hk i x hi;unfold cz at h1 h2;have e1:x.ag=false:=by cases h:x.ag with | false=>rfl | true=>exact absurd (.inl ⟨S2,e,.inr (.inr h)⟩) h1
  have e2:y.ag=false:=by cases h:y.ag with | false=>rfl | true=>exact absurd (.inl ⟨fun h=>S2 h.symm,e.symm,.inr (.inr h)⟩) h2
  refine⟨Classical.byContradiction fun h=>h1 (.inl ⟨S2,e,.inr (.inl h)⟩),by rw[e1,e2]⟩
theorem FZ{g:Gl}(hV:af g){i k:Nat}{x y:Ed}(hi:g.es[i]?=some x)(hk:g.es[k]?=some y)(e:x.f=y.f)(hb:x.b=y.b)(hl:x.l=y.l):i=k:=by
 apply Classical.byContradiction;intro S2;have h1:=hV.ord.p i x hi k y hk;unfold cz at h1;have:=(eE hV (Yb hi) (Yb hk) e).1;exact h1 (.inl ⟨S2,e,.inl ⟨this,hb,hl⟩⟩)

end Go.VC
end

section
namespace Go.VC
open Go.Proofs Go.LexS
def dW(x:Int):List Int->List Int
 | []=>[x]
 | y::l=>if x<=y then (if x<y then x::y::l else y::l) else y::dW x l
theorem jz{x v:Int}:∀ {T:List Int},v∈dW x T ↔ v=x\/v∈T
 | []=>by simp[dW]
 | y::l=>by
  unfold dW;split
  .split
   .rw[Yr]
   .have:x=y:=by omega
    subst this;simp
  .rw[Yr,jz,Yr];constructor
   .rintro (h | h | h)
    .exact .inr (.inl h)
    .exact .inl h
    .exact .inr (.inr h)
   .rintro (h | h | h)
    .exact .inr (.inl h)
    .exact .inl h
    .exact .inr (.inr h)
theorem lg{x:Int}:∀ {T:List Int},T.Pairwise (· < ·)->(dW x T).Pairwise (· < ·)
 | [],_=>by simp[dW]
 | y::l,h=>by
  unfold dW;have h':=List.pairwise_cons.1 h;split
  .split
   .refine List.pairwise_cons.2 ⟨fun v hv=>?_,h⟩;rcases Yr.1 hv with rfl | hv
    .assumption
    .have:=h'.1 v hv;omega
   .exact h
  .refine List.pairwise_cons.2 ⟨fun v hv=>?_,lg h'.2⟩;rcases jz.1 hv with rfl | hv
   .omega
   .exact h'.1 v hv
theorem sL{x:Int}:∀ {T:List Int},x∉T->(dW x T).length=T.length+1
 | [],_=>rfl
 | y::l,h=>by
  unfold dW;rw[Yr,not_or] at h;split
  .split
   .rfl
   .exact absurd (by omega) h.1
  .rw[j8,sL h.2,j8]
theorem pS{x:Int}:∀ {T:List Int},T.Pairwise (· < ·)->x∈T->dW x T=T
 | [],_,h=>by cases h
 | y::l,h,hm=>by
  unfold dW;have h':=List.pairwise_cons.1 h;split
  .split
   .rcases Yr.1 hm with e | e
    .omega
    .have:=h'.1 x e;omega
   .rfl
  .rcases Yr.1 hm with e | e
   .omega
   .rw[pS h'.2 e]
theorem lu(L:List Int)(x:Int)(s:Sl)(h:Heap)(hr:Rw h 1 s (L.map aO))(hl:L.length<=1048576):Fn Pz 116 #[.slice s.a s.n s.c,.int .i64 x] h (RP (x∈L) h):=by
 apply UU;unfold aaf;have hn:=hr.ln;refine eB (n:=s.n) (fun i h'=>Ext h h'/\∀(j:Nat) y,j<i->L[j]?=some y->y≠x) ⟨.iC,fun j y hj=>by omega⟩ ?_;rintro-i h5 hi ⟨E,hq⟩;refine aa (fun c=>?_) (fun c=>RP.f (fun hm=>?_) E)
 .replace c:=bU c;refine (hr.ext E).aD (by omega) (by omega) fun b6 o7 y gy t=>?_;replace gy:L[i]?=some y:=gy;refine⟨_,t.hd,dp (fun c1=>RP.t (by subst c1;exact Yb gy) E) (fun c1=>Up.next c (by omega) ⟨E,fun j z hj hz=>?_⟩)⟩;by_cases e:j=i
  .subst e;rw[gy] at hz;cases hz;exact c1
  .exact hq j z (by omega) hz
 .replace c:=cj c;obtain⟨j,hj⟩:=Yf.1 hm;exact hq j x (by have:=(Ya.1 hj).1;omega) hj rfl
theorem yO(L:List Int)(x:Int)(s:Sl)(h:Heap)(hr:Rw h 1 s (L.map aO))(hl:L.length<=1048575):
  Fn Pz 218 #[.slice s.a s.n s.c,.int .i64 x] h fun v h'=>∃s':Sl,v=.slice s'.a s'.n s'.c/\St h h' [.sl s' 3 1 ((dW x L).map aO)]:=by
 apply T6;unfold Zq Ji Jj;have hn:=hr.ln;refine⟨fun out done i h' μ=>∃(j:Nat) (T:List Int),i=j/\j<=s.n/\μ=s.n-j/\St h h' [.sl out 3 1 (T.map aO)]/\T.length<=j+1/\(done=false->T.length<=j)/\dW x L=T++(if done=true then L.drop j else dW x (L.drop j)),⟨_,0,[],rfl,by omega,rfl,(St.refl h).bJ 3 1,by simp,by simp,rfl⟩,?_⟩;rintro-out done _ h7 μ ⟨j,T,rfl,hj,rfl,hs,hT,SN,hw⟩;have tt:=(hs.rows 0 rfl (by omega)).ln;refine aa (fun c=>?_) (fun c=>?_)
 .replace c:=bU c;obtain⟨y,hy⟩:=get_some (l:=L) (i:=j) (by omega);rw[xK hy] at hw;refine aa (fun c1=>?_) (fun c1=>?_)
  .have rL:done=false:=bF c1;subst rL;have SN:=SN rfl;rw[if_neg (by decide)] at hw;refine (hr.ext hs.ext).aD (by omega) (by omega) fun b8 o9 y' gy t=>?_;replace gy:L[j]?=some y':=gy;rw[hy] at gy;cases gy;refine⟨_,t.hd,aM (fun c2=>?_) (fun c2=>?_)⟩
   .refine (hr.ext hs.ext).aD (by omega) (by omega) fun b8 o9 y' gy t=>?_;replace gy:L[j]?=some y':=gy;rw[hy] at gy;cases gy;refine⟨_,t.hd,aM (fun c3=>?_) (fun c3=>?_)⟩
    .refine hs.app 0 rfl dv (m:=1) [[.int .i64 x]] rfl rfl (by simp) rfl (by omega) (by simp only[maxLen];omega) fun s15 cy ns hs=>?_;have hs:St h cy [.sl s15 3 1 ((T++[x]).map aO)]:=by rw[Ym];exact hs
     have tt:=(hs.rows 0 rfl (by omega)).ln;have BM:(T++[x]).length=T.length+1:=Yh;refine (hr.ext hs.ext).aD (by omega) (by omega) fun b8 o9 y' gy t=>?_;replace gy:L[j]?=some y':=gy;rw[hy] at gy;cases gy;refine⟨_,t.hd,?_⟩;refine hs.app 0 rfl dv (m:=1) [[.int .i64 y]] rfl rfl (by simp) rfl (by omega) (by simp only[maxLen];omega) fun M9 dX ns hs=>?_;have hs:St h dX [.sl M9 3 1 ((T++[x]++[y]).map aO)]:=by rw[Ym];exact hs
     refine⟨_,?_,j+1,T++[x]++[y],by rw[a7 (by omega) (by omega)];omega,by omega,rfl,hs,by rw[Yh,BM,Yv];omega,(fun hd=>by cases hd),?_⟩
     .omega
     .rw[if_pos rfl,hw,dW,if_pos c2,if_pos c3,Yz,Yz];rfl
    .refine (hr.ext hs.ext).aD (by omega) (by omega) fun b8 o9 y' gy t=>?_;replace gy:L[j]?=some y':=gy;rw[hy] at gy;cases gy;refine⟨_,t.hd,?_⟩;refine hs.app 0 rfl dv (m:=1) [[.int .i64 y]] rfl rfl (by simp) rfl (by omega) (by simp only[maxLen];omega) fun M9 dX ns hs=>?_;have hs:St h dX [.sl M9 3 1 ((T++[y]).map aO)]:=by rw[Ym];exact hs
     refine⟨_,?_,j+1,T++[y],by rw[a7 (by omega) (by omega)];omega,by omega,rfl,hs,by rw[Yh,Yv];omega,(fun hd=>by cases hd),?_⟩
     .omega
     .rw[if_pos rfl,hw,dW,if_pos c2,if_neg c3,Yz];rfl
   .refine (hr.ext hs.ext).aD (by omega) (by omega) fun b8 o9 y' gy t=>?_;replace gy:L[j]?=some y':=gy;rw[hy] at gy;cases gy;refine⟨_,t.hd,?_⟩;refine hs.app 0 rfl dv (m:=1) [[.int .i64 y]] rfl rfl (by simp) rfl (by omega) (by simp only[maxLen];omega) fun M9 dX ns hs=>?_;have hs:St h dX [.sl M9 3 1 ((T++[y]).map aO)]:=by rw[Ym];exact hs
    refine⟨_,?_,j+1,T++[y],by rw[a7 (by omega) (by omega)];omega,by omega,rfl,hs,by rw[Yh,Yv];omega,(fun _=>by rw[Yh,Yv];omega),?_⟩
    .omega
    .rw[if_neg (by decide),hw,dW,if_neg c2,Yz];rfl
  .have rL:done=true:=bT c1;subst rL;rw[if_pos rfl] at hw;refine (hr.ext hs.ext).aD (by omega) (by omega) fun b8 o9 y' gy t=>?_;replace gy:L[j]?=some y':=gy;rw[hy] at gy;cases gy;refine⟨_,t.hd,?_⟩;refine hs.app 0 rfl dv (m:=1) [[.int .i64 y]] rfl rfl (by simp) rfl (by omega) (by simp only[maxLen];omega) fun M9 dX ns hs=>?_;have hs:St h dX [.sl M9 3 1 ((T++[y]).map aO)]:=by rw[Ym];exact hs
   refine⟨_,?_,j+1,T++[y],by rw[a7 (by omega) (by omega)];omega,by omega,rfl,hs,by rw[Yh,Yv];omega,(fun hd=>by cases hd),?_⟩
   .omega
   .rw[if_pos rfl,hw,Yz];rfl
 .replace c:=cj c;rw[List.drop_eq_nil_of_le (by omega)] at hw;refine aa (fun c1=>?_) (fun c1=>?_)
  .have rL:done=false:=bF c1;subst rL;rw[if_neg (by decide)] at hw;refine hs.app 0 rfl dv (m:=1) [[.int .i64 x]] rfl rfl (by simp) rfl (by omega) (by simp only[maxLen];omega) fun s15 cy ns hs=>?_;have hs:St h cy [.sl s15 3 1 ((T++[x]).map aO)]:=by rw[Ym];exact hs
   exact⟨_,rfl,by rw[hw];exact hs⟩
  .have rL:done=true:=bT c1;subst rL;rw[if_pos rfl,Yw] at hw;exact⟨_,rfl,by rw[hw];exact hs⟩
theorem Ck:∀(l m:List Int),l.Pairwise (· < ·)->m.Pairwise (· < ·)->(∀x,x∈l ↔ x∈m)->l=m
 | [],[],_,_,_=>rfl
 | [],b::m,_,_,h=>absurd ((h b).2 (by simp)) (by simp)
 | a::l,[],_,_,h=>absurd ((h a).1 (by simp)) (by simp)
 | a::l,b::m,hl,hm,h=>by
  obtain⟨h1,h2⟩:=List.pairwise_cons.1 hl;obtain⟨h3,h4⟩:=List.pairwise_cons.1 hm;have mA:a=b:=by
   rcases Yr.1 ((h a).1 (by simp)) with e | ha
   .exact e
   .rcases Yr.1 ((h b).2 (by simp)) with e | hb
    .exact e.symm
    .have:=h1 b hb;have:=h3 a ha;omega
  subst mA;congr 1;refine Ck l m h2 h4 fun x=>?_;have hx:=h x;rw[Yr,Yr] at hx;constructor
  .intro jZ;rcases hx.1 (.inr jZ) with rfl | h5
   .have:=h1 x jZ;omega
   .exact h5
  .intro jZ;rcases hx.2 (.inr jZ) with rfl | h5
   .have:=h3 x jZ;omega
   .exact h5
def eW(p:eT):List Int:=aw (elems p)
theorem lq{p:eT}{v:Int}:v∈eW p ↔ 0<=v/\v<4096/\p v.toNat=true:=by
 unfold eW aw;rw[Yp];constructor
 .rintro⟨j,hj,rfl⟩;have:=fk.1 hj;exact⟨by omega,by omega,by rw[Ys];exact this.2⟩
 .rintro⟨h0,h1,h2⟩;exact⟨v.toNat,fk.2 ⟨by omega,h2⟩,by omega⟩
theorem FU(p:eT):(eW p).Pairwise (· < ·):=by
 unfold eW aw elems;rw[List.pairwise_map];exact (List.pairwise_lt_range.filter _).imp fun h=>by omega
theorem FT(p:eT):(eW p).length<=4096:=by
 unfold eW aw elems;rw[Yc];exact mn (List.length_filter_le _ _) (by rw[mr];exact bc _)
theorem Kr{p:eT}{l:List Int}(hl:l.Pairwise (· < ·))(h:∀v,v∈l ↔ 0<=v/\v<4096/\p v.toNat=true):l=eW p:=Ck l (eW p) hl (FU p) fun v=>by rw[h,lq]
theorem qb(r:Int)(x y:Ev)(h:Heap):Fn Pz 42 #[.agg ⟨aC r x⟩,.agg ⟨aC r y⟩] h fun v h'=>v=.bool (decide (x=y))/\Ext h h':=by
 apply Tq r x.send x.peer x.label ⟨none,0,0⟩ r y.send y.peer y.label ⟨none,0,0⟩;unfold W42;refine (St.refl h).ak fun iQ hs=>?_;refine hs.ak fun kj hs=>?_;refine⟨_,hs.rd 1 rfl (i:=0) rfl,_,hs.rd 0 rfl (i:=0) rfl,qf (by simp) ?_⟩;have no:x≠y->(Value.bool false=.bool (decide (x=y))/\Ext h kj):=fun e=>⟨by rw[decide_eq_false e],hs.ext⟩;refine⟨_,hs.rd 1 rfl (i:=1) rfl,_,hs.rd 0 rfl (i:=1) rfl,aa (fun c1=>?_) (fun c1=>no fun e=>by rw[e] at c1;simp at c1)⟩;refine⟨_,hs.rd 1 rfl (i:=2) rfl,_,hs.rd 0 rfl (i:=2) rfl,dp (fun c2=>?_) (fun c2=>no fun e=>c2 (by rw[e]))⟩;refine⟨_,hs.rd 1 rfl (i:=3) rfl,_,hs.rd 0 rfl (i:=3) rfl,?_,hs.ext⟩;have c1:x.send=y.send:=by simpa using c1
 by_cases c3:x.label=y.label
 .rw[decide_eq_true (Qt c1 c2 c3),c3,beq_self_eq_true]
 .rw[decide_eq_false (fun e=>c3 (by rw[e])),beq_eq_false_iff_ne.2 c3]
theorem ED(r:Int)(x y:Ev)(h:Heap):Fn Pz 264 #[.agg ⟨aC r x⟩,.agg ⟨aC r y⟩] h (RP (de x y) h):=by
 apply TL r x.send x.peer x.label ⟨none,0,0⟩ r y.send y.peer y.label ⟨none,0,0⟩;unfold Y8;refine (St.refl h).ak fun iQ hs=>?_;refine hs.ak fun kj hs=>?_;refine⟨_,hs.rd 1 rfl (i:=1) rfl,_,hs.rd 0 rfl (i:=1) rfl,aa (fun c1=>?_) (fun c1=>?_)⟩
 .refine⟨_,hs.rd 1 rfl (i:=1) rfl,RP.e ?_ hs.ext⟩;unfold de;cases hx:x.send<;>cases hy:y.send<;>simp_all
 .have c1:x.send=y.send:=by simpa using c1
  refine⟨_,hs.rd 1 rfl (i:=2) rfl,_,hs.rd 0 rfl (i:=2) rfl,fZ (fun c2=>?_) (fun c2=>?_)⟩
  .refine⟨_,hs.rd 1 rfl (i:=2) rfl,_,hs.rd 0 rfl (i:=2) rfl,RP.e ?_ hs.ext⟩;unfold de;rw[decide_eq_true_eq];constructor
   .intro bR;exact .inr ⟨c1,.inl bR⟩
   .rintro (⟨h1,h2⟩ | ⟨_,h1 | ⟨h1,_⟩⟩)
    .rw[c1,h2] at h1;cases h1
    .exact h1
    .exact absurd h1 c2
  .refine⟨_,hs.rd 1 rfl (i:=3) rfl,_,hs.rd 0 rfl (i:=3) rfl,RP.e ?_ hs.ext⟩;unfold de;rw[decide_eq_true_eq];constructor
   .intro bR;exact .inr ⟨c1,.inr ⟨c2,bR⟩⟩
   .rintro (⟨h1,h2⟩ | ⟨_,h1 | ⟨_,h1⟩⟩)
    .rw[c1,h2] at h1;cases h1
    .omega
    .exact h1
theorem DV(r:Int)(L:List Ev)(x:Ev)(s:Sl)(h:Heap)(hr:Rw h 5 s (L.map (aC r)))(hl:L.length<=1048575):
  Fn Pz 217 #[.slice s.a s.n s.c,.agg ⟨aC r x⟩] h fun v h'=>∃s':Sl,v=.slice s'.a s'.n s'.c/\St h h' [.sl s' 33 5 ((fy x L).map (aC r))]:=by
 apply T7 s r x.send x.peer x.label ⟨none,0,0⟩;unfold Zr Jk Jl;have hn:=hr.ln;refine (St.refl h).ak fun h6 sj=>?_;refine⟨fun out done i h' μ=>∃(j:Nat) (T:List Ev),i=j/\j<=s.n/\μ=s.n-j/\St h h' [.sl out 33 5 (T.map (aC r)),.ae h.size (aC r x) 33]/\T.length<=j+1/\(done=false->T.length<=j)/\fy x L=T++(if done=true then L.drop j else fy x (L.drop j)),⟨_,0,[],rfl,by omega,rfl,sj.bJ 33 5,by simp,by simp,rfl⟩,?_⟩;clear sj;rintro-out done _ h7 μ ⟨j,T,rfl,hj,rfl,hs,hT,SN,hw⟩;have tt:=(hs.rows 0 rfl (by decide)).ln
 have one:∀ {hX:Heap} {o:Sl} {T:List Ev} {y:Ev} {d:Bool},j<s.n->L[j]?=some y->St h hX [.sl o 33 5 (T.map (aC r)),.ae h.size (aC r x) 33]->T.length<=j+1->(T.length<=j\/d=true)->fy x L=T++[y]++(if d=true then L.drop (j+1) else fy x (L.drop (j+1))) ->
   NB s.a fun b o'=>((0<=(j:Int)/\(j:Int)<(s.n:Nat))/\(∃x54:Int,∃x55:Bool,∃x56:Int,∃x57:Int,∃R8:Sl,a6 hX ⟨b,o'+Int.toNat (j:Int)*5,none⟩ [.int .i64 x54,.bool x55,.int .i64 x56,.int .i64 x57,.slice R8.a R8.n R8.c] /\
   (∀B4:Heap,B4=hX.push (.cells ⟨[.int .i64 x54,.bool x55,.int .i64 x56,.int .i64 x57,.slice R8.a R8.n R8.c]⟩ 33) ->
   (App Pz 57 57 (.slice o.a o.n o.c) (.slice (some ⟨hX.size,0,none⟩) 1 1) B4 fun M7 NO=>
   (∃m62,m62<s.n-j/\∃(j':Nat) (T:List Ev),IntKind.wrap .i64 ((j:Int)+1)=j'/\j'<=s.n/\m62=s.n-j'/\St h NO [.sl M7 33 5 (T.map (aC r)),.ae h.size (aC r x) 33]/\T.length<=j'+1/\(d=false->T.length<=j')/\fy x L=T++(if d=true then L.drop j' else fy x (L.drop j'))))))):=fun {hX o T y d} Lr gy hs hT hTd hw=>by
  refine (hr.ext hs.ext).aD (by omega) (by omega) fun b o' z gz t=>?_;replace gz:L[j]?=some z:=gz;rw[gy] at gz;cases gz;refine⟨r,y.send,y.peer,y.label,⟨none,0,0⟩,t,?_⟩;have tt:=(hs.rows 0 rfl (by decide)).ln;refine hs.app 0 rfl Ii (m:=1) [aC r y] rfl rfl (by intro q hq;rw[Ye.1 hq];rfl) rfl (by omega) (by simp only[maxLen];omega) fun M9 dX ns hs=>?_;have hlen:(T++[y]).length=T.length+1:=Yh;refine⟨_,(show s.n-(j+1)<s.n-j by omega),j+1,T++[y],by rw[a7 (by omega) (by omega)];omega,by omega,rfl,by rw[Ym];exact hs,by omega,fun hd=>?_,hw⟩;rcases hTd with h1 | h1
  .omega
  .rw[h1] at hd;cases hd
 refine aa (fun c=>?_) (fun c=>?_)
 .replace c:=bU c;obtain⟨y,hy⟩:=get_some (l:=L) (i:=j) (by omega);rw[xK hy] at hw;refine aa (fun c1=>?_) (fun c1=>?_)
  .have rL:done=false:=bF c1;subst rL;have SN:=SN rfl;rw[if_neg (by decide)] at hw;refine (hr.ext hs.ext).aD (by omega) (by omega) fun b8 o9 y' gy t=>?_;replace gy:L[j]?=some y':=gy;rw[hy] at gy;cases gy;refine⟨r,y.send,y.peer,y.label,⟨none,0,0⟩,t,r,x.send,x.peer,x.label,⟨none,0,0⟩,hs.at 1 rfl (o:=0) (n:=5) rfl,?_⟩;refine (ED r y x h7).mono ?_;rintro _ JW ⟨⟨bb,rfl,hbb⟩,E⟩;have hs:=hs.step E;refine⟨bb,rfl,aa (fun c2=>?_) (fun c2=>?_)⟩
   .have vF:¬de y x:=cw hbb (bF c2);refine (hr.ext hs.ext).aD (by omega) (by omega) fun b8 o9 y' gy t=>?_;replace gy:L[j]?=some y':=gy;rw[hy] at gy;cases gy;refine⟨r,y.send,y.peer,y.label,⟨none,0,0⟩,t,r,x.send,x.peer,x.label,⟨none,0,0⟩,hs.at 1 rfl (o:=0) (n:=5) rfl,?_⟩;refine (qb r y x JW).mono ?_;rintro _ SU ⟨rfl,E2⟩;have hs:=hs.step E2;refine⟨_,rfl,aa (fun c3=>?_) (fun c3=>?_)⟩
    .have bH:y≠x:=eU (bF c3);refine⟨r,x.send,x.peer,x.label,⟨none,0,0⟩,hs.at 1 rfl (o:=0) (n:=5) rfl,?_⟩;have tt:=(hs.rows 0 rfl (by decide)).ln;refine hs.app 0 rfl Ii (m:=1) [aC r x] rfl rfl (by intro q hq;rw[Ye.1 hq];rfl) rfl (by omega) (by simp only[maxLen];omega) fun Dl zN ns hs=>?_;have hs:St h zN [.sl Dl 33 5 ((T++[x]).map (aC r)),.ae h.size (aC r x) 33]:=by rw[Ym];exact hs
     refine one (d:=true) c hy hs (by rw[Yh,Yv];omega) (.inr rfl) ?_;rw[if_pos rfl,hw,fy,if_neg vF,if_neg (Ne.symm bH),Yz,Yz];rfl
    .have he:y=x:=cd (bT c3);refine one (d:=true) c hy hs (by omega) (.inr rfl) ?_;rw[if_pos rfl,hw,fy,if_neg vF,if_pos he.symm,Yz];rfl
   .have bR:de y x:=hbb.1 (bT c2);refine one (d:=false) c hy hs (by omega) (.inl SN) ?_;rw[if_neg (by decide),hw,fy,if_pos bR,Yz];rfl
  .have rL:done=true:=bT c1;subst rL;rw[if_pos rfl] at hw;refine one (d:=true) c hy hs hT (.inr rfl) ?_;rw[if_pos rfl,hw,Yz];rfl
 .replace c:=cj c;rw[List.drop_eq_nil_of_le (by omega)] at hw;refine aa (fun c1=>?_) (fun c1=>?_)
  .have rL:done=false:=bF c1;subst rL;rw[if_neg (by decide)] at hw;refine⟨r,x.send,x.peer,x.label,⟨none,0,0⟩,hs.at 1 rfl (o:=0) (n:=5) rfl,?_⟩;refine hs.app 0 rfl Ii (m:=1) [aC r x] rfl rfl (by intro q hq;rw[Ye.1 hq];rfl) rfl (by omega) (by simp only[maxLen];omega) fun Dl zN ns hs=>?_;have hs:St h zN [.sl Dl 33 5 ((T++[x]).map (aC r)),.ae h.size (aC r x) 33]:=by rw[Ym];exact hs
   exact⟨_,rfl,by rw[hw];exact hs.sub (.cons_cons _ (List.nil_sublist _))⟩
  .have rL:done=true:=bT c1;subst rL;rw[if_pos rfl,Yw] at hw;exact⟨_,rfl,by rw[hw];exact hs.sub (.cons_cons _ (List.nil_sublist _))⟩
theorem St.MZ{h0 h:Heap}{a b:It}(hs:St h0 h [a,b]):St h0 h [b,a]:=hs.perm (List.Perm.swap b a [])
def Stl(n:Int)(l:List Int):Prop:=∀v∈l,0<=v/\v<n
theorem Qr.stl{g:Gl}(hV:af g){role:Int}{l:List Int}(hl:Stl g.n l){v:Int}(h:Qr g.es role l v):0<=v/\v<g.n:=by
 induction h with
 | base hm=>exact hl _ hm
 | step _ hx _=>
  obtain⟨x,hx,_,_,rfl⟩:=hx;have:=hV.num.e x hx;unfold gU at this;omega
theorem pO{n:Int}:∀ {l:List Int} {a:Int},l.Pairwise (· < ·)->(∀v∈l,a<=v/\v<n)->a<=n->(l.length:Int)<=n-a
 | [],a,_,_,h=>by simp;omega
 | x::l,a,hp,hv,h=>by
  obtain⟨h1,h2⟩:=List.pairwise_cons.1 hp;have hx:=hv x Yx;have:=pO (n:=n) (l:=l) (a:=x+1) h2 (fun v hm=>⟨by have:=h1 v hm;omega,(hv v (Yn _ hm)).2⟩) (by omega);rw[j8];omega
theorem HY{g:Gl}(hV:af g){role:Int}{l O:List Int}(hl:Stl g.n l)(ha:O.Pairwise (· < ·))(h1:∀v∈O,Qr g.es role l v)(h2:∀v∈l,v∈O)(hc:∀x∈g.es,aW role x=none->x.f∈O->x.t∈O):O=eW (rR g.es role l):=by
 have hN:=hV.num.n;have key:∀v,Qr g.es role l v->v∈O:=fun v h=>by
  induction h with
  | base hm=>exact h2 _ hm
  | step _ hx ih=>
   obtain⟨x,hx,hv,rfl,rfl⟩:=hx;exact hc x hx hv ih
 refine Kr ha fun v=>⟨fun hv=>?_,fun ⟨h0,_,h3⟩=>?_⟩
 .have h3:=h1 v hv;have h4:=h3.stl hV hl;refine⟨h4.1,by omega,iq.2 ?_⟩;rw[show ((v.toNat:Nat):Int)=v by omega];exact h3
 .have:=iq.1 h3;rw[show ((v.toNat:Nat):Int)=v by omega] at this;exact key v this
theorem z7(g:Gl)(role:Int)(l:List Int)(s:Sl)(h:Heap)(hg:GI h g)(hV:af g)(hr:RL h 1 s aO l)(ha:l.Pairwise (· < ·))(hl:Stl g.n l):
  Fn Pz 216 #[g.v,.int .i64 role,.slice s.a s.n s.c] h fun v h'=>∃s':Sl,v=.slice s'.a s'.n s'.c/\St h h' [.sl s' 3 1 ((eW (rR g.es role l)).map aO)]:=by
 apply T8 (bs g.nm) g.hr g.hd g.n g.s g.e g.he g.ht;unfold Zs;have hN:=hV.num.n;have hE:=hV.num.m;have ki:=hg.e.ln;have sv:=hr.ln;have hll:=pO ha hl (by omega);refine (St.refl h).ak fun h9 hs=>?_;refine hs.ak fun cF hs=>?_;have hs:=hs.dP 0 1 (([]:List Int).map aO) rfl (cL _) rfl (Nat.zero_le _);refine hs.dY 0 rfl dv (hr.rw.ext hs.ext) (cL _) hr.nil (eu (fun _=>rfl) _) (by show (0+s.n)*8<=_;omega) (by show 0+s.n<=_;simp only[maxLen];omega) fun s11 kj _ hs=>?_;have hs:St h kj [.ae h.size g.cs 27,.sl s11 3 1 (l.map aO)]:=hs.MZ;refine⟨fun out n h' μ=>∃(k:Nat) (O:List Int),n=(k:Int)/\μ=202-k/\(k:Int)<=g.n+1/\k<=O.length/\St h h' [.ae h.size g.cs 27,.sl out 3 1 (O.map aO)]/\O.Pairwise (· < ·)/\(∀v∈O,Qr g.es role l v)/\(∀v∈l,v∈O),⟨_,0,l,rfl,rfl,by omega,Nat.zero_le _,hs,ha,fun v hv=>.base hv,fun v hv=>hv⟩,?_⟩;clear hs;rintro-out _ fN μ ⟨k,O,rfl,rfl,hk,hkO,hs,hOa,JT,hO2⟩;have NM:=pO hOa (fun v hv=>(JT v hv).stl hV hl) (by omega);have hRn:=(hs.rl 1 (s:=out) (cs:=aO) rfl (by decide) (by omega)).ln;refine⟨g.n,hs.rd 0 rfl (i:=3) rfl,aM (fun c=>?_) (fun c=>absurd c (by omega))⟩;refine⟨fun ic i h' μ'=>∃(j:Nat) (O':List Int),i=(j:Int)/\μ'=g.es.length-j/\j<=g.es.length/\St h h' [.ae h.size g.cs 27,.sl ic 3 1 (O'.map aO)]/\O'.Pairwise (· < ·)/\(∀v∈O',Qr g.es role l v)/\(∀v∈l,v∈O') /\
   ((O'=O/\∀(m:Nat) x,m<j->g.es[m]?=some x->aW role x=none->x.f∈O->x.t∈O)\/O.length<O'.length),⟨_,0,O,rfl,rfl,Nat.zero_le _,hs,hOa,JT,hO2,.inl ⟨rfl,fun m x hm=>by omega⟩⟩,?_⟩
 clear hs;rintro-ic _ h25 μ' ⟨j,O',rfl,rfl,hj,hs,hOa',hO1',hO2',nZ⟩;have agF:=pO hOa' (fun v hv=>(hO1' v hv).stl hV hl) (by omega);have hR:=hs.rl 1 (s:=ic) (cs:=aO) rfl (by decide) (by omega);have acZ:=hR.ln;refine⟨g.he,hs.rd 0 rfl (i:=6) rfl,aM (fun c1=>?_) (fun c1=>?_)⟩
 .refine⟨g.he,hs.rd 0 rfl (i:=6) rfl,?_⟩;refine (hg.e.rw.ext hs.ext).aD (by omega) (by omega) fun b28 o29 x gx t=>?_;replace gx:g.es[j]?=some x:=gx;have si:=Yb gx;refine⟨x.f,x.a,x.b,x.l,x.t,x.ag,t,?_⟩;refine (St.refl h25).ao (vs:=x.cs) rfl rfl fun pI hx=>?_;have hs:=hs.step hx.ext;have hR:=hR.ext hx.ext;have br:∀ {hZ:Heap},Ext pI hZ->(aW role x=none->x.f∈O->x.t∈O)\/O.length<O'.length->∃VE,VE<g.es.length-j/\∃(j':Nat) (S8:List Int),IntKind.wrap .i64 ((j:Int)+1)=(j':Int)/\VE=g.es.length-j'/\j'<=g.es.length/\St h hZ [.ae h.size g.cs 27,.sl ic 3 1 (S8.map aO)]/\S8.Pairwise (· < ·)/\(∀v∈S8,Qr g.es role l v)/\(∀v∈l,v∈S8) /\
    ((S8=O/\∀(m:Nat) x,m<j'->g.es[m]?=some x->aW role x=none->x.f∈O->x.t∈O)\/O.length<S8.length):=fun {hZ} E hk=>by
   refine⟨_,(show g.es.length-(j+1)<g.es.length-j by omega),j+1,O',by rw[a7 (by omega) (by omega)];omega,rfl,by omega,hs.step E,hOa',hO1',hO2',?_⟩;rcases nZ with ⟨he,hc⟩ | bR
   .rcases hk with hk | hk
    .refine .inl ⟨he,fun m y hm gy=>?_⟩;by_cases e:m=j
     .subst e;rw[gx] at gy;cases gy;exact hk
     .exact hc m y (by omega) gy
    .exact .inr hk
   .exact .inr bR
  refine⟨x.f,x.a,x.b,x.l,x.t,x.ag,hx.at 0 rfl (o:=0) (n:=6) rfl,?_⟩;refine (mL x role pI).mono ?_;rintro _ od ⟨rfl,E1⟩;refine⟨_,rfl,aa (fun c2=>?_) (fun c2=>br E1 (.inl fun hv=>?_))⟩;rotate_left
  .rw[hv] at c2;cases c2
  have Lk:aW role x=none:=by
   have:=bF c2;cases hv:aW role x with
   | none=>rfl
   | some e=>rw[hv] at this;cases this
  have hx:=hx.step E1;refine⟨x.f,hx.rd 0 rfl (i:=0) rfl,?_⟩;refine (lu O' x.f ic od (hR.rw.ext E1) hR.sm).mono ?_;rintro _ oc ⟨⟨bb,rfl,hbb⟩,E2⟩;refine⟨bb,rfl,aa (fun c3=>?_) (fun c3=>br (E1.trans E2) ?_)⟩;rotate_left
  .have ca:x.f∉O':=cw hbb c3;rcases nZ with ⟨he,_⟩ | bR
   .exact .inl fun _ hf=>absurd (by rw[he];exact hf) ca
   .exact .inr bR
  have cN:x.f∈O':=hbb.1 c3;have hx:=hx.step E2;refine⟨x.t,hx.rd 0 rfl (i:=4) rfl,?_⟩;refine (yO O' x.t ic oc ((hR.rw.ext E1).ext E2) (by omega)).mono ?_;rintro _ h54 ⟨s',rfl,fU⟩;have hq:Qr g.es role l x.t:=.step (hO1' _ cN) ⟨x,si,Lk,rfl,rfl⟩;refine⟨s',rfl,_,(show g.es.length-(j+1)<g.es.length-j by omega),j+1,dW x.t O',by rw[a7 (by omega) (by omega)];omega,rfl,by omega,(((hs.step E1).step E2).join fU).XF 1,lg hOa',fun v hv=>?_,fun v hv=>jz.2 (.inr (hO2' v hv)),?_⟩
  .rcases jz.1 hv with rfl | hv
   .exact hq
   .exact hO1' v hv
  .by_cases hm:x.t∈O'
   .rw[pS hOa' hm];rcases nZ with ⟨he,hc⟩ | bR
    .refine .inl ⟨he,fun m y jZ gy=>?_⟩;by_cases e:m=j
     .subst e;rw[gx] at gy;cases gy;exact fun _ _=>by rw[<-he];exact hm
     .exact hc m y (by omega) gy
    .exact .inr bR
   .right
    rw[sL hm];rcases nZ with ⟨he,_⟩ | bR
    .rw[he];omega
    .omega
 .refine dp (fun c2=>?_) (fun c2=>?_)
  .rcases nZ with ⟨he,hc⟩ | bR
   .subst he;have e:O'=eW (rR g.es role l):=HY hV hl hOa' hO1' hO2' fun x hx hv hf=>by
     obtain⟨m,hm⟩:=Yf.1 hx;exact hc m x (by have:=(Ya.1 hm).1;omega) hm hv hf
    exact⟨ic,rfl,by rw[<-e];exact hs.drop 1⟩
   .omega
  .have bR:O.length<O'.length:=by
    rcases nZ with ⟨he,_⟩ | bR
    .rw[he] at acZ;omega
    .exact bR
   exact⟨_,(show 202-(k+1)<202-k by omega),k+1,O',by rw[a7 (by omega) (by omega)];omega,rfl,by omega,by omega,hs,hOa',hO1',hO2'⟩
/-! ### events -/
theorem Qq{g:Gl}(hV:af g){role:Int}{p:eT}{e:Ev}:e∈Fm g.es role p ↔ ∃x∈g.es,aW role x=some e/\x.f∈eW p:=by
 have hN:=hV.num.n;unfold Fm;rw[jB];unfold Qv;rw[List.mem_flatMap];constructor
 .rintro⟨n,hn,hm⟩;obtain⟨a,ha,rfl⟩:=Yp.1 hm;unfold iz at ha;obtain⟨x,hx,h2⟩:=Yym.1 ha;split at h2
  .rename_i hf;cases hv:aW role x with
   | none=>rw[hv] at h2;cases h2
   | some e=>
    rw[hv] at h2;injection h2 with h2;refine⟨x,hx,by rw[<-h2];exact hv,lq.2 ?_⟩;have:=fk.1 hn;rw[hf];exact⟨by omega,by omega,this.2⟩
  .cases h2
 .rintro⟨x,hx,hv,hf⟩;obtain⟨h0,h1,h2⟩:=lq.1 hf;refine⟨x.f.toNat,fk.2 ⟨by omega,h2⟩,Yp.2 ⟨⟨e,x.t⟩,?_,rfl⟩⟩;unfold iz;refine Yym.2 ⟨x,hx,?_⟩;rw[if_pos (by omega),hv];rfl
theorem wo(g:Gl)(role:Int)(p:eT)(s:Sl)(h:Heap)(hg:GI h g)(hV:af g)(hr:RL h 1 s aO (eW p)):
  Fn Pz 155 #[g.v,.int .i64 role,.slice s.a s.n s.c] h fun v h'=>∃s':Sl,v=.slice s'.a s'.n s'.c/\St h h' [.sl s' 33 5 ((Fm g.es role p).map (aC role))]:=by
 apply UE (bs g.nm) g.hr g.hd g.n g.s g.e g.he g.ht;unfold ZX;have hE:=hV.num.m;have ki:=hg.e.ln;refine (St.refl h).ak fun h9 hs=>?_;have hs:St h h9 [.ae h.size g.cs 27,.sl ⟨none,0,0⟩ 33 5 (([]:List Ev).map (aC role))]:=(hs.bJ 33 5).MZ;refine⟨fun out i h' μ=>∃(j:Nat) (T:List Ev),i=(j:Int)/\μ=g.es.length-j/\j<=g.es.length/\T.length<=j/\St h h' [.ae h.size g.cs 27,.sl out 33 5 (T.map (aC role))]/\T.Pairwise de/\∀e,e∈T ↔ ∃(m:Nat) (x:Ed),m<j/\g.es[m]?=some x/\aW role x=some e/\x.f∈eW p,
  ⟨_,0,[],rfl,rfl,Nat.zero_le _,Nat.zero_le _,hs,.nil,fun e=>⟨fun he=>(by cases he),fun ⟨m,x,hm,_⟩=>(by omega)⟩⟩,?_⟩
 clear hs;rintro-out _ rP μ ⟨j,T,rfl,rfl,hj,hT,hs,hTa,WO⟩;refine⟨g.he,hs.rd 0 rfl (i:=6) rfl,aM (fun c=>?_) (fun c=>?_)⟩
 .refine⟨g.he,hs.rd 0 rfl (i:=6) rfl,?_⟩;refine (hg.e.rw.ext hs.ext).aD (by omega) (by omega) fun b28 o29 x gx t=>?_;replace gx:g.es[j]?=some x:=gx;refine⟨x.f,x.a,x.b,x.l,x.t,x.ag,t,?_⟩;refine (St.refl rP).ao (vs:=x.cs) rfl rfl fun zO hx=>?_;have hs:=hs.step hx.ext;have br:∀ {hZ:Heap},Ext zO hZ->(∀e,aW role x=some e->x.f∉eW p)->∃VE,VE<g.es.length-j/\∃(j':Nat) (T:List Ev),IntKind.wrap .i64 ((j:Int)+1)=(j':Int)/\VE=g.es.length-j'/\j'<=g.es.length/\T.length<=j'/\St h hZ [.ae h.size g.cs 27,.sl out 33 5 (T.map (aC role))]/\T.Pairwise de/\∀e,e∈T ↔ ∃(m:Nat) (x:Ed),m<j'/\g.es[m]?=some x/\aW role x=some e/\x.f∈eW p:=fun {hZ} E ca=>by
   refine⟨_,(show g.es.length-(j+1)<g.es.length-j by omega),j+1,T,by rw[a7 (by omega) (by omega)];omega,rfl,by omega,by omega,hs.step E,hTa,fun e=>(WO e).trans ⟨fun ⟨m,y,hm,h1⟩=>⟨m,y,by omega,h1⟩,fun ⟨m,y,hm,gy,hv,hf⟩=>?_⟩⟩;by_cases e2:m=j
   .subst e2;rw[gx] at gy;cases gy;exact absurd hf (ca e hv)
   .exact⟨m,y,by omega,gy,hv,hf⟩
  refine⟨x.f,x.a,x.b,x.l,x.t,x.ag,hx.at 0 rfl (o:=0) (n:=6) rfl,?_⟩;refine (mL x role zO).mono ?_;rintro _ gn ⟨rfl,E1⟩;refine⟨_,rfl,aa (fun c2=>?_) (fun c2=>br E1 fun e hv=>by rw[hv] at c2;cases c2)⟩;obtain⟨e,hv⟩:∃e,aW role x=some e:=Option.isSome_iff_exists.1 c2;have hx:=hx.step E1;refine⟨x.f,hx.rd 0 rfl (i:=0) rfl,?_⟩;refine (lu (eW p) x.f s gn (hr.rw.ext (hs.step E1).ext) hr.sm).mono ?_;rintro _ sz ⟨⟨bb,rfl,hbb⟩,E2⟩;refine⟨bb,rfl,aa (fun c3=>?_) (fun c3=>br (E1.trans E2) fun _ _=>cw hbb c3)⟩;have cN:x.f∈eW p:=hbb.1 c3;have hx:=hx.step E2;refine⟨x.f,x.a,x.b,x.l,x.t,x.ag,hx.at 0 rfl (o:=0) (n:=6) rfl,?_⟩;refine (pJ x role e hv sz).mono ?_;rintro _ W6 ⟨rfl,E3⟩;refine⟨role,e.send,e.peer,e.label,⟨none,0,0⟩,rfl,?_⟩;have hs:=((hs.step E1).step E2).step E3;refine (DV role T e out W6 (hs.rows 1 rfl (by decide)) (by omega)).mono ?_;rintro _ kO ⟨s',rfl,iK⟩;have hl:=qK e T;refine⟨s',rfl,_,(show g.es.length-(j+1)<g.es.length-j by omega),j+1,fy e T,by rw[a7 (by omega) (by omega)];omega,rfl,by omega,by omega,(hs.join iK).XF 1,jl e T hTa,fun e'=>?_⟩;rw[lQ,WO];constructor
  .rintro (rfl | ⟨m,y,hm,h1⟩)
   .exact⟨j,x,by omega,gx,hv,cN⟩
   .exact⟨m,y,by omega,h1⟩
  .rintro⟨m,y,hm,gy,vE,hf⟩;by_cases e2:m=j
   .subst e2;rw[gx] at gy;cases gy;rw[hv] at vE;cases vE;exact .inl rfl
   .exact .inr ⟨m,y,by omega,gy,vE,hf⟩
 .have e:T=Fm g.es role p:=gX _ _ hTa (eV _) fun e=>by
   rw[WO];refine Iff.trans ?_ (Qq hV).symm;constructor
   .rintro⟨m,x,_,gx,h1,h2⟩;exact⟨x,Yb gx,h1,h2⟩
   .rintro⟨x,hx,h1,h2⟩;obtain⟨m,hm⟩:=Yf.1 hx;exact⟨m,x,by have:=(Ya.1 hm).1;omega,hm,h1,h2⟩
  exact⟨out,rfl,by rw[<-e];exact hs.drop 1⟩
/-! ### sets in memory -/
structure SR where
 s:Sl
 p:eT
def SR.cs(x:SR):List Value:=eC x.s
def Below(p:eT):Prop:=∀j,p j=true->j<4096
theorem St.jk{h0 h h1 h':Heap}{L L':List It}(hs:St h0 h L)(bL:St h1 h' L')(k k' o:Nat){b:Nat}{xs:List Value}{e:TypeId}(hk:L[k]?=some (.ae b xs e))(tv:L'[k']?=some (.ae b xs e)):Sm [⟨b,o,none⟩] h h':=by
 intro a ha i v hv;rw[Ye.1 ha] at hv ⊢;have e1:h[b]?=some (.cells ⟨xs⟩ e):=hs.get hk;have e2:h'[b]?=some (.cells ⟨xs⟩ e):=bL.get tv;have e3:h'[b]?=h[b]?:=by rw[e1,e2]
 rw[dA (h:=h) (h':=h') (a:=fG ⟨b,o,none⟩ i) (by rw[eK];exact e3)];exact hv
def Aw(g:Gl)(role:Int):Prop:=af g/\0<=role/\role<g.rs.length
/-! ### the view table -/
def SR.it(q:SR):It:=.sl q.s 3 1 ((eW q.p).map aO)
def RX(g:Gl)(x:Ed)(t:Ti):Prop:=(∃u∈g.ts,u.s=x.f/\∃z,g.es[u.e.toNat]?=some z/\t=⟨x.ag,u.k,⟨true,z.b,z.l⟩⟩)\/((∀u∈g.ts,u.s≠x.f)/\t=⟨x.ag,0,MY.x⟩)
theorem tY{g:Gl}(hV:af g){u:To}(hu:u∈g.ts):0<=u.s/\1<=u.k/\0<=u.e/\∃z,g.es[u.e.toNat]?=some z/\z.f=u.s:=by
 obtain⟨i,hi⟩:=Yf.1 hu;obtain⟨_,hk,he,z,hz,hf,_⟩:=hV.Sa i u hi;have JM:=hV.num.e z (Yb hz);unfold gU at JM;exact⟨by omega,hk.1,he,z,hz,hf⟩
theorem qs{g:Gl}(hV:af g){role:Int}{x:Ed}(hx:x∈g.es)(ha:x.a=role):(um g.es role g.n.toNat).1[x.f.toNat]?=some true/\∃t,(Du g.es g.ts role g.n.toNat)[x.f.toNat]?=some t/\RX g x t:=by
 have hr:=hV.num.e x hx;unfold gU at hr;have hkf:((x.f.toNat:Nat):Int)=x.f:=by omega
 rcases Gi (es:=g.es) (role:=role) (n:=g.n.toNat) (k:=x.f.toNat) (by omega) (fun y hy=>by have:=hV.num.e y hy;unfold gU at this;omega) with ⟨h1,_⟩ | ⟨y,h1,h2,h3,h4,h5⟩
 .exact absurd ⟨hkf.symm,ha⟩ (h1 x hx)
 .have tn:=(eE hV h1 hx (by omega)).2;refine⟨h4,?_⟩;unfold Du;rcases qv (es:=g.es) h4 g.ts _ _ (fun u hu=>by obtain⟨h0,_,_,z,hz,_⟩:=tY hV hu;exact⟨h0,z,hz⟩) h5 with ⟨h6,h7⟩ | ⟨u,hu,hus,z,hz,h7⟩
  .exact⟨_,h7,.inr ⟨fun u hu=>by have:=h6 u hu;omega,by rw[tn]⟩⟩
  .exact⟨_,h7,.inl ⟨u,hu,by omega,z,hz,by rw[tn]⟩⟩
def oz(g:Gl)(p s:Int):Prop:=∃x∈g.es,x.f=s/\x.a=p
def MC(g:Gl)(s k a b l:Int):Prop:=(∃t∈g.ts,t.s=s/\k=t.k/\∃z,g.es[t.e.toNat]?=some z/\a=z.a/\b=z.b/\l=z.l)\/((∀t∈g.ts,t.s≠s)/\k=0/\a=0/\b=0/\l=0)
theorem GW{g:Gl}(hV:af g){x:Ed}{t:Ti}{k a b l:Int}(hx:x∈g.es)(ht:RX g x t)(hl:MC g x.f k a b l):t.ag=x.ag/\t.k=k/\((1<=k/\a=x.a/\t.x=⟨true,b,l⟩)\/(k=0/\a=0/\b=0/\l=0/\t.x=MY.x)):=by
 rcases ht with ⟨u,hu,hus,z,hz,rfl⟩ | ⟨ca,rfl⟩
 .rcases hl with ⟨w,hw,hws,rfl,z',nq,rfl,rfl,rfl⟩ | ⟨ca,_⟩
  .have e:u=w:=vR hV.Sa hu hw (by omega);subst e;rw[hz] at nq;cases nq;obtain⟨_,h1,_,z2,JM,hf⟩:=tY hV hu;rw[hz] at JM;cases JM;exact⟨rfl,rfl,.inl ⟨h1,(eE hV (Yb hz) hx (by omega)).1,rfl⟩⟩
  .exact absurd hus (ca u hu)
 .rcases hl with ⟨w,hw,hws,_⟩ | ⟨_,rfl,rfl,rfl,rfl⟩
  .exact absurd hws (ca w hw)
  .exact⟨rfl,rfl,.inr ⟨rfl,rfl,rfl,rfl,rfl⟩⟩
theorem Om{t u:Ti}(h1:t.ag=u.ag)(h2:t.k=u.k)(h3:t.x=u.x):t=u:=by
 cases t;cases u;simp_all
theorem OZ{g:Gl}(hV:af g){x y:Ed}{t u:Ti}{k a b l k' a' b' l':Int}(hx:x∈g.es)(hy:y∈g.es)(Lh:x.a=y.a)(ht:RX g x t)(hu:RX g y u)(h1:MC g x.f k a b l)(h2:MC g y.f k' a' b' l'):
  t=u ↔ k=k'/\(a=a'/\b=b'/\l=l')/\x.ag=y.ag:=by
 obtain⟨g1,k1,c1⟩:=GW hV hx ht h1;obtain⟨g2,k2,c2⟩:=GW hV hy hu h2;constructor
 .rintro rfl;refine⟨by omega,?_,by rw[<-g1,<-g2]⟩;rcases c1 with ⟨p1,p2,p3⟩ | ⟨p1,p2,p3,p4,p5⟩
  .rcases c2 with ⟨q1,q2,q3⟩ | ⟨q1,_⟩
   .rw[p3] at q3;injection q3 with _ e1 e2;exact⟨by omega,e1,e2⟩
   .omega
  .rcases c2 with ⟨q1,_⟩ | ⟨_,q2,q3,q4,_⟩
   .omega
   .omega
 .rintro⟨e1,⟨e2,e3,e4⟩,e5⟩;refine Om (by rw[g1,g2,e5]) (by omega) ?_;rcases c1 with ⟨p1,_,p3⟩ | ⟨p1,p2,p3,p4,p5⟩
  .rcases c2 with ⟨_,_,q3⟩ | ⟨q1,_⟩
   .rw[p3,q3,e3,e4]
   .omega
  .rcases c2 with ⟨q1,_⟩ | ⟨_,_,_,_,q5⟩
   .omega
   .rw[p5,q5]
def JE(g:Gl)(p s t:Int):Prop:=oz g p s/\oz g p t/\(Du g.es g.ts p g.n.toNat)[s.toNat]?≠(Du g.es g.ts p g.n.toNat)[t.toNat]?
/-! ### the timing of a view -/
/-! ### the sending conditions al the reference asks them -/
theorem ue(g:Gl)(l:List Int)(s:Sl)(h:Heap)(hr:Rw h 1 s (l.map aO))(hl:Stl g.n l)(hm:l.length<=1048576):Fn Pz 238 #[g.v,.slice s.a s.n s.c] h fun v h'=>v=.bool true/\Ext h h':=by
 apply TR (bs g.nm) g.hr g.hd g.n g.s g.e g.he g.ht;unfold Zd;have hn:=hr.ln;refine (St.refl h).ak fun h9 hs=>?_;refine aL (n:=s.n) hs (fun _=>True) trivial ?_;rintro-i B7 hi ⟨hs,-⟩;refine aa (fun c=>?_) (fun c=>⟨rfl,hs.ext⟩);replace c:=bU c;refine (hr.ext hs.ext).aD (by omega) (by omega) fun b15 OK x gx t=>?_;replace gx:l[i]?=some x:=gx;have hx:=hl x (Yb gx);refine⟨x,t.hd,aM (fun c1=>absurd c1 (by omega)) (fun _=>?_)⟩;refine (hr.ext hs.ext).aD (by omega) (by omega) fun b18 o19 y gy t2=>?_;replace gy:l[i]?=some y:=gy;rw[gx] at gy;cases gy;exact⟨x,t2.hd,g.n,hs.rd 0 rfl (i:=3) rfl,aM (fun c2=>absurd c2 (by omega)) (fun _=>Up.next c (by omega) ⟨hs,trivial⟩)⟩
theorem r6(g:Gl)(role:Int)(l:List Int)(s:Sl)(h:Heap)(hg:GI h g)(hM:JA g.ds)(hG:Aw g role)(hr:RL h 1 s aO l)(ha:l.Pairwise (· < ·))(hl:Stl g.n l):
  Fn Pz 198 #[g.v,.int .i64 role,.slice s.a s.n s.c] h fun v h'=>∃s':Sl,v=.tuple ⟨[.slice s'.a s'.n s'.c,.int .i64 0]⟩/\St h h' [.sl s' 3 1 ((eW (rR g.es role l)).map aO)]:=by
 apply Ub (bs g.nm) g.hr g.hd g.n g.s g.e g.he g.ht;unfold Zv;refine (St.refl h).ak fun h9 hs=>?_;refine⟨_,_,_,_,_,_,_,_,hs.at 0 rfl (o:=0) (n:=8) rfl,?_⟩;refine (HH g role h9 (hg.ext hs.ext) hM).mono ?_;rintro _ aG ⟨⟨b,rfl,hb⟩,E⟩;have hs:=hs.step E;refine⟨b,rfl,aa (fun c=>absurd hG (cw hb (bF c))) (fun _=>?_)⟩;refine⟨_,_,_,_,_,_,_,_,hs.at 0 rfl (o:=0) (n:=8) rfl,?_⟩;refine (ue g l s aG (hr.rw.ext hs.ext) hl hr.sm).mono ?_;rintro _ fM ⟨rfl,E2⟩;have hs:=hs.step E2;refine⟨true,rfl,ja rfl ?_⟩;refine⟨_,_,_,_,_,_,_,_,hs.at 0 rfl (o:=0) (n:=8) rfl,?_⟩;refine (z7 g role l s fM (hg.ext hs.ext) hG.1 (hr.ext hs.ext) ha hl).mono ?_;rintro _ B5 ⟨s',rfl,bL⟩;exact⟨s',rfl,s',rfl,(hs.join bL).drop 1⟩
theorem FR{p:eT}{v:Int}{b:Bool}(h:0<=v/\v<4096)(hb:b=true ↔ v∈eW p):b=p v.toNat:=by
 have h1:v∈eW p ↔ p v.toNat=true:=by rw[lq];exact⟨fun h=>h.2.2,fun h2=>⟨h.1,h.2,h2⟩⟩
 cases hp:p v.toNat<;>cases b<;>simp_all
theorem yP(g:Gl)(role st:Int)(h:Heap)(hg:GI h g)(hM:JA g.ds)(hG:Aw g role)(h0:0<=st/\st<g.n):
  Fn Pz 112 #[g.v,.int .i64 role,.int .i64 st] h fun v h'=>∃r:Sl,v=.tuple ⟨[.slice r.a r.n r.c,.bool (bP g role st),.int .i64 0]⟩/\St h h' [.sl r 33 5 ((az g role st).map (aC role))]:=by
 apply UZ (bs g.nm) g.hr g.hd g.n g.s g.e g.he g.ht;unfold aaj;have hN:=hG.1.num.n;refine (St.refl h).ak fun h9 hs=>?_;refine⟨_,_,_,_,_,_,_,_,hs.at 0 rfl (o:=0) (n:=8) rfl,?_⟩;refine (St.refl h9).ak fun fN hx=>?_;have hR:RL fN 1 ⟨some ⟨h9.size,0,none⟩,1,1⟩ aO [st]:=(hx.dP 1 1 ([st].map aO) rfl (cL _) rfl (by decide)).rl 0 rfl (by decide) (by show 1<=_;decide);have hs:=hs.step hx.ext;refine (r6 g role [st] _ fN (hg.ext hs.ext) hM hG hR (List.pairwise_singleton _ _) (fun v hv=>by rw[Ye.1 hv];omega)).mono ?_;rintro _ dX ⟨s',rfl,bG⟩;have hs:=hs.join bG;refine⟨s',0,rfl,fZ (fun c=>absurd rfl c) (fun _=>?_)⟩;refine⟨_,_,_,_,_,_,_,_,hs.at 0 rfl (o:=0) (n:=8) rfl,g.e,hs.rd 0 rfl (i:=5) rfl,?_⟩;have hR':RL dX 1 s' aO (eW (rR g.es role [st])):=hs.rl 1 rfl (by decide) (by have:=FT (rR g.es role [st]);omega);refine (wo g role (rR g.es role [st]) s' dX (hg.ext hs.ext) hG.1 hR').mono ?_;rintro _ oe ⟨r,rfl,fU⟩;have hs:=hs.join fU;refine⟨r,rfl,fU.ext.sm,?_⟩;refine (lu (eW (rR g.es role [st])) g.e s' oe (hR'.rw.ext fU.ext) hR'.sm).mono ?_;rintro _ pI ⟨⟨bb,rfl,hbb⟩,E⟩;have Ht:bb=bP g role st:=FR (by omega) hbb;exact⟨bb,rfl,E.sm,r,by rw[Ht],(hs.step E).drop 2⟩
theorem nQ(g:Gl)(p s:Int)(h:Heap)(hg:GI h g)(hV:af g):Fn Pz 220 #[g.v,.int .i64 p,.int .i64 s] h (RP (oz g p s) h):=by
 apply T5 (bs g.nm) g.hr g.hd g.n g.s g.e g.he g.ht;unfold Zp;have ki:=hg.e.ln;refine (St.refl h).ak fun h9 hs=>?_;refine⟨_,_,_,_,_,_,_,_,hs.at 0 rfl (o:=0) (n:=8) rfl,?_⟩;refine (sX g s h9 (hg.ext hs.ext)).mono ?_;rintro _ aG ⟨E,r,rfl,hr⟩;have hs:=hs.step E;have jY:=hr.ln;rw[show (aw (ah g.es s)).length=(ah g.es s).length from Yc _] at jY;refine⟨r,rfl,aM (fun c=>?_) (fun c=>?_)⟩
 .refine⟨g.he,hs.rd 0 rfl (i:=6) rfl,?_⟩;refine hr.aD (by decide) (by omega) fun b22 o23 d gd t=>?_;obtain⟨k,gk,rfl⟩:=cV (i:=0) gd;obtain⟨x,gx,hf⟩:=aA.1 (Yb gk);have si:=Yb gx;refine⟨(k:Int),t.hd,?_⟩;refine (hg.e.rw.ext hs.ext).aD (by omega) (by have:=(Ya.1 gx).1;omega) fun b25 o26 y gy t2=>?_;replace gy:g.es[k]?=some y:=gy;rw[gx] at gy;cases gy;refine⟨x.a,t2.nth 1 rfl,RP.e ?_ hs.ext⟩;rw[beq_iff_eq];exact⟨fun e=>⟨x,si,hf,e⟩,fun ⟨y,hy,hyf,Ni⟩=>by rw[<-Ni];exact (eE hV si hy (by omega)).1⟩
 .refine RP.f (fun ⟨x,hx,hf,_⟩=>?_) hs.ext;obtain⟨k,hk⟩:=Yf.1 hx;have:=List.length_pos_of_mem (aA.2 ⟨x,hk,hf⟩);omega
theorem nR(g:Gl)(s:Int)(h:Heap)(hg:GI h g)(hV:af g):Fn Pz 221 #[g.v,.int .i64 s] h fun v h'=>Ext h h'/\∃k a b l:Int,v=.tuple ⟨[.int .i64 k,.agg ⟨[.int .i64 a,.int .i64 b,.int .i64 l]⟩]⟩/\MC g s k a b l:=by
 apply T4 (bs g.nm) g.hr g.hd g.n g.s g.e g.he g.ht;unfold Zo;have ki:=hg.e.ln;have Sw:=hg.t.ln;have Pa:=hg.t.sm;refine (St.refl h).ak fun h9 hs=>?_;refine hs.ak fun cF hs=>?_;refine aL (n:=g.ht.n) hs (fun i=>∀(j:Nat) t,j<i->g.ts[j]?=some t->t.s≠s) (fun j t hj=>by omega) ?_;rintro-i rP hi ⟨hs,hq⟩;refine⟨g.ht,hs.rd 1 rfl (i:=7) rfl,aa (fun c=>?_) (fun c=>?_)⟩
 .replace c:=bU c;obtain⟨t,gt⟩:=get_some (l:=g.ts) (i:=i) (by omega);have tAt:∀ {K:Nat->Nat->Prop},(∀b o,a6 rP ⟨b,o+Int.toNat (i:Int)*3,none⟩ t.cs->K b o)->NB g.ht.a fun b o=>(0<=(i:Int)/\(i:Int)<(g.ht.n:Nat))/\K b o:=fun {K} hK=>by
   refine (hg.t.rw.ext hs.ext).aD (by omega) (by omega) fun b o t' NR u=>hK b o ?_;replace NR:g.ts[i]?=some t':=NR;rw[gt] at NR;cases NR;exact u
  refine⟨g.ht,hs.rd 1 rfl (i:=7) rfl,tAt fun b o u=>⟨t.s,u.hd,dp (fun c1=>?_) (fun c1=>?_)⟩⟩
  .obtain⟨_,_,JR,z,gz,_⟩:=tY hV (Yb gt);refine⟨g.ht,hs.rd 1 rfl (i:=7) rfl,tAt fun b o u=>⟨t.k,u.nth 1 rfl,g.he,hs.rd 1 rfl (i:=6) rfl,g.ht,hs.rd 1 rfl (i:=7) rfl,tAt fun b o u=>⟨t.e,u.nth 2 rfl,?_⟩⟩⟩;refine (hg.e.rw.ext hs.ext).aD JR (by have:=(Ya.1 gz).1;omega) fun b30 o31 z' Qf u2=>?_;rw[gz] at Qf;cases Qf;refine⟨z.a,z.b,z.l,u2.sub 1 3 rfl,?_⟩;refine hs.put 0 rfl (o:=0) (vs:=[.int .i64 z.a,.int .i64 z.b,.int .i64 z.l]) rfl (bc 3) fun bK hs=>?_;exact⟨z.a,z.b,z.l,hs.at 0 rfl (o:=0) (n:=3) rfl,hs.ext,t.k,z.a,z.b,z.l,rfl,.inl ⟨t,Yb gt,c1,rfl,z,gz,rfl,rfl,rfl⟩⟩
  .refine Up.next c (by omega) ⟨hs,fun j t' hj NR=>?_⟩;by_cases e:j=i
   .subst e;rw[gt] at NR;cases NR;exact c1
   .exact hq j t' (by omega) NR
 .replace c:=cj c;refine hs.put 0 rfl (o:=0) (vs:=[.int .i64 0,.int .i64 0,.int .i64 0]) rfl (bc 3) fun sz hs=>?_;refine⟨0,0,0,hs.at 0 rfl (o:=0) (n:=3) rfl,hs.ext,0,0,0,0,rfl,.inr ⟨fun t ht=>?_,rfl,rfl,rfl,rfl⟩⟩;obtain⟨j,hj⟩:=Yf.1 ht;exact hq j t (by have:=(Ya.1 hj).1;omega) hj
theorem wq(g:Gl)(p s t:Int)(h:Heap)(hg:GI h g)(hV:af g):Fn Pz 159 #[g.v,.int .i64 p,.int .i64 s,.int .i64 t] h (RP (JE g p s t) h):=by
 apply UD (bs g.nm) g.hr g.hd g.n g.s g.e g.he g.ht;unfold ZW;have ki:=hg.e.ln;refine (St.refl h).ak fun h9 hs=>?_;refine⟨_,_,_,_,_,_,_,_,hs.at 0 rfl (o:=0) (n:=8) rfl,?_⟩;refine (nQ g p s h9 (hg.ext hs.ext) hV).mono ?_;rintro _ aG ⟨⟨b1,rfl,n5⟩,E⟩;have hs:=hs.step E;refine⟨b1,rfl,aa (fun c=>RP.f (fun hc=>cw n5 (bF c) hc.1) hs.ext) (fun c=>?_)⟩;have o1:=n5.1 (bT c);refine⟨_,_,_,_,_,_,_,_,hs.at 0 rfl (o:=0) (n:=8) rfl,?_⟩;refine (nQ g p t aG (hg.ext hs.ext) hV).mono ?_;rintro _ fM ⟨⟨b2,rfl,jK⟩,E⟩;have hs:=hs.step E;refine⟨b2,rfl,aa (fun c=>RP.f (fun hc=>cw jK (bF c) hc.2.1) hs.ext) (fun c=>?_)⟩;have o2:=jK.1 (bT c);obtain⟨x,hx,rfl,JN⟩:=o1;obtain⟨y,hy,rfl,Ni⟩:=o2;have hOx:oz g p x.f:=⟨x,hx,rfl,JN⟩;have hOy:oz g p y.f:=⟨y,hy,rfl,Ni⟩;obtain⟨_,T,hT,WO⟩:=qs hV hx JN;obtain⟨_,U,hU,hUm⟩:=qs hV hy Ni;have PE:JE g p x.f y.f ↔ T≠U:=by
  unfold JE;rw[hT,hU];exact⟨fun h e=>h.2.2 (by rw[e]),fun h=>⟨hOx,hOy,fun e=>h (fH e)⟩⟩
 refine⟨_,_,_,_,_,_,_,_,hs.at 0 rfl (o:=0) (n:=8) rfl,?_⟩;refine (nR g x.f fM (hg.ext hs.ext) hV).mono ?_;rintro _ kP ⟨E,k1,a1,c1,l1,rfl,Jy⟩;have hs:=hs.step E;refine⟨k1,a1,c1,l1,rfl,?_⟩;refine hs.ao (vs:=[.int .i64 a1,.int .i64 c1,.int .i64 l1]) rfl rfl fun qR hs=>?_;refine⟨_,_,_,_,_,_,_,_,hs.at 1 rfl (o:=0) (n:=8) rfl,?_⟩;refine (nR g y.f qR (hg.ext hs.ext) hV).mono ?_;rintro _ NO ⟨E,k2,a2,c2,l2,rfl,pQ⟩;have hs:=hs.step E;refine⟨k2,a2,c2,l2,rfl,?_⟩;refine hs.ao (vs:=[.int .i64 a2,.int .i64 c2,.int .i64 l2]) rfl rfl fun rM hs=>?_;have heq:=OZ hV hx hy (by rw[JN,Ni]) WO hUm Jy pQ;refine fZ (fun d=>RP.t (PE.2 fun e=>d (heq.1 e).1) hs.ext) (fun d=>?_);refine⟨a1,c1,l1,hs.at 1 rfl (o:=0) (n:=3) rfl,a2,c2,l2,hs.at 0 rfl (o:=0) (n:=3) rfl,aa (fun d2=>RP.t (PE.2 fun e=>?_) hs.ext) (fun d2=>?_)⟩
 .obtain⟨_,⟨e1,e2,e3⟩,_⟩:=heq.1 e;rw[e1,e2,e3] at d2;simp at d2
 have agE:a1=a2/\c1=c2/\l1=l2:=by
  simp only[Bool.not_eq_false',Yt,beq_iff_eq,and_true] at d2;exact d2
 refine⟨g.he,hs.rd 2 rfl (i:=6) rfl,_,_,_,_,_,_,_,_,hs.at 2 rfl (o:=0) (n:=8) rfl,g.he,hs.rd 2 rfl (i:=6) rfl,_,_,_,_,_,_,_,_,hs.at 2 rfl (o:=0) (n:=8) rfl,?_⟩;have first:∀ {hZ:Heap} {r:Sl} {w:Ed} {K:Int->Nat->Nat->Prop},w∈g.es->Rw hZ 1 r ((aw (ah g.es w.f)).map aO)->(∀(k:Nat) (x:Ed) b o,g.es[k]?=some x->x.f=w.f->hc hZ ⟨b,o+Int.toNat 0*1,none⟩=some (.int .i64 (k:Int))->K k b o)->NB r.a fun b o=>(0<=(0:Int)/\(0:Int)<(r.n:Nat))/\∃x93:Int,hc hZ ⟨b,o+Int.toNat 0*1,none⟩=some (.int .i64 x93)/\K x93 b o:=fun {hZ r w K} hw hr hK=>by
  obtain⟨j,hj⟩:=Yf.1 hw;have fB:=List.length_pos_of_mem (aA.2 ⟨w,hj,rfl⟩);have jY:=hr.ln;rw[show (aw (ah g.es w.f)).length=(ah g.es w.f).length from Yc _] at jY;refine hr.aD (by decide) (by omega) fun b o d gd t=>?_;obtain⟨k,gk,rfl⟩:=cV (i:=0) gd;obtain⟨x,gx,hf⟩:=aA.1 (Yb gk);exact⟨(k:Int),t.hd,hK k x b o gx hf t.hd⟩
 refine (sX g x.f rM (hg.ext hs.ext)).mono ?_;rintro _ B3 ⟨E,r,rfl,hr⟩;have hs:=hs.step E;refine⟨r,rfl,E.sm,first hx hr fun k z b o gz hzf t=>?_⟩;refine (hg.e.rw.ext hs.ext).aD (by omega) (by have:=(Ya.1 gz).1;omega) fun b94 o95 z' Qf t2=>?_;replace Qf:g.es[k]?=some z':=Qf;rw[gz] at Qf;cases Qf;refine⟨z.ag,t2.nth 5 rfl,?_⟩;refine (sX g y.f B3 (hg.ext hs.ext)).mono ?_;rintro _ WY ⟨E,r2,rfl,sk⟩;have hs:=hs.step E;refine⟨r2,rfl,E.sm,first hy sk fun k2' w b2 o2 gw hwf t3=>?_⟩;refine (hg.e.rw.ext hs.ext).aD (by omega) (by have:=(Ya.1 gw).1;omega) fun YF Vy w' gw' t4=>?_;replace gw':g.es[k2']?=some w':=gw';rw[gw] at gw';cases gw';refine⟨w.ag,t4.nth 5 rfl,RP.e ?_ hs.ext⟩;have ez:z.ag=x.ag:=(eE hV (Yb gz) hx hzf).2;have ew:w.ag=y.ag:=(eE hV (Yb gw) hy hwf).2;rw[PE,Ne,heq,ez,ew];constructor
 .intro hb he;rw[he.2.2] at hb;simp at hb
 .intro bH;cases hxa2:x.ag<;>cases hya2:y.ag<;>simp_all

/-! ### plain -/
def CpJ(M:List Mv)(n k j:Nat):Prop:=j<=M.length/\∀(i:Nat) y,M[i]?=some y->(i<j ↔ y.f<(n:Int)\/(y.f=(n:Int)/\i<k))
theorem CpJ.end_{M:List Mv}{n j:Nat}(h:CpJ M n 0 j)(hM:∀y∈M,y.f<(n:Int)):j=M.length:=by
 rcases Nat.lt_or_ge j M.length with c | c
 .obtain⟨x,gx⟩:=get_some (l:=M) (i:=j) c;have:=(h.2 j x gx).2 (.inl (hM x (Yb gx)));omega
 .exact Nat.le_antisymm h.1 c
/-! ### the walk -/
end Go.VC
end

section
namespace Go.VC
open Go.Proofs Go.LexS Go.Maps
def t0:To:=⟨0,0,0⟩
structure Vs where
 a:Int
 b:Int
 h:List Ev
def Vs.p(v:Vs):Int × Int:=(v.a,v.b)
/-! ### the queue -/
structure Vt where
 a:Int
 b:Int
 ahead:Int
 x:Ev
def Vt.cs(v:Vt):List Value:=[.int .i64 v.a,.int .i64 v.b,.int .i64 v.ahead,.bool v.x.send,.int .i64 v.x.peer,.int .i64 v.x.label]
/-! ### what tells states apart, al the table tells it -/
/-! ### the machine whose targets are the least ones of their classes -/
section
variable {m:mw} {C:List Nat}
end
section
variable {m:mw} {C:List Nat}
end
section
variable {m:mw} {C:List Nat}
end
section
variable {m:mw} {C:List Nat}
end
section
variable {m:mw} {C:List Nat}
end
section
variable {m:mw} {C:List Nat}
end
section
variable {m:mw} {C:List Nat}
end
section
variable {m:mw} {C:List Nat} {Fp:Nat}
end
section
variable {m:mw} {C:List Nat} {Fp:Nat}
end
section
variable {m:mw} {C:List Nat} {Fp:Nat}
end
section
variable {m:mw} {C:List Nat} {Fp:Nat}
variable {c0:Nat} {M:mw} {Q:List Nat}
end
section
variable {m:mw} {C:List Nat} {Fp:Nat}
variable {c0:Nat} {M:mw} {Q:List Nat}
end
section
variable {m:mw} {C:List Nat} {Fp:Nat}
variable {c0:Nat} {M:mw} {Q:List Nat}
end
section
variable {m:mw} {C:List Nat} {Fp:Nat}
variable {c0:Nat} {M:mw} {Q:List Nat}
end
section
variable {M K:mw} {R:Nat->Nat->Prop}
end
section
variable {M K:mw} {R:Nat->Nat->Prop}
end
section
variable {m:mw} {C:List Nat} {Fp c0:Nat} {M:mw} {Q:List Nat}
end
section
variable {m:mw} {C:List Nat} {Fp c0:Nat} {M:mw} {Q:List Nat}
end
section
variable {n:Nat} {to:List Nat}
end
section
variable {n:Nat} {to:List Nat}
end
section
variable {n:Nat} {to:List Nat}
end
section
variable {n:Nat} {to:List Nat}
end
end Go.VC
end

section
namespace Go.VC
open Go.Proofs Go.LexS

structure PM where
 m:mw
 f:Sl
 v:Sl
 l:Sl
def PM.cs(p:PM):List Value:=mC p.m p.f p.v p.l
theorem lr(p:Addr)(role:Int)(x:Ed)(h:Heap)(hp:hc h ⟨p.block,p.off+8,none⟩=some (.int .i64 role)):Fn Pz 106 #[.pointer (some p),.agg ⟨x.cs⟩] h fun v h'=>Ext h h'/\v=(match aW role x with | some e=>.tuple ⟨[.agg ⟨e.cs⟩,.bool true]⟩ | none=>.tuple ⟨[.agg ⟨[.bool false,.int .i64 0,.int .i64 0]⟩,.bool false]⟩):=by
 apply U4 p x.f x.a x.b x.l x.t x.ag;unfold aam;refine (St.refl h).ak fun h7 hs=>?_;refine hs.ak fun h8 hs=>?_;refine⟨role,ay hs.ext hp,x.a,hs.rd 1 rfl (i:=1) rfl,dp (fun c=>?_) (fun c=>?_)⟩
 .refine⟨x.b,hs.rd 1 rfl (i:=2) rfl,x.l,hs.rd 1 rfl (i:=3) rfl,?_⟩;refine hs.put 0 rfl (o:=0) (vs:=[.bool true,.int .i64 x.b,.int .i64 x.l]) rfl (bc 3) fun Fl hs=>?_;refine⟨true,x.b,x.l,hs.at 0 rfl (o:=0) (n:=3) rfl,hs.ext,?_⟩;unfold aW;rw[if_pos c];rfl
 .refine⟨x.b,hs.rd 1 rfl (i:=2) rfl,dp (fun c2=>?_) (fun c2=>?_)⟩
  .refine⟨x.a,hs.rd 1 rfl (i:=1) rfl,x.l,hs.rd 1 rfl (i:=3) rfl,?_⟩;refine hs.put 0 rfl (o:=0) (vs:=[.bool false,.int .i64 x.a,.int .i64 x.l]) rfl (bc 3) fun Fl hs=>?_;refine⟨false,x.a,x.l,hs.at 0 rfl (o:=0) (n:=3) rfl,hs.ext,?_⟩;unfold aW;rw[if_neg c,if_pos c2];rfl
  .refine hs.put 0 rfl (o:=0) (vs:=[.bool false,.int .i64 0,.int .i64 0]) rfl (bc 3) fun Fl hs=>?_;refine⟨false,0,0,hs.at 0 rfl (o:=0) (n:=3) rfl,hs.ext,?_⟩;unfold aW;rw[if_neg c,if_neg c2]
theorem qE(a b s t:Int)(h:Heap):Fn Pz 169 #[.agg ⟨[.int .i64 a,.int .i64 b,.int .i64 s,.int .i64 t]⟩] h fun v h'=>v=.int .i64 (if 0<=a/\0<=b then 2 else 1)/\Ext h h':=by
 apply Ut a b s t;unfold ZM;refine (St.refl h).ak fun h5 hs=>?_;refine⟨a,hs.rd 0 rfl (i:=0) rfl,aM (fun c=>?_) (fun c=>?_)⟩
 .refine⟨b,hs.rd 0 rfl (i:=1) rfl,aM (fun c2=>?_) (fun c2=>?_)⟩
  .exact⟨by rw[if_pos ⟨c,c2⟩],hs.ext⟩
  .exact⟨by rw[if_neg fun h=>c2 h.2],hs.ext⟩
 .exact⟨by rw[if_neg fun h=>c h.1],hs.ext⟩
theorem FV(L:List Ev)(b:Bool)(s:Sl)(h:Heap)(hr:Rw h 3 s (L.map Ev.cs)):Fn Pz 148 #[.agg ⟨[.slice s.a s.n s.c,.bool b]⟩] h fun v h'=>v=.bool (dm L 0)/\Ext h h':=by
 apply UI s b;unfold Z3;have hn:=hr.ln;refine (St.refl h).ak fun h3 hs=>?_;refine⟨s,hs.rd 0 rfl (i:=0) rfl,aM (fun c=>?_) (fun c=>?_)⟩
 .refine⟨s,hs.rd 0 rfl (i:=0) rfl,?_⟩;refine (hr.ext hs.ext).aD (by omega) (by omega) fun b6 o7 e ge t=>?_;replace ge:L[0]?=some e:=ge;refine⟨e.send,t.nth 0 rfl,?_,hs.ext⟩;unfold dm;rw[ge]
 .refine⟨?_,hs.ext⟩;have:L=[]:=List.length_eq_zero_iff.1 (by omega);subst this;rfl
theorem GJ(L:List Ev)(b:Bool)(s:Sl)(h:Heap)(hr:Rw h 3 s (L.map Ev.cs))(hl:L.length<=1048576):Fn Pz 149 #[.agg ⟨[.slice s.a s.n s.c,.bool b]⟩] h fun v h'=>v=.bool (dm L 0&&(b || !dm L (L.length-1)))/\Ext h h':=by
 apply UH s b;unfold Z2;have hn:=hr.ln;refine (St.refl h).ak fun h3 hs=>?_;refine⟨s,b,hs.at 0 rfl (o:=0) (n:=2) rfl,?_⟩;refine (FV L b s h3 (hr.ext hs.ext)).mono ?_;rintro _ h8 ⟨rfl,E⟩;have hs:=hs.step E;refine⟨_,rfl,aa (fun c=>?_) (fun c=>⟨by rw[c];rfl,hs.ext⟩)⟩;have fB:0<L.length:=by
  cases L with
  | nil=>cases c
  | cons a l=>exact Nat.succ_pos _
 refine⟨b,hs.rd 0 rfl (i:=1) rfl,aa (fun c2=>⟨by rw[c,c2];rfl,hs.ext⟩) (fun c2=>?_)⟩;refine⟨s,hs.rd 0 rfl (i:=0) rfl,s,hs.rd 0 rfl (i:=0) rfl,?_⟩;rw[a7 (n:=(s.n:Int)-1) (by omega) (by omega)];refine (hr.ext hs.ext).aD (by omega) (by omega) fun b6 o7 e ge t=>?_;rw[show ((s.n:Int)-1).toNat=L.length-1 by omega] at ge;refine⟨e.send,t.nth 0 rfl,?_,hs.ext⟩;have h1:dm L (L.length-1)=e.send:=by unfold dm;rw[ge]
 rw[c,c2,h1];rfl
theorem oq(x y:Ev)(h:Heap):Fn Pz 185 #[.agg ⟨x.cs⟩,.agg ⟨y.cs⟩] h fun v h'=>v=.int .i64 (sE x y)/\Ext h h':=by
 apply Fy x.send x.peer x.label y.send y.peer y.label;unfold Ix;have hs:=St.refl h;refine hs.ak fun h7 hs=>?_;refine hs.ak fun h8 hs=>?_;refine⟨_,hs.rd 1 rfl rfl,?_⟩;refine⟨_,hs.rd 0 rfl rfl,?_⟩;refine aa (fun c=>?_) (fun c=>?_)
 .have bH:x.send≠y.send:=by simpa using c
  refine⟨_,hs.rd 1 rfl rfl,?_⟩;unfold sE;rw[if_pos bH];refine aa (fun d=>?_) (fun d=>?_)
  .exact⟨by rw[if_pos d],hs.ext⟩
  .exact⟨by rw[if_neg (by rw[d];simp)],hs.ext⟩
 .have he:x.send=y.send:=by simpa using c
  refine⟨_,hs.rd 1 rfl rfl,_,hs.rd 0 rfl rfl,_,hs.rd 1 rfl rfl,_,hs.rd 0 rfl rfl,?_⟩;refine (gA _ _ _).mono ?_;rintro _ _ ⟨rfl,rfl⟩;refine⟨_,rfl,fun _ _ _ _ hv=>hv,?_⟩;refine (gA _ _ _).mono ?_;rintro _ _ ⟨rfl,rfl⟩;refine⟨_,rfl,fun _ _ _ _ hv=>hv,?_⟩;refine hs.ak fun dX hs=>?_;have bG:=hs.dP 2 1 ([dt x.peer y.peer,dt x.label y.label].map aO) rfl (cL _) rfl (by decide);refine (wI [dt x.peer y.peer,dt x.label y.label] _ dX (bG.rows 0 rfl (by omega)) (show 2<=1048576 by decide)).mono ?_;rintro _ _ ⟨rfl,rfl⟩;refine⟨_,rfl,?_,hs.ext⟩;unfold sE;rw[if_neg (by simpa using he)];show Value.int .i64 (eP _ (eP _ 0))=_;congr 1;unfold eP;split
  .rfl
  .split<;>omega
theorem LX{x y:Ev}(h:((x.send==y.send)&&((x.peer==y.peer)&&((x.label==y.label)&&true)))=true):x=y:=by
 cases x;cases y;simp_all
theorem DW(L:List Ev)(e:Ev)(s:Sl)(h:Heap)(hr:Rw h 3 s (L.map Ev.cs))(hl:L.length<=1048576):Fn Pz 295 #[.slice s.a s.n s.c,.agg ⟨e.cs⟩] h fun v h'=>∃i:Int,v=.int .i64 i/\Ext h h'/\(0<=i ↔ e∈L):=by
 apply Tx s e.send e.peer e.label;unfold YS;have hn:=hr.ln;refine (St.refl h).ak fun h4 hs=>?_;refine aL (n:=s.n) hs (fun i=>∀(j:Nat) x,j<i->L[j]?=some x->x≠e) (fun j x hj=>by omega) ?_;clear hs;rintro-i h9 hi ⟨hs,hq⟩;refine aa (fun c=>?_) (fun c=>?_)
 .replace c:=bU c;refine⟨e.send,e.peer,e.label,hs.at 0 rfl (o:=0) (n:=3) rfl,?_⟩;refine (hr.ext hs.ext).aD (by omega) (by omega) fun b13 o14 x gx t=>?_;replace gx:L[i]?=some x:=gx;refine⟨x.send,x.peer,x.label,t,aa (fun c2=>?_) (fun c2=>?_)⟩
  .have kM:=LX c2;exact⟨i,rfl,hs.ext,iff_of_true (by omega) (by rw[kM];exact Yb gx)⟩
  .refine Up.next c (by omega) ⟨hs,fun j x' hj Em=>?_⟩;by_cases e1:j=i
   .subst e1;rw[gx] at Em;cases Em;rintro rfl;simp at c2
   .exact hq j x' (by omega) Em
 .replace c:=cj c;refine⟨-1,rfl,hs.ext,iff_of_false (by omega) fun hm=>?_⟩;obtain⟨j,hj⟩:=Yf.1 hm;exact hq j e (by have:=(Ya.1 hj).1;omega) hj rfl
theorem vb(L:List Ev)(e:Ev)(s:Sl)(h:Heap)(hr:Rw h 3 s (L.map Ev.cs))(hl:L.length<=1048576):Fn Pz 263 #[.slice s.a s.n s.c,.agg ⟨e.cs⟩] h (RP (e∈L) h):=by
 apply TM s e.send e.peer e.label;unfold Y9;refine (St.refl h).ak fun h4 hs=>?_;refine⟨e.send,e.peer,e.label,hs.at 0 rfl (o:=0) (n:=3) rfl,?_⟩;refine (DW L e s h4 (hr.ext hs.ext) hl).mono ?_;rintro _ cF ⟨i,rfl,E,hi⟩;exact⟨i,rfl,RP.e (by rw[decide_eq_true_eq];exact hi) (hs.step E).ext⟩
theorem BZ(L:List Ev)(b:Bool)(e:Ev)(s:Sl)(h:Heap)(hr:Rw h 3 s (L.map Ev.cs))(hl:L.length<=1048576):Fn Pz 214 #[.agg ⟨[.slice s.a s.n s.c,.bool b]⟩,.agg ⟨e.cs⟩] h (RP (e∈L) h):=by
 apply T9 s b e.send e.peer e.label;unfold Zt;refine (St.refl h).ak fun h6 hs=>?_;refine hs.ak fun h7 hs=>?_;refine⟨s,hs.rd 1 rfl (i:=0) rfl,e.send,e.peer,e.label,hs.at 0 rfl (o:=0) (n:=3) rfl,?_⟩;refine (vb L e s h7 (hr.ext hs.ext) hl).mono ?_;rintro _ B7 ⟨⟨b2,rfl,hb⟩,E⟩;exact⟨b2,rfl,⟨b2,rfl,hb⟩,(hs.step E).ext⟩
structure Lm where
 k:Int
 x:Ev
def Lm.cs(l:Lm):List Value:=[.int .i64 l.k,.bool l.x.send,.int .i64 l.x.peer,.int .i64 l.x.label]
structure Fs where
 s:Sl
 l:List Ev
 b:Bool
def Fs.cs(f:Fs):List Value:=[.slice f.s.a f.s.n f.s.c,.bool f.b]
structure Te (h:Heap) (p:Addr) (role:Int) (cn cc bu cm:Sl) (fi:List Fs) (li:List Lm) (ag ow:List Bool):Prop where
 ro:hc h ⟨p.block,p.off+8,none⟩=some (.int .i64 role)
 f:hc h ⟨p.block,p.off+10,none⟩=some (.slice cn.a cn.n cn.c)
 l:hc h ⟨p.block,p.off+11,none⟩=some (.slice cc.a cc.n cc.c)
 a:hc h ⟨p.block,p.off+12,none⟩=some (.slice bu.a bu.n bu.c)
 o:hc h ⟨p.block,p.off+13,none⟩=some (.slice cm.a cm.n cm.c)
 rf:RL h 2 cn Fs.cs fi
 re:∀f∈fi,RL h 3 f.s Ev.cs f.l
 rl:RL h 4 cc Lm.cs li
 ra:RL h 1 bu bC ag
 rw:RL h 1 cm bC ow
theorem Te.ext{h h':Heap}{p:Addr}{role:Int}{cn cc bu cm:Sl}{fi:List Fs}{li:List Lm}{ag ow:List Bool}(hA:Te h p role cn cc bu cm fi li ag ow)(E:Ext h h'):Te h' p role cn cc bu cm fi li ag ow:=
 ⟨ay E hA.ro,ay E hA.f,ay E hA.l,ay E hA.a,ay E hA.o,hA.rf.ext E,fun f hf=>(hA.re f hf).ext E,hA.rl.ext E,hA.ra.ext E,hA.rw.ext E⟩
theorem Ng{x y:Lm}:((x.k==y.k)&&(((x.x.send==y.x.send)&&((x.x.peer==y.x.peer)&&((x.x.label==y.x.label)&&true)))&&true))=true ↔ x=y:=by
 constructor
 .intro h;obtain⟨k,e⟩:=x;obtain⟨k',e'⟩:=y;cases e;cases e'
  simp_all
 .rintro rfl;simp
def MF(li:List Lm)(ag ow:List Bool)(s t:Nat):Prop:=ow[s]?=some true/\ow[t]?=some true/\(li[s]?≠li[t]?\/ag[s]?≠ag[t]?)
theorem Ey(p:Addr)(role:Int)(cn cc bu cm:Sl)(fi:List Fs)(li:List Lm)(ag ow:List Bool)(s t:Nat)(h:Heap)(hA:Te h p role cn cc bu cm fi li ag ow)(l1:s<ow.length/\t<ow.length)(l2:s<li.length/\t<li.length)(l3:s<ag.length/\t<ag.length):
  Fn Pz 151 #[.pointer (some p),.agg ⟨[.int .i64 (s:Nat),.int .i64 (t:Nat)]⟩] h (RP (MF li ag ow s t) h):=by
 apply UG p (s:Nat) (t:Nat);unfold ZZ;have n1:=hA.rw.ln;have n2:=hA.rl.ln;have n3:=hA.ra.ln;refine (St.refl h).ak fun h3 hs=>?_;have hA:=hA.ext hs.ext;refine⟨cm,hA.o,s,hs.rd 0 rfl (i:=0) rfl,?_⟩;refine hA.rw.rw.aD (by omega) (by omega) fun _ _ o1 g1 u1=>⟨o1,u1.hd,aa (fun c1=>?_) (fun c1=>RP.f (fun hc=>?_) hs.ext)⟩
 case refine_2=>
  have:=hc.1;rw[show ow[s]?=some o1 from g1,c1] at this;cases this
 refine⟨cm,hA.o,t,hs.rd 0 rfl (i:=1) rfl,?_⟩;refine hA.rw.rw.aD (by omega) (by omega) fun _ _ o2 g2 u2=>⟨o2,u2.hd,aa (fun c2=>?_) (fun c2=>RP.f (fun hc=>?_) hs.ext)⟩
 case refine_2=>
  have:=hc.2.1;rw[show ow[t]?=some o2 from g2,c2] at this;cases this
 refine⟨cc,hA.l,s,hs.rd 0 rfl (i:=0) rfl,?_⟩;refine hA.rl.rw.aD (by omega) (by omega) fun _ _ x gx ux=>⟨x.k,x.x.send,x.x.peer,x.x.label,ux,cc,hA.l,t,hs.rd 0 rfl (i:=1) rfl,?_⟩;refine hA.rl.rw.aD (by omega) (by omega) fun _ _ y gy uy=>⟨y.k,y.x.send,y.x.peer,y.x.label,uy,?_⟩;replace gx:li[s]?=some x:=gx;replace gy:li[t]?=some y:=gy;replace g1:ow[s]?=some o1:=g1;replace g2:ow[t]?=some o2:=g2;rw[c1] at g1;rw[c2] at g2;refine aa (fun c3=>RP.t ⟨g1,g2,.inl fun e=>?_⟩ hs.ext) (fun c3=>?_)
 .rw[gx,gy] at e;have:=Ng.2 (fH e);rw[this] at c3;cases c3
 have Lh:x=y:=Ng.1 (by simpa using c3);refine⟨bu,hA.a,s,hs.rd 0 rfl (i:=0) rfl,?_⟩;refine hA.ra.rw.aD (by omega) (by omega) fun _ _ a1 k1 v1=>⟨a1,v1.hd,bu,hA.a,t,hs.rd 0 rfl (i:=1) rfl,?_⟩;refine hA.ra.rw.aD (by omega) (by omega) fun _ _ a2 k2 v2=>⟨a2,v2.hd,RP.e ?_ hs.ext⟩;replace k1:ag[s]?=some a1:=k1;replace k2:ag[t]?=some a2:=k2;unfold MF;rw[g1,g2,gx,gy,k1,k2,Lh];cases a1<;>cases a2<;>simp
end Go.VC
end
