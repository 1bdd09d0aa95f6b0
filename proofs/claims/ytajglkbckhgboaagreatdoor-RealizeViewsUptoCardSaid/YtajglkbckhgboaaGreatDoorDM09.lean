/- SxLx SxLy SxLz SxM1 SxM2 SxM3 SxM4 SxM5 SxM6 SxM7 SxM8 SxM9 SxM10 SxM11 SxM12 SxM13 SxM14 SxM15 SxM16 SxKa SxKb SxKc SxKd SxKe SxKf SxKg SxKh SxKj SxKk SxM17. -/
import Derived.Test.YtajglkbckhgboaaGreatDoorDM08
set_option linter.all false
set_option maxRecDepth 100000
set_option maxHeartbeats 8000000

section
namespace Go.VC
open Go.Proofs Go.LexS
theorem St.tP{h0 h:Heap}{L:List It}(hs:St h0 h L)(k:Nat){b:Nat}{xs:List Value}{e:TypeId}(hk:L[k]?=some (.af b xs e))(m n:Nat)(rows:List (List Value))(hx:xs=rows.flatten)(hr:∀r∈rows,r.length=n)(hl:rows.length=m)(hm:m<=maxLen):St h0 h (L.set k (.sl ⟨some ⟨b,0,none⟩,m,m⟩ e n rows)):=by
 have hp:L.Perm (.af b xs e::L.eraseIdx k):=by
  obtain⟨A,B,rfl,rfl⟩:=wi hk;rw[List.eraseIdx_append_of_length_le (bu _),Nat.sub_self];exact List.perm_middle
 have h1:=(hs.perm hp).dz m n rows hx hr hl hm;refine h1.perm ?_;obtain⟨A,B,rfl,rfl⟩:=wi hk;rw[List.eraseIdx_append_of_length_le (bu _),Nat.sub_self,List.set_append_right _ _ (bu _),Nat.sub_self];exact List.perm_middle.symm
theorem Cc(n:Nat):ak Pz 102 n=((List.replicate n (⟨none,0,0⟩:Sl)).map dv).flatten:=by
 have e:bN Pz 102=[.slice none 0 0]:=by kernel_rfl
 unfold ak;rw[e,List.map_replicate];rfl
theorem HO(n:Nat):ak Pz 274 n=((List.replicate n (⟨none,0,0⟩:Sl)).map dv).flatten:=by
 have e:bN Pz 274=[.slice none 0 0]:=by kernel_rfl
 unfold ak;rw[e,List.map_replicate];rfl
def ZB:Ev:=⟨false,0,0⟩
def Gb:Lm:=⟨0,ZB⟩
theorem HP(n:Nat):ak Pz 192 n=((List.replicate n Gb).map Lm.cs).flatten:=by
 have e:bN Pz 192=Lm.cs Gb:=by kernel_rfl
 unfold ak;rw[e,List.map_replicate]
theorem S4:cu Pz 184 195 2 32=true:=by kernel_rfl
theorem SZ:cu Pz 274 276 4 32=true:=by kernel_rfl
abbrev DC:=Sl × List Int
abbrev tW:=Sl × List gM
def Pp(f:Fs):It:=.sl f.s 188 3 (f.l.map Ev.cs)
def Tb(g:Gl)(role:Int)(ho bZ bV bx cm cz:Sl):List Value:=g.cs++[.int .i64 role,.slice ho.a ho.n ho.c,.slice bZ.a bZ.n bZ.c,.slice bV.a bV.n bV.c,.slice bx.a bx.n bx.c,.slice cm.a cm.n cm.c,.slice cz.a cz.n cz.c]
def rz(ab gb:Nat)(g:Gl)(role:Int)(ho bZ bV bx cm cz:Sl)(OU:List DC)(FI:List Fs)(LI:List Lm)(AG OW:List Bool)(AR:List tW):List It:=
 [.af ab (Tb g role ho bZ bV bx cm cz) 186,.sl ho 102 1 ((OU.map Prod.fst).map dv),.sl bZ 195 2 (FI.map Fs.cs),.sl bV 192 4 (LI.map Lm.cs),.sl bx 4 1 (AG.map bC),.sl cm 4 1 (OW.map bC),.sl cz 274 1 ((AR.map Prod.fst).map dv),.af gb g.cs 27]++OU.map (nest 3 1 aM)++(FI.map Pp++AR.map (nest 276 4 gM.cs))
def s9(g:Gl)(role:Int)(t:To):Lm:=⟨t.k,(aG role (eA g.es t.e.toNat)).getD ZB⟩
def cG(g:Gl)(role:Int)(ts:List To)(s:Nat):Lm:=ts.foldl (fun b t=>if t.s=(s:Int) then s9 g role t else b) Gb
def eG(es:List Ed)(s:Nat):Bool:=es.any fun x=>decide (x.f=(s:Int))&&x.ag
def eE(es:List Ed)(role:Int)(s:Nat):Bool:=es.any fun x=>decide (x.f=(s:Int))&&decide (x.a=role)
def pA(es:List Ed)(j s:Nat):List Nat:=(List.range j).filter (fj es (s:Int))
theorem nv{es:List Ed}{j:Nat}{x:Ed}(hx:es[j]?=some x)(s:Nat):pA es (j+1) s=pA es j s++(if x.f=(s:Int) then [j] else []):=by
 unfold pA;rw[List.range_succ,List.filter_append];congr 1;have hp:fj es (s:Int) j=decide (x.f=(s:Int)):=by unfold fj;rw[hx]
 by_cases e:x.f=(s:Int)
 .rw[if_pos e,List.filter_cons_of_pos (by rw[hp];exact decide_eq_true e)];rfl
 .rw[if_neg e,List.filter_cons_of_neg (by rw[hp,decide_eq_false e];simp)];rfl
theorem yr{α:Type}{l:List α}{j:Nat}{x:α}(hx:l[j]?=some x)(p:α->Bool):(l.take (j+1)).any p=((l.take j).any p||p x):=by
 rw[ae hx,List.any_append];simp
theorem dP{α:Type}{n:Nat}{f f':Nat->α}{k:Nat}{y:α}(hk:k<n)(h1:f' k=y)(h2:∀s,s≠k->f' s=f s):((List.range n).map f).set k y=(List.range n).map f':=by
 apply y4;intro s;by_cases hs:s<n
 .by_cases e:k=s
  .subst e;rw[Yq (by rw[Yc,kv];exact hs),Yd,vk hs,<-h1];rfl
  .rw[Yy e,Yd,Yd,vk hs];show some (f s)=some (f' s);rw[h2 s (fun h=>e h.symm)]
 .rw[Yl (by rw[lh,Yc,kv];omega),Yl (by rw[Yc,kv];omega)]
theorem dZ{α:Type}{n:Nat}(f:Nat->α){s:Nat}(hs:s<n):((List.range n).map f)[s]?=some (f s):=by rw[Yd,vk hs];rfl
theorem nu{es:List Ed}{j:Nat}{x:Ed}(hx:es[j]?=some x)(role:Int)(s:Nat):eE (es.take (j+1)) role s=(eE (es.take j) role s||(decide (x.f=(s:Int))&&decide (x.a=role))):=by unfold eE;rw[yr hx]
theorem nS{es:List Ed}{j:Nat}{x:Ed}(hx:es[j]?=some x)(s:Nat):eG (es.take (j+1)) s=(eG (es.take j) s||(decide (x.f=(s:Int))&&x.ag)):=by unfold eG;rw[yr hx]
theorem Qf{h0 RH sw oJ:Heap}{m44:Nat}{I:Int->Heap->Nat->Prop}{y:Int}{g:Gl}{role:Int}{ho bZ bV bx cm cz:Sl}{OU:List DC}{FI:List Fs}{LI:List Lm}{AG:List Bool}{AR:List tW}{gb j n:Nat}{x:Ed}(hx:g.es[j]?=some x)(pF:0<=x.f)(YJ:x.f.toNat<n)
  (hs:St h0 RH (.af oJ.size x.cs 67::rz sw.size gb g role ho bZ bV bx cm cz OU FI LI AG ((List.range n).map (eE (g.es.take j) role)) AR))
  (hI:∀h':Heap,St h0 h' (rz sw.size gb g role ho bZ bV bx cm cz OU FI LI AG ((List.range n).map (eE (g.es.take (j+1)) role)) AR)->∃m,m<m44/\I (IntKind.wrap .i64 (y+1)) h' m) :
  yA RH sw oJ m44 I y role:=by
 unfold yA;have hwn:=(hs.len 6 (s:=cm) (e:=4) (n:=1) (rows:=((List.range n).map (eE (g.es.take j) role)).map bC) rfl (by omega)).1;rw[Yc,Yc,kv] at hwn;have yU:((x.f.toNat:Nat):Int)=x.f:=Int.toNat_of_nonneg pF;have fin:∀(v:Bool),v=eE (g.es.take (j+1)) role x.f.toNat->((List.range n).map (eE (g.es.take j) role)).set x.f.toNat v=(List.range n).map (eE (g.es.take (j+1)) role):=fun v hv=>dP YJ hv.symm fun s cj=>by
  rw[nu hx,decide_eq_false (by omega)];simp
 refine⟨cm,hs.rd 1 rfl (i:=13) rfl,x.f,hs.rd 0 rfl (i:=0) rfl,cm,hs.rd 1 rfl (i:=13) rfl,x.f,hs.rd 0 rfl (i:=0) rfl,?_⟩;refine (hs.rows 6 rfl (by omega)).ax (by omega) (by omega) fun b84 o85 d gd t=>?_;rw[dZ _ YJ] at gd;cases gd;refine⟨_,t.hd,aa (fun c=>?_) (fun c=>?_)⟩
 .refine hs.set 6 rfl (by omega) (x:=x.f) (by omega) (by omega) true rfl rfl (fun b87 o88 h89 hs=>hI h89 ?_) rfl;rw[fin true (by rw[nu hx,c];rfl)] at hs;exact hs.drop 1
 .refine⟨x.a,hs.rd 0 rfl (i:=1) rfl,?_⟩;refine hs.set 6 rfl (by omega) (x:=x.f) (by omega) (by omega) (x.a==role) rfl rfl (fun b92 o93 h94 hs=>hI h94 ?_) rfl;rw[fin (x.a==role) (by rw[nu hx,c,yU,decide_eq_true rfl,Bool.false_or,Bool.true_and];exact (Bool.eq_iff_iff.2 (by simp)))] at hs;exact hs.drop 1
theorem PE{h0 h:Heap}{ab gb:Nat}{g:Gl}{role:Int}{ho bZ bV bx cm cz:Sl}{OU:List DC}{FI:List Fs}{LI:List Lm}{AG OW:List Bool}{AR:List tW}{R:List It}(hs:St h0 h (rz ab gb g role ho bZ bV bx cm cz OU FI LI AG OW AR++R))(hg:GI h0 g)(hO:OU.map Prod.snd=(List.range g.n.toNat).map fun s=>aJ (av g.es (s:Nat))):
  Lk h ab g role ho (fun i=>((OU[i]?).map Prod.fst).getD ⟨none,0,0⟩):=by
 have Pe:OU.length=g.n.toNat:=by have:=congrArg List.length hO;simpa using this
 refine⟨hs.at 0 rfl (o:=0) (n:=10) rfl,hg.ext hs.ext,?_,fun i hi=>?_⟩
 .have h1:=hs.rw 1 (s:=ho) (e:=102) (n:=1) (rows:=(OU.map Prod.fst).map dv) rfl (by omega);have e:(OU.map Prod.fst).map dv=(List.range g.n.toNat).map fun i=>dv (((OU[i]?).map Prod.fst).getD ⟨none,0,0⟩):=by
   apply y4;intro i;rw[Yd,Yd,Yd];by_cases hi:i<g.n.toNat
   .obtain⟨q,hq⟩:=get_some (l:=OU) (i:=i) (by omega);rw[hq,vk hi,Option.map_some,Option.map_some,Option.map_some,hq];rfl
   .rw[Yl (by omega),Yl (by rw[kv];omega)];rfl
  rw[e] at h1;exact h1
 .obtain⟨q,hq⟩:=get_some (l:=OU) (i:=i) (by omega);have h1:=aU hO hi;rw[Yd,hq] at h1;have h2:q.2=aJ (av g.es (i:Nat)):=eP h1;show Rw h 1 ((Option.map Prod.fst OU[i]?).getD ⟨none,0,0⟩) _;rw[hq,<-h2];refine hs.vF (e:=3) ?_ (by omega);unfold rz;refine List.mem_append_left _ (List.mem_append_left _ (List.mem_append_right _ (Yp.2 ⟨q,Yb hq,rfl⟩)))
def vA(g:Gl)(role:Int)(OU:List DC)(FI:List Fs)(LI:List Lm)(AG OW:List Bool):Prop:=
 OU.map Prod.snd=((List.range g.n.toNat).map fun s=>aJ (av g.es (s:Nat)))/\FI.map (fun f=>(f.l,f.b))=((List.range g.n.toNat).map fun s=>(ai g role (s:Nat),aV g role (s:Nat)))/\LI=(List.range g.n.toNat).map (cG g role g.ts)/\AG=(List.range g.n.toNat).map (eG g.es)/\OW=(List.range g.n.toNat).map (eE g.es role)
abbrev aH:Sl:=⟨none,0,0⟩
theorem Hr(es:List Ed)(j s:Nat):(pA es j s).length<=j:=iX (List.length_filter_le _ _) (by rw[kv];exact bu _)
theorem zI(l:List Nat)(j:Nat):aJ (l++[j])=aJ l++[(j:Int)]:=by unfold aJ;rw[Ym];rfl
theorem Lz{g:Gl}{role:Int}{h:Heap}{R:Value->Heap->Prop}(hg:GI h g)(hV:ah g)
  (hK:∀(ab:Nat) (ho bZ bV bx cm cz:Sl) (OU:List DC) (FI:List Fs) (LI:List Lm) (AG OW:List Bool) (h':Heap),St h h' (rz ab h.size g role ho bZ bV bx cm cz OU FI LI AG OW (List.replicate g.n.toNat (aH,[])))->vA g role OU FI LI AG OW->R (.tuple ⟨[.pointer (some ⟨ab,0,none⟩),.int .i64 0]⟩) h') :
  aP g role h R:=by
 intro hF a b c d e hs;unfold A7;have hN:=hV.num.n;have hM:=hV.num.m;have hE:=hV.num.e;have nI:=hg.e.ln;have OT:=hg.t.ln;have EO:=hg.t.sm;have sh:g.n.toNat<=9223372036854775807:=by omega
 refine hs.ao fun km hs=>?_;have hs:=hs.tP 1 rfl g.n.toNat 1 ((List.replicate g.n.toNat aH).map dv) (Cc _) (fun r hr=>by obtain⟨x,_,rfl⟩:=Yp.1 hr;rfl) (by rw[Yc,Yg]) sh;have hs:=hs.tP 2 rfl g.n.toNat 4 ((List.replicate g.n.toNat Gb).map Lm.cs) (HP _) (fun r hr=>by obtain⟨x,_,rfl⟩:=Yp.1 hr;rfl) (by rw[Yc,Yg]) sh;have hs:=hs.tP 3 rfl g.n.toNat 1 ((List.replicate g.n.toNat false).map bC) (HL _) (fun r hr=>by obtain⟨x,_,rfl⟩:=Yp.1 hr;rfl) (by rw[Yc,Yg]) sh;have hs:=hs.tP 4 rfl g.n.toNat 1 ((List.replicate g.n.toNat false).map bC) (HL _) (fun r hr=>by obtain⟨x,_,rfl⟩:=Yp.1 hr;rfl) (by rw[Yc,Yg]) sh;have hs:=hs.tP 5 rfl g.n.toNat 1 ((List.replicate g.n.toNat aH).map dv) (HO _) (fun r hr=>by obtain⟨x,_,rfl⟩:=Yp.1 hr;rfl) (by rw[Yc,Yg]) sh;have hs:=(hs.cn 195 2).perm (List.perm_middle (l₁:=[_,_])).symm;have hs:=hs.kh (α:=gM) (e:=276) (k:=4) (cs:=gM.cs) (A:=[_,_,_,_,_,_,_,_]) (B:=[]) g.n.toNat;rw[Yw] at hs;have hs:=hs.kh (α:=Int) (e:=3) (k:=1) (cs:=aM) (A:=[_,_,_,_,_,_,_,_]) (B:=_) g.n.toNat;generalize hho:(⟨some ⟨a.size,0,none⟩,g.n.toNat,g.n.toNat⟩:Sl)=ho at *;generalize hhl:(⟨some ⟨b.size,0,none⟩,g.n.toNat,g.n.toNat⟩:Sl)=bV at *;generalize hha:(⟨some ⟨c.size,0,none⟩,g.n.toNat,g.n.toNat⟩:Sl)=bx at *;generalize hhw:(⟨some ⟨d.size,0,none⟩,g.n.toNat,g.n.toNat⟩:Sl)=cm at *;generalize hhr:(⟨some ⟨e.size,0,none⟩,g.n.toNat,g.n.toNat⟩:Sl)=cz at *;have hs:St h km (rz hF.size h.size g role ho aH bV bx cm cz (List.replicate g.n.toNat (aH,[])) [] (List.replicate g.n.toNat Gb) (List.replicate g.n.toNat false) (List.replicate g.n.toNat false) (List.replicate g.n.toNat (aH,[]))):=by
  subst hho hhl hha hhw hhr;unfold rz;rw[List.map_replicate (f:=Prod.fst),List.map_replicate (f:=Prod.fst)];exact hs
 clear hho hhl hha hhw hhr;refine⟨g.he,hs.rd 7 rfl (i:=6) rfl,?_⟩;have rr:∀ {α:Type} (f:Nat->α) (z:α),(∀s,f s=z)->List.replicate g.n.toNat z=(List.range g.n.toNat).map f:=fun {α} f z hz=>by
  apply y4;intro s;rw[List.getElem?_replicate];by_cases ki:s<g.n.toNat
  .rw[if_pos ki,dZ f ki,hz]
  .rw[if_neg ki,Yl (by rw[Yc,kv];omega)]
 refine⟨fun x h' μ=>∃(j:Nat) (OU:List DC),x=(j:Int)/\μ=g.es.length-j/\j<=g.es.length/\OU.map Prod.snd=((List.range g.n.toNat).map fun s=>aJ (pA g.es j s)) /\
  St h h' (rz hF.size h.size g role ho aH bV bx cm cz OU [] (List.replicate g.n.toNat Gb) ((List.range g.n.toNat).map (eG (g.es.take j))) ((List.range g.n.toNat).map (eE (g.es.take j) role)) (List.replicate g.n.toNat (aH,[]))),
  ⟨_,0,List.replicate g.n.toNat (aH,[]),rfl,rfl,by omega,?_,?_⟩,?_⟩
 .rw[List.map_replicate];exact rr _ _ fun s=>rfl
 .rw[<-rr (eG (g.es.take 0)) false fun s=>rfl,<-rr (eE (g.es.take 0) role) false fun s=>rfl];exact hs
 clear hs;rintro-_ oJ μ ⟨j,OU,rfl,rfl,hj,hOU,hs⟩;have Pe:OU.length=g.n.toNat:=by have:=congrArg List.length hOU;simpa using this
 refine aQ (fun c1=>?_) (fun c1=>?_)
 .refine (hg.e.rw.ext hs.ext).ax (by omega) (by omega) fun b47 o48 x gx t=>?_;replace gx:g.es[j]?=some x:=gx;have j6:=hE x (Yb gx);unfold fp at j6;have EL:((x.f.toNat:Nat):Int)=x.f:=by omega
  have Gc:x.f.toNat<g.n.toNat:=by omega
  obtain⟨q,hq⟩:=get_some (l:=OU) (i:=x.f.toNat) (by omega);refine⟨_,_,_,_,_,_,t,?_⟩;refine hs.aj (vs:=x.cs) rfl rfl fun jO hs=>?_;refine⟨ho,hs.rd 1 rfl (i:=9) rfl,x.f,hs.rd 0 rfl (i:=0) rfl,ho,hs.rd 1 rfl (i:=9) rfl,x.f,hs.rd 0 rfl (i:=0) rfl,?_⟩;have MZ:=(hs.len 2 (s:=ho) (e:=102) (n:=1) (rows:=(OU.map Prod.fst).map dv) rfl (by omega)).1;rw[Yc,Yc] at MZ;refine (hs.rows 2 rfl (by omega)).ax (by omega) (by omega) fun b61 o62 d gd u=>?_;rw[Yd,hq] at gd;cases gd;refine⟨q.1,u.hd,?_⟩;refine hs.aq fun tw E64 hs=>⟨E64.sm,?_⟩;have ij:q.2=aJ (pA g.es j x.f.toNat):=by
   have h1:=aU hOU Gc;rw[Yd,hq] at h1;exact eP h1
  have Au:q.2.length<=400:=by rw[ij];unfold aJ;rw[Yc];have:=Hr g.es j x.f.toNat;omega
  have hs:St h tw ((.af jO.size (aM (j:Int)) 3 :: .af oJ.size x.cs 67::[.af hF.size (Tb g role ho aH bV bx cm cz) 186,.sl ho 102 1 ((OU.map Prod.fst).map dv),.sl aH 195 2 (([]:List Fs).map Fs.cs),.sl bV 192 4 ((List.replicate g.n.toNat Gb).map Lm.cs),.sl bx 4 1 (((List.range g.n.toNat).map (eG (g.es.take j))).map bC),.sl cm 4 1 (((List.range g.n.toNat).map (eE (g.es.take j) role)).map bC),.sl cz 274 1 (((List.replicate g.n.toNat ((aH,[]):tW)).map Prod.fst).map dv),.af h.size g.cs 27])++OU.map (nest 3 1 aM)++(([]:List Fs).map Pp++(List.replicate g.n.toNat ((aH,[]):tW)).map (nest 276 4 gM.cs))):=hs;have lq:=(hs.kI hq (by omega)).ln;refine hs.iw hq dt (j:Int) (hs.at 0 rfl (o:=0) (n:=1) rfl) rfl rfl (by omega) (by simp only[maxLen];omega) fun r Cy hr eO=>?_;refine⟨bG (hs.same eO 1 1 rfl rfl) (bG (hs.same eO 2 2 rfl rfl) eJ),?_⟩;refine eO.set 3 rfl (by omega) (x:=x.f) (by omega) (by omega) r rfl rfl (fun b67 o68 Uo hs=>?_) rfl;replace hs:=hs.drop 1;have hs:St h Uo (.af oJ.size x.cs 67::rz hF.size h.size g role ho aH bV bx cm cz (OU.set x.f.toNat (r,q.2++[(j:Int)])) [] (List.replicate g.n.toNat Gb) ((List.range g.n.toNat).map (eG (g.es.take j))) ((List.range g.n.toNat).map (eE (g.es.take j) role)) (List.replicate g.n.toNat (aH,[]))):=by
   unfold rz;rw[List.map_set (f:=Prod.fst)];exact hs
  have aeZ:(OU.set x.f.toNat (r,q.2++[(j:Int)])).map Prod.snd=((List.range g.n.toNat).map fun s=>aJ (pA g.es (j+1) s)):=by
   rw[List.map_set,hOU];refine dP Gc ?_ fun s hs=>?_
   .show aJ (pA g.es (j+1) x.f.toNat)=q.2++[(j:Int)];rw[nv gx,if_pos EL.symm,zI,ij]
   .show aJ (pA g.es (j+1) s)=aJ (pA g.es j s);rw[nv gx,if_neg (by omega),Yw]
  generalize OU.set x.f.toNat (r,q.2++[(j:Int)])=OU' at *;have aeS:=(hs.len 5 (s:=bx) (e:=4) (n:=1) (rows:=((List.range g.n.toNat).map (eG (g.es.take j))).map bC) rfl (by omega)).1;rw[Yc,Yc,kv] at aeS;have fin:∀(v:Bool),v=eG (g.es.take (j+1)) x.f.toNat->((List.range g.n.toNat).map (eG (g.es.take j))).set x.f.toNat v=(List.range g.n.toNat).map (eG (g.es.take (j+1))):=fun v hv=>dP Gc hv.symm fun s cj=>by
   rw[nS gx,decide_eq_false (by omega)];simp
  refine⟨bx,hs.rd 1 rfl (i:=12) rfl,x.f,hs.rd 0 rfl (i:=0) rfl,bx,hs.rd 1 rfl (i:=12) rfl,x.f,hs.rd 0 rfl (i:=0) rfl,?_⟩;refine (hs.rows 5 rfl (by omega)).ax (by omega) (by omega) fun b74 o75 d gd u2=>?_;rw[dZ _ Gc] at gd;cases gd;have last:∀ {hZ:Heap},St h hZ (.af oJ.size x.cs 67::rz hF.size h.size g role ho aH bV bx cm cz OU' [] (List.replicate g.n.toNat Gb) ((List.range g.n.toNat).map (eG (g.es.take (j+1)))) ((List.range g.n.toNat).map (eE (g.es.take j) role)) (List.replicate g.n.toNat (aH,[]))) ->
    yA hZ hF oJ (g.es.length-j) (fun x h' μ=>∃(j:Nat) (OU:List DC),x=(j:Int)/\μ=g.es.length-j/\j<=g.es.length/\OU.map Prod.snd=((List.range g.n.toNat).map fun s=>aJ (pA g.es j s))/\St h h' (rz hF.size h.size g role ho aH bV bx cm cz OU [] (List.replicate g.n.toNat Gb) ((List.range g.n.toNat).map (eG (g.es.take j))) ((List.range g.n.toNat).map (eE (g.es.take j) role)) (List.replicate g.n.toNat (aH,[])))) j role:=fun {hZ} hs=>by
   refine Qf gx (by omega) Gc hs fun h' cj=>⟨_,?_,j+1,OU',by rw[bd (by omega) (by omega)];omega,rfl,by omega,aeZ,cj⟩;omega
  refine⟨_,u2.hd,aa (fun c2=>?_) (fun c2=>?_)⟩
  .refine hs.set 5 rfl (by omega) (x:=x.f) (by omega) (by omega) true rfl rfl (fun b77 o78 RH hs=>last ?_) rfl;rw[fin true (by rw[nS gx,c2];rfl)] at hs;exact hs
  .refine⟨x.ag,hs.rd 0 rfl (i:=5) rfl,?_⟩;refine hs.set 5 rfl (by omega) (x:=x.f) (by omega) (by omega) x.ag rfl rfl (fun b97 o98 h99 hs=>last ?_) rfl;rw[fin x.ag (by rw[nS gx,c2,EL,decide_eq_true rfl,Bool.false_or,Bool.true_and])] at hs;exact hs
 .have K5:j=g.es.length:=by omega
  subst K5;rw[vV] at hs;refine⟨g.ht,hs.rd 7 rfl (i:=7) rfl,?_⟩;refine⟨fun x h' μ=>∃j:Nat,x=(j:Int)/\μ=g.ht.n-j/\j<=g.ht.n/\St h h' (rz hF.size h.size g role ho aH bV bx cm cz OU [] ((List.range g.n.toNat).map (cG g role (g.ts.take j))) ((List.range g.n.toNat).map (eG g.es)) ((List.range g.n.toNat).map (eE g.es role)) (List.replicate g.n.toNat (aH,[]))),⟨_,0,rfl,rfl,by omega,?_⟩,?_⟩
  .rw[<-rr (cG g role (g.ts.take 0)) Gb fun s=>rfl];exact hs
  clear hs c1;rintro-_ uX μ ⟨k,rfl,rfl,hk,hs⟩;refine aQ (fun c2=>?_) (fun c2=>?_)
  .refine (hg.t.rw.ext hs.ext).ax (by omega) (by omega) fun ajb ahq t gt u=>?_;replace gt:g.ts[k]?=some t:=gt;have htS:=hV.TH k t gt;obtain⟨Ro,x,hx,EL,_⟩:=htS.e;have Gc:=(Ya.1 hx).1;have j6:=hE x (Yb hx);unfold fp at j6;have hts:t.s.toNat<g.n.toNat:=by omega
   refine⟨t.s,t.k,t.e,u,?_⟩;refine hs.aj (vs:=t.cs) rfl rfl fun RT hs=>?_;refine⟨g.he,hs.rd 8 rfl (i:=6) rfl,t.e,hs.rd 0 rfl (i:=2) rfl,?_⟩;refine (hg.e.rw.ext hs.ext).ax (by omega) (by omega) fun aja ahp x' gx u2=>?_;rw[hx] at gx;cases gx;refine⟨_,_,_,_,_,_,u2,?_⟩;refine (lH ⟨hF.size,0,none⟩ role x RT (hs.rd 1 rfl (i:=8) rfl)).mono ?_;rintro _ xI ⟨E144,rfl⟩;replace hs:=hs.step E144;have aeA:=(hs.len 4 (s:=bV) (e:=192) (n:=4) (rows:=((List.range g.n.toNat).map (cG g role (g.ts.take k))).map Lm.cs) rfl (by omega)).1;rw[Yc,Yc,kv] at aeA;have rest:∀(y:Ev) (hy:(aG role x).getD ZB=y) {hZ:Heap},St h hZ (.af xI.size y.cs 188 :: .af uX.size t.cs 149::rz hF.size h.size g role ho aH bV bx cm cz OU [] ((List.range g.n.toNat).map (cG g role (g.ts.take k))) ((List.range g.n.toNat).map (eG g.es)) ((List.range g.n.toNat).map (eE g.es role)) (List.replicate g.n.toNat (aH,[]))) ->
     (NB bV.a fun SO Qk=>(0<=t.s/\t.s<(bV.n:Nat))/\(jl hZ ⟨SO,Qk+Int.toNat t.s*4,none⟩ 4/\∀IP:Heap,IP=bJ hZ ⟨SO,Qk+Int.toNat t.s*4,none⟩ 0 [.int .i64 t.k,.bool y.send,.int .i64 y.peer,.int .i64 y.label]->(∃Xs,Xs<g.ht.n-k/\∃j:Nat,IntKind.wrap .i64 ((k:Int)+1)=(j:Int)/\Xs=g.ht.n-j/\j<=g.ht.n/\St h IP (rz hF.size h.size g role ho aH bV bx cm cz OU [] ((List.range g.n.toNat).map (cG g role (g.ts.take j))) ((List.range g.n.toNat).map (eG g.es)) ((List.range g.n.toNat).map (eE g.es role)) (List.replicate g.n.toNat (aH,[])))))):=fun y hy {hZ} hs=>by
    refine hs.set 5 rfl (by omega) (x:=t.s) (by omega) (by omega) (⟨t.k,y⟩:Lm) rfl rfl (fun SO Qk IP hs=>⟨_,?_,k+1,by rw[bd (by omega) (by omega)];omega,rfl,by omega,?_⟩) rfl
    .omega
    .have e1:((List.range g.n.toNat).map (cG g role (g.ts.take k))).set t.s.toNat (⟨t.k,y⟩:Lm)=(List.range g.n.toNat).map (cG g role (g.ts.take (k+1))):=by
      refine dP hts ?_ fun s hs=>?_
      .unfold cG;rw[ae gt,List.foldl_append];show (if t.s=((t.s.toNat:Nat):Int) then s9 g role t else _)=_;rw[if_pos (by omega)];unfold s9;rw[aI hx,hy]
      .unfold cG;rw[ae gt,List.foldl_append];show (if t.s=((s:Nat):Int) then s9 g role t else _)=_;rw[if_neg (by omega)]
     rw[e1] at hs;exact hs.drop 2
   cases gW:aG role x with
   | some y=>
    refine⟨y.send,y.peer,y.label,true,rfl,?_⟩;refine hs.aj (vs:=y.cs) rfl rfl fun afn hs=>?_;refine⟨bV,hs.rd 2 rfl (i:=11) rfl,t.s,hs.rd 1 rfl (i:=0) rfl,t.k,hs.rd 1 rfl (i:=1) rfl,y.send,y.peer,y.label,hs.at 0 rfl (o:=0) (n:=3) rfl,?_⟩;exact rest y (by rw[gW];rfl) hs
   | none=>
    refine⟨false,0,0,false,rfl,?_⟩;refine hs.aj (vs:=ZB.cs) rfl rfl fun afn hs=>?_;refine⟨bV,hs.rd 2 rfl (i:=11) rfl,t.s,hs.rd 1 rfl (i:=0) rfl,t.k,hs.rd 1 rfl (i:=1) rfl,false,0,0,hs.at 0 rfl (o:=0) (n:=3) rfl,?_⟩;exact rest ZB (by rw[gW];rfl) hs
  .rw[Yj (by omega)] at hs;refine⟨g.n,hs.rd 7 rfl (i:=3) rfl,?_⟩;refine⟨fun x h' μ=>∃(j:Nat) (bZ:Sl) (FI:List Fs),x=(j:Int)/\μ=g.n.toNat-j/\j<=g.n.toNat/\FI.map (fun f=>(f.l,f.b))=((List.range j).map fun s=>(ai g role (s:Nat),aV g role (s:Nat)))/\St h h' (rz hF.size h.size g role ho bZ bV bx cm cz OU FI ((List.range g.n.toNat).map (cG g role g.ts)) ((List.range g.n.toNat).map (eG g.es)) ((List.range g.n.toNat).map (eE g.es role)) (List.replicate g.n.toNat (aH,[]))),⟨_,0,aH,[],rfl,rfl,Nat.zero_le _,rfl,hs⟩,?_⟩;clear hs c2 hk;rintro-_ h162 μ ⟨k,bZ,FI,rfl,rfl,hk,hFI,hs⟩;have hFl:FI.length=k:=by have:=congrArg List.length hFI;simpa using this
   refine aQ (fun c3=>?_) (fun c3=>?_)
   .refine⟨bZ,hs.rd 0 rfl (i:=10) rfl,?_⟩;have hOG:OU.map Prod.snd=((List.range g.n.toNat).map fun s=>aJ (av g.es (s:Nat))):=hOU;have hG:=PE (R:=[]) (by rw[Yw];exact hs) hg hOG;refine (AF hF.size g role ho _ k h162 hG hV (by omega)).mono ?_;rintro _ RR ⟨r,rfl,bQ⟩;refine⟨r,aV g role (k:Nat),rfl,bQ.ext.sm,?_⟩;have hs:=hs.join bQ;refine hs.aq fun aiJ ags hs=>⟨ags.sm,?_⟩;have fV:=hs.len 3 (s:=bZ) (e:=195) (n:=2) (rows:=FI.map Fs.cs) rfl (by omega);rw[Yc] at fV;refine hs.appended 3 rfl S4 (news:=[Fs.cs ⟨r,ai g role (k:Nat),aV g role (k:Nat)⟩]) (hs.at 0 rfl (o:=0) (n:=2) rfl) rfl (fun q hq=>by rw[Ye] at hq;rw[hq];rfl) rfl (by show (bZ.n+1)*32<=140737488355328;omega) (by show bZ.n+1<=9223372036854775807;omega) fun wx Zf n169 hs=>?_;refine hs.put 1 rfl (o:=10) (vs:=[.slice wx.a wx.n wx.c]) rfl (show 11<=15 by decide) fun aiI hs=>?_;refine⟨_,?_,k+1,wx,FI++[⟨r,ai g role (k:Nat),aV g role (k:Nat)⟩],by rw[bd (by omega) (by omega)];omega,rfl,by omega,by rw[Ym,hFI,List.range_succ,Ym];rfl,?_⟩
    .omega
    .refine (hs.drop 1).perm ?_;unfold rz;rw[Ym (f:=Fs.cs),Ym (f:=Pp)];refine List.Perm.trans (List.Perm.of_eq (l₂:=[.af hF.size (Tb g role ho wx bV bx cm cz) 186,.sl ho 102 1 ((OU.map Prod.fst).map dv),.sl wx 195 2 (FI.map Fs.cs++[⟨r,ai g role (k:Nat),aV g role (k:Nat)⟩].map Fs.cs),.sl bV 192 4 (((List.range g.n.toNat).map (cG g role g.ts)).map Lm.cs),.sl bx 4 1 (((List.range g.n.toNat).map (eG g.es)).map bC),.sl cm 4 1 (((List.range g.n.toNat).map (eE g.es role)).map bC),.sl cz 274 1 (((List.replicate g.n.toNat ((aH,[]):tW)).map Prod.fst).map dv),.af h.size g.cs 27]++OU.map (nest 3 1 aM)++((FI.map Pp++(List.replicate g.n.toNat ((aH,[]):tW)).map (nest 276 4 gM.cs))++[.sl r 188 3 ((ai g role (k:Nat)).map Ev.cs)])) ?_) (List.Perm.append_left _ ?_)
     .exact Yz ([.af hF.size (Tb g role ho wx bV bx cm cz) 186,.sl ho 102 1 ((OU.map Prod.fst).map dv),.sl wx 195 2 (FI.map Fs.cs++[⟨r,ai g role (k:Nat),aV g role (k:Nat)⟩].map Fs.cs),.sl bV 192 4 (((List.range g.n.toNat).map (cG g role g.ts)).map Lm.cs),.sl bx 4 1 (((List.range g.n.toNat).map (eG g.es)).map bC),.sl cm 4 1 (((List.range g.n.toNat).map (eE g.es role)).map bC),.sl cz 274 1 (((List.replicate g.n.toNat ((aH,[]):tW)).map Prod.fst).map dv),.af h.size g.cs 27]++OU.map (nest 3 1 aM)) (FI.map Pp++(List.replicate g.n.toNat ((aH,[]):tW)).map (nest 276 4 gM.cs)) [.sl r 188 3 ((ai g role (k:Nat)).map Ev.cs)]
     .rw[Yz,Yz];exact List.Perm.append_left _ List.perm_append_comm
   .have O6:k=g.n.toNat:=by omega
    subst O6;exact hK hF.size ho bZ bV bx cm cz OU FI _ _ _ h162 hs ⟨hOU,hFI,rfl,rfl,rfl⟩
theorem k6(g:Gl)(role:Int)(h:Heap)(hg:GI h g)(hx:Gm h):
  Fn Pz 49 #[g.v,.int .i64 role] h fun v h'=>(¬(ah g/\0<=role/\role<g.rs.length)/\v=.tuple ⟨[.pointer none,.int .i64 1]⟩/\Ext h h') \/
   ((ah g/\0<=role/\role<g.rs.length)/\∃(ab:Nat) (ho bZ bV bx cm cz:Sl) (OU:List DC) (FI:List Fs) (LI:List Lm) (AG OW:List Bool),v=.tuple ⟨[.pointer (some ⟨ab,0,none⟩),.int .i64 0]⟩/\St h h' (rz ab h.size g role ho bZ bV bx cm cz OU FI LI AG OW (List.replicate g.n.toNat (aH,[])))/\vA g role OU FI LI AG OW):=by
 apply adl (bs g.nm) g.hr g.hd g.n g.s g.e g.he g.ht role;unfold W49;have l8:=hg.r.ln;refine (St.refl h).ao fun h9 hs=>?_;refine⟨_,_,_,_,_,_,_,_,hs.at 0 rfl (n:=8) rfl,?_⟩;refine (pK g h9 (hg.ext hs.ext) (hx.ext hs.ext)).mono ?_;rintro _ az ⟨rfl,E20⟩;replace hs:=hs.step E20;refine⟨_,rfl,?_⟩;by_cases hV:ah g
 .rw[decide_eq_true hV];refine im rfl ?_;refine aQ (fun c=>.inl ⟨fun h=>by omega,rfl,hs.ext⟩) (fun c1=>?_);refine⟨g.hr,hs.rd 0 rfl (i:=1) rfl,aQ (fun c=>.inl ⟨fun h=>by omega,rfl,hs.ext⟩) (fun c2=>?_)⟩;have hN:=hV.num.n;refine⟨_,_,_,_,_,_,_,_,hs.at 0 rfl (n:=8) rfl,g.n,hs.rd 0 rfl (i:=3) rfl,g.n,hs.rd 0 rfl (i:=3) rfl,g.n,hs.rd 0 rfl (i:=3) rfl,g.n,hs.rd 0 rfl (i:=3) rfl,g.n,hs.rd 0 rfl (i:=3) rfl,?_⟩;have hT:aP g role h fun v h'=>(¬(ah g/\0<=role/\role<g.rs.length)/\v=.tuple ⟨[.pointer none,.int .i64 1]⟩/\Ext h h') \/
   ((ah g/\0<=role/\role<g.rs.length)/\∃(ab:Nat) (ho bZ bV bx cm cz:Sl) (OU:List DC) (FI:List Fs) (LI:List Lm) (AG OW:List Bool),v=.tuple ⟨[.pointer (some ⟨ab,0,none⟩),.int .i64 0]⟩/\St h h' (rz ab h.size g role ho bZ bV bx cm cz OU FI LI AG OW (List.replicate g.n.toNat (aH,[])))/\vA g role OU FI LI AG OW):=
   Lz hg hV fun ab ho bZ bV bx cm cz OU FI LI AG OW h' hs Ge=>.inr ⟨⟨hV,by omega,by omega⟩,ab,ho,bZ,bV,bx,cm,cz,OU,FI,LI,AG,OW,rfl,hs,Ge⟩
  have hn:1<=g.n/\g.n<=200:=⟨by omega,by omega⟩;exact⟨Mo hT hn hs,Mn hT hn hs,Mm hT hn hs,Ml hT hn hs,Mj hT hn hs⟩
 .rw[decide_eq_false hV];refine gR rfl (.inl ⟨fun h=>hV h.1,rfl,hs.ext⟩)
def jz(g:Gl)(i:Nat)(m:Ms):gM:=⟨(i:Int),1+((iu g i m).length:Int),m⟩
def vg(g:Gl)(i:Nat)(l:List Ms):List gM:=(l.filter fun m=>decide (m.p≠(eA g.es i).a)).map (jz g i)
def iU(g:Gl)(role:Int)(i:Nat):List gM:=if (eA g.es i).b=role then vg g i (ey g i) else []
def dq(g:Gl)(role:Int)(s:Nat):List gM:=(av g.es (s:Nat)).flatMap (iU g role)
theorem ru{g:Gl}{i:Nat}{l:List Ms}{k:Nat}{m:Ms}(hm:l[k]?=some m):vg g i (l.take (k+1))=vg g i (l.take k)++(if m.p≠(eA g.es i).a then [jz g i m] else []):=by
 unfold vg;rw[ae hm,List.filter_append,Ym];congr 1;by_cases e:m.p≠(eA g.es i).a
 .rw[if_pos e,List.filter_cons_of_pos (by rw[decide_eq_true e])];rfl
 .rw[if_neg e,List.filter_cons_of_neg (by rw[decide_eq_false e];decide)];rfl
def rN(ab gb:Nat)(g:Gl)(role:Int)(ho bZ bV bx cm cz:Sl)(OU:List DC)(FI:List Fs)(LI:List Lm)(AG OW:List Bool)(AR:List tW)(R:List It):List It:=
 ([.af ab (Tb g role ho bZ bV bx cm cz) 186,.sl ho 102 1 ((OU.map Prod.fst).map dv),.sl bZ 195 2 (FI.map Fs.cs),.sl bV 192 4 (LI.map Lm.cs),.sl bx 4 1 (AG.map bC),.sl cm 4 1 (OW.map bC),.sl cz 274 1 ((AR.map Prod.fst).map dv),.af gb g.cs 27]++OU.map (nest 3 1 aM)++FI.map Pp)++AR.map (nest 276 4 gM.cs)++R
theorem A4(ab gb:Nat)(g:Gl)(role:Int)(ho bZ bV bx cm cz:Sl)(OU:List DC)(FI:List Fs)(LI:List Lm)(AG OW:List Bool)(AR:List tW)(R:List It):rN ab gb g role ho bZ bV bx cm cz OU FI LI AG OW AR R=rz ab gb g role ho bZ bV bx cm cz OU FI LI AG OW AR++R:=by
 unfold rN rz;simp only[Yz]
structure N4 (g:Gl) (role:Int) (f:Nat->List gM) (AR:List tW):Prop where
 l:AR.map Prod.snd=(List.range g.n.toNat).map f
 b:∀q∈AR,∀x∈q.2,0<x.n/\x.n<=1048577
theorem N4.len{g:Gl}{role:Int}{f:Nat->List gM}{AR:List tW}(h:N4 g role f AR):AR.length=g.n.toNat:=by have:=congrArg List.length h.l;simpa using this
theorem xZ{h0 h:Heap}{ab gb:Nat}{g:Gl}{role:Int}{ho bZ bV bx cm cz:Sl}{OU:List DC}{FI:List Fs}{LI:List Lm}{AG OW:List Bool}{R:List It}(hs:St h0 h (rN ab gb g role ho bZ bV bx cm cz OU FI LI AG OW (List.replicate g.n.toNat (aH,[])) R))(hg:GI h0 g)(hx:Gm h0)(hV:ah g)
  (hO:OU.map Prod.snd=(List.range g.n.toNat).map fun s=>aJ (av g.es (s:Nat))) :
  Fn Pz 82 #[.pointer (some ⟨ab,0,none⟩)] h fun v h'=>v=.tuple ⟨[]⟩/\∃AR:List tW,St h0 h' (rN ab gb g role ho bZ bV bx cm cz OU FI LI AG OW AR R)/\N4 g role (dq g role) AR/\∀q∈AR,q.2.length<=160000:=by
 apply acQ ⟨ab,0,none⟩;unfold W82;have hN:=hV.num.n;have hM:=hV.num.m;have hE:=hV.num.e;have nI:=hg.e.ln;have Pe:OU.length=g.n.toNat:=by have:=congrArg List.length hO;simpa using this
 refine⟨g.n,hs.rd 0 rfl (i:=3) rfl,?_⟩;refine⟨fun x h' μ=>∃(s:Nat) (AR:List tW),x=(s:Int)/\μ=g.n.toNat-s/\s<=g.n.toNat/\St h0 h' (rN ab gb g role ho bZ bV bx cm cz OU FI LI AG OW AR R)/\N4 g role (fun t=>if t<s then dq g role t else []) AR/\∀q∈AR,q.2.length<=160000,⟨_,0,_,rfl,rfl,Nat.zero_le _,hs,⟨?_,fun q hq x hx=>?_⟩,fun q hq=>?_⟩,?_⟩
 .rw[List.map_replicate];apply y4;intro s;rw[List.getElem?_replicate,Yd];by_cases hs:s<g.n.toNat
  .rw[if_pos hs,vk hs];rfl
  .rw[if_neg hs,Yl (by rw[kv];omega)];rfl
 .rw[List.eq_of_mem_replicate hq] at hx;cases hx
 .rw[List.eq_of_mem_replicate hq];exact Nat.zero_le _
 clear hs;rintro-_ h6 μ ⟨s,AR,rfl,rfl,ki,hs,mg,nK⟩;refine aQ (fun c=>?_) (fun c=>?_)
 .obtain⟨qo,XO⟩:=get_some (l:=OU) (i:=s) (by omega);have XN:qo.2=aJ (av g.es (s:Nat)):=by
   have h1:=aU hO (s:=s) (by omega);rw[Yd,XO] at h1;exact eP h1
  have xy:=ef g.es (s:Nat);have Ri:=(hs.len 1 (s:=ho) (e:=102) (n:=1) (rows:=(OU.map Prod.fst).map dv) rfl (by omega)).1;rw[Yc,Yc] at Ri;refine⟨ho,hs.rd 0 rfl (i:=9) rfl,?_⟩;refine (hs.rows 1 rfl (by omega)).ax (by omega) (by omega) fun b8 o9 d gd u=>?_;replace gd:(OU.map Prod.fst)[s]?=some d:=gd;rw[Yd,XO] at gd;cases gd;refine⟨qo.1,u.hd,?_⟩;have dh:∀ {AR F},.sl qo.1 3 1 (qo.2.map aM)∈(F++rN ab gb g role ho bZ bV bx cm cz OU FI LI AG OW AR R:List It):=fun {AR F}=>by
   refine List.mem_append_right _ ?_;unfold rN;refine List.mem_append_left _ (List.mem_append_left _ (List.mem_append_left _ (List.mem_append_right _ (Yp.2 ⟨qo,Yb XO,rfl⟩))))
  have XL:Rw h6 1 qo.1 (qo.2.map aM):=hs.vF (dh (F:=[])) (by omega);have lq:qo.1.n=(av g.es (s:Nat)).length:=by have:=XL.1;rw[Yc,XN] at this;rw[this];exact Yc _
  clear XL;refine⟨fun x h' μ=>∃(j:Nat) (AR:List tW),x=(j:Int)/\μ=qo.1.n-j/\j<=qo.1.n/\St h0 h' (rN ab gb g role ho bZ bV bx cm cz OU FI LI AG OW AR R)/\N4 g role (fun t=>if t<s then dq g role t else if t=s then ((av g.es (s:Nat)).take j).flatMap (iU g role) else []) AR/\(∀q∈AR,q.2.length<=160000)/\(((av g.es (s:Nat)).take j).flatMap (iU g role)).length<=400*j,⟨_,0,AR,rfl,rfl,Nat.zero_le _,hs,?_,nK,Nat.zero_le _⟩,?_⟩
  .refine⟨?_,mg.b⟩;rw[mg.l];apply List.map_congr_left;intro t _;by_cases e1:t<s
   .rw[if_pos e1,if_pos e1]
   .rw[if_neg e1,if_neg e1];by_cases e2:t=s
    .rw[if_pos e2];rfl
    .rw[if_neg e2]
  clear hs mg nK;rintro-_ tD μ ⟨j,AR,rfl,rfl,hj,hs,mg,nK,Cp⟩;have iy:Rw tD 1 qo.1 (qo.2.map aM):=hs.vF (dh (F:=[])) (by omega);refine aQ (fun c2=>?_) (fun c2=>?_)
  .refine iy.ax (by omega) (by omega) fun b16 o17 d gd u2=>?_;rw[XN] at gd;obtain⟨k,hk,rfl⟩:=cZ gd;replace hk:(av g.es (s:Nat))[j]?=some k:=hk;obtain⟨x0,kL,EL⟩:=ay.1 (Yb hk);have nH:=(Ya.1 kL).1;have j6:=aI kL;have Om:∀ {AR':List tW},N4 g role (fun t=>if t<s then dq g role t else if t=s then ((av g.es (s:Nat)).take j).flatMap (iU g role)++iU g role k else []) AR'->N4 g role (fun t=>if t<s then dq g role t else if t=s then ((av g.es (s:Nat)).take (j+1)).flatMap (iU g role) else []) AR':=fun {AR'} h9=>by
    rw[ae hk,List.flatMap_append,List.flatMap_singleton];exact h9
   refine⟨(k:Int),u2.hd,g.he,hs.rd 0 rfl (i:=6) rfl,?_⟩;refine (hg.e.rw.ext hs.ext).ax (by omega) (by omega) fun b20 o21 x gx u3=>?_;replace gx:g.es[k]?=some x:=gx;rw[kL] at gx;cases gx;refine⟨x0.b,u3.nth 2 rfl,role,hs.rd 0 rfl (i:=8) rfl,dY (fun c3=>?_) (fun c3=>?_)⟩
   .have e1:iU g role k=[]:=by unfold iU;rw[j6,if_neg c3]
    refine⟨_,?_,j+1,AR,by rw[bd (by omega) (by omega)];omega,rfl,by omega,hs,Om (by rw[e1,Yw];exact mg),nK,?_⟩
    .omega
    .rw[ae hk,List.flatMap_append,List.flatMap_singleton,e1,Yw];omega
   .have e1:iU g role k=vg g k (ey g k):=by unfold iU;rw[j6,if_pos c3]
    refine⟨_,_,_,_,_,_,_,_,hs.at 0 rfl (o:=0) (n:=8) rfl,?_⟩;refine (Jh g k x0 tD (hg.ext hs.ext) (hx.ext hs.ext) hV kL).mono ?_;rintro _ fO ⟨E36,sl,rfl,QX,Uh⟩;replace hs:=(hs.join QX).perm (List.perm_append_comm (l₁:=rN ab gb g role ho bZ bV bx cm cz OU FI LI AG OW AR R) (l₂:=[_]));refine⟨sl,0,rfl,?_⟩;refine⟨fun x h' μ=>∃(l:Nat) (AR:List tW),x=(l:Int)/\μ=sl.n-l/\l<=sl.n/\St h0 h' (.sl sl 72 2 ((ey g k).map Ms.cs)::rN ab gb g role ho bZ bV bx cm cz OU FI LI AG OW AR R)/\N4 g role (fun t=>if t<s then dq g role t else if t=s then ((av g.es (s:Nat)).take j).flatMap (iU g role)++vg g k ((ey g k).take l) else []) AR/\(∀q∈AR,q.2.length<=160000)/\(vg g k ((ey g k).take l)).length<=l,⟨_,0,AR,rfl,rfl,Nat.zero_le _,hs,?_,nK,Nat.zero_le _⟩,?_⟩
    .have:vg g k ((ey g k).take 0)=[]:=rfl;rw[this,Yw];exact mg
    clear hs mg nK iy;rintro-_ Nh μ ⟨l,AR,rfl,rfl,hl,hs,mg,nK,Gh⟩;have kM:=(hs.len 0 (s:=sl) (e:=72) (n:=2) (rows:=(ey g k).map Ms.cs) rfl (by omega)).1;rw[Yc] at kM;refine aQ (fun c4=>?_) (fun c4=>?_)
    .refine (hs.rows 0 rfl (by omega)).ax (by omega) (by omega) fun b42 o43 m gm u4=>?_;replace gm:(ey g k)[l]?=some m:=gm;have EZ:=Yb gm;refine⟨m.p,m.l,u4,?_⟩;refine hs.aj (vs:=m.cs) rfl rfl fun mO hs=>?_;refine⟨m.p,hs.rd 0 rfl (i:=0) rfl,g.he,hs.rd 2 rfl (i:=6) rfl,?_⟩;refine (hg.e.rw.ext hs.ext).ax (by omega) (by omega) fun b50 o51 x gx u5=>?_;replace gx:g.es[k]?=some x:=gx;rw[kL] at gx;cases gx;refine⟨x0.a,u5.nth 1 rfl,eS (fun c5=>?_) (fun c5=>?_)⟩
     .have e2:vg g k ((ey g k).take (l+1))=vg g k ((ey g k).take l):=by rw[ru gm,if_neg (by rw[j6];exact fun h9=>h9 c5),Yw]
      refine⟨_,?_,l+1,AR,by rw[bd (by omega) (by omega)];omega,rfl,by omega,hs.drop 1,by rw[e2];exact mg,nK,by rw[e2];omega⟩;omega
     .have e2:vg g k ((ey g k).take (l+1))=vg g k ((ey g k).take l)++[jz g k m]:=by rw[ru gm,if_pos (by rw[j6];exact c5)]
      refine⟨_,_,_,_,_,_,_,_,hs.at 2 rfl (o:=0) (n:=8) rfl,m.p,m.l,hs.at 0 rfl (o:=0) (n:=2) rfl,?_⟩;refine (Bw g k x0 m mO (hg.ext hs.ext) (hx.ext hs.ext) hV kL EZ).mono ?_;rintro _ IH ⟨E67,sp,rfl,Ge,rK⟩;replace hs:=hs.step E67;have H8:=(Ge.len 0 (s:=sp) (e:=65) (n:=3) rfl (by omega)).1;rw[Yc] at H8;have Za:=mg.len;obtain⟨q,hq⟩:=get_some (l:=AR) (i:=s) (by omega);have ij:q.2=((av g.es (s:Nat)).take j).flatMap (iU g role)++vg g k ((ey g k).take l):=by
       have h1:=aU mg.l (s:=s) (by omega);rw[Yd,hq,if_neg (by omega),if_pos rfl] at h1;exact eP h1
      have Au:q.2.length<=400*j+l:=by rw[ij,Yh];omega
      have YD:=(hs.len 8 (s:=cz) (e:=274) (n:=1) (rows:=(AR.map Prod.fst).map dv) rfl (by omega)).1;rw[Yc,Yc] at YD;refine⟨sp,0,rfl,cz,hs.rd 2 rfl (i:=14) rfl,cz,hs.rd 2 rfl (i:=14) rfl,?_⟩;refine (hs.rows 8 rfl (by omega)).ax (by omega) (by omega) fun b70 o71 d gd u6=>?_;replace gd:(AR.map Prod.fst)[s]?=some d:=gd;rw[Yd,hq] at gd;cases gd;refine⟨q.1,u6.hd,m.p,m.l,hs.at 0 rfl (o:=0) (n:=2) rfl,?_⟩;have hw:IntKind.wrap .i64 (1+(sp.n:Int))=1+((iu g k m).length:Int):=by rw[bd (by omega) (by omega),H8]
      rw[hw];refine hs.aq fun js E75 hs=>⟨E75.sm,?_⟩;have hs:St h0 js ((.af IH.size (jz g k m).cs 276 :: .af Nh.size m.cs 72 :: .sl sl 72 2 ((ey g k).map Ms.cs)::([.af ab (Tb g role ho bZ bV bx cm cz) 186,.sl ho 102 1 ((OU.map Prod.fst).map dv),.sl bZ 195 2 (FI.map Fs.cs),.sl bV 192 4 (LI.map Lm.cs),.sl bx 4 1 (AG.map bC),.sl cm 4 1 (OW.map bC),.sl cz 274 1 ((AR.map Prod.fst).map dv),.af gb g.cs 27]++OU.map (nest 3 1 aM)++FI.map Pp))++AR.map (nest 276 4 gM.cs)++R):=hs;have lq:=(hs.kI hq (by omega)).ln;refine hs.iw hq SZ (jz g k m) (hs.at 0 rfl (o:=0) (n:=4) rfl) rfl rfl (by omega) (by simp only[maxLen];omega) fun r h77 hr eO=>⟨?_,?_⟩
      .exact bG (hs.same eO 3 3 rfl rfl) eJ
      .refine eO.set 9 rfl (by omega) (x:=(s:Int)) (by omega) (by omega) r rfl rfl (fun NO OC h80 hs=>?_) rfl;refine⟨_,?_,l+1,AR.set s (r,q.2++[jz g k m]),by rw[bd (by omega) (by omega)];omega,rfl,by omega,?_,⟨?_,fun q' gX x vH=>?_⟩,fun q' gX=>?_,by rw[e2,Yh,Yv];omega⟩
       .omega
       .have hs:=hs.drop 2;unfold rN;rw[List.map_set (f:=Prod.fst)];exact hs
       .rw[List.map_set,mg.l];refine dP (by omega) ?_ fun t ht=>?_
        .simp only[Nat.lt_irrefl,if_false,if_true];rw[e2,ij,Yz]
        .show (if t<s then dq g role t else if t=s then _ else _)=(if t<s then dq g role t else if t=s then _ else _);by_cases e3:t<s
         .rw[if_pos e3,if_pos e3]
         .rw[if_neg e3,if_neg e3,if_neg ht,if_neg ht]
       .rcases List.mem_or_eq_of_mem_set gX with gX | rfl
        .exact mg.b q' gX x vH
        .rcases Yk.1 vH with vH | vH
         .exact mg.b q (Yb hq) x vH
         .rw[Ye] at vH;subst vH;show 0<1+((iu g k m).length:Int)/\1+((iu g k m).length:Int)<=1048577;omega
       .rcases List.mem_or_eq_of_mem_set gX with gX | rfl
        .exact nK q' gX
        .show (q.2++[jz g k m]).length<=160000;rw[Yh,Yv];omega
    .rw[Yj (l:=ey g k) (by omega)] at mg Gh;refine⟨_,?_,j+1,AR,by rw[bd (by omega) (by omega)];omega,rfl,by omega,hs.drop 1,Om (by rw[e1];exact mg),nK,?_⟩
     .omega
     .rw[ae hk,List.flatMap_append,List.flatMap_singleton,Yh,e1];omega
  .rw[Yj (by omega)] at mg;refine⟨_,?_,s+1,AR,by rw[bd (by omega) (by omega)];omega,rfl,by omega,hs,⟨?_,mg.b⟩,nK⟩
   .omega
   .rw[mg.l];apply List.map_congr_left;intro t _;by_cases e1:t<s
    .rw[if_pos e1,if_pos (by omega)]
    .rw[if_neg e1];by_cases e2:t=s
     .subst e2;rw[if_pos rfl,if_pos (by omega)];rfl
     .rw[if_neg e2,if_neg (by omega)]
 .refine⟨rfl,AR,hs,⟨?_,mg.b⟩,nK⟩;rw[mg.l];apply List.map_congr_left;intro t ht;rw[List.mem_range] at ht;rw[if_pos (by omega)]
def bh:Int:=1073741824
def dO(O:List (Pr × Nat))(p:Pr):Int:=(aW O p).elim bh fun k=>(k:Int)
theorem CT(ob:Nat)(O:List (Pr × Nat))(p:Pr)(h:Heap)(hm:It.ok h (.mp ob (O.map fun q=>(pV q.1,pD q.2))))(hk:∀q∈O,eW q.1)(hn:(O.map Prod.fst).Nodup)(hp:eW p):
  Fn Pz 165 #[.map (some ob),.agg ⟨pC p⟩] h fun v h'=>v=.int .i64 (dO O p)/\Ext h h':=by
 apply V8 (some ob) (p.1:Nat) (p.2:Nat);unfold abo;refine (St.refl h).ao fun h3 hs=>?_;refine⟨_,_,hs.at 0 rfl (o:=0) (n:=2) rfl,?_⟩;refine uI (a:=p) KI (hm.cr fun b hb=>hs.ext.2 b (hm.lt hb)) hk hn hp true ?_;unfold dO;generalize aW O p=o;cases o with
 | none=>exact⟨0,false,rfl,rfl,hs.ext⟩
 | some k=>exact⟨(k:Int),true,rfl,rfl,hs.ext⟩
def Ep(D:Pr->Int)(p:Pr)(m:bj):Bool:=decide ((cq m:Int)+D (bD m)=D p)
theorem Sp(ob:Nat)(O:List (Pr × Nat))(m:bj)(p:Pr)(c0 c1:Addr)(h:Heap)(iA:hc h c0=some (.map (some ob)))(rL:aY h c1 (pC p))(hm:It.ok h (.mp ob (O.map fun q=>(pV q.1,pD q.2))))(hk:∀q∈O,eW q.1)(hn:(O.map Prod.fst).Nodup)(hp:eW p)(hq:eW (bD m))(e1:((bD m).1:Int)=m.s)(e2:((bD m).2:Int)=m.t)(hb:0<=dO O (bD m)/\dO O (bD m)<=bh):
  Fn Pz 168 #[.agg ⟨m.cs⟩,.pointer (some c0),.pointer (some c1)] h fun v h'=>v=.bool (Ep (dO O) p m)/\Ext h h':=by
 apply V5 m.x m.y m.s m.t c0 c1;unfold abl;have hpc:pC (bD m)=[.int .i64 m.s,.int .i64 m.t]:=by unfold pC;rw[e1,e2]
 have rK:=ee m;unfold bh at hb;refine (St.refl h).ao fun h5 hs=>?_;refine⟨_,_,_,_,hs.at 0 rfl (o:=0) (n:=4) rfl,some ob,aw hs.ext iA,_,_,hs.at 0 rfl (o:=2) (n:=2) rfl,some ob,aw hs.ext iA,_,_,dE hs.ext rL,?_⟩;refine (qI m.x m.y m.s m.t h5).mono ?_;rintro _ gJ ⟨rfl,E1⟩;replace hs:=hs.step E1;refine⟨_,rfl,E1.sm,?_⟩;have IM:=CT ob O (bD m) gJ (hm.cr fun b hb=>hs.ext.2 b (hm.lt hb)) hk hn hq;rw[hpc] at IM;refine IM.mono ?_;rintro _ ko ⟨rfl,E2⟩;replace hs:=hs.step E2;refine⟨_,rfl,E2.sm,?_⟩;refine (CT ob O p ko (hm.cr fun b hb=>hs.ext.2 b (hm.lt hb)) hk hn hp).mono ?_;rintro _ Fm ⟨rfl,E3⟩;replace hs:=hs.step E3;refine⟨_,rfl,E3.sm,?_,hs.ext⟩;have hw:(if 0<=m.x/\0<=m.y then (2:Int) else 1)=(cq m:Int):=by unfold cq;split<;>rfl
 rw[hw,bd (by omega) (by omega)];unfold Ep;congr 1
theorem SB:aF Pz 168=true:=by kernel_rfl
theorem HX(ob:Nat)(O:List (Pr × Nat))(L:List bj)(p:Pr)(c0 c1:Addr)(s:Sl)(h:Heap)(hr:Rw h 4 s (L.map bj.cs))(hl:L.length<=16777216)(iA:hc h c0=some (.map (some ob)))(rL:aY h c1 (pC p))(hm:It.ok h (.mp ob (O.map fun q=>(pV q.1,pD q.2))))(hk:∀q∈O,eW q.1)(hn:(O.map Prod.fst).Nodup)(hp:eW p)
  (hL:∀m∈L,eW (bD m)/\((bD m).1:Int)=m.s/\((bD m).2:Int)=m.t/\0<=dO O (bD m)/\dO O (bD m)<=bh) :
  Fn Pz 167 #[.slice s.a s.n s.c,.func (.func 168) #[] #[.pointer (some c0),.pointer (some c1)]] h fun v h'=>v=.int .i64 (uO (Ep (dO O) p) L)/\Ext h h':=by
 apply V6;unfold abm;have hn9:=hr.1;rw[Yc] at hn9;refine⟨fun x h' μ=>∃i:Nat,x=i/\μ=s.n-i/\i<=s.n/\Ext h h'/\∀(j:Nat) (y:bj),j<i->L[j]?=some y->Ep (dO O) p y=false,⟨_,0,rfl,rfl,Nat.zero_le _,.jg,fun j y hj=>by omega⟩,?_⟩;rintro-_ h5 μ ⟨i,rfl,rfl,hi,E,hd⟩;refine aQ (fun c=>?_) (fun c=>?_)
 .refine (hr.ext E).ax (by omega) (by omega) fun b6 o7 q g t=>?_;replace g:L[i]?=some q:=g;obtain⟨q1,q2,q3,q4⟩:=hL q (Yb g);refine⟨q.x,q.y,q.s,q.t,t,?_⟩;show cond (aF Pz 168) _ _;rw[SB,cond_true];refine (Sp ob O q p c0 c1 h5 (aw E iA) (dE E rL) (hm.cr fun b hb=>E.2 b (hm.lt hb)) hk hn hp q1 q2 q3 q4).mono ?_;rintro _ fx ⟨rfl,E2⟩;refine⟨_,rfl,aa (fun c1=>⟨?_,E.trans E2⟩) (fun c1=>⟨_,by omega,i+1,by rw[bd (by omega) (by omega)];omega,rfl,by omega,E.trans E2,fun j y hj hy=>?_⟩)⟩
  .unfold uO;rw[qN hd g c1]
  .by_cases e1:j=i
   .subst e1;rw[g] at hy;cases hy;exact c1
   .exact hd j y (by omega) hy
 .refine⟨?_,E⟩;unfold uO;rw[Cd fun j y hj=>hd j y (by have:=(Ya.1 hj).1;omega) hj]
structure DE where
 r:Int
 s:Bool
 p:Int
 l:Int
 deriving DecidableEq
def DE.cs(x:DE):List Value:=[.int .i64 x.r,.bool x.s,.int .i64 x.p,.int .i64 x.l,.slice none 0 0]
def dy:DE:=⟨0,false,0,0⟩
structure Wt where
 k:Int
 r:Int
 f:Sl
 s:Sl
 e:DE
 o:DE
def Wt.cs(w:Wt):List Value:=[.int .i64 w.k,.int .i64 w.r,.slice w.f.a w.f.n w.f.c,.slice w.s.a w.s.n w.s.c,.int .i64 w.e.r,.bool w.e.s,.int .i64 w.e.p,.int .i64 w.e.l,.slice none 0 0,.int .i64 w.o.r,.bool w.o.s,.int .i64 w.o.p,.int .i64 w.o.l,.slice none 0 0]
def fc:Wt:=⟨0,0,aH,aH,dy,dy⟩
def ba(role:Int)(x:Ev):DE:=⟨role,x.send,x.peer,x.label⟩
theorem mq(b:Nat)(role:Int)(x:Ev)(h:Heap)(Ci:hc h ⟨b,8,none⟩=some (.int .i64 role)):Fn Pz 171 #[.pointer (some ⟨b,0,none⟩),.agg ⟨x.cs⟩] h fun v h'=>Ext h h'/\v=.agg ⟨(ba role x).cs⟩:=by
 apply VZ ⟨b,0,none⟩ x.send x.peer x.label;unfold abi;refine (St.refl h).ao fun h4 hs=>?_;refine hs.ao fun h5 hs=>?_;refine⟨role,aw hs.ext Ci,x.send,hs.rd 1 rfl (i:=0) rfl,x.peer,hs.rd 1 rfl (i:=1) rfl,x.label,hs.rd 1 rfl (i:=2) rfl,?_⟩;refine hs.put 0 rfl (o:=0) (vs:=(ba role x).cs) rfl (bu 5) fun cw hs=>?_;exact⟨_,_,_,_,aH,hs.at 0 rfl (o:=0) (n:=5) rfl,hs.ext,rfl⟩
inductive pJ (mv:Pr->List bj) (a7:Pr->Option Int) (D:Pr->Int) (p0:Pr):List bj->Pr->Prop
 | nil:pJ mv a7 D p0 [] p0
 | snoc {ms:List bj} {p:Pr} {m:bj} {k:Nat}:pJ mv a7 D p0 ms p->a7 p≠some (D p)->(mv p).findIdx? (Ep D p)=some k->(mv p)[k]?=some m->pJ mv a7 D p0 (ms++[m]) (bD m)
def facts(g:Gl)(ms:List bj):List Ac:=ms.flatMap fun m=>if 0<=m.x then [(eA g.es m.x.toNat).act] else []
def gh(g:Gl)(ms:List bj):List Ac:=ms.flatMap fun m=>if 0<=m.y then [(eA g.es m.y.toNat).act] else []
theorem AH(g:Gl)(ms:List bj)(m:bj):facts g (ms++[m])=facts g ms++if 0<=m.x then [(eA g.es m.x.toNat).act] else []:=by
 unfold facts;rw[List.flatMap_append,List.flatMap_singleton]
theorem zh(g:Gl)(ms:List bj)(m:bj):gh g (ms++[m])=gh g ms++if 0<=m.y then [(eA g.es m.y.toNat).act] else []:=by
 unfold gh;rw[List.flatMap_append,List.flatMap_singleton]
theorem Fu(g:Gl)(ms:List bj):(facts g ms).length<=ms.length:=by
 induction ms with
 | nil=>exact Nat.zero_le _
 | cons a l ih=>
  unfold facts at *;rw[List.flatMap_cons,Yh,jC];split<;>simp only[Yv,List.length_nil]<;>omega
theorem DW(g:Gl)(ms:List bj):(gh g ms).length<=ms.length:=by
 induction ms with
 | nil=>exact Nat.zero_le _
 | cons a l ih=>
  unfold gh at *;rw[List.flatMap_cons,Yh,jC];split<;>simp only[Yv,List.length_nil]<;>omega
theorem Mr{g:Gl}{role:Int}{s t:Nat}{m:bj}(hm:m∈bP g.es role s t):(0<=m.x->m.x.toNat<g.es.length)/\(0<=m.y->m.y.toNat<g.es.length):=by
 have hE:∀ {k:Nat} {s:Int},k∈av g.es s->k<g.es.length:=fun {k s} hk=>by
  obtain⟨x,hx,_⟩:=ay.1 hk;exact (Ya.1 hx).1
 unfold bP at hm;rcases Yk.1 hm with hm | hm
 .rcases Yk.1 hm with hm | hm
  .obtain⟨k,hk,rfl⟩:=Yp.1 hm;have:=hE (List.mem_filter.1 hk).1;exact⟨fun _=>this,fun h9=>absurd h9 (by show ¬(0:Int) <= -1;decide)⟩
  .obtain⟨k,hk,rfl⟩:=Yp.1 hm;have:=hE (List.mem_filter.1 hk).1;exact⟨fun h9=>absurd h9 (by show ¬(0:Int) <= -1;decide),fun _=>this⟩
 .unfold pE at hm;obtain⟨i,hi,hm⟩:=List.mem_flatMap.1 hm;unfold s6 at hm;split at hm
  .cases hm
  .obtain⟨k,hk,rfl⟩:=Yp.1 hm;exact⟨fun _=>hE hi,fun _=>hE (List.mem_filter.1 hk).1⟩
theorem St.yp{h0 h h2:Heap}{L:List It}(hs:St h0 h L)(kb ks:Nat){cb:Nat}{xs:List Value}{e0 t e:TypeId}{n bytes:Nat}{α:Type}{cs:α->List Value}{so:Sl}{X:List α}{x:α}(Io:L[kb]?=some (.af cb xs e0))(Re:L[ks]?=some (.sl so e n (X.map cs)))
  (hT:cu Pz t e n bytes=true) (e2:h2=h.push (.cells ⟨cs x⟩ e)) (hc:(cs x).length=n) (ho:(cs x).all eF=true) (hn:X.length<=16777216) (XZ:0<n/\bytes<=128) (f:Nat) (hf:f<xs.length) (bI:ks≠kb) {K:Heap->Prop}
  (hK:∀(s':Sl) (h':Heap),St h0 h' ((L.set ks (.sl s' e n ((X++[x]).map cs))).set kb (.af cb (aA xs f [.slice s'.a s'.n s'.c]) e0))->K h') :
  App Pz t t (.slice so.a so.n so.c) (.slice (some ⟨h.size,0,none⟩) 1 1) h2 fun ug jO=>jl jO ⟨cb,f,none⟩ 1/\∀sn:Heap,sn=bJ jO ⟨cb,f,none⟩ 0 [.slice ug.a ug.n ug.c]->K sn:=by
 have bQ:St h0 h2 (.af h.size (cs x) e::L):=hs.ao (K:=fun h2=>St h0 h2 (.af h.size (cs x) e::L)) (fun _ h=>h) h2 e2;have hl:=(hs.len ks (s:=so) Re XZ.1).1;rw[Yc] at hl;have nJ:(so.n+1)*bytes<=16777217*128:=Nat.mul_le_mul (by omega) XZ.2;refine bQ.appended (ks+1) (s:=so) Re hT (x:=⟨h.size,0,none⟩) (m:=1) (c:=1) (news:=[cs x]) (bQ.at 0 rfl (o:=0) (n:=n) (by rw[List.drop_zero,<-hc,vV];simp)) rfl (by intro r hr;rw[Ye.1 hr];exact hc) (by simpa using ho) (by omega) (by simp only[maxLen];omega) fun ug jO n55 eO=>?_;have eO:St h0 jO (L.set ks (.sl ug e n (X.map cs++[cs x]))):=eO.drop 1;refine eO.put kb (by rw[Yy bI];exact Io) (o:=f) (vs:=[.slice ug.a ug.n ug.c]) rfl (by show f+1<=xs.length;omega) fun sn gN=>hK ug sn ?_;rw[Ym];exact gN
def Jv(wb pb lb ob:Nat)(kind role:Int)(wf ws:Sl)(p:Pr)(F S:List Ac):List It:=
 [.af wb (Wt.cs ⟨kind,role,wf,ws,dy,dy⟩) 35,.af pb (pC p) 97,.af lb [.map (some ob)] 293,.sl wf 65 3 (F.map Ac.cs),.sl ws 65 3 (S.map Ac.cs)]
def I6(g:Gl)(x:Int):List Ac:=if 0<=x then [(eA g.es x.toNat).act] else []
theorem LC{hb j7 h4 h6 fx:Heap}{b ob mb:Nat}{kind role:Int}{wf ws all:Sl}{p:Pr}{F S:List Ac}{g:Gl}{X:An}{A:List Pr}{l:List (Pr × Sl)}{O:List (Pr × Nat)}{k:Nat}{m:bj}{Xr:Nat}{I35:Heap->Nat->Prop}
  (hs:St hb j7 (Jv fx.size h6.size h4.size ob kind role wf ws p F S)) (hA:sC hb b g role X) (hV:ah g) (hM:Lf hb g role all mb A l) (O3:It.ok hb (.mp ob (O.map fun q=>(pV q.1,pD q.2)))) (hk:∀q∈O,eW q.1) (hn:(O.map Prod.fst).Nodup) (hp:p∈A)
  (ja:(dc g role p).findIdx? (Ep (dO O) p)=some k) (gm:(dc g role p)[k]?=some m) (hF:F.length<=8388608) (hS:S.length<=8388608) (Na:∀q∈A,0<=dO O q/\dO O q<=bh)
  (hI:∀(h':Heap) (F8 ws':Sl),St hb h' (Jv fx.size h6.size h4.size ob kind role F8 ws' (bD m) (F++I6 g m.x) (S++I6 g m.y))->∃m9,m9<Xr/\I35 h' m9):JU j7 h6 (some mb) h4 fx ⟨b,0,none⟩ Xr I35:=by
 unfold JU;have hN:=hV.num.n;have hE:=hV.num.m;have hg:=hA.gg.gi;have nI:=hg.e.ln;have Cl:∀p∈A,(p.1:Int)<g.n/\(p.2:Int)<g.n:=fun p hp=>((hM.pr p).1 hp).lt hV;have uQ:∀p∈A,eW p:=fun p hp=>by have:=Cl p hp;exact⟨by omega,by omega⟩
 have dU:∀m∈dc g role p,bD m∈A:=fun m hm=>(hM.pr _).2 (.step ((hM.pr p).1 hp) hm);have EZ:=Yb gm;have Gh:=(Ya.1 gm).1;have hlen:(dc g role p).length<=160800:=lS (by omega);have Cj:=qv hV (Cl p hp) EZ;obtain⟨edx,edy⟩:=Mr EZ;obtain⟨r,T8,kO⟩:=hM.mv p hp;have l8:r.n=(dc g role p).length:=kO.ln;refine⟨_,_,hs.at 1 rfl (o:=0) (n:=2) rfl,?_⟩;refine uI (a:=p) (cv:=fZ) yG (hM.mp.cr fun b hb=>hs.ext.2 b (hM.mp.lt hb)) hM.lk hM.ln (uQ p hp) false ?_;rw[T8];refine⟨r,rfl,?_⟩;refine (HX ob O (dc g role p) p ⟨h4.size,0,none⟩ ⟨h6.size,0,none⟩ r j7 (kO.ext hs.ext).rw (by omega) (hs.rd 2 rfl (i:=0) rfl) (hs.at 1 rfl (o:=0) (n:=2) rfl) (O3.cr fun b hb=>hs.ext.2 b (O3.lt hb)) hk hn (uQ p hp) fun m hm=>?_).mono ?_
 .have h1:=qv hV (Cl p hp) hm;have h2:=Na _ (dU m hm);exact⟨uQ _ (dU m hm),h1.2.2.1,h1.2.2.2,h2.1,h2.2⟩
 rintro _ aff ⟨rfl,E⟩;replace hs:=hs.step E;refine⟨_,rfl,?_⟩;have hk9:uO (Ep (dO O) p) (dc g role p)=(k:Int):=by unfold uO;rw[ja]
 rw[hk9];refine (kO.ext hs.ext).rw.ax (by omega) (by omega) fun aiV ahk m' gm' t=>?_;replace gm':(dc g role p)[k]?=some m':=gm';rw[gm] at gm';cases gm';refine⟨m.x,m.y,m.s,m.t,t,?_⟩;refine hs.aj (vs:=m.cs) rfl rfl fun afd hs=>?_;refine⟨fun h'=>∃F8,St hb h' (.af aff.size m.cs 200::Jv fx.size h6.size h4.size ob kind role F8 ws p (F++I6 g m.x) S),?_,?_⟩
 .refine⟨m.x,hs.rd 0 rfl (i:=0) rfl,aQ (fun c=>?_) (fun c=>?_)⟩
  .have Gc:=edx c;refine⟨wf,hs.rd 1 rfl (i:=2) rfl,g.he,aw hs.ext (hA.gg.at_.nth 6 rfl),m.x,hs.rd 0 rfl (i:=0) rfl,?_⟩;refine (hg.e.rw.ext hs.ext).ax (by omega) (by omega) fun agj adS x gx u=>?_;replace gx:g.es[m.x.toNat]?=some x:=gx;have Ix:I6 g m.x=[x.act]:=by unfold I6;rw[if_pos c,aI gx]
   refine⟨x.a,x.b,x.l,u.sub 1 3 rfl,fun IK e2=>⟨?_,?_⟩⟩
   .exact (show Ext afd IK by rw[e2];exact Ext.push _ _).sm
   .refine hs.yp 1 4 rfl rfl mG (x:=x.act) e2 rfl rfl (by omega) (by decide) 2 (by show 2<14;decide) (by decide) fun s' h' hs=>?_;refine⟨s',?_⟩;rw[Ix];exact hs
  .have Ix:I6 g m.x=[]:=by unfold I6;rw[if_neg c]
   refine⟨wf,?_⟩;rw[Ix,Yw];exact hs
 .clear hs t;rintro-RO ⟨F8,hs⟩;have hpc:pC (bD m)=[.int .i64 m.s,.int .i64 m.t]:=by unfold pC;rw[Cj.2.2.1,Cj.2.2.2]
  refine⟨m.y,hs.rd 0 rfl (i:=1) rfl,aQ (fun c=>?_) (fun c=>?_)⟩
  .have hyl:=edy c;refine⟨ws,hs.rd 1 rfl (i:=3) rfl,g.he,aw hs.ext (hA.gg.at_.nth 6 rfl),m.y,hs.rd 0 rfl (i:=1) rfl,?_⟩;refine (hg.e.rw.ext hs.ext).ax (by omega) (by omega) fun agj adS x gx u=>?_;replace gx:g.es[m.y.toNat]?=some x:=gx;have Ix:I6 g m.y=[x.act]:=by unfold I6;rw[if_pos c,aI gx]
   refine⟨x.a,x.b,x.l,u.sub 1 3 rfl,fun IK e2=>⟨?_,?_⟩⟩
   .exact (show Ext RO IK by rw[e2];exact Ext.push _ _).sm
   .refine hs.yp 1 5 rfl rfl mG (x:=x.act) e2 rfl rfl (by omega) (by decide) 3 (by show 3<14;decide) (by decide) fun s' h' hs=>?_;refine⟨m.s,m.t,hs.at 0 rfl (o:=2) (n:=2) rfl,?_⟩;refine hs.put 2 rfl (o:=0) (vs:=[.int .i64 m.s,.int .i64 m.t]) rfl (bu 2) fun h' hs=>hI h' F8 s' ?_;have hs:=hs.drop 1;unfold Jv;rw[Ix,hpc];exact hs
  .have Ix:I6 g m.y=[]:=by unfold I6;rw[if_neg c]
   refine⟨m.s,m.t,hs.at 0 rfl (o:=2) (n:=2) rfl,?_⟩;refine hs.put 2 rfl (o:=0) (vs:=[.int .i64 m.s,.int .i64 m.t]) rfl (bu 2) fun h' hs=>hI h' F8 ws ?_;have hs:=hs.drop 1;unfold Jv;rw[Ix,Yw,hpc];exact hs
theorem GP{Az h6 h4 fx:Heap}{mp:Option Nat}{p0:Addr}{Xr:Nat}{I35:Heap->Nat->Prop}(h:JU Az h6 mp h4 fx p0 Xr I35):acj Az h6 mp h4 fx p0 Xr I35:=h
theorem vG{h:Heap}{b:Nat}{w:Wt}(ha:aY h ⟨b,0,none⟩ w.cs){Q:List Value->Prop}(hq:Q w.cs):
  ∃Oc:Int,∃Ob:Int,∃nW:Sl,∃vE:Sl,∃Oa:Int,∃yL:Bool,∃N9:Int,∃N8:Int,∃vD:Sl,∃N7:Int,∃N6:Bool,∃Lp:Int,∃N5:Int,∃vB:Sl,aY h ⟨b,0,none⟩ [.int .i64 Oc,.int .i64 Ob,.slice nW.a nW.n nW.c,.slice vE.a vE.n vE.c,.int .i64 Oa,.bool yL,.int .i64 N9,.int .i64 N8,.slice vD.a vD.n vD.c,.int .i64 N7,.bool N6,.int .i64 Lp,.int .i64 N5,.slice vB.a vB.n vB.c] /\
   Q [.int .i64 Oc,.int .i64 Ob,.slice nW.a nW.n nW.c,.slice vE.a vE.n vE.c,.int .i64 Oa,.bool yL,.int .i64 N9,.int .i64 N8,.slice vD.a vD.n vD.c,.int .i64 N7,.bool N6,.int .i64 Lp,.int .i64 N5,.slice vB.a vB.n vB.c]:=
 ⟨w.k,w.r,w.f,w.s,w.e.r,w.e.s,w.e.p,w.e.l,aH,w.o.r,w.o.s,w.o.p,w.o.l,aH,ha,hq⟩
theorem Jm{h0 h:Heap}{L:List It}(hs:St h0 h L)(i j:Nat){wb rb:Nat}{w w0:Wt}{e1 e2:TypeId}(hi:L[i]?=some (.af wb w.cs e1))(hj:L[j]?=some (.af rb w0.cs e2)){K:Heap->Prop}(hK:∀h',St h0 h' (L.set j (.af rb w.cs e2))->K h'):
  ∃Oc:Int,∃Ob:Int,∃nW:Sl,∃vE:Sl,∃Oa:Int,∃yL:Bool,∃N9:Int,∃N8:Int,∃vD:Sl,∃N7:Int,∃N6:Bool,∃Lp:Int,∃N5:Int,∃vB:Sl,aY h ⟨wb,0,none⟩ [.int .i64 Oc,.int .i64 Ob,.slice nW.a nW.n nW.c,.slice vE.a vE.n vE.c,.int .i64 Oa,.bool yL,.int .i64 N9,.int .i64 N8,.slice vD.a vD.n vD.c,.int .i64 N7,.bool N6,.int .i64 Lp,.int .i64 N5,.slice vB.a vB.n vB.c] /\
   (jl h ⟨rb,0,none⟩ 14/\∀jN:Heap,jN=bJ h ⟨rb,0,none⟩ 0 [.int .i64 Oc,.int .i64 Ob,.slice nW.a nW.n nW.c,.slice vE.a vE.n vE.c,.int .i64 Oa,.bool yL,.int .i64 N9,.int .i64 N8,.slice vD.a vD.n vD.c,.int .i64 N7,.bool N6,.int .i64 Lp,.int .i64 N5,.slice vB.a vB.n vB.c]->K jN):=by
 refine⟨w.k,w.r,w.f,w.s,w.e.r,w.e.s,w.e.p,w.e.l,aH,w.o.r,w.o.s,w.o.p,w.o.l,aH,hs.at i hi (o:=0) (n:=14) rfl,?_⟩;refine hs.put j hj (o:=0) (vs:=w.cs) rfl (bu 14) fun h' hs=>hK h' ?_;exact hs
theorem rq{K:List Ev}:∀ {L:List gM} {x:gM},cC K L=some x->x∈L/\x.m.ev∈K:=by
 intro L x;unfold cC
 suffices h:∀(l:List gM) (b:Option gM),(∀y,b=some y->y∈L/\y.m.ev∈K)->(∀y∈l,y∈L)->l.foldl (fo K) b=some x->x∈L/\x.m.ev∈K from h L none (fun y hy=>by cases hy) (fun y hy=>hy)
 intro l
 induction l with
 | nil=>intro b hb _ hx;exact hb x hx
 | cons a l ih=>
  intro b hb hl hx;refine ih (fo K b a) (fun y hy=>?_) (fun y hy=>hl y (Yn _ hy)) hx;unfold fo at hy;by_cases dC:a.m.ev∈K
  .rw[if_pos dC] at hy;cases b with
   | none=>cases hy;exact⟨hl _ Yx,dC⟩
   | some z=>
    simp only at hy;split at hy
    .cases hy;exact⟨hl _ Yx,dC⟩
    .exact hb y hy
  .rw[if_neg dC] at hy;exact hb y hy
def F6(g:Gl)(X:An):Prop:=∀q∈X.ar,∀y∈q.2,∃(i:Nat) (m:Ms),y=jz g i m/\i<g.es.length/\m∈ey g i
def vQ(g:Gl)(role kind:Int)(X:An)(F:List Ac)(p:Pr):List Ac × DE × DE:=
 if kind=1 then (F,(match X.fi[p.1]?,X.fi[p.2]? with | some fs,some ft=>ba role ((fs.l.find? (fQ ft.l)).getD ⟨false,0,0⟩) | _,_=>dy),dy)
 else if kind=4 then (match X.fi[p.2]?,X.ar[p.1]? with | some ft,some q=>(F++[(eA g.es ((cC ft.l q.2).getD cV).e.toNat).act]++iu g ((cC ft.l q.2).getD cV).e.toNat ((cC ft.l q.2).getD cV).m,ba role ((cC ft.l q.2).getD cV).m.ev,ba role ⟨false,(eA g.es ((cC ft.l q.2).getD cV).e.toNat).a,(eA g.es ((cC ft.l q.2).getD cV).e.toNat).l⟩) | _,_=>(F,dy,dy))
 else (F,dy,dy)
theorem Td(l:List Ac):∀r∈l.map Ac.cs,r.length=3:=fun r hr=>by obtain⟨x,_,rfl⟩:=Yp.1 hr;rfl
theorem Ns{h0 j7 h6 fx h:Heap}{b ob lb:Nat}{kind role:Int}{wf ws:Sl}{p:Pr}{F S:List Ac}{g:Gl}{X:An}{ll:Int}{R:Value->Heap->Prop}
  (hs:St h0 j7 (Jv fx.size h6.size lb ob kind role wf ws p F S++[.af h.size fc.cs 35])) (hA:sC h0 b g role X) (hx:Gm h0) (hV:ah g) (hp:(p.1:Int)<g.n/\(p.2:Int)<g.n) (Ua:∀q∈X.ar,∀x∈q.2,0<x.n) (Ax:F6 g X) (hco:kind=4->(dR X kind p).isSome=true) (hF:F.length<=8388608)
  (hK:∀(h':Heap) (w:Wt) (L:List It),w.k=kind->w.r=role->w.e=(vQ g role kind X F p).2.1->w.o=(vQ g role kind X F p).2.2->St h0 h' (.sl w.f 65 3 ((vQ g role kind X F p).1.map Ac.cs) :: .sl w.s 65 3 (S.map Ac.cs)::L)->R (.tuple ⟨[.agg ⟨w.cs⟩,.int .i64 ll]⟩) h') :
  Tk kind j7 h6 ⟨b,0,none⟩ fx h R ll:=by
 unfold Tk;obtain⟨fs,gs⟩:=get_some (l:=X.fi) (i:=p.1) (by rw[hA.nf];omega);obtain⟨ft,gt⟩:=get_some (l:=X.fi) (i:=p.2) (by rw[hA.nf];omega);obtain⟨q,gq⟩:=get_some (l:=X.ar) (i:=p.1) (by rw[hA.nr];omega);have hN:=hV.num.n;have hM:=hV.num.m;have hg:=hA.gg.gi;have nI:=hg.e.ln;have Ci:hc h0 ⟨b,8,none⟩=some (Value.int .i64 role):=hA.r.ro;refine eS (fun c=>?_) (fun c=>eS (fun c2=>?_) (fun c2=>?_))
 .refine⟨(p.1:Nat),(p.2:Nat),hs.at 1 rfl (o:=0) (n:=2) rfl,?_⟩;refine (q9 ⟨b,0,none⟩ role X.bZ X.bV X.bx X.cm X.fi X.li X.ag X.ow p.1 p.2 fs ft j7 (hA.ext hs.ext).r gs gt).mono ?_;rintro v58 h58 ⟨E,hv⟩;replace hs:=hs.step E;have hex:vQ g role kind X F p=(F,ba role ((fs.l.find? (fQ ft.l)).getD ⟨false,0,0⟩),dy):=by unfold vQ;rw[if_pos c,gs,gt]
  rw[hex] at hK;have QQ:v58=Value.tuple ⟨[Value.agg ⟨((fs.l.find? (fQ ft.l)).getD ⟨false,0,0⟩).cs⟩,Value.bool (fs.l.find? (fQ ft.l)).isSome]⟩:=by rw[hv];cases fs.l.find? (fQ ft.l)<;>rfl
  clear hv;subst QQ;generalize (fs.l.find? (fQ ft.l)).getD ⟨false,0,0⟩=x at *;refine⟨x.send,x.peer,x.label,_,rfl,?_⟩;refine hs.aj (vs:=x.cs) rfl rfl fun II hs=>?_;refine⟨x.send,x.peer,x.label,hs.at 0 rfl (o:=0) (n:=3) rfl,?_⟩;refine (mq b role x II (aw hs.ext Ci)).mono ?_;rintro _ nL ⟨E3,rfl⟩;replace hs:=hs.step E3;refine⟨role,x.send,x.peer,x.label,aH,rfl,?_⟩;refine hs.put 1 rfl (o:=4) (vs:=(ba role x).cs) rfl (by show 4+5<=14;decide) fun Ng hs=>?_;refine Jm hs 1 6 (w:=⟨kind,role,wf,ws,ba role x,dy⟩) (w0:=fc) rfl rfl fun jN hs=>?_;refine vG (w:=⟨kind,role,wf,ws,ba role x,dy⟩) (Q:=fun cs=>R (.tuple ⟨[.agg ⟨cs⟩,.int .i64 ll]⟩) jN) (hs.at 6 rfl (o:=0) (n:=14) rfl) ?_;exact hK jN ⟨kind,role,wf,ws,ba role x,dy⟩ _ rfl rfl rfl rfl (hs.drop 4)
 .refine⟨(p.1:Nat),(p.2:Nat),hs.at 1 rfl (o:=0) (n:=2) rfl,?_⟩;refine (kX b g role X p.1 p.2 ft q j7 (hA.ext hs.ext) gt gq (Ua q (Yb gq))).mono ?_;rintro _ Zi ⟨E,rfl⟩;replace hs:=hs.step E;obtain⟨y,hy⟩:∃y,cC ft.l q.2=some y:=by
   have h9:=hco c2;unfold dR at h9;rw[if_neg c,if_neg (by omega),gt,gq] at h9;simp only[Option.isSome_map] at h9;exact Option.isSome_iff_exists.1 h9
  obtain⟨i,m,rfl,mc,Rg⟩:=Ax q (Yb gq) y (rq hy).1;obtain⟨x0,kL⟩:=get_some mc;have j6:=aI kL;have hex:vQ g role kind X F p=(F++[x0.act]++iu g i m,ba role m.ev,ba role ⟨false,x0.a,x0.l⟩):=by
   have h8:vQ g role kind X F p=(F++[(eA g.es ((cC ft.l q.2).getD cV).e.toNat).act]++iu g ((cC ft.l q.2).getD cV).e.toNat ((cC ft.l q.2).getD cV).m,ba role ((cC ft.l q.2).getD cV).m.ev,ba role ⟨false,(eA g.es ((cC ft.l q.2).getD cV).e.toNat).a,(eA g.es ((cC ft.l q.2).getD cV).e.toNat).l⟩):=by
    unfold vQ;rw[if_neg c,if_pos c2,gt,gq]
   rw[h8,hy];show (F++[(eA g.es i).act]++iu g i m,ba role m.ev,ba role ⟨false,(eA g.es i).a,(eA g.es i).l⟩)=_;rw[j6]
  rw[hex] at hK;rw[hy];refine⟨(i:Int),(jz g i m).n,m.p,m.l,_,rfl,?_⟩;refine hs.aj (vs:=(jz g i m).cs) rfl rfl fun Ni hs=>?_;refine⟨bs g.nm,g.hr,g.hd,g.n,g.s,g.e,g.he,g.ht,(dE hs.ext hA.gg.at_).DP 8 rfl,?_⟩;refine⟨(i:Int),hs.rd 0 rfl (i:=0) rfl,m.p,m.l,hs.at 0 rfl (o:=2) (n:=2) rfl,?_⟩;refine (Bw g i x0 m Ni (hg.ext hs.ext) (hx.ext hs.ext) hV kL Rg).mono ?_;rintro _ afw ⟨E3,sp,rfl,Ge,rK⟩;replace hs:=hs.join Ge;have H8:=hs.len 7 (s:=sp) (e:=65) (n:=3) rfl (by omega);rw[Yc] at H8;refine⟨sp,0,rfl,g.he,aw hs.ext (hA.gg.at_.nth 6 rfl),(i:Int),hs.rd 0 rfl (i:=0) rfl,?_⟩;refine (hg.e.rw.ext hs.ext).ax (by omega) (by omega) fun b20 o21 x gx u3=>?_;replace gx:g.es[i]?=some x:=gx;rw[kL] at gx;cases gx;refine⟨x0.a,x0.b,x0.l,u3.sub 1 3 rfl,?_⟩;refine hs.aq fun aiN E4 hs=>⟨E4.sm,?_⟩;refine hs.put 0 rfl (o:=0) (vs:=x0.act.cs) rfl (bu 3) fun afq hs=>?_;refine⟨wf,hs.rd 2 rfl (i:=2) rfl,x0.a,x0.b,x0.l,hs.at 0 rfl (o:=0) (n:=3) rfl,?_⟩;have aee:=(hs.len 5 (s:=wf) (e:=65) (n:=3) rfl (by omega)).1;rw[Yc] at aee;refine hs.app 5 rfl mG (m:=1) [x0.act.cs] rfl rfl (fun r hr=>by rw[Ye] at hr;rw[hr];rfl) rfl (by omega) (by simp only[maxLen];omega) fun ahf afo n141 hs=>?_;refine hs.gB 5 rfl mG (hs.rows 8 rfl (by omega)) (Td _) H8.2.2 (zB (fun _=>rfl) _) (by omega) (by simp only[maxLen];omega) fun zi xI n143 hs=>?_;refine hs.put 2 rfl (o:=2) (vs:=[.slice zi.a zi.n zi.c]) rfl (by show 2+1<=14;decide) fun Zg hs=>?_;refine⟨m.p,hs.rd 1 rfl (i:=2) rfl,m.l,hs.rd 1 rfl (i:=3) rfl,?_⟩;refine (mq b role m.ev Zg (aw hs.ext Ci)).mono ?_;rintro _ aiM ⟨E5,rfl⟩;replace hs:=hs.step E5;refine⟨role,false,m.p,m.l,aH,rfl,?_⟩;refine hs.put 2 rfl (o:=4) (vs:=(ba role m.ev).cs) rfl (by show 4+5<=14;decide) fun IP hs=>?_;refine⟨x0.a,hs.rd 0 rfl (i:=0) rfl,x0.l,hs.rd 0 rfl (i:=2) rfl,?_⟩;refine (mq b role ⟨false,x0.a,x0.l⟩ IP (aw hs.ext Ci)).mono ?_;rintro _ aiL ⟨E6,rfl⟩;replace hs:=hs.step E6;refine⟨role,false,x0.a,x0.l,aH,rfl,?_⟩;refine hs.put 2 rfl (o:=9) (vs:=(ba role ⟨false,x0.a,x0.l⟩).cs) rfl (by show 9+5<=14;decide) fun aiK hs=>?_;refine Jm hs 2 7 (w:=⟨kind,role,zi,ws,ba role m.ev,ba role ⟨false,x0.a,x0.l⟩⟩) (w0:=fc) rfl rfl fun jN hs=>?_;refine vG (w:=⟨kind,role,zi,ws,ba role m.ev,ba role ⟨false,x0.a,x0.l⟩⟩) (Q:=fun cs=>R (.tuple ⟨[.agg ⟨cs⟩,.int .i64 ll]⟩) jN) (hs.at 7 rfl (o:=0) (n:=14) rfl) ?_;refine hK jN ⟨kind,role,zi,ws,ba role m.ev,ba role ⟨false,x0.a,x0.l⟩⟩ [.af h.size (Wt.cs ⟨kind,role,zi,ws,ba role m.ev,ba role ⟨false,x0.a,x0.l⟩⟩) 35,.sl sp 65 3 ((iu g i m).map Ac.cs)] rfl rfl rfl rfl ?_;have hs:=hs.drop 5;simp only[Ym];exact hs
 .refine Jm hs 0 5 (w:=⟨kind,role,wf,ws,dy,dy⟩) (w0:=fc) rfl rfl fun jN hs=>?_;refine vG (w:=⟨kind,role,wf,ws,dy,dy⟩) (Q:=fun cs=>R (.tuple ⟨[.agg ⟨cs⟩,.int .i64 ll]⟩) jN) (hs.at 5 rfl (o:=0) (n:=14) rfl) ?_;have hex:vQ g role kind X F p=(F,dy,dy):=by unfold vQ;rw[if_neg c,if_neg c2]
  rw[hex] at hK;exact hK jN ⟨kind,role,wf,ws,dy,dy⟩ _ rfl rfl rfl rfl (hs.drop 3)
theorem Dn.QA{mv:Pr->List bj}{a7:Pr->Option Nat}{p:Pr}{k:Nat}(hL:oV mv a7 p k)(bI:a7 p≠some k):∃m∈mv p,∃n,oV mv a7 (bD m) n/\n+cq m=k:=by
 obtain⟨hd,hl⟩:=hL;cases hd with
 | base h=>exact absurd h bI
 | step hm hn=>exact⟨_,hm,_,⟨hn,fun j hj=>by have:=hl _ (.step hm hj);omega⟩,rfl⟩
theorem oV.uniq{mv:Pr->List bj}{a7:Pr->Option Nat}{p:Pr}{k n:Nat}(h1:oV mv a7 p k)(h2:oV mv a7 p n):k=n:=Nat.le_antisymm (h1.2 n h2.1) (h2.2 k h1.1)
theorem Dn.least{mv:Pr->List bj}{a7:Pr->Option Nat}{p:Pr}:∀ {n:Nat},Dn mv a7 p n->∃k,oV mv a7 p k:=by
 intro n
 induction n using Nat.strongRecOn with
 | _ n ih=>
  intro hd;by_cases h:∃k,k<n/\Dn mv a7 p k
  .obtain⟨k,hk,hd⟩:=h;exact ih k hk hd
  .exact⟨n,hd,fun k hk=>by rcases Nat.lt_or_ge k n with h9 | h9;exact absurd ⟨k,h9,hk⟩ h;exact h9⟩
noncomputable def dL(mv:Pr->List bj)(a7:Pr->Option Nat)(p:Pr):Int:=by
 classical exact if h:∃n,oV mv a7 p n then (Classical.choose h:Nat) else bh
theorem ya{mv:Pr->List bj}{a7:Pr->Option Nat}{p:Pr}{n:Nat}(h:oV mv a7 p n):dL mv a7 p=n:=by
 unfold dL;rw[dif_pos ⟨n,h⟩];have:=oV.uniq (Classical.choose_spec (⟨n,h⟩:∃n,oV mv a7 p n)) h;omega
theorem Pt{mv:Pr->List bj}{a7:Pr->Option Nat}{p:Pr}(h:∀n,¬oV mv a7 p n):dL mv a7 p=bh:=by
 unfold dL;rw[dif_neg (fun ⟨n,h9⟩=>h n h9)]
def jk(g:Gl):Pr:=(g.s.toNat,g.s.toNat)
inductive UJ (g:Gl) (role kind:Int) (X:An) (h h':Heap):Value->Prop
 | kR (hn:∀n,¬oV (dc g role) (eX X kind) (jk g) n) (E:Ext h h'):UJ g role kind X h h' (.tuple ⟨[.agg ⟨fc.cs⟩,.int .i64 bh]⟩)
 | hit {n:Nat} {D:Pr->Int} {ms:List bj} {p:Pr} {w:Wt} {L:List It} (hl:oV (dc g role) (eX X kind) (jk g) n) (hn:n<=8388608) (hD:∀q,eR g role q->D q=dL (dc g role) (eX X kind) q) (hG:pJ (dc g role) (dR X kind) D (jk g) ms p) (hc:dR X kind p=some (D p))
   (hk:w.k=kind) (hr:w.r=role) (he:w.e=(vQ g role kind X (facts g ms) p).2.1) (ho:w.o=(vQ g role kind X (facts g ms) p).2.2)
   (hs:St h h' (.sl w.f 65 3 ((vQ g role kind X (facts g ms) p).1.map Ac.cs) :: .sl w.s 65 3 ((gh g ms).map Ac.cs)::L)):UJ g role kind X h h' (.tuple ⟨[.agg ⟨w.cs⟩,.int .i64 (n:Nat)]⟩)
theorem kV(b:Nat)(g:Gl)(role:Int)(X:An)(kind:Int)(all:Sl)(mb:Nat)(A:List Pr)(l:List (Pr × Sl))(CB:Nat)(h:Heap)(hA:sC h b g role X)(hx:Gm h)(hV:ah g)(hM:Lf h g role all mb A l)(hC:UH X kind A CB)(Ax:F6 g X):
  Fn Pz 96 #[.pointer (some ⟨b,0,none⟩),.int .i64 kind,.slice all.a all.n all.c,.map (some mb)] h fun v h'=>UJ g role kind X h h' v:=by
 apply acD ⟨b,0,none⟩ kind all (some mb);unfold W96;have hN:=hV.num.n;have hE:=hV.num.m;have Cl:∀p∈A,(p.1:Int)<g.n/\(p.2:Int)<g.n:=fun p hp=>((hM.pr p).1 hp).lt hV;have uQ:∀p∈A,eW p:=fun p hp=>by have:=Cl p hp;exact⟨by omega,by omega⟩
 have dU:∀p∈A,∀m∈dc g role p,bD m∈A:=fun p hp m hm=>(hM.pr _).2 (.step ((hM.pr p).1 hp) hm);have Us:jk g∈A:=(hM.pr _).2 .start;have XS:pC (jk g)=[.int .i64 g.s,.int .i64 g.s]:=by unfold pC jk;simp only;rw[Int.toNat_of_nonneg (by omega)]
 have hA4:A.length<=40000:=by
  have h1:=uY (n:=g.n.toNat) hM.nd fun p hp=>by have:=Cl p hp;exact⟨by omega,by omega⟩
  have h2:g.n.toNat*g.n.toNat<=200*200:=Nat.mul_le_mul (by omega) (by omega);omega
 have hCb:=hC.b;refine (St.refl h).ao fun h1 dA=>?_;refine (MD b g role X kind all mb A l CB h1 (hA.ext dA.ext) hV (hM.ext dA.ext) hC).mono ?_;rintro _ h4 ⟨E4,ob,O,rfl,O3,hk,hn,hO⟩;refine⟨some ob,rfl,?_⟩;have gN:=dA.step E4;have hX4:=gN.ext;have IE:=hA.ext hX4;have hM4:=hM.ext hX4;have Na:∀q∈A,0<=dO O q/\dO O q<=bh:=fun q hq=>by
  have h9:=fun k=>(hO q hq k).2;unfold dO bh;cases hg:aW O q with
  | none=>exact⟨by decide,by decide⟩
  | some k=>have:=h9 k hg;simp only[Option.elim];omega
 have hdL:∀q,eR g role q->dO O q=dL (dc g role) (eX X kind) q:=fun q hq=>by
  have hqA:=(hM.pr q).2 hq;unfold dO;cases hg:aW O q with
  | none=>exact (Pt fun n hn=>by rw[((hO q hqA n).1).2 hn] at hg;cases hg).symm
  | some k=>exact (ya (((hO q hqA k).1).1 hg)).symm
 refine (St.refl h4).aj (vs:=[.map (some ob)]) rfl rfl fun h6 hs=>?_;refine⟨g.s,aw hs.ext (IE.gg.at_.nth 4 rfl),g.s,aw hs.ext (IE.gg.at_.nth 4 rfl),?_⟩;refine hs.aq fun h9 E9 hs=>⟨E9.sm,?_⟩;refine hs.put 0 rfl (o:=0) (vs:=[.int .i64 g.s,.int .i64 g.s]) rfl (bu 2) fun cw hs=>?_;refine⟨some ob,hs.rd 1 rfl (i:=0) rfl,g.s,g.s,hs.at 0 rfl (o:=0) (n:=2) rfl,?_⟩;have IM:=CT ob O (jk g) cw (O3.cr fun b hb=>hs.ext.2 b (O3.lt hb)) hk hn (uQ _ Us);rw[XS] at IM;refine IM.mono ?_;rintro _ fx ⟨rfl,E16⟩;replace hs:=hs.step E16;refine⟨_,rfl,eS (fun c=>?_) (fun c=>?_)⟩
 .have hs:=gN.join hs;refine hs.put 0 rfl (o:=0) (vs:=fc.cs) rfl (bu 14) fun Pl hs=>?_;refine vG (w:=fc) (Q:=fun cs=>UJ g role kind X h Pl (.tuple ⟨[.agg ⟨cs⟩,.int .i64 1073741824]⟩)) (hs.at 0 rfl (o:=0) (n:=14) rfl) ?_;refine .kR (fun n hl=>?_) hs.ext;have h9:=(hO _ Us n).1.2 hl;have cw:=(hO _ Us n).2 h9;unfold dO at c;rw[h9] at c;simp only[Option.elim] at c;omega
 .obtain⟨k0,Co⟩:∃k0,aW O (jk g)=some k0:=by
   cases hg:aW O (jk g) with
   | none=>unfold dO at c;rw[hg] at c;exact absurd rfl c
   | some k=>exact⟨k,rfl⟩
  have Ct:dO O (jk g)=(k0:Int):=by unfold dO;rw[Co];rfl
  have ahQ:=(hO _ Us k0).2 Co;refine⟨role,aw hs.ext IE.r.ro,?_⟩;refine hs.aj (vs:=(Wt.cs ⟨kind,role,aH,aH,dy,dy⟩)) rfl rfl fun kP hs=>?_;have hs:=((hs.cn 65 3).cn 65 3).perm (List.perm_append_comm (l₁:=[_,_]) (l₂:=[_,_,_]));refine⟨fun h' μ=>∃(ms:List bj) (p:Pr) (wf ws:Sl) (k:Nat),μ=k/\aW O p=some k/\p∈A/\St h4 h' (Jv fx.size h6.size h4.size ob kind role wf ws p (facts g ms) (gh g ms))/\pJ (dc g role) (dR X kind) (dO O) (jk g) ms p/\ms.length+k<=8388608,⟨_,[],jk g,aH,aH,k0,rfl,Co,Us,?_,.nil,?_⟩,?_⟩
  .unfold Jv;rw[XS];exact hs
  .simp only[List.length_nil];omega
  clear hs;rintro-tB k ⟨ms,p,wf,ws,k9,rfl,si,sc,hs,hG,Gh⟩;have hdp:dO O p=(k:Int):=by unfold dO;rw[si];rfl
  have Io:=(hO p sc k).2 si;have hLp:=(hO p sc k).1.1 si;have fV:=Fu g ms;have kM:=DW g ms
  have stp:∀(j7:Heap),St h4 j7 (Jv fx.size h6.size h4.size ob kind role wf ws p (facts g ms) (gh g ms))->dR X kind p≠some (dO O p) ->
    JU j7 h6 (some mb) h4 fx ⟨b,0,none⟩ k (fun h' μ=>∃(ms:List bj) (p:Pr) (wf ws:Sl) (k:Nat),μ=k/\aW O p=some k/\p∈A/\St h4 h' (Jv fx.size h6.size h4.size ob kind role wf ws p (facts g ms) (gh g ms))/\pJ (dc g role) (dR X kind) (dO O) (jk g) ms p/\ms.length+k<=8388608):=by
   intro j7 hs bI;have Ra:eX X kind p≠some k:=fun e=>by
    unfold eX at e;cases xE:dR X kind p with
    | none=>rw[xE] at e;cases e
    | some c=>
     have h1:=hC.c p sc c xE;rw[xE] at e;simp only[Option.map_some,Option.some.injEq] at e;exact bI (by rw[xE,hdp];congr 1;omega)
   obtain⟨m,hm,n,hn9,hnk⟩:=Dn.QA hLp Ra;have hmA:=dU p sc m hm;have hgn:=(hO _ hmA n).1.2 hn9;have oB:Ep (dO O) p m=true:=by
    unfold Ep;refine decide_eq_true ?_;rw[hdp];have:dO O (bD m)=(n:Int):=by unfold dO;rw[hgn];rfl
    omega
   cases ja:(dc g role p).findIdx? (Ep (dO O) p) with
   | none=>
    rw[List.findIdx?_eq_none_iff] at ja;rw[ja m hm] at oB;cases oB
   | some k2=>
    obtain⟨h1,h2,_⟩:=List.findIdx?_eq_some_iff_getElem.1 ja;have gm2:(dc g role p)[k2]?=some (dc g role p)[k2]:=Yi h1;generalize ik:(dc g role p)[k2]=m2 at *;have h3:(cq m2:Int)+dO O (bD m2)=dO O p:=cd h2;have aey:=dU p sc m2 (Yb gm2);have rK:=ee m2;obtain⟨k',tu⟩:∃k',aW O (bD m2)=some k':=by
     cases hg:aW O (bD m2) with
     | none=>unfold dO at h3;rw[hg,si] at h3;simp only[Option.elim,bh] at h3;omega
     | some k'=>exact⟨k',rfl⟩
    have Rr:dO O (bD m2)=(k':Int):=by unfold dO;rw[tu];rfl
    refine LC hs IE hV hM4 O3 hk hn sc ja gm2 (by omega) (by omega) Na fun h' F8 ws' hs=>⟨k',by omega,ms++[m2],bD m2,F8,ws',k',rfl,tu,aey,?_,.snoc hG bI ja gm2,by rw[Yh,Yv];omega⟩;rw[AH,zh];exact hs
  refine⟨(p.1:Nat),(p.2:Nat),hs.at 1 rfl (o:=0) (n:=2) rfl,?_⟩;refine (yb b g role X kind p tB (IE.ext hs.ext) (Cl p sc) hC.a).mono ?_;rintro _ Az ⟨E,rfl⟩;replace hs:=hs.step E;refine⟨_,_,rfl,aa (fun c1=>?_) (fun c1=>?_)⟩
  .obtain⟨n1,KZ⟩:=Option.isSome_iff_exists.1 c1;refine⟨some ob,hs.rd 2 rfl (i:=0) rfl,(p.1:Nat),(p.2:Nat),hs.at 1 rfl (o:=0) (n:=2) rfl,?_⟩;refine (CT ob O p Az (O3.cr fun b hb=>hs.ext.2 b (O3.lt hb)) hk hn (uQ p sc)).mono ?_;rintro _ j7 ⟨rfl,E50⟩;replace hs:=hs.step E50;refine⟨_,rfl,eS (fun c2=>?_) (fun c2=>?_)⟩
   .have hcp:dR X kind p=some (dO O p):=by rw[KZ] at c2 ⊢;exact congrArg some c2
    have hs:=(gN.join hs).perm (List.perm_append_comm (l₁:=[_]) (l₂:=Jv fx.size h6.size h4.size ob kind role wf ws p (facts g ms) (gh g ms)));refine Ns hs hA hx hV (Cl p sc) hC.a Ax (fun _=>c1) (by omega) fun h' w L h1 h2 h3 h4 hs=>?_;rw[Ct];exact .hit ((hO _ Us k0).1.1 Co) (by omega) hdL hG hcp h1 h2 h3 h4 hs
   .exact stp j7 hs fun e=>c2 (by rw[e];rfl)
  .exact GP (stp Az hs fun e=>by rw[e] at c1;cases c1)
end Go.VC
end

section
namespace Go.VC
inductive rR (es:List Ed) (MX:Nat->Prop):Nat->Nat->Prop
 | base {s:Nat}:MX s->rR es MX s 0
 | step {s:Nat} {e:Ed} {n:Nat}:e∈es->e.f=(s:Int)->rR es MX e.t.toNat n->rR es MX s (n+1)
def iZ(es:List Ed)(MX:Nat->Prop)(s n:Nat):Prop:=rR es MX s n/\∀k,rR es MX s k->n<=k
def dD:Int:=1073741824
structure nV (g:Gl) (MX:Nat->Prop) (LF:List Int) (Q:List Nat) (hd c:Nat):Prop where
 ln:LF.length=g.n.toNat
 d:∀(s:Nat) x,LF[s]?=some x->x=dD\/(∃k:Nat,x=(k:Int)/\rR g.es MX s k/\k<=c)
 q:∀s:Nat,s∈Q ↔ ∃x,LF[s]?=some x/\x≠dD
 nd:Q.Nodup
 m:∀s:Nat,s<g.n.toNat->MX s->LF[s]?=some 0
 so:∀(i j s t:Nat) x y,i<=j->Q[i]?=some s->Q[j]?=some t->LF[s]?=some x->LF[t]?=some y->x<=y
 hi:∀(s t:Nat) x y,Q[hd]?=some s->t∈Q->LF[s]?=some x->LF[t]?=some y->y<=x+1
 cl:∀(i t:Nat) x,i<hd->Q[i]?=some t->LF[t]?=some x->∀e∈g.es,e.t=(t:Int)->∃y,LF[e.f.toNat]?=some y/\y<=x+1
theorem nV.lt{g:Gl}{MX:Nat->Prop}{LF:List Int}{Q:List Nat}{hd c:Nat}(h:nV g MX LF Q hd c){s:Nat}(hs:s∈Q):s<g.n.toNat:=by
 obtain⟨x,hx,_⟩:=(h.q s).1 hs;have:=(Ya.1 hx).1;rw[h.ln] at this;exact this
theorem nV.len{g:Gl}{MX:Nat->Prop}{LF:List Int}{Q:List Nat}{hd c:Nat}(h:nV g MX LF Q hd c):Q.length<=g.n.toNat:=by
 have:=List.Nodup.length_le_of_subset h.nd (l₂:=List.range g.n.toNat) fun s hs=>List.mem_range.2 (h.lt hs)
 rwa [kv] at this
theorem nV.val{g:Gl}{MX:Nat->Prop}{LF:List Int}{Q:List Nat}{hd c:Nat}(h:nV g MX LF Q hd c){s:Nat}(hs:s∈Q):∃k:Nat,LF[s]?=some (k:Int)/\rR g.es MX s k/\k<=c:=by
 obtain⟨x,hx,hf⟩:=(h.q s).1 hs;rcases h.d s x hx with rfl | ⟨k,rfl,hk⟩
 .exact absurd rfl hf
 .exact⟨k,hx,hk⟩
theorem nV.UM{g:Gl}{MX:Nat->Prop}{LF:List Int}{Q:List Nat}{hd c c':Nat}(h:nV g MX LF Q hd c)(hc:c<=c'):nV g MX LF Q hd c':=
 { h with d:=fun s x hx=>(h.d s x hx).imp id fun ⟨k,h1,h2,h3⟩=>⟨k,h1,h2,by omega⟩ }
theorem nV.put{g:Gl}{MX:Nat->Prop}{LF:List Int}{Q:List Nat}{hd c:Nat}(h:nV g MX LF Q hd c){t s:Nat}{e:Ed}{x:Nat}(ht:Q[hd]?=some t)(hx:LF[t]?=some (x:Int))(hxc:x+1<=c)(hc:c<=100000)(he:e∈g.es)(h1:e.t=(t:Int))(h2:e.f=(s:Int))(hs:LF[s]?=some dD):
  nV g MX (LF.set s ((x:Int)+1)) (Q++[s]) hd c:=by
 have kM:=(Ya.1 hs).1;have bM:s∉Q:=fun hm=>by
  obtain⟨y,hy,hf⟩:=(h.q s).1 hm;rw[hs] at hy;cases hy;exact hf rfl
 have hdt:rR g.es MX t x:=by
  rcases h.d t _ hx with h9 | ⟨k,h9,cw,_⟩
  .exact absurd h9 (by unfold dD;omega)
  .have:k=x:=by omega
   subst this;exact cw
 have Eo:∀ {u:Nat},u∈Q->(LF.set s ((x:Int)+1))[u]?=LF[u]?:=fun {u} hu=>Yy (fun e=>bM (by rw[e];exact hu));have hdl:=(Ya.1 ht).1;refine⟨by rw[lh];exact h.ln,fun u y hu=>?_,fun u=>?_,?_,fun u hu hm=>?_,fun i j a b y z hij ha hb hy hz=>?_,fun a b y z ha hb hy hz=>?_,fun i a y hi ha hy e' xD KW=>?_⟩
 .by_cases e1:s=u
  .subst e1;rw[Yq kM] at hu;cases hu;refine .inr ⟨x+1,by omega,.step he h2 ?_,hxc⟩;rw[h1,Ys];exact hdt
  .rw[Yy e1] at hu;exact h.d u y hu
 .rw[Yk,Ye];by_cases e1:s=u
  .subst e1;rw[Yq kM];exact iff_of_true (.inr rfl) ⟨_,rfl,by unfold dD;omega⟩
  .rw[Yy e1,<-h.q u];exact⟨fun h9=>h9.elim id fun e=>absurd e.symm e1,.inl⟩
 .rw[List.nodup_append];exact⟨h.nd,by simp,fun a ha b hb e=>by rw[Ye] at hb;subst hb;subst e;exact bM ha⟩
 .have h9:=h.m u hu hm;rw[Yy (fun e=>by subst e;rw[hs] at h9;exact absurd (eP h9) (by unfold dD;decide))];exact h9
 .rcases Nat.lt_or_ge j Q.length with hj | hj
  .rw[lg hj] at hb;rw[lg (by omega)] at ha;rw[Eo (Yb ha)] at hy;rw[Eo (Yb hb)] at hz;exact h.so i j a b y z hij ha hb hy hz
  .have Cp:=(Ya.1 hb).1;rw[Yh,Yv] at Cp;rw[sz hj,show j-Q.length=0 by omega] at hb;cases hb;rw[Yq kM] at hz;cases hz;rcases Nat.lt_or_ge i Q.length with hi | hi
   .rw[lg hi] at ha;rw[Eo (Yb ha)] at hy;exact h.hi t a _ y ht (Yb ha) hx hy
   .rw[sz hi,show i-Q.length=0 by omega] at ha;cases ha;rw[Yq kM] at hy;cases hy;omega
 .rw[lg hdl,ht] at ha;cases ha;rw[Eo (Yb ht),hx] at hy;cases hy;rcases Yk.1 hb with hb | hb
  .rw[Eo hb] at hz;exact h.hi t b _ z ht hb hx hz
  .rw[Ye] at hb;subst hb;rw[Yq kM] at hz;cases hz;omega
 .rw[lg (by omega)] at ha;rw[Eo (Yb ha)] at hy;obtain⟨z,h3,h4⟩:=h.cl i a y hi ha hy e' xD KW;have hyb:y<=c:=by
   obtain⟨k,h5,_,h6⟩:=h.val (Yb ha);rw[h5] at hy;cases hy;omega
  refine⟨z,?_,h4⟩;rw[Yy (fun e=>by rw[<-e,hs] at h3;cases h3;unfold dD at h4;omega)];exact h3
theorem nV.next{g:Gl}{MX:Nat->Prop}{LF:List Int}{Q:List Nat}{hd c:Nat}(h:nV g MX LF Q hd c){t x:Nat}(ht:Q[hd]?=some t)(hx:LF[t]?=some (x:Int))(dU:∀e∈g.es,e.t=(t:Int)->∃y,LF[e.f.toNat]?=some y/\y<=x+1):nV g MX LF Q (hd+1) c:=by
 refine⟨h.ln,h.d,h.q,h.nd,h.m,h.so,fun s u y z hs hu hy hz=>?_,fun i a y hi ha hy e he het=>?_⟩
 .have h1:=h.hi t u _ z ht hu hx hz;have h2:=h.so hd (hd+1) t s _ y (by omega) ht hs hx hy;omega
 .by_cases e1:i=hd
  .subst e1;rw[ht] at ha;cases ha;rw[hx] at hy;cases hy;exact dU e he het
  .exact h.cl i a y (by omega) ha hy e he het
theorem nV.fin{g:Gl}{MX:Nat->Prop}{LF:List Int}{Q:List Nat}{c:Nat}(h:nV g MX LF Q Q.length c)(hc:c<=100000)(hE:∀e∈g.es,0<=e.f/\0<=e.t/\e.t<g.n){s k:Nat}(hd:rR g.es MX s k):s<g.n.toNat->∃y:Nat,LF[s]?=some (y:Int)/\y<=k/\y<=c/\rR g.es MX s y:=by
 induction hd with
 | base hm=>exact fun hs=>⟨0,h.m _ hs hm,bu _,Nat.zero_le _,.base hm⟩
 | @step s e k he hf hd ih=>
  intro hs;have Y9:=hE e he;obtain⟨y,h1,h2,RQ,h3⟩:=ih (by omega);have hq:e.t.toNat∈Q:=(h.q _).2 ⟨_,h1,fun e9=>by unfold dD at e9;omega⟩;obtain⟨i,hi⟩:=Yf.1 hq;obtain⟨z,h4,h5⟩:=h.cl i e.t.toNat _ (Ya.1 hi).1 hi h1 e he (by omega);have YI:e.f.toNat=s:=by omega
  rw[YI] at h4;rcases h.d s z h4 with rfl | ⟨k',rfl,h6,h7⟩
  .unfold dD at h5;omega
  .exact⟨k',h4,by omega,h7,h6⟩
theorem nV.QA{g:Gl}{MX:Nat->Prop}{LF:List Int}{Q:List Nat}{c:Nat}(h:nV g MX LF Q Q.length c)(hc:c<=100000)(hE:∀e∈g.es,0<=e.f/\0<=e.t/\e.t<g.n){s:Nat}(hs:s<g.n.toNat):
  (LF[s]?=some dD/\∀k,¬rR g.es MX s k)\/∃k:Nat,LF[s]?=some (k:Int)/\iZ g.es MX s k/\k<=c:=by
 obtain⟨x,hx⟩:=get_some (l:=LF) (i:=s) (by rw[h.ln];exact hs);rcases h.d s x hx with rfl | ⟨k,rfl,h1,h2⟩
 .refine .inl ⟨hx,fun k hk=>?_⟩;obtain⟨y,h3,_,h4,_⟩:=h.fin hc hE hk hs;rw[hx] at h3;have:=eP h3;unfold dD at this;omega
 .refine .inr ⟨k,hx,⟨h1,fun j hj=>?_⟩,h2⟩;obtain⟨y,h3,h4,_⟩:=h.fin hc hE hj hs;rw[hx] at h3;have:=eP h3;omega
theorem iZ.next{es:List Ed}{MX:Nat->Prop}{s k:Nat}(h:iZ es MX s (k+1)):∃e∈es,e.f=(s:Int)/\iZ es MX e.t.toNat k:=by
 obtain⟨hd,hl⟩:=h;cases hd with
 | step he hf hn=>exact⟨_,he,hf,hn,fun j hj=>by have:=hl _ (.step he hf hj);omega⟩
theorem iZ.uniq{es:List Ed}{MX:Nat->Prop}{s k n:Nat}(h1:iZ es MX s k)(h2:iZ es MX s n):k=n:=Nat.le_antisymm (h1.2 n h2.1) (h2.2 k h1.1)
theorem nV.init{g:Gl}{MX:Nat->Prop}{LF:List Int}{Q:List Nat}{c:Nat}(ln:LF.length=g.n.toNat)(h:∀s:Nat,s<g.n.toNat->(MX s/\LF[s]?=some 0/\s∈Q)\/(¬MX s/\LF[s]?=some dD/\s∉Q))(hq:∀s∈Q,s<g.n.toNat)(nd:Q.Nodup):nV g MX LF Q 0 c:=by
 have hv:∀ {s:Nat} {x:Int},s∈Q->LF[s]?=some x->x=0:=fun {s x} hs hx=>by
  rcases h s (hq s hs) with ⟨_,h2,_⟩ | ⟨_,_,h2⟩
  .rw[hx] at h2;exact eP h2
  .exact absurd hs h2
 refine⟨ln,fun s x hx=>?_,fun s=>?_,nd,fun s hs hm=>?_,fun i j s t x y _ hs ht hx hy=>?_,fun s t x y hs ht hx hy=>?_,fun i t x hi=>by omega⟩
 .have hs:s<g.n.toNat:=by rw[<-ln];exact (Ya.1 hx).1
  rcases h s hs with ⟨h1,h2,_⟩ | ⟨_,h2,_⟩
  .rw[hx] at h2;exact .inr ⟨0,eP h2,.base h1,Nat.zero_le _⟩
  .rw[hx] at h2;exact .inl (eP h2)
 .constructor
  .intro hs;rcases h s (hq s hs) with ⟨_,h2,_⟩ | ⟨_,_,h2⟩
   .exact⟨0,h2,by unfold dD;decide⟩
   .exact absurd hs h2
  .rintro⟨x,hx,hf⟩;have hs:s<g.n.toNat:=by rw[<-ln];exact (Ya.1 hx).1
   rcases h s hs with ⟨_,_,h2⟩ | ⟨_,h2,_⟩
   .exact h2
   .rw[hx] at h2;exact absurd (eP h2) hf
 .rcases h s hs with ⟨_,h2,_⟩ | ⟨h2,_,_⟩
  .exact h2
  .exact absurd hm h2
 .rw[hv (Yb hs) hx,hv (Yb ht) hy];exact Int.le_refl _
 .rw[hv (Yb hs) hx,hv ht hy];omega
end Go.VC
end

section
namespace Go.VC
open Go.Proofs Go.LexS
theorem Sn(b:Nat)(g:Gl)(k:Nat)(x:Ed)(LF:List Int)(lf:Sl)(s:Nat)(KQ ll:Int)(c0 c1 c2:Addr)(h:Heap)(h0:hc h c0=some (Value.slice lf.a lf.n lf.c))(h1:hc h c1=some (Value.pointer (some ⟨b,0,none⟩)))(h2:hc h c2=some (Value.int .i64 (s:Nat)))
  (Ci:hc h ⟨b,6,none⟩=some (Value.slice g.he.a g.he.n g.he.c)) (hg:GI h g) (hr:Rw h 1 lf (LF.map aM)) (hk:g.es[k]?=some x) (ht:0<=x.t) (hx:LF[x.t.toNat]?=some KQ) (hs:LF[s]?=some ll) (hb:0<=ll/\ll<=dD) :
  Fn Pz 173 #[.int .i64 (k:Nat),.pointer (some c0),.pointer (some c1),.pointer (some c2)] h fun v h'=>v=.bool (decide (KQ=ll-1))/\Ext h h':=by
 apply VX (k:Nat) c0 c1 c2;unfold abg;have nH:=(Ya.1 hk).1;have Gc:=(Ya.1 hx).1;have kM:=(Ya.1 hs).1;have nI:=hg.e.ln;have Cn:=hr.ln;unfold dD at hb;refine⟨lf,h0,some ⟨b,0,none⟩,h1,?_⟩;show ∃x4:Sl,hc h ⟨b,0+6,none⟩=some (.slice x4.a x4.n x4.c)/\_;refine⟨g.he,Ci,?_⟩;refine hg.e.rw.ax (by omega) (by omega) fun b5 o6 x' gx u=>?_;replace gx:g.es[k]?=some x':=gx;rw[hk] at gx;cases gx;refine⟨x.t,u.nth 4 rfl,?_⟩;refine hr.ax (by omega) (by omega) fun b8 o9 d gd u2=>?_;rw[hx] at gd;cases gd;refine⟨KQ,u2.hd,lf,h0,(s:Nat),h2,?_⟩;refine hr.ax (by omega) (by omega) fun b13 o14 d gd u3=>?_;replace gd:LF[s]?=some d:=gd;rw[hs] at gd;cases gd;refine⟨ll,u3.hd,?_,.jg⟩;rw[bd (by omega) (by omega)];congr 1
theorem SA:aF Pz 173=true:=by kernel_rfl
def HA(LF:List Int)(es:List Ed)(ll:Int)(k:Nat):Bool:=decide (LF.getD (eA es k).t.toNat 0=ll-1)
theorem xi(b:Nat)(g:Gl)(L:List Nat)(LF:List Int)(lf:Sl)(s:Nat)(ll:Int)(c0 c1 c2:Addr)(sl:Sl)(h:Heap)(hL:Rw h 1 sl ((aJ L).map aM))(hl:L.length<=1048576)(h0:hc h c0=some (Value.slice lf.a lf.n lf.c))(h1:hc h c1=some (Value.pointer (some ⟨b,0,none⟩)))(h2:hc h c2=some (Value.int .i64 (s:Nat)))
  (Ci:hc h ⟨b,6,none⟩=some (Value.slice g.he.a g.he.n g.he.c)) (hg:GI h g) (hr:Rw h 1 lf (LF.map aM)) (hk:∀k∈L,k<g.es.length) (hE:∀x∈g.es,0<=x.t/\x.t.toNat<LF.length) (hs:LF[s]?=some ll) (hb:0<=ll/\ll<=dD) :
  Fn Pz 172 #[.slice sl.a sl.n sl.c,.func (.func 173) #[] #[.pointer (some c0),.pointer (some c1),.pointer (some c2)]] h fun v h'=>v=.int .i64 (uO (HA LF g.es ll) L)/\Ext h h':=by
 apply VY;unfold abh;have hn9:sl.n=L.length:=by have:=hL.ln;unfold aJ at this;rwa [Yc] at this
 refine⟨fun x h' μ=>∃i:Nat,x=i/\μ=sl.n-i/\i<=sl.n/\Ext h h'/\∀(j:Nat) (y:Nat),j<i->L[j]?=some y->HA LF g.es ll y=false,⟨_,0,rfl,rfl,Nat.zero_le _,.jg,fun j y hj=>by omega⟩,?_⟩;rintro-_ h5 μ ⟨i,rfl,rfl,hi,E,hd⟩;refine aQ (fun c=>?_) (fun c=>?_)
 .refine (hL.ext E).ax (by omega) (by omega) fun b6 o7 d gd t=>?_;obtain⟨k,gk,rfl⟩:=cZ gd;replace gk:L[i]?=some k:=gk;obtain⟨x,hx⟩:=get_some (hk k (Yb gk));have tn:=hE x (Yb hx);obtain⟨KQ,XE⟩:=get_some tn.2;refine⟨(k:Int),t.hd,?_⟩;show cond (aF Pz 173) _ _;rw[SA,cond_true];refine (Sn b g k x LF lf s KQ ll c0 c1 c2 h5 (aw E h0) (aw E h1) (aw E h2) (aw E Ci) (hg.ext E) (hr.ext E) hx tn.1 XE hs hb).mono ?_;rintro _ fx ⟨rfl,E2⟩;have oB:HA LF g.es ll k=decide (KQ=ll-1):=by
   unfold HA;rw[aI hx,Yo,XE];rfl
  refine⟨_,rfl,aa (fun c1=>⟨?_,E.trans E2⟩) (fun c1=>⟨_,by omega,i+1,by rw[bd (by omega) (by omega)];omega,rfl,by omega,E.trans E2,fun j y hj hy=>?_⟩)⟩
  .unfold uO;rw[qN hd gk (by rw[oB];exact c1)]
  .by_cases e1:j=i
   .subst e1;rw[gk] at hy;cases hy;rw[oB];exact c1
   .exact hd j y (by omega) hy
 .refine⟨?_,E⟩;unfold uO;rw[Cd fun j y hj=>hd j y (by have:=(Ya.1 hj).1;omega) hj]
theorem Sz:aF Pz 175=true:=by kernel_rfl
theorem HW(L:List Ev)(s:Sl)(h:Heap)(hr:Rw h 3 s (L.map Ev.cs))(hl:L.length<=1048576):
  Fn Pz 174 #[.slice s.a s.n s.c,.func (.func 175) #[] #[]] h fun v h'=>v=.int .i64 (uO (fun x=>!x.send) L)/\Ext h h':=by
 apply VW;unfold abf;have hn:=hr.ln;refine⟨fun x h' μ=>∃i:Nat,x=i/\μ=s.n-i/\i<=s.n/\Ext h h'/\∀(j:Nat) (y:Ev),j<i->L[j]?=some y->(!y.send)=false,⟨_,0,rfl,rfl,Nat.zero_le _,.jg,fun j y hj=>by omega⟩,?_⟩;rintro-_ h5 μ ⟨i,rfl,rfl,hi,E,hd⟩;refine aQ (fun c=>?_) (fun c=>?_)
 .refine (hr.ext E).ax (by omega) (by omega) fun b6 o7 q g t=>?_;replace g:L[i]?=some q:=g;refine⟨q.send,q.peer,q.label,t,?_⟩;show cond (aF Pz 175) _ _;rw[Sz,cond_true];show Fn Pz 175 #[.agg ⟨q.cs⟩] h5 _;apply VV q.send q.peer q.label;unfold abe;refine (St.refl h5).ao fun h4 hs=>?_;refine⟨q.send,hs.rd 0 rfl (i:=0) rfl,?_⟩;refine⟨_,rfl,aa (fun c1=>⟨?_,E.trans hs.ext⟩) (fun c1=>⟨_,by omega,i+1,by rw[bd (by omega) (by omega)];omega,rfl,by omega,E.trans hs.ext,fun j y hj hy=>?_⟩)⟩
  .unfold uO;rw[qN hd g c1]
  .by_cases e1:j=i
   .subst e1;rw[g] at hy;cases hy;exact c1
   .exact hd j y (by omega) hy
 .refine⟨?_,E⟩;unfold uO;rw[Cd fun j y hj=>hd j y (by have:=(Ya.1 hj).1;omega) hj]
abbrev Li:=Sl × List Int
def qH(ib lb h1b hb b:Nat)(IN:List Li)(lf:Sl)(LF:List Int)(q:Sl)(Q:List Nat):List It:=
 [.sl q 3 1 ((aJ Q).map aM),.af lb [.slice lf.a lf.n lf.c] 102,.sl lf 3 1 (LF.map aM),.af ib ((IN.map Prod.fst).map fZ) 102,.af h1b fc.cs 35,.af hb [.pointer (some ⟨b,0,none⟩)] 89]++IN.map (nest 3 1 aM)++[]
def Ga(f:Fs):Bool:=a8 f.l 0&&(f.b || !a8 f.l (f.l.length-1))
def p6(X:An)(s:Nat):Prop:=∃f,X.fi[s]?=some f/\Ga f=true
def Ch(es:List Ed)(t:Nat):List Int:=(es.filter fun e=>decide (e.t=(t:Int))).map (·.f)
theorem Cf{es:List Ed}{t:Nat}{p:Int}:p∈Ch es t ↔ ∃e∈es,e.t=(t:Int)/\e.f=p:=by
 unfold Ch;rw[Yp];constructor
 .rintro⟨e,he,rfl⟩;rw[List.mem_filter,decide_eq_true_eq] at he;exact⟨e,he.1,he.2,rfl⟩
 .rintro⟨e,he,h1,rfl⟩;exact⟨e,List.mem_filter.2 ⟨he,decide_eq_true h1⟩,rfl⟩
theorem Cg(es:List Ed)(t:Nat):(Ch es t).length<=es.length:=by unfold Ch;rw[Yc];exact List.length_filter_le _ _
theorem Qx(n:Nat):ak Pz 3 n=((List.replicate n (0:Int)).map aM).flatten:=by
 rw[HN,List.map_replicate]
 induction n with
 | zero=>rfl
 | succ n ih=>rw[List.replicate_succ,List.replicate_succ,pI,<-ih];rfl
theorem Mw(n:Nat):ak Pz 102 n=(List.replicate n aH).map fZ:=by
 rw[Cc,List.map_replicate,List.map_replicate]
 induction n with
 | zero=>rfl
 | succ n ih=>rw[List.replicate_succ,List.replicate_succ,pI,ih];rfl
theorem H2(L:List Int):∀r∈L.map aM,r.length=1:=fun r hr=>by obtain⟨x,_,rfl⟩:=Yp.1 hr;rfl
structure UG (g:Gl) (IN:List Li):Prop where
 e:IN.map Prod.snd=(List.range g.n.toNat).map (Ch g.es)
theorem UG.len{g:Gl}{IN:List Li}(h:UG g IN):IN.length=g.n.toNat:=by have:=congrArg List.length h.e;simpa using this
theorem UG.at{g:Gl}{IN:List Li}(h:UG g IN){t:Nat}(ht:t<g.n.toNat):∃q,IN[t]?=some q/\q.2=Ch g.es t:=by
 obtain⟨q,hq⟩:=get_some (l:=IN) (i:=t) (by rw[h.len];exact ht);have h1:=aU h.e ht;rw[Yd,hq] at h1;exact⟨q,hq,eP h1⟩
theorem SM{h oJ h2 cw h1:Heap}{b:Nat}{g:Gl}{X:An}{IN:List Li}{lf q0:Sl}{LF0:List Int}{Q0:List Nat}{R:Value->Heap->Prop}
  (hs:St h oJ (qH h2.size cw.size h1.size h.size b IN lf LF0 q0 Q0)) (hV:ah g) (hI:UG g IN) (hB:nV g (p6 X) LF0 Q0 0 0)
  (hK:∀(js:Heap) (q:Sl) (LF:List Int) (Q:List Nat),St h js (qH h2.size cw.size h1.size h.size b IN lf LF q Q)->nV g (p6 X) LF Q Q.length 1000->JT js h cw h1 R) :
  Tg q0 oJ g.n h2 cw h h1 R:=by
 unfold Tg;have hN:=hV.num.n;have hM:=hV.num.m;have hE:=hV.num.e;refine⟨fun q x h' μ=>∃(hd:Nat) (LF:List Int) (Q:List Nat),x=(hd:Int)/\μ=g.n.toNat-hd/\hd<=Q.length/\St h h' (qH h2.size cw.size h1.size h.size b IN lf LF q Q)/\nV g (p6 X) LF Q hd hd,⟨_,0,LF0,Q0,rfl,rfl,Nat.zero_le _,hs,hB⟩,?_⟩;clear hs hB;rintro-q _ js μ ⟨hd,LF,Q,rfl,rfl,hhd,hs,hB⟩;have hQl:=hB.len;have lq:=(hs.len 0 (s:=q) (e:=3) (n:=1) (rows:=(aJ Q).map aM) rfl (by omega)).1;rw[Yc] at lq;have Q6:q.n=Q.length:=by unfold aJ at lq;rwa [Yc] at lq
 refine aQ (fun c=>?_) (fun c=>?_)
 .refine (hs.rows 0 rfl (by omega)).ax (by omega) (by omega) fun b76 o77 d gd u=>?_;obtain⟨t,ht,rfl⟩:=cZ gd;replace ht:Q[hd]?=some t:=ht;have EO:=Yb ht;have OT:=hB.lt EO;obtain⟨xx,Aj,_,hxc⟩:=hB.val EO;obtain⟨qi,XQ,XP⟩:=hI.at OT;refine⟨(t:Int),u.hd,⟨by omega,by omega⟩,?_⟩;rw[show 0+Int.toNat ((t:Nat):Int)*1=t by omega];refine⟨qi.1,hs.rd 3 rfl (by rw[Yd,Yd,XQ];rfl),?_⟩;have dh:∀ {LF:List Int} {q:Sl} {Q:List Nat},.sl qi.1 3 1 (qi.2.map aM)∈qH h2.size cw.size h1.size h.size b IN lf LF q Q:=fun {LF q Q}=>by
   unfold qH;exact List.mem_append_left _ (List.mem_append_right _ (Yp.2 ⟨qi,Yb XQ,rfl⟩))
  have dC:qi.1.n=(Ch g.es t).length:=by
   have:=(hs.vF dh (by omega)).1
   rwa [Yc,XP] at this
  have mc:=Cg g.es t;unfold aci;refine⟨fun q x h' μ=>∃(j:Nat) (LF:List Int) (Q:List Nat),x=(j:Int)/\μ=qi.1.n-j/\j<=qi.1.n/\St h h' (qH h2.size cw.size h1.size h.size b IN lf LF q Q)/\nV g (p6 X) LF Q hd (hd+1)/\Q[hd]?=some t/\LF[t]?=some (xx:Int)/\∀(i:Nat) p,i<j->(Ch g.es t)[i]?=some p->∃y,LF[p.toNat]?=some y/\y<=xx+1,⟨_,0,LF,Q,rfl,rfl,Nat.zero_le _,hs,hB.UM (by omega),ht,Aj,fun i p hi=>by omega⟩,?_⟩;clear hs hB hQl lq Q6 hhd Aj ht EO gd u c;rintro-q h85 h85' μ ⟨j,LF,Q,rfl,rfl,hj,hs,hB,ht,Aj,Il⟩;have hQl:=hB.len;have hdl:=(Ya.1 ht).1;have lq:=(hs.len 0 (s:=q) (e:=3) (n:=1) (rows:=(aJ Q).map aM) rfl (by omega)).1;rw[Yc] at lq;have Q6:q.n=Q.length:=by unfold aJ at lq;rwa [Yc] at lq
  have E7:=(hs.len 2 (s:=lf) (e:=3) (n:=1) (rows:=LF.map aM) rfl (by omega)).1;rw[Yc,hB.ln] at E7;refine aQ (fun c=>?_) (fun c=>?_)
  .refine (hs.vF dh (by omega)).ax (by omega) (by omega) fun b86 o87 p gp u=>?_;rw[XP] at gp;replace gp:(Ch g.es t)[j]?=some p:=gp;obtain⟨e,he,het,YN⟩:=Cf.1 (Yb gp);have j6:=hE e he;unfold fp at j6;obtain⟨p',oz⟩:∃p':Nat,p=(p':Int):=⟨p.toNat,by omega⟩;subst oz;refine⟨(p':Int),u.hd,lf,hs.rd 1 rfl (i:=0) rfl,?_⟩;refine (hs.rows 2 rfl (by omega)).ax (by omega) (by omega) fun b90 o91 v gv u2=>?_;replace gv:LF[p']?=some v:=gv;refine⟨v,u2.hd,eS (fun c2=>?_) (fun c2=>?_)⟩
   .have T5:LF[p']?=some dD:=by rw[gv,c2];rfl
    refine⟨lf,hs.rd 1 rfl (i:=0) rfl,lf,hs.rd 1 rfl (i:=0) rfl,?_⟩;refine (hs.rows 0 rfl (by omega)).ax (by omega) (by omega) fun b95 o96 d gd u3=>?_;obtain⟨t',KW,rfl⟩:=cZ gd;replace KW:Q[hd]?=some t':=KW;rw[ht] at KW;cases KW;refine⟨(t:Int),u3.hd,?_⟩;refine (hs.rows 2 rfl (by omega)).ax (by omega) (by omega) fun b98 o99 w gw u4=>?_;replace gw:LF[t]?=some w:=gw;rw[Aj] at gw;cases gw;refine⟨(xx:Int),u4.hd,?_⟩;rw[bd (by omega) (by omega)];refine hs.set 2 rfl (by omega) (x:=(p':Int)) (by omega) (by omega) ((xx:Int)+1) rfl rfl (fun b17 TK Zj hs=>?_) rfl;have hs:St h Zj (qH h2.size cw.size h1.size h.size b IN lf (LF.set p' ((xx:Int)+1)) q Q):=hs;refine hs.app 0 rfl dt (m:=1) [aM (p':Int)] rfl rfl (fun r hr=>by rw[Ye] at hr;rw[hr];rfl) rfl (by omega) (by simp only[maxLen];omega) fun ahh sy n105 hs=>?_;have Un:=hB.put ht Aj (by omega) (by omega) he het (s:=p') YN T5;refine⟨_,?_,j+1,_,Q++[p'],by rw[bd (by omega) (by omega)];omega,rfl,by omega,?_,Un,by rw[lg hdl];exact ht,?_,fun i r hi gr=>?_⟩
    .omega
    .have e9:(aJ (Q++[p'])).map aM=(aJ Q).map aM++[aM (p':Int)]:=by rw[nA,Ym];rfl
     unfold qH;rw[e9];exact hs
    .rw[Yy (fun e9=>by subst e9;rw[T5] at Aj;have:=eP Aj;unfold dD at this;omega)];exact Aj
    .by_cases e9:i=j
     .subst e9;rw[gp] at gr;cases gr;refine⟨(xx:Int)+1,?_,Int.le_refl _⟩;rw[Ys];exact Yq (by rw[hB.ln];omega)
     .obtain⟨y,h5,h6⟩:=Il i r (by omega) gr;by_cases e10:p'=r.toNat
      .rw[<-e10,T5] at h5;have:=eP h5;unfold dD at this;omega
      .exact⟨y,by rw[Yy e10];exact h5,h6⟩
   .refine⟨_,?_,j+1,LF,Q,by rw[bd (by omega) (by omega)];omega,rfl,by omega,hs,hB,ht,Aj,fun i r hi gr=>?_⟩
    .omega
    .by_cases e9:i=j
     .subst e9;rw[gp] at gr;cases gr;refine⟨v,gv,hB.hi t p' _ v ht ((hB.q p').2 ⟨v,gv,c2⟩) Aj gv⟩
     .exact Il i r (by omega) gr
  .refine⟨_,?_,hd+1,LF,Q,by rw[bd (by omega) (by omega)];omega,rfl,by omega,hs,hB.next ht Aj fun e he het=>?_⟩
   .omega
   .obtain⟨i,hi⟩:=Yf.1 (Cf.2 ⟨e,he,het,rfl⟩);have:=(Ya.1 hi).1;exact Il i e.f (by omega) hi
 .have:hd=Q.length:=by omega
  subst this;exact hK js q LF Q hs (hB.UM (by omega))
theorem sA{a:Addr}{F:Addr->Prop}(h:F a):NC (some a) F:=h
theorem QB{h az h2 cw h1:Heap}{b:Nat}{g:Gl}{role:Int}{X:An}{IN:List Li}{lf:Sl}{R:Value->Heap->Prop}
  (hs:St h az (qH h2.size cw.size h1.size h.size b IN lf (List.replicate g.n.toNat 0) aH [])) (hA:sC h b g role X) (hV:ah g) (hI:UG g IN)
  (hK:∀(js:Heap) (q:Sl) (LF:List Int) (Q:List Nat),St h js (qH h2.size cw.size h1.size h.size b IN lf LF q Q)->nV g (p6 X) LF Q Q.length 1000->JT js h cw h1 R) :
  Th az cw h g.n h2 h1 R:=by
 unfold Th;have hN:=hV.num.n;have E7:=(hs.len 2 (s:=lf) (e:=3) (n:=1) (rows:=(List.replicate g.n.toNat 0).map aM) rfl (by omega)).1;rw[Yc,Yg] at E7;refine⟨lf,hs.rd 1 rfl (i:=0) rfl,?_⟩;refine⟨fun q x h' μ=>∃(s:Nat) (LF:List Int) (Q:List Nat),x=(s:Int)/\μ=g.n.toNat-s/\s<=g.n.toNat/\St h h' (qH h2.size cw.size h1.size h.size b IN lf LF q Q)/\LF.length=g.n.toNat/\(∀t:Nat,t<s->(p6 X t/\LF[t]?=some 0/\t∈Q)\/(¬p6 X t/\LF[t]?=some dD/\t∉Q))/\(∀t∈Q,t<s)/\Q.Nodup/\Q.length<=s,
  ⟨_,0,_,[],rfl,rfl,Nat.zero_le _,hs,by rw[Yg],fun t ht=>by omega,fun t ht=>(by cases ht),.nil,bu _⟩,?_⟩
 clear hs;rintro-q _ oJ μ ⟨s,LF,Q,rfl,rfl,ki,hs,Nf,cA,hQs,EW,hQl⟩;refine aQ (fun c=>?_) (fun c=>?_)
 .refine⟨lf,hs.rd 1 rfl (i:=0) rfl,?_⟩;refine hs.set 2 rfl (by omega) (x:=(s:Int)) (by omega) (by omega) dD rfl rfl (fun b17 TK j7 hs=>?_) rfl;have hs:St h j7 (qH h2.size cw.size h1.size h.size b IN lf (LF.set s dD) q Q):=hs;refine⟨some ⟨b,0,none⟩,hs.rd 5 rfl (i:=0) rfl,sA ⟨X.bZ,aw hs.ext hA.r.f,?_⟩⟩;have yU:=hA.r.rf.ln;have hnf:=hA.nf;refine (hA.r.rf.ext hs.ext).rw.ax (by omega) (by omega) fun ZY Xj f gf u=>?_;replace gf:X.fi[s]?=some f:=gf;have fV:=hA.r.re f (Yb gf);refine⟨f.s,f.b,u,?_⟩;refine (w7 f.l f.b f.s j7 (fV.ext hs.ext).rw fV.sm).mono ?_;rintro _ II ⟨rfl,E⟩;replace hs:=hs.step E;have sh:p6 X s ↔ Ga f=true:=⟨fun ⟨f',h1,h2⟩=>by rw[gf] at h1;cases h1;exact h2,fun h9=>⟨f,gf,h9⟩⟩;have YY:∀(v:Int) (t:Nat),t<s->((LF.set s dD).set s v)[t]?=LF[t]?:=fun v t ht=>by rw[Yy (by omega),Yy (by omega)]
  refine⟨_,rfl,aa (fun c2=>?_) (fun c2=>?_)⟩
  .refine⟨lf,hs.rd 1 rfl (i:=0) rfl,?_⟩;refine hs.set 2 rfl (by omega) (x:=(s:Int)) (by omega) (by omega) (0:Int) rfl rfl (fun b17 TK tw hs=>?_) rfl;have hs:St h tw (qH h2.size cw.size h1.size h.size b IN lf ((LF.set s dD).set s 0) q Q):=hs;have lq:=(hs.len 0 (s:=q) (e:=3) (n:=1) (rows:=(aJ Q).map aM) rfl (by omega)).1;rw[Yc] at lq;have Q6:q.n=Q.length:=by unfold aJ at lq;rwa [Yc] at lq
   refine hs.app 0 rfl dt (m:=1) [aM (s:Int)] rfl rfl (fun r hr=>by rw[Ye] at hr;rw[hr];rfl) rfl (by omega) (by simp only[maxLen];omega) fun s66 IH n66 hs=>?_;refine⟨_,?_,s+1,(LF.set s dD).set s 0,Q++[s],by rw[bd (by omega) (by omega)];omega,rfl,by omega,?_,by rw[lh,lh];exact Nf,fun t ht=>?_,fun t ht=>?_,?_,by rw[Yh,Yv];omega⟩
   .omega
   .have e9:(aJ (Q++[s])).map aM=(aJ Q).map aM++[aM (s:Int)]:=by rw[nA,Ym];rfl
    unfold qH;rw[e9];exact hs
   .by_cases e:t=s
    .subst e;exact .inl ⟨sh.2 c2,Yq (by rw[lh];omega),by simp⟩
    .rw[YY 0 t (by omega),Yk,Ye];exact (cA t (by omega)).imp (fun ⟨h1,h2,h3⟩=>⟨h1,h2,.inl h3⟩) (fun ⟨h1,h2,h3⟩=>⟨h1,h2,fun h9=>h9.elim h3 e⟩)
   .rcases Yk.1 ht with ht | ht
    .have:=hQs t ht;omega
    .rw[Ye] at ht;omega
   .rw[List.nodup_append];exact⟨EW,by simp,fun a ha b hb e=>by rw[Ye] at hb;have:=hQs a ha;omega⟩
  .refine⟨_,?_,s+1,LF.set s dD,Q,by rw[bd (by omega) (by omega)];omega,rfl,by omega,hs,by rw[lh];exact Nf,fun t ht=>?_,fun t ht=>?_,EW,by omega⟩
   .omega
   .by_cases e:t=s
    .subst e;exact .inr ⟨fun h9=>(by rw[sh] at h9;unfold Ga at h9;rw[h9] at c2;cases c2),Yq (by omega),fun h9=>by have:=hQs t h9;omega⟩
    .rw[Yy (by omega)];exact cA t (by omega)
   .have:=hQs t ht;omega
 .have:s=g.n.toNat:=by omega
  subst this;exact SM hs hV hI (.init Nf cA hQs EW) hK
theorem Ew{b:Nat}{g:Gl}{role:Int}{X:An}{h:Heap}{R:Value->Heap->Prop}(hA:sC h b g role X)(hV:ah g)
  (hK:∀(js cw h1 h2:Heap) (IN:List Li) (lf q:Sl) (LF:List Int) (Q:List Nat),St h js (qH h2.size cw.size h1.size h.size b IN lf LF q Q)->nV g (p6 X) LF Q Q.length 1000->JT js h cw h1 R) :
  Fn Pz 97 #[.pointer (some ⟨b,0,none⟩)] h R:=by
 apply acC ⟨b,0,none⟩;unfold W97;have hN:=hV.num.n;have hM:=hV.num.m;have hE:=hV.num.e;have hg:=hA.gg.gi;have nI:=hg.e.ln;have sh:g.n.toNat<=9223372036854775807:=by omega
 refine (St.refl h).ao fun h1 hs=>?_;refine hs.ao fun h2 hs=>?_;refine⟨some ⟨b,0,none⟩,hs.rd 1 rfl (i:=0) rfl,sA ⟨g.n,aw hs.ext (hA.gg.at_.nth 3 rfl),⟨by omega,by omega,by omega⟩,?_⟩⟩;refine hs.ao fun h6 hs=>?_;refine⟨some ⟨b,0,none⟩,hs.rd 2 rfl (i:=0) rfl,sA ⟨g.n,aw hs.ext (hA.gg.at_.nth 3 rfl),⟨by omega,by omega,by omega⟩,?_⟩⟩;refine hs.ao fun cw hs=>?_;refine hs.aj (vs:=[.slice (some ⟨h6.size,0,none⟩) g.n.toNat g.n.toNat]) rfl rfl fun CD hs=>?_;have hs:=hs.tP 1 rfl g.n.toNat 1 ((List.replicate g.n.toNat (0:Int)).map aM) (Qx _) (H2 _) (by rw[Yc,Yg]) sh;have hs:=hs.cn 3 1;have hs:=hs.kh (α:=Int) (e:=3) (k:=1) (cs:=aM) (A:=[_,_,_,_,_,_]) (B:=[]) g.n.toNat;generalize hlf:(⟨some ⟨h6.size,0,none⟩,g.n.toNat,g.n.toNat⟩:Sl)=lf at *;have hs:St h CD (qH h2.size cw.size h1.size h.size b (List.replicate g.n.toNat (aH,[])) lf (List.replicate g.n.toNat 0) aH []):=by
  subst hlf;unfold qH;rw[List.map_replicate (f:=Prod.fst),<-Mw];exact hs
 clear hlf;refine⟨some ⟨b,0,none⟩,hs.rd 5 rfl (i:=0) rfl,sA ⟨g.he,aw hs.ext (hA.gg.at_.nth 6 rfl),?_⟩⟩;refine⟨fun x h' μ=>∃(j:Nat) (IN:List Li),x=(j:Int)/\μ=g.es.length-j/\j<=g.es.length/\IN.map Prod.snd=((List.range g.n.toNat).map (Ch (g.es.take j)))/\St h h' (qH h2.size cw.size h1.size h.size b IN lf (List.replicate g.n.toNat 0) aH []),
  ⟨_,0,_,rfl,rfl,Nat.zero_le _,?_,hs⟩,?_⟩
 .rw[List.map_replicate];apply y4;intro s;rw[List.getElem?_replicate,Yd];by_cases hs:s<g.n.toNat
  .rw[if_pos hs,vk hs];rfl
  .rw[if_neg hs,Yl (by rw[kv];omega)];rfl
 clear hs;rintro-_ az μ ⟨j,IN,rfl,rfl,hj,hIN,hs⟩;have hIl:IN.length=g.n.toNat:=by have:=congrArg List.length hIN;simpa using this
 refine aQ (fun c=>?_) (fun c=>?_)
 .refine (hg.e.rw.ext hs.ext).ax (by omega) (by omega) fun b21 o22 x gx u=>?_;replace gx:g.es[j]?=some x:=gx;have j6:=hE x (Yb gx);unfold fp at j6;obtain⟨q,hq⟩:=get_some (l:=IN) (i:=x.t.toNat) (by omega);refine⟨_,_,_,_,_,_,u,?_⟩;refine hs.aj (vs:=x.cs) rfl rfl fun y3 hs=>?_;refine⟨x.t,hs.rd 0 rfl (i:=4) rfl,x.t,hs.rd 0 rfl (i:=4) rfl,⟨by omega,by omega⟩,?_⟩;rw[show 0+Int.toNat x.t*1=x.t.toNat by omega];refine⟨q.1,hs.rd 4 rfl (by rw[Yd,Yd,hq];rfl),x.f,hs.rd 0 rfl (i:=0) rfl,?_⟩;refine hs.aq fun bA E35 hs=>⟨E35.sm,?_⟩;have hs:St h bA ((.af y3.size [.int .i64 x.f] 3 :: .af az.size x.cs 67::[.sl aH 3 1 ((aJ []).map aM),.af cw.size [.slice lf.a lf.n lf.c] 102,.sl lf 3 1 ((List.replicate g.n.toNat 0).map aM),.af h2.size ((IN.map Prod.fst).map fZ) 102,.af h1.size fc.cs 35,.af h.size [.pointer (some ⟨b,0,none⟩)] 89])++IN.map (nest 3 1 aM)++[]):=hs;have lq:=(hs.kI hq (by omega)).ln;have ij:q.2=Ch (g.es.take j) x.t.toNat:=by
   have h1:=aU hIN (s:=x.t.toNat) (by omega);rw[Yd,hq] at h1;exact eP h1
  have Au:q.2.length<=400:=by rw[ij];refine iX (Cg _ _) ?_;rw[Yu];omega
  refine hs.iw hq dt x.f (hs.at 0 rfl (o:=0) (n:=1) rfl) rfl rfl (by omega) (by simp only[maxLen];omega) fun r oK hr eO=>?_;refine⟨bG (hs.same eO 1 1 rfl rfl) eJ,⟨by omega,by omega⟩,?_⟩;refine eO.put 5 rfl (o:=x.t.toNat) (vs:=[fZ r]) rfl (by rw[Yc,Yc,Yv];omega) fun tB hs=>?_;rw[cI fZ (by rw[Yc];omega)] at hs;refine⟨_,by omega,j+1,IN.set x.t.toNat (r,q.2++[x.f]),by rw[bd (by omega) (by omega)];omega,rfl,by omega,?_,?_⟩
  .rw[List.map_set,hIN];refine dP (by omega) ?_ fun t ht=>?_
   .unfold Ch;rw[ae gx,List.filter_append,Ym,ij];unfold Ch;rw[List.filter_cons_of_pos (by rw[decide_eq_true_eq];omega)];rfl
   .unfold Ch;rw[ae gx,List.filter_append,Ym,List.filter_cons_of_neg (by rw[decide_eq_true_eq];omega)];exact Yw _
  .have hs:=hs.drop 2;unfold qH;rw[List.map_set (f:=Prod.fst)];exact hs
 .rw[Yj (by omega)] at hIN;exact QB hs hA hV ⟨hIN⟩ fun js q LF Q hs hB=>hK js cw h1 h2 IN lf q LF Q hs hB
inductive GS (es:List Ed) (LF:List Int) (s0:Nat):List Nat->Nat->Prop
 | nil:GS es LF s0 [] s0
 | snoc {ks:List Nat} {s:Nat} {x:Int} {j i:Nat}:GS es LF s0 ks s->LF[s]?=some x->0<x->(av es (s:Nat)).findIdx? (HA LF es x)=some j->(av es (s:Nat))[j]?=some i->GS es LF s0 (ks++[i]) (eA es i).t.toNat
def mz(es:List Ed)(ks:List Nat):List Ac:=ks.map fun i=>(eA es i).act
def OA(role:Int)(l:List Ev):DE:=(l.find? fun x=>!x.send).elim ⟨-1,false,0,0⟩ (ba role)
def TP(wb sb:Nat)(role:Int)(wf:Sl)(s:Nat)(F:List Ac)(R:List It):List It:=
 .sl wf 65 3 (F.map Ac.cs) :: .af wb (Wt.cs ⟨2,role,wf,aH,dy,dy⟩) 35 :: .af sb [.int .i64 (s:Nat)] 3::R
theorem Nr{AA h js qU h1 h2 cw:Heap}{b:Nat}{g:Gl}{role:Int}{X:An}{wf lf q:Sl}{s:Nat}{F:List Ac}{IN:List Li}{LF:List Int}{Q:List Nat}{f:Fs}{Lq:Int}{R:Value->Heap->Prop}
  (hs:St h AA (TP qU.size js.size role wf s F (qH h2.size cw.size h1.size h.size b IN lf LF q Q))) (hA:sC h b g role X) (hf:X.fi[s]?=some f) (hm:Ga f=true)
  (hK:∀(h':Heap) (w:Wt) (e0:Ev) (L:List It),w.k=2->w.r=role->f.l[0]?=some e0->w.e=ba role e0->w.o=OA role f.l->St h h' (.sl w.f 65 3 (F.map Ac.cs) :: .sl w.s 65 3 (([]:List Ac).map Ac.cs)::L)->R (.tuple ⟨[.agg ⟨w.cs⟩,.int .i64 (IntKind.wrap .i64 (2*Lq))]⟩) h') :
  Tj AA h js qU h1 R Lq:=by
 unfold Tj;have Ci:hc h ⟨b,8,none⟩=some (Value.int .i64 role):=hA.r.ro;have yU:=hA.r.rf.ln;have kM:=(Ya.1 hf).1;have fV:=hA.r.re f (Yb hf);have ahS:=fV.ln;have oE:0<f.l.length:=by
  rcases Nat.eq_zero_or_pos f.l.length with h9 | h9
  .rw[List.length_eq_zero_iff] at h9;unfold Ga a8 at hm;simp[h9] at hm
  .exact h9
 refine⟨some ⟨b,0,none⟩,hs.rd 8 rfl (i:=0) rfl,sA ⟨X.bZ,aw hs.ext hA.r.f,(s:Nat),hs.rd 2 rfl (i:=0) rfl,?_⟩⟩;refine (hA.r.rf.ext hs.ext).rw.ax (by omega) (by omega) fun ZY Xj f' gf u=>?_;replace gf:X.fi[s]?=some f':=gf;rw[hf] at gf;cases gf;refine⟨f.s,f.b,u,?_⟩;refine hs.aq fun aiz E hs=>⟨E.sm,?_⟩;refine hs.put 0 rfl (o:=0) (vs:=f.cs) rfl (bu 2) fun afe hs=>?_;refine⟨some ⟨b,0,none⟩,hs.rd 9 rfl (i:=0) rfl,f.s,hs.rd 0 rfl (i:=0) rfl,?_⟩;refine (fV.ext hs.ext).rw.ax (by omega) (by omega) fun aiU ahj e0 ge u2=>?_;replace ge:f.l[0]?=some e0:=ge;refine⟨e0.send,e0.peer,e0.label,u2,?_⟩;refine (mq b role e0 afe (aw hs.ext Ci)).mono ?_;rintro _ aiy ⟨E2,rfl⟩;replace hs:=hs.step E2;refine⟨role,e0.send,e0.peer,e0.label,aH,rfl,?_⟩;refine hs.put 2 rfl (o:=4) (vs:=(ba role e0).cs) rfl (by show 4+5<=14;decide) fun aix hs=>?_;refine hs.put 2 rfl (o:=9) (vs:=DE.cs ⟨-1,false,0,0⟩) rfl (by show 9+5<=14;decide) fun IK hs=>?_;refine⟨f.s,hs.rd 0 rfl (i:=0) rfl,?_⟩;refine (HW f.l f.s IK (fV.ext hs.ext).rw fV.sm).mono ?_;rintro _ RO ⟨rfl,E3⟩;replace hs:=hs.step E3;refine⟨_,rfl,?_⟩;unfold uO;cases ja:f.l.findIdx? fun x=>!x.send with
 | none=>
  have hot:OA role f.l=⟨-1,false,0,0⟩:=by
   unfold OA;rw[List.findIdx?_eq_none_iff] at ja;rw[CH fun j y hj=>ja y (Yb hj)];rfl
  refine aQ (fun c=>absurd c (by show ¬(-1:Int)>=0;decide)) (fun _=>?_);refine Jm hs 2 8 (w:=⟨2,role,wf,aH,ba role e0,⟨-1,false,0,0⟩⟩) (w0:=fc) rfl rfl fun jN hs=>?_;refine vG (w:=⟨2,role,wf,aH,ba role e0,⟨-1,false,0,0⟩⟩) (Q:=fun cs=>R (.tuple ⟨[.agg ⟨cs⟩,.int .i64 (IntKind.wrap .i64 (2*Lq))]⟩) jN) (hs.at 8 rfl (o:=0) (n:=14) rfl) ?_;have hs:=(hs.drop 1).cn 65 3;exact hK jN ⟨2,role,wf,aH,ba role e0,⟨-1,false,0,0⟩⟩ e0 _ rfl rfl ge rfl hot.symm (hs.perm (List.Perm.swap _ _ _))
 | some i=>
  obtain⟨h1i,h2i,h3i⟩:=List.findIdx?_eq_some_iff_getElem.1 ja;obtain⟨e1,Rn⟩:=get_some h1i;have aeG:=(Ya.1 Rn).2;have hot:OA role f.l=ba role e1:=by
   unfold OA;rw[vc f.l i e1 (fun j y hj hy=>?_) Rn (by rw[<-aeG];exact h2i)]
   .rfl
   .have h9:=h3i j hj;rw[(Ya.1 hy).2] at h9;simpa using h9
  refine aQ (fun c=>?_) (fun c=>absurd (Int.natCast_nonneg i) c);refine⟨some ⟨b,0,none⟩,hs.rd 9 rfl (i:=0) rfl,f.s,hs.rd 0 rfl (i:=0) rfl,?_⟩;refine (fV.ext hs.ext).rw.ax (x:=(i:Int)) (by omega) (by omega) fun aiT ahi e1' ge1 u3=>?_;replace ge1:f.l[i]?=some e1':=ge1;rw[Rn] at ge1;cases ge1;refine⟨e1.send,e1.peer,e1.label,u3,?_⟩;refine (mq b role e1 RO (aw hs.ext Ci)).mono ?_;rintro _ aiw ⟨E4,rfl⟩;replace hs:=hs.step E4;refine⟨role,e1.send,e1.peer,e1.label,aH,rfl,?_⟩;refine hs.put 2 rfl (o:=9) (vs:=(ba role e1).cs) rfl (by show 9+5<=14;decide) fun aiv hs=>?_;refine Jm hs 2 8 (w:=⟨2,role,wf,aH,ba role e0,ba role e1⟩) (w0:=fc) rfl rfl fun jN hs=>?_;refine vG (w:=⟨2,role,wf,aH,ba role e0,ba role e1⟩) (Q:=fun cs=>R (.tuple ⟨[.agg ⟨cs⟩,.int .i64 (IntKind.wrap .i64 (2*Lq))]⟩) jN) (hs.at 8 rfl (o:=0) (n:=14) rfl) ?_;have hs:=(hs.drop 1).cn 65 3;exact hK jN ⟨2,role,wf,aH,ba role e0,ba role e1⟩ e0 _ rfl rfl ge rfl hot.symm (hs.perm (List.Perm.swap _ _ _))
theorem LB{AA h js qU h1 h2 cw:Heap}{b:Nat}{g:Gl}{role:Int}{X:An}{wf lf q:Sl}{s j i:Nat}{ll:Int}{F:List Ac}{IN:List Li}{LF:List Int}{Q:List Nat}{Xt:Nat}{acm:Heap->Nat->Prop}
  (hs:St h AA (TP qU.size js.size role wf s F (qH h2.size cw.size h1.size h.size b IN lf LF q Q))) (hA:sC h b g role X) (hV:ah g) (hL:LF.length=g.n.toNat) (ki:s<g.n.toNat) (hx:LF[s]?=some ll) (H4:0<=ll/\ll<=dD)
  (ja:(av g.es (s:Nat)).findIdx? (HA LF g.es ll)=some j) (gi:(av g.es (s:Nat))[j]?=some i) (hF:F.length<=8388608)
  (hI:∀(h':Heap) (F8:Sl),St h h' (TP qU.size js.size role F8 (eA g.es i).t.toNat (F++[(eA g.es i).act]) (qH h2.size cw.size h1.size h.size b IN lf LF q Q))->∃m9,m9<Xt/\acm h' m9):Tf AA h js cw qU Xt acm:=by
 unfold Tf;have hN:=hV.num.n;have hE:=hV.num.e;have hg:=hA.gg.gi;have nI:=hg.e.ln;have xy:=ef g.es (s:Nat);have hM:=hV.num.m;have Ig:Rw h 1 (X.os s) ((aJ (av g.es (s:Nat))).map aM):=hA.gg.rs s ki;have aei:=Ig.ln;have agu:(X.os s).n=(av g.es (s:Nat)).length:=by rw[aei];exact Yc _
 have Ri:=hA.gg.ro.ln;rw[kv] at Ri;have Cp:=(Ya.1 gi).1;obtain⟨x,MM,EL⟩:=ay.1 (Yb gi);have mc:=(Ya.1 MM).1;have j6:=aI MM;have tn:=hE x (Yb MM);unfold fp at tn;rw[j6] at hI;have OS:((x.t.toNat:Nat):Int)=x.t:=by omega
 have hk9:uO (HA LF g.es ll) (av g.es (s:Nat))=(j:Int):=by unfold uO;rw[ja]
 have nH:∀k∈av g.es (s:Nat),k<g.es.length:=fun k hk=>by
  obtain⟨y,hy,_⟩:=ay.1 hk;exact (Ya.1 hy).1
 have hEt:∀y∈g.es,0<=y.t/\y.t.toNat<LF.length:=fun y hy=>by have:=hE y hy;unfold fp at this;rw[hL];omega
 have bL:∀ {hX:Heap},Ext h hX->∀ {F:Nat->Nat->Prop},(∀bb o,hc hX ⟨bb,o+Int.toNat ((s:Nat):Int)*1,none⟩=some (fZ (X.os s))->F bb o)->NB X.ho.a fun bb o=>(0<=((s:Nat):Int)/\((s:Nat):Int)<(X.ho.n:Nat))/\F bb o:=fun {hX} E {F} hF=>by
  refine (hA.gg.ro.ext E).ax (by omega) (by omega) fun bb o d gd u=>hF bb o ?_;replace gd:(List.range g.n.toNat)[s]?=some d:=gd;rw[vk ki] at gd;cases gd;exact u.hd
 refine⟨some ⟨b,0,none⟩,hs.rd 8 rfl (i:=0) rfl,sA ⟨g.he,aw hs.ext (hA.gg.at_.nth 6 rfl),?_⟩⟩;refine⟨some ⟨b,0,none⟩,hs.rd 8 rfl (i:=0) rfl,sA ⟨X.ho,aw hs.ext (hA.gg.at_.nth 9 rfl),?_⟩⟩;refine⟨(s:Nat),hs.rd 2 rfl (i:=0) rfl,bL hs.ext fun aiY ahn T8=>⟨X.os s,T8,?_⟩⟩;refine⟨some ⟨b,0,none⟩,hs.rd 8 rfl (i:=0) rfl,sA ⟨X.ho,aw hs.ext (hA.gg.at_.nth 9 rfl),?_⟩⟩;refine⟨(s:Nat),hs.rd 2 rfl (i:=0) rfl,bL hs.ext fun aiW ahl kO=>⟨X.os s,kO,?_⟩⟩;have E7:(0:Nat)<1:=by decide
 refine⟨?_,?_⟩;refine (xi b g (av g.es (s:Nat)) LF lf s ll ⟨cw.size,0,none⟩ ⟨h.size,0,none⟩ ⟨js.size,0,none⟩ (X.os s) AA (Ig.ext hs.ext) (by omega) (hs.rd 4 rfl (i:=0) rfl) (hs.rd 8 rfl (i:=0) rfl) (hs.rd 2 rfl (i:=0) rfl) (aw hs.ext (hA.gg.at_.nth 6 rfl)) (hg.ext hs.ext) (hs.rows 5 rfl (by omega)) nH hEt hx H4).mono ?_;rintro _ IL ⟨rfl,E⟩;replace hs:=hs.step E;rw[hk9];refine⟨_,rfl,E.sm,?_⟩;refine (Ig.ext hs.ext).ax (by omega) (by omega) fun agl adU d gd u=>?_;obtain⟨i',Nn,rfl⟩:=cZ gd;replace Nn:(av g.es (s:Nat))[j]?=some i':=Nn;rw[gi] at Nn;cases Nn;refine⟨(i:Int),u.hd,?_⟩;refine (hg.e.rw.ext hs.ext).ax (by omega) (by omega) fun agk adT x' gx u2=>?_;replace gx:g.es[i]?=some x':=gx;rw[MM] at gx;cases gx;refine⟨_,_,_,_,_,_,u2,?_⟩;refine hs.aq fun aiE agr hs=>⟨agr.sm,?_⟩;rotate_left;refine hs.aq fun afg agq hs=>⟨agq.sm,?_⟩;refine (xi b g (av g.es (s:Nat)) LF lf s ll ⟨cw.size,0,none⟩ ⟨h.size,0,none⟩ ⟨js.size,0,none⟩ (X.os s) afg (Ig.ext hs.ext) (by omega) (hs.rd 5 rfl (i:=0) rfl) (hs.rd 9 rfl (i:=0) rfl) (hs.rd 3 rfl (i:=0) rfl) (aw hs.ext (hA.gg.at_.nth 6 rfl)) (hg.ext hs.ext) (hs.rows 6 rfl (by omega)) nH hEt hx H4).mono ?_;rintro _ IL ⟨rfl,E⟩;replace hs:=hs.step E;rw[hk9];refine⟨_,rfl,E.sm,?_⟩;refine (Ig.ext hs.ext).ax (by omega) (by omega) fun agl adU d gd u=>?_;obtain⟨i',Nn,rfl⟩:=cZ gd;replace Nn:(av g.es (s:Nat))[j]?=some i':=Nn;rw[gi] at Nn;cases Nn;refine⟨(i:Int),u.hd,?_⟩;refine (hg.e.rw.ext hs.ext).ax (by omega) (by omega) fun agk adT x' gx u2=>?_;replace gx:g.es[i]?=some x':=gx;rw[MM] at gx;cases gx;refine⟨_,_,_,_,_,_,u2,?_⟩;all_goals
  refine hs.put 0 rfl (o:=0) (vs:=x.cs) rfl (bu 6) fun aiD hs=>?_;refine⟨wf,hs.rd 2 rfl (i:=2) rfl,x.a,x.b,x.l,hs.at 0 rfl (o:=1) (n:=3) rfl,fun aiC e2=>?_⟩;refine hs.yp 2 1 rfl rfl mG (x:=x.act) e2 rfl rfl (by omega) (by decide) 2 (by show 2<14;decide) (by decide) fun s' aiB hs=>?_;refine⟨x.t,hs.rd 0 rfl (i:=4) rfl,?_⟩;refine hs.put 3 rfl (o:=0) (vs:=[.int .i64 x.t]) rfl (bu 1) fun afh hs=>hI afh s' ?_;have hs:=hs.drop 1;unfold TP;rw[OS];exact hs
def F5(g:Gl)(MX:Nat->Prop)(LF:List Int):Prop:=∀s:Nat,s<g.n.toNat->(LF[s]?=some dD/\∀k,¬rR g.es MX s k)\/∃k:Nat,LF[s]?=some (k:Int)/\iZ g.es MX s k/\k<=1000
inductive UF (g:Gl) (role:Int) (X:An) (h h':Heap):Value->Prop
 | kR (hn:∀n,¬rR g.es (p6 X) g.s.toNat n) (E:Ext h h'):UF g role X h h' (.tuple ⟨[.agg ⟨fc.cs⟩,.int .i64 bh]⟩)
 | hit {n:Nat} {LF:List Int} {ks:List Nat} {s:Nat} {f:Fs} {e0:Ev} {w:Wt} {L:List It} (hl:iZ g.es (p6 X) g.s.toNat n) (hn:n<=1000) (hF:F5 g (p6 X) LF) (hG:GS g.es LF g.s.toNat ks s) (h0:LF[s]?=some 0) (hf:X.fi[s]?=some f) (hm:Ga f=true)
   (hk:w.k=2) (hr:w.r=role) (pF:f.l[0]?=some e0) (he:w.e=ba role e0) (ho:w.o=OA role f.l)
   (hs:St h h' (.sl w.f 65 3 ((mz g.es ks).map Ac.cs) :: .sl w.s 65 3 (([]:List Ac).map Ac.cs)::L)):UF g role X h h' (.tuple ⟨[.agg ⟨w.cs⟩,.int .i64 ((2*n:Nat):Int)]⟩)
theorem HI(b:Nat)(g:Gl)(role:Int)(X:An)(h:Heap)(hA:sC h b g role X)(hV:ah g):Fn Pz 97 #[.pointer (some ⟨b,0,none⟩)] h fun v h'=>UF g role X h h' v:=by
 refine Ew hA hV fun js cw h1 h2 IN lf q LF Q hs hB=>?_;unfold JT;have hN:=hV.num.n;have hE:=hV.num.e;have hE2:∀e∈g.es,0<=e.f/\0<=e.t/\e.t<g.n:=fun e he=>by have:=hE e he;unfold fp at this;omega
 have RD:F5 g (p6 X) LF:=fun s hs=>hB.QA (by decide) hE2 hs;have Nf:=hB.ln;have E7:=(hs.len 2 (s:=lf) (e:=3) (n:=1) (rows:=LF.map aM) rfl (by omega)).1;rw[Yc,Nf] at E7;have hss:((g.s.toNat:Nat):Int)=g.s:=Int.toNat_of_nonneg (by omega);refine⟨some ⟨b,0,none⟩,hs.rd 5 rfl (i:=0) rfl,sA ⟨g.s,aw hs.ext (hA.gg.at_.nth 4 rfl),?_⟩⟩;refine hs.aj (vs:=[.int .i64 g.s]) rfl rfl fun qU hs=>?_;refine⟨lf,hs.rd 2 rfl (i:=0) rfl,g.s,hs.rd 0 rfl (i:=0) rfl,?_⟩;refine (hs.rows 3 rfl (by omega)).ax (by omega) (by omega) fun agn adW d gd u=>?_;replace gd:LF[g.s.toNat]?=some d:=gd;refine⟨d,u.hd,eS (fun c=>?_) (fun c=>?_)⟩
 .subst c;have bM:∀n,¬rR g.es (p6 X) g.s.toNat n:=by
   rcases RD g.s.toNat (by omega) with ⟨_,h9⟩ | ⟨k,h9,_,hk⟩
   .exact h9
   .rw[gd] at h9;have:=eP h9;omega
  refine hs.put 5 rfl (o:=0) (vs:=fc.cs) rfl (bu 14) fun Pl hs=>?_;refine vG (w:=fc) (Q:=fun cs=>UF g role X h Pl (.tuple ⟨[.agg ⟨cs⟩,.int .i64 1073741824]⟩)) (hs.at 5 rfl (o:=0) (n:=14) rfl) ?_;exact .kR bM hs.ext
 .obtain⟨n,sg,yT,KZ⟩:∃k:Nat,LF[g.s.toNat]?=some (k:Int)/\iZ g.es (p6 X) g.s.toNat k/\k<=1000:=by
   rcases RD g.s.toNat (by omega) with ⟨h9,_⟩ | h9
   .rw[gd] at h9;exact absurd (eP h9) c
   .exact h9
  refine⟨lf,hs.rd 2 rfl (i:=0) rfl,g.s,hs.rd 0 rfl (i:=0) rfl,?_⟩;refine (hs.rows 3 rfl (by omega)).ax (by omega) (by omega) fun agn adW d' gd' u=>?_;replace gd':LF[g.s.toNat]?=some d':=gd';rw[sg] at gd';cases gd';refine⟨(n:Int),u.hd,some ⟨b,0,none⟩,hs.rd 6 rfl (i:=0) rfl,sA ⟨role,aw hs.ext hA.r.ro,?_⟩⟩;refine hs.aj (vs:=Wt.cs ⟨2,role,aH,aH,dy,dy⟩) rfl rfl fun xI hs=>?_;have hs:=hs.cn 65 3;refine⟨fun h' μ=>∃(ks:List Nat) (s k:Nat) (wf:Sl),k=μ/\s<g.n.toNat/\LF[s]?=some (k:Int)/\St h h' (TP qU.size js.size role wf s (mz g.es ks) (qH h2.size cw.size h1.size h.size b IN lf LF q Q))/\GS g.es LF g.s.toNat ks s/\ks.length+k<=1000,⟨_,[],g.s.toNat,n,aH,rfl,by omega,sg,?_,.nil,by simp only[List.length_nil];omega⟩,?_⟩
  .unfold TP;rw[hss];exact hs
  clear hs u c gd;rintro-AA μ ⟨ks,s,k,wf,rfl,ki,Gf,hs,hG,nH⟩;have Uh:(mz g.es ks).length=ks.length:=Yc _;refine⟨lf,hs.rd 4 rfl (i:=0) rfl,(s:Nat),hs.rd 2 rfl (i:=0) rfl,?_⟩;refine (hs.rows 5 rfl (by omega)).ax (by omega) (by omega) fun agm adV v gv u=>?_;replace gv:LF[s]?=some v:=gv;rw[Gf] at gv;cases gv;have hLs:iZ g.es (p6 X) s k:=by
   rcases RD s ki with ⟨h9,_⟩ | ⟨k',h9,cw,_⟩
   .rw[Gf] at h9;have:=eP h9;unfold dD at this;omega
   .rw[Gf] at h9;have:=eP h9;have:k=k':=by omega
    subst this;exact cw
  refine⟨(k:Int),u.hd,aQ (fun c=>?_) (fun c=>?_)⟩
  .obtain⟨k',rfl⟩:∃k',k=k'+1:=⟨k-1,by omega⟩;obtain⟨e,he,YN,YM⟩:=hLs.next;have j6:=hE e he;unfold fp at j6;have hLe:LF[e.t.toNat]?=some (k':Int):=by
    rcases RD e.t.toNat (by omega) with ⟨_,h9⟩ | ⟨k2,h9,cw,_⟩
    .exact absurd YM.1 (h9 _)
    .rw[YM.uniq cw];exact h9
   obtain⟨i0,hi0⟩:=Yf.1 he;have hmo:i0∈av g.es (s:Nat):=ay.2 ⟨e,hi0,YN⟩;have oB:HA LF g.es ((k'+1:Nat):Int) i0=true:=by
    unfold HA;rw[aI hi0,Yo,hLe];exact decide_eq_true (by simp only[Option.getD_some];omega)
   cases ja:(av g.es (s:Nat)).findIdx? (HA LF g.es ((k'+1:Nat):Int)) with
   | none=>
    rw[List.findIdx?_eq_none_iff] at ja;rw[ja i0 hmo] at oB;cases oB
   | some j=>
    obtain⟨h1j,h2j,_⟩:=List.findIdx?_eq_some_iff_getElem.1 ja;obtain⟨i,gi⟩:=get_some h1j;have hi2:=(Ya.1 gi).2;rw[hi2] at h2j;obtain⟨x,MM,EL⟩:=ay.1 (Yb gi);have tn:=hE x (Yb MM);unfold fp at tn;have hLx:LF[(eA g.es i).t.toNat]?=some (k':Int):=by
     have h3:LF.getD (eA g.es i).t.toNat 0=((k'+1:Nat):Int)-1:=cd h2j;rw[aI MM] at h3 ⊢;obtain⟨y,hy⟩:=get_some (l:=LF) (i:=x.t.toNat) (by omega);rw[Yo,hy] at h3;simp only[Option.getD_some] at h3;rw[hy];congr 1;omega
    refine LB hs hA hV Nf ki Gf ⟨by omega,by unfold dD;omega⟩ ja gi (by omega) fun h' F8 hs=>⟨k',by omega,ks++[i],(eA g.es i).t.toNat,k',F8,rfl,by rw[aI MM];omega,hLx,?_,.snoc hG Gf (by omega) ja gi,by rw[Yh,Yv];omega⟩;have e9:mz g.es (ks++[i])=mz g.es ks++[(eA g.es i).act]:=by unfold mz;rw[Ym];rfl
    rw[e9];exact hs
  .have Co:k=0:=by omega
   subst Co;obtain⟨f,hf,hm⟩:p6 X s:=by
    have h9:=hLs.1;cases h9 with
    | base hm=>exact hm
   refine Nr hs hA hf hm fun h' w e0 L h1 h2 h3 h4 h5 hs=>?_;have hw:IntKind.wrap .i64 (2*(n:Int))=((2*n:Nat):Int):=by rw[bd (by omega) (by omega)];omega
   rw[hw];exact .hit yT KZ RD hG Gf hf hm h1 h2 h3 h4 h5 hs
theorem St.mT{h0 h:Heap}{L L' R:List It}(hs:St h0 h L)(hp:L.Perm (L'++R)):St h0 h L':=by
 have h1:=(hs.perm (hp.trans List.perm_append_comm)).drop R.length
 rwa [List.drop_left] at h1
structure WS where
 k:Int
 r:Int
 F:List Ac
 S:List Ac
 e:DE
 o:DE
def yM:WS:=⟨0,0,[],[],dy,dy⟩
inductive rU (g:Gl) (role kind:Int) (X:An):WS->Int->Prop
 | kR (hn:∀n,¬oV (dc g role) (eX X kind) (jk g) n):rU g role kind X yM bh
 | hit {n:Nat} {D:Pr->Int} {ms:List bj} {p:Pr} (hl:oV (dc g role) (eX X kind) (jk g) n) (hn:n<=8388608) (hD:∀q,eR g role q->D q=dL (dc g role) (eX X kind) q) (hG:pJ (dc g role) (dR X kind) D (jk g) ms p) (hc:dR X kind p=some (D p)) :
   rU g role kind X ⟨kind,role,(vQ g role kind X (facts g ms) p).1,gh g ms,(vQ g role kind X (facts g ms) p).2.1,(vQ g role kind X (facts g ms) p).2.2⟩ (n:Int)
inductive Lg (g:Gl) (role:Int) (X:An):WS->Int->Prop
 | kR (hn:∀n,¬rR g.es (p6 X) g.s.toNat n):Lg g role X yM bh
 | hit {n:Nat} {LF:List Int} {ks:List Nat} {s:Nat} {f:Fs} {e0:Ev} (hl:iZ g.es (p6 X) g.s.toNat n) (hn:n<=1000) (hF:F5 g (p6 X) LF) (hG:GS g.es LF g.s.toNat ks s) (h0:LF[s]?=some 0) (hf:X.fi[s]?=some f) (hm:Ga f=true) (pF:f.l[0]?=some e0) :
   Lg g role X ⟨2,role,mz g.es ks,[],ba role e0,OA role f.l⟩ ((2*n:Nat):Int)
def mJ(h h':Heap)(W:WS)(n:Int)(v:Value):Prop:=∃w:Wt,w.k=W.k/\w.r=W.r/\w.e=W.e/\w.o=W.o/\v=.tuple ⟨[.agg ⟨w.cs⟩,.int .i64 n]⟩/\∃L,St h h' (.sl w.f 65 3 (W.F.map Ac.cs) :: .sl w.s 65 3 (W.S.map Ac.cs)::L)
theorem mJ.zero{h h':Heap}(E:Ext h h')(n:Int):mJ h h' yM n (.tuple ⟨[.agg ⟨fc.cs⟩,.int .i64 n]⟩):=
 ⟨fc,rfl,rfl,rfl,rfl,rfl,[],((((St.refl h).step E).cn 65 3).cn 65 3)⟩
theorem UJ.out{g:Gl}{role kind:Int}{X:An}{h h':Heap}{v:Value}(hr:UJ g role kind X h h' v):∃W n,rU g role kind X W n/\mJ h h' W n v:=by
 cases hr with
 | kR hn E=>exact⟨_,_,.kR hn,.zero E _⟩
 | hit hl hn hD hG hc hk hr he ho hs=>exact⟨_,_,.hit hl hn hD hG hc,_,hk,hr,he,ho,rfl,_,hs⟩
theorem UF.out{g:Gl}{role:Int}{X:An}{h h':Heap}{v:Value}(hr:UF g role X h h' v):∃W n,Lg g role X W n/\mJ h h' W n v:=by
 cases hr with
 | kR hn E=>exact⟨_,_,.kR hn,.zero E _⟩
 | hit hl hn hF hG h0 hf hm hk hr pF he ho hs=>exact⟨_,_,.hit hl hn hF hG h0 hf hm pF,_,hk,hr,he,ho,rfl,_,hs⟩
theorem Ss(b:Nat)(g:Gl)(role:Int)(X:An)(all:Sl)(mb:Nat)(A:List Pr)(l:List (Pr × Sl))(CB:Nat)(c0 c1 c2:Addr)(h:Heap)(h0:hc h c0=some (Value.pointer (some ⟨b,0,none⟩)))(h1:hc h c1=some (Value.slice all.a all.n all.c))(h2:hc h c2=some (Value.map (some mb)))(hA:sC h b g role X)(hx:Gm h)(hV:ah g)(hM:Lf h g role all mb A l)(hC:UH X 1 A CB)(Ax:F6 g X):
  Fn Pz 95 #[.pointer (some c0),.pointer (some c1),.pointer (some c2)] h fun v h'=>∃W n,rU g role 1 X W n/\mJ h h' W n v:=by
 apply acE c0 c1 c2;unfold W95;refine (St.refl h).ao fun h3 hs=>?_;refine⟨some ⟨b,0,none⟩,aw hs.ext h0,all,aw hs.ext h1,some mb,aw hs.ext h2,?_⟩;refine (kV b g role X 1 all mb A l CB h3 (hA.ext hs.ext) (hx.ext hs.ext) hV (hM.ext hs.ext) hC Ax).mono ?_;intro v ko hr;obtain⟨W,n,hP,w,e1,e2,e3,e4,rfl,L,bQ⟩:=hr.out;refine⟨w.k,w.r,w.f,w.s,w.e.r,w.e.s,w.e.p,w.e.l,aH,w.o.r,w.o.s,w.o.p,w.o.l,aH,n,rfl,?_⟩;replace hs:=hs.join bQ;refine hs.put 0 rfl (o:=0) (vs:=w.cs) rfl (bu 14) fun cR hs=>?_;refine vG (w:=w) (Q:=fun cs=>∃W n',rU g role 1 X W n'/\mJ h cR W n' (.tuple ⟨[.agg ⟨cs⟩,.int .i64 n]⟩)) (hs.at 0 rfl (o:=0) (n:=14) rfl) ?_;exact⟨W,n,hP,w,e1,e2,e3,e4,rfl,L,hs.drop 1⟩
theorem Sr(b:Nat)(g:Gl)(role:Int)(X:An)(all:Sl)(mb:Nat)(A:List Pr)(l:List (Pr × Sl))(CB:Nat)(c0 c1 c2:Addr)(h:Heap)(h0:hc h c0=some (Value.pointer (some ⟨b,0,none⟩)))(h1:hc h c1=some (Value.slice all.a all.n all.c))(h2:hc h c2=some (Value.map (some mb)))(hA:sC h b g role X)(hx:Gm h)(hV:ah g)(hM:Lf h g role all mb A l)(hC:UH X 3 A CB)(Ax:F6 g X):
  Fn Pz 98 #[.pointer (some c0),.pointer (some c1),.pointer (some c2)] h fun v h'=>∃W n,rU g role 3 X W n/\mJ h h' W n v:=by
 apply acB c0 c1 c2;unfold W98;refine (St.refl h).ao fun h3 hs=>?_;refine⟨some ⟨b,0,none⟩,aw hs.ext h0,all,aw hs.ext h1,some mb,aw hs.ext h2,?_⟩;refine (kV b g role X 3 all mb A l CB h3 (hA.ext hs.ext) (hx.ext hs.ext) hV (hM.ext hs.ext) hC Ax).mono ?_;intro v ko hr;obtain⟨W,n,hP,w,e1,e2,e3,e4,rfl,L,bQ⟩:=hr.out;refine⟨w.k,w.r,w.f,w.s,w.e.r,w.e.s,w.e.p,w.e.l,aH,w.o.r,w.o.s,w.o.p,w.o.l,aH,n,rfl,?_⟩;replace hs:=hs.join bQ;refine hs.put 0 rfl (o:=0) (vs:=w.cs) rfl (bu 14) fun cR hs=>?_;refine vG (w:=w) (Q:=fun cs=>∃W n',rU g role 3 X W n'/\mJ h cR W n' (.tuple ⟨[.agg ⟨cs⟩,.int .i64 n]⟩)) (hs.at 0 rfl (o:=0) (n:=14) rfl) ?_;exact⟨W,n,hP,w,e1,e2,e3,e4,rfl,L,hs.drop 1⟩
theorem Sq(b:Nat)(g:Gl)(role:Int)(X:An)(all:Sl)(mb:Nat)(A:List Pr)(l:List (Pr × Sl))(CB:Nat)(c0 c1 c2:Addr)(h:Heap)(h0:hc h c0=some (Value.pointer (some ⟨b,0,none⟩)))(h1:hc h c1=some (Value.slice all.a all.n all.c))(h2:hc h c2=some (Value.map (some mb)))(hA:sC h b g role X)(hx:Gm h)(hV:ah g)(hM:Lf h g role all mb A l)(hC:UH X 4 A CB)(Ax:F6 g X):
  Fn Pz 99 #[.pointer (some c0),.pointer (some c1),.pointer (some c2)] h fun v h'=>∃W n,rU g role 4 X W n/\mJ h h' W n v:=by
 apply acA c0 c1 c2;unfold W99;refine (St.refl h).ao fun h3 hs=>?_;refine⟨some ⟨b,0,none⟩,aw hs.ext h0,all,aw hs.ext h1,some mb,aw hs.ext h2,?_⟩;refine (kV b g role X 4 all mb A l CB h3 (hA.ext hs.ext) (hx.ext hs.ext) hV (hM.ext hs.ext) hC Ax).mono ?_;intro v ko hr;obtain⟨W,n,hP,w,e1,e2,e3,e4,rfl,L,bQ⟩:=hr.out;refine⟨w.k,w.r,w.f,w.s,w.e.r,w.e.s,w.e.p,w.e.l,aH,w.o.r,w.o.s,w.o.p,w.o.l,aH,n,rfl,?_⟩;replace hs:=hs.join bQ;refine hs.put 0 rfl (o:=0) (vs:=w.cs) rfl (bu 14) fun cR hs=>?_;refine vG (w:=w) (Q:=fun cs=>∃W n',rU g role 4 X W n'/\mJ h cR W n' (.tuple ⟨[.agg ⟨cs⟩,.int .i64 n]⟩)) (hs.at 0 rfl (o:=0) (n:=14) rfl) ?_;exact⟨W,n,hP,w,e1,e2,e3,e4,rfl,L,hs.drop 1⟩
theorem St.wB{α:Type}{h0 h:Heap}{L:List It}(hs:St h0 h L){s:Sl}{e:TypeId}{n:Nat}{cs:α->List Value}{X:List α}(hi:.sl s e n (X.map cs)∈L)(hn:0<n)(hl:X.length<=1048576):RL h n s cs X:=by
 obtain⟨k,hk⟩:=Yf.1 hi;have h1:=hs.len k hk hn;exact⟨hs.vF hi hn,h1.2.1,h1.2.2,hl⟩
structure jX (g:Gl) (role:Int) (X:An):Prop where
 fi:X.fi.map (fun f=>(f.l,f.b))=(List.range g.n.toNat).map fun s=>(ai g role (s:Nat),aV g role (s:Nat))
 li:X.li=(List.range g.n.toNat).map (cG g role g.ts)
 ag:X.ag=(List.range g.n.toNat).map (eG g.es)
 ow:X.ow=(List.range g.n.toNat).map (eE g.es role)
 ar:X.ar.map Prod.snd=(List.range g.n.toNat).map (dq g role)
 an:∀q∈X.ar,∀x∈q.2,0<x.n/\x.n<=1048577
theorem jX.SP{g:Gl}{role:Int}{X:An}(h:jX g role X):F6 g X:=fun q hq y hy=>by
 have h1:q.2∈X.ar.map Prod.snd:=Yp.2 ⟨q,hq,rfl⟩;rw[h.ar] at h1;obtain⟨s,_,h2⟩:=Yp.1 h1;rw[<-h2] at hy;unfold dq at hy;obtain⟨i,hi,hy⟩:=List.mem_flatMap.1 hy;unfold iU at hy;obtain⟨x,hx,_⟩:=ay.1 hi;split at hy
 .unfold vg at hy;obtain⟨m,hm,rfl⟩:=Yp.1 hy;exact⟨i,m,rfl,(Ya.1 hx).1,(List.mem_filter.1 hm).1⟩
 .cases hy
theorem jX.ckB{g:Gl}{role:Int}{X:An}(h:jX g role X)(kind:Int)(A:List Pr):UH X kind A 1048578:=by
 refine⟨fun q hq x hx=>(h.an q hq x hx).1,fun p _ c hc=>?_,by decide⟩;unfold dR at hc;split at hc
 .split at hc
  .split at hc
   .cases hc;exact⟨by decide,by decide⟩
   .cases hc
  .cases hc
 .split at hc
  .split at hc
   .cases hc;exact⟨by decide,by decide⟩
   .cases hc
  .split at hc
   .rename_i ft q _ gq;obtain⟨y,hy,rfl⟩:=rP.1 hc;have:=h.an q (Yb gq) y (rq hy).1;omega
   .cases hc
def anX(ho bZ bV bx cm cz:Sl)(OU:List DC)(FI:List Fs)(LI:List Lm)(AG OW:List Bool)(AR:List tW):An:=⟨ho,fun i=>((OU[i]?).map Prod.fst).getD ⟨none,0,0⟩,bZ,FI,bV,LI,bx,AG,cm,OW,cz,AR⟩
theorem JM{h0 h:Heap}{ab gb:Nat}{g:Gl}{role:Int}{ho bZ bV bx cm cz:Sl}{OU:List DC}{FI:List Fs}{LI:List Lm}{AG OW:List Bool}{AR:List tW}{R:List It}(hs:St h0 h (rN ab gb g role ho bZ bV bx cm cz OU FI LI AG OW AR R))(hg:GI h0 g)(hV:ah g)(hS:vA g role OU FI LI AG OW)(mg:N4 g role (dq g role) AR)(nK:∀q∈AR,q.2.length<=160000):
  sC h ab g role (anX ho bZ bV bx cm cz OU FI LI AG OW AR)/\jX g role (anX ho bZ bV bx cm cz OU FI LI AG OW AR):=by
 obtain⟨hO,hF,hL,hAg,hOw⟩:=hS;have hN:=hV.num.n;have hFl:FI.length=g.n.toNat:=by have:=congrArg List.length hF;simpa using this
 have Nf:LI.length=g.n.toNat:=by rw[hL];simp
 have afc:AG.length=g.n.toNat:=by rw[hAg];simp
 have aeY:OW.length=g.n.toNat:=by rw[hOw];simp
 have Za:=mg.len;have Pe:OU.length=g.n.toNat:=by have:=congrArg List.length hO;simpa using this
 have hG:Lk h ab g role ho (fun i=>((OU[i]?).map Prod.fst).getD ⟨none,0,0⟩):=PE (by rw[<-A4];exact hs) hg hO;have m8:∀ {x:It},x∈[.af ab (Tb g role ho bZ bV bx cm cz) 186,.sl ho 102 1 ((OU.map Prod.fst).map dv),.sl bZ 195 2 (FI.map Fs.cs),.sl bV 192 4 (LI.map Lm.cs),.sl bx 4 1 (AG.map bC),.sl cm 4 1 (OW.map bC),.sl cz 274 1 ((AR.map Prod.fst).map dv),.af gb g.cs 27]->x∈rN ab gb g role ho bZ bV bx cm cz OU FI LI AG OW AR R:=fun hx=>by
  unfold rN;exact List.mem_append_left _ (List.mem_append_left _ (List.mem_append_left _ (List.mem_append_left _ hx)))
 have mf:∀f∈FI,Pp f∈rN ab gb g role ho bZ bV bx cm cz OU FI LI AG OW AR R:=fun f hf=>by
  unfold rN;exact List.mem_append_left _ (List.mem_append_left _ (List.mem_append_right _ (Yp.2 ⟨f,hf,rfl⟩)))
 have ma:∀q∈AR,nest 276 4 gM.cs q∈rN ab gb g role ho bZ bV bx cm cz OU FI LI AG OW AR R:=fun q hq=>by
  unfold rN;exact List.mem_append_left _ (List.mem_append_right _ (Yp.2 ⟨q,hq,rfl⟩))
 have Ix:∀f∈FI,f.l.length<=1048576:=fun f hf=>by
  have h1:(f.l,f.b)∈FI.map (fun f=>(f.l,f.b)):=Yp.2 ⟨f,hf,rfl⟩;rw[hF] at h1;obtain⟨s,_,h2⟩:=Yp.1 h1;have h3:ai g role (s:Nat)=f.l:=congrArg Prod.fst h2;have h4:(ai g role (s:Nat)).length<=400:=pS hV;rw[<-h3];omega
 refine⟨⟨hG,⟨?_,?_,?_,?_,?_,?_,fun f hf=>?_,?_,?_,?_⟩,?_,?_,fun q hq=>?_,hFl,Nf,afc,aeY,Za⟩,⟨hF,hL,hAg,hOw,mg.l,mg.b⟩⟩
 .exact hs.rd 0 rfl (i:=8) rfl
 .exact hs.rd 0 rfl (i:=10) rfl
 .exact hs.rd 0 rfl (i:=11) rfl
 .exact hs.rd 0 rfl (i:=12) rfl
 .exact hs.rd 0 rfl (i:=13) rfl
 .exact hs.wB (X:=FI) (cs:=Fs.cs) (s:=bZ) (e:=195) (m8 (Yb (i:=2) rfl)) (by decide) (by show FI.length<=_;omega)
 .exact hs.wB (e:=188) (mf f hf) (by decide) (Ix f hf)
 .exact hs.wB (X:=LI) (cs:=Lm.cs) (s:=bV) (e:=192) (m8 (Yb (i:=3) rfl)) (by decide) (by show LI.length<=_;omega)
 .exact hs.wB (X:=AG) (cs:=bC) (s:=bx) (e:=4) (m8 (Yb (i:=4) rfl)) (by decide) (by show AG.length<=_;omega)
 .exact hs.wB (X:=OW) (cs:=bC) (s:=cm) (e:=4) (m8 (Yb (i:=5) rfl)) (by decide) (by show OW.length<=_;omega)
 .exact hs.rd 0 rfl (i:=14) rfl
 .exact hs.wB (X:=AR.map Prod.fst) (cs:=dv) (s:=cz) (e:=274) (m8 (Yb (i:=6) rfl)) (by decide) (by show (AR.map Prod.fst).length<=_;rw[Yc];omega)
 .exact hs.wB (e:=276) (ma q hq) (by decide) (by have:=nK q hq;omega)
def tf(g:Gl)(role:Int)(X:An)(i:Nat)(W:WS)(n:Int):Prop:=
 match i with
 | 0=>rU g role 1 X W n
 | 1=>Lg g role X W n
 | 2=>rU g role 3 X W n
 | _=>rU g role 4 X W n
inductive iO (g:Gl) (role:Int) (X:An):Nat->WS->Int->Prop
 | zero:iO g role X 0 yM bh
 | take {i:Nat} {W W':WS} {n n':Int}:iO g role X i W n->tf g role X i W' n'->n'<n->iO g role X (i+1) W' n'
 | cr {i:Nat} {W W':WS} {n n':Int}:iO g role X i W n->tf g role X i W' n'->¬n'<n->iO g role X (i+1) W n
def dj(g:Gl)(role:Int)(W:WS)(n:Int):Prop:=∃X:An,jX g role X/\iO g role X 4 W n
theorem SG:aF Pz 95=true:=by kernel_rfl
theorem SF:aF Pz 97=true:=by kernel_rfl
theorem SD:aF Pz 98=true:=by kernel_rfl
theorem SC:aF Pz 99=true:=by kernel_rfl
def fdL(bb ab mb:Nat)(w:Wt)(F S:List Ac)(all:Sl)(m:Nat):List It:=
 [.af bb w.cs 35,.sl w.f 65 3 (F.map Ac.cs),.sl w.s 65 3 (S.map Ac.cs),.af mb [.map (some m)] 93,.af ab [.slice all.a all.n all.c] 92]
def aco(h h':Heap)(W:WS)(n:Int)(v:Value):Prop:=∃w:Wt,w.k=W.k/\w.r=W.r/\w.e=W.e/\w.o=W.o/\v=.tuple ⟨[.agg ⟨w.cs⟩,.int .i64 n,.int .i64 0]⟩/\∃L,St h h' (.sl w.f 65 3 (W.F.map Ac.cs) :: .sl w.s 65 3 (W.S.map Ac.cs)::L)
theorem Oz{α:Type}(a b c d e f x y:α)(L:List α):List.Perm (a::b::c::d::e::f::x::y::L) (b::x::y::e::f::a::c::d::L):=by
 have h1:List.Perm (a::b::c::d::e::f::x::y::L) (b::a::c::d::e::f::x::y::L):=List.Perm.swap _ _ _;refine h1.trans (List.Perm.cons _ ?_);have h2:List.Perm ([a,c,d,e,f]++([x,y]++L)) ([x,y]++([a,c,d,e,f]++L)):=by
  rw[<-Yz,<-Yz];exact List.Perm.append_right _ List.perm_append_comm
 refine h2.trans (List.Perm.cons _ (List.Perm.cons _ ?_));have h3:List.Perm ([a,c,d]++([e,f]++L)) ([e,f]++([a,c,d]++L)):=by
  rw[<-Yz,<-Yz];exact List.Perm.append_right _ List.perm_append_comm
 exact h3
theorem I3(g:Gl)(role:Int)(h:Heap)(hg:GI h g)(hx:Gm h)(hV:ah g)(hr:0<=role/\role<g.rs.length):
  Fn Pz 41 #[g.v,.int .i64 role] h fun v h'=>∃W n,dj g role W n/\aco h h' W n v:=by
 apply UR (bs g.nm) g.hr g.hd g.n g.s g.e g.he g.ht role;unfold W41;refine (St.refl h).ao fun h9 hs=>?_;refine hs.ao fun cw hs=>?_;refine⟨_,_,_,_,_,_,_,_,hs.at 1 rfl (o:=0) (n:=8) rfl,?_⟩;refine (k6 g role cw (hg.ext hs.ext) (hx.ext hs.ext)).mono ?_;rintro _ cR (⟨bM,_⟩ | ⟨_,ab,ho,bZ,bV,bx,cm,cz,OU,FI,LI,AG,OW,rfl,xr,hSp⟩)
 .exact absurd ⟨hV,hr.1,hr.2⟩ bM
 have hEA:=hs.ext;replace hs:=(hs.join xr).perm List.perm_append_comm;refine⟨some ⟨ab,0,none⟩,0,rfl,?_⟩;refine hs.aj (vs:=[.pointer (some ⟨ab,0,none⟩)]) rfl rfl fun Fm hs=>?_;refine dY (fun c=>absurd rfl c) (fun _=>?_);refine⟨some ⟨ab,0,none⟩,hs.rd 0 rfl (i:=0) rfl,?_⟩;have mN:St h Fm (rN ab cw.size g role ho bZ bV bx cm cz OU FI LI AG OW (List.replicate g.n.toNat (aH,[])) [.af h9.size fc.cs 35,.af h.size g.cs 27,.af cR.size [.pointer (some ⟨ab,0,none⟩)] 89]):=by
  rw[A4];have hs:=hs.perm (List.perm_append_comm (l₁:=[_]) (l₂:=rz ab cw.size g role ho bZ bV bx cm cz OU FI LI AG OW (List.replicate g.n.toNat (aH,[]))++[_,_]));rw[Yz] at hs;exact hs
 refine (xZ mN hg hx hV hSp.1).mono ?_;rintro _ vO ⟨rfl,AR,dA,mg,nK⟩;refine⟨rfl,?_⟩;obtain⟨hA,hX⟩:=JM dA hg hV hSp mg nK;generalize anX ho bZ bV bx cm cz OU FI LI AG OW AR=X at hA hX;have dA:St h vO [.af h9.size fc.cs 35,.af h.size g.cs 27,.af cR.size [.pointer (some ⟨ab,0,none⟩)] 89]:=dA.mT (by unfold rN;exact List.perm_append_comm);refine⟨some ⟨ab,0,none⟩,dA.rd 2 rfl (i:=0) rfl,?_⟩;refine (zu ab g role X.ho X.os vO hA.gg hV).mono ?_;rintro _ mO ⟨E47,all,mb,A,l,rfl,hM⟩;have bQ:=dA.step E47;have Pg:=hA.ext E47;have Ak:=hx.ext bQ.ext;have vK:hc mO ⟨cR.size,0,none⟩=some (Value.pointer (some ⟨ab,0,none⟩)):=bQ.rd 2 rfl (i:=0) rfl;refine⟨all,some mb,rfl,?_⟩;refine (St.refl mO).ao fun Ay hs=>?_;refine hs.ao fun Zd hs=>?_;refine hs.put 1 rfl (o:=0) (vs:=[.slice all.a all.n all.c]) rfl (bu 1) fun j7 hs=>?_;refine hs.put 0 rfl (o:=0) (vs:=[.map (some mb)]) rfl (bu 1) fun uU hs=>?_;refine hs.aj (vs:=fc.cs) rfl rfl fun Pk hs=>?_;have hs:St mO Pk (fdL uU.size mO.size Ay.size fc [] [] all mb):=(((hs.cn 65 3).cn 65 3).perm (List.perm_append_comm (l₁:=[_,_]) (l₂:=[_,_,_]))).mT (R:=[]) (by
  rw[Yw];exact List.Perm.cons _ (List.perm_append_comm (l₁:=[_,_]) (l₂:=[_,_])))
 refine⟨some ⟨ab,0,none⟩,aw hs.ext vK,?_⟩;refine hs.aj (vs:=[.func (.func 95) #[] #[.pointer (some ⟨cR.size,0,none⟩),.pointer (some ⟨mO.size,0,none⟩),.pointer (some ⟨Ay.size,0,none⟩)],.func (.func 97) #[.pointer (some ⟨ab,0,none⟩)] #[],.func (.func 98) #[] #[.pointer (some ⟨cR.size,0,none⟩),.pointer (some ⟨mO.size,0,none⟩),.pointer (some ⟨Ay.size,0,none⟩)],.func (.func 99) #[] #[.pointer (some ⟨cR.size,0,none⟩),.pointer (some ⟨mO.size,0,none⟩),.pointer (some ⟨Ay.size,0,none⟩)]]) rfl rfl fun jO hs=>?_;refine⟨_,_,_,_,hs.at 0 rfl (o:=0) (n:=4) rfl,?_⟩;refine⟨fun len x h' μ=>∃(i:Nat) (W:WS) (w:Wt),x=(i:Int)/\4-i=μ/\i<=4/\iO g role X i W len/\w.k=W.k/\w.r=W.r/\w.e=W.e/\w.o=W.o/\St mO h' (fdL uU.size mO.size Ay.size w W.F W.S all mb),⟨_,0,yM,fc,rfl,rfl,by decide,.zero,rfl,rfl,rfl,rfl,hs.drop 1⟩,?_⟩;clear hs;rintro-len _ Cy μ ⟨i,W,w,rfl,rfl,hi,hF,e1,e2,e3,e4,hs⟩;have fin:∀(v:Value) (yZ:Heap),(∃W' n',tf g role X i W' n'/\mJ Cy yZ W' n' v)->i<4->∃Oc:Int,∃Ob:Int,∃nW:Sl,∃vE:Sl,∃Oa:Int,∃yL:Bool,∃N9:Int,∃N8:Int,∃vD:Sl,∃N7:Int,∃N6:Bool,∃Lp:Int,∃N5:Int,∃vB:Sl,∃x86:Int,v=.tuple ⟨[.agg ⟨[.int .i64 Oc,.int .i64 Ob,.slice nW.a nW.n nW.c,.slice vE.a vE.n vE.c,.int .i64 Oa,.bool yL,.int .i64 N9,.int .i64 N8,.slice vD.a vD.n vD.c,.int .i64 N7,.bool N6,.int .i64 Lp,.int .i64 N5,.slice vB.a vB.n vB.c]⟩,.int .i64 x86]⟩ /\
   Tw yZ Oc Ob nW vE Oa yL N9 N8 vD N7 N6 Lp N5 vB x86 len uU (4-i) (fun len x h' μ=>∃(i:Nat) (W:WS) (w:Wt),x=(i:Int)/\4-i=μ/\i<=4/\iO g role X i W len/\w.k=W.k/\w.r=W.r/\w.e=W.e/\w.o=W.o/\St mO h' (fdL uU.size mO.size Ay.size w W.F W.S all mb)) (i:Int):=by
  rintro _ yZ ⟨W',n',si,w',f1,f2,f3,f4,rfl,L,cj⟩ Ir;refine⟨w'.k,w'.r,w'.f,w'.s,w'.e.r,w'.e.s,w'.e.p,w'.e.l,aH,w'.o.r,w'.o.s,w'.o.p,w'.o.l,aH,n',rfl,?_⟩;unfold Tw;have hs:=hs.join cj;refine hs.aj (vs:=w'.cs) rfl rfl fun h89 hs=>?_;refine aQ (fun c=>?_) (fun c=>?_)
  .refine Jm hs 0 1 (w:=w') (w0:=w) rfl rfl fun Nj hs=>?_;refine⟨_,?_,i+1,W',w',by rw[bd (by omega) (by omega)];omega,rfl,by omega,.take hF si c,f1,f2,f3,f4,?_⟩
   .omega
   .refine hs.mT (R:=.af yZ.size w'.cs 35 :: .sl w.f 65 3 (W.F.map Ac.cs) :: .sl w.s 65 3 (W.S.map Ac.cs)::L) ?_;show List.Perm (.af yZ.size w'.cs 35 :: .af uU.size w'.cs 35 :: .sl w.f 65 3 (W.F.map Ac.cs) :: .sl w.s 65 3 (W.S.map Ac.cs) :: .af Ay.size [.map (some mb)] 93 :: .af mO.size [.slice all.a all.n all.c] 92 :: .sl w'.f 65 3 (W'.F.map Ac.cs) :: .sl w'.s 65 3 (W'.S.map Ac.cs)::L) (.af uU.size w'.cs 35 :: .sl w'.f 65 3 (W'.F.map Ac.cs) :: .sl w'.s 65 3 (W'.S.map Ac.cs) :: .af Ay.size [.map (some mb)] 93 :: .af mO.size [.slice all.a all.n all.c] 92 :: .af yZ.size w'.cs 35 :: .sl w.f 65 3 (W.F.map Ac.cs) :: .sl w.s 65 3 (W.S.map Ac.cs)::L);exact Oz _ _ _ _ _ _ _ _ L
  .refine⟨_,?_,i+1,W,w,by rw[bd (by omega) (by omega)];omega,rfl,by omega,.cr hF si c,e1,e2,e3,e4,?_⟩
   .omega
   .exact (hs.drop 1).mT (List.Perm.refl _)
 refine aQ (fun c=>?_) (fun c=>?_)
 .refine⟨⟨by omega,by omega⟩,?_⟩;have hP:=vK;have hMx:=(hM.ext hs.ext);have hAx:=(Pg.ext hs.ext);have Aj:=(Ak.ext hs.ext);have iA:=aw hs.ext vK;have rL:hc Cy ⟨mO.size,0,none⟩=some (Value.slice all.a all.n all.c):=hs.rd 4 rfl (i:=0) rfl;have Uk:hc Cy ⟨Ay.size,0,none⟩=some (Value.map (some mb)):=hs.rd 3 rfl (i:=0) rfl;have Ir:i<4:=by omega
  match i,Ir,fin with
  | 0,Ir,fin=>
   refine⟨_,rfl,?_⟩;show cond (aF Pz 95) _ _;rw[SG,cond_true];exact (Ss ab g role X all mb A l 1048578 _ _ _ Cy iA rL Uk hAx Aj hV hMx (hX.ckB 1 A) hX.SP).mono fun v yZ hr=>fin v yZ hr Ir
  | 1,Ir,fin=>
   refine⟨_,rfl,?_⟩;show cond (aF Pz 97) _ _;rw[SF,cond_true];exact (HI ab g role X Cy hAx hV).mono fun v yZ hr=>fin v yZ hr.out Ir
  | 2,Ir,fin=>
   refine⟨_,rfl,?_⟩;show cond (aF Pz 98) _ _;rw[SD,cond_true];exact (Sr ab g role X all mb A l 1048578 _ _ _ Cy iA rL Uk hAx Aj hV hMx (hX.ckB 3 A) hX.SP).mono fun v yZ hr=>fin v yZ hr Ir
  | 3,Ir,fin=>
   refine⟨_,rfl,?_⟩;show cond (aF Pz 99) _ _;rw[SC,cond_true];exact (Sq ab g role X all mb A l 1048578 _ _ _ Cy iA rL Uk hAx Aj hV hMx (hX.ckB 4 A) hX.SP).mono fun v yZ hr=>fin v yZ hr Ir
 .have:i=4:=by omega
  subst this;have hs:=bQ.join hs;refine Jm hs 3 0 (w:=w) (w0:=fc) rfl rfl fun uX hs=>?_;refine vG (w:=w) (Q:=fun cs=>∃W n,dj g role W n/\aco h uX W n (.tuple ⟨[.agg ⟨cs⟩,.int .i64 len,.int .i64 0]⟩)) (hs.at 0 rfl (o:=0) (n:=14) rfl) ?_;exact⟨W,len,⟨X,hX,hF⟩,w,e1,e2,e3,e4,rfl,_,hs.drop 4⟩
inductive mM (g:Gl):Nat->WS->Int->Prop
 | zero:mM g 0 yM bh
 | take {i:Nat} {W W':WS} {n n':Int}:mM g i W n->dj g (i:Int) W' n'->(n'<n\/n'=n/\n'<bh/\W'.k<W.k)->mM g (i+1) W' n'
 | cr {i:Nat} {W W':WS} {n n':Int}:mM g i W n->dj g (i:Int) W' n'->¬(n'<n\/n'=n/\n'<bh/\W'.k<W.k)->mM g (i+1) W n
inductive vz (g:Gl) (h h':Heap):Value->Prop
 | bad (hV:¬ah g) (E:Ext h h'):vz g h h' (.tuple ⟨[.agg ⟨fc.cs⟩,.int .i64 1]⟩)
 | ok {W:WS} (hV:ah g) (hC:mM g g.rs.length W bh) (E:Ext h h'):vz g h h' (.tuple ⟨[.agg ⟨fc.cs⟩,.int .i64 0]⟩)
 | err {v:Value} {W:WS} {n:Int} (hV:ah g) (hC:mM g g.rs.length W n) (hn:n≠bh) (hw:mJ h h' W 18 v):vz g h h' v
def Uz(bb zb gb:Nat)(g:Gl)(w:Wt)(F S:List Ac):List It:=
 [.af bb w.cs 35,.sl w.f 65 3 (F.map Ac.cs),.sl w.s 65 3 (S.map Ac.cs),.af zb fc.cs 35,.af gb g.cs 27]
theorem CR(g:Gl)(h:Heap)(hg:GI h g)(hx:Gm h):Fn Pz 14 #[g.v] h fun v h'=>vz g h h' v:=by
 apply adE (bs g.nm) g.hr g.hd g.n g.s g.e g.he g.ht;unfold W14 Ty;have l8:=hg.r.ln;refine (St.refl h).ao fun h9 hs=>?_;refine hs.ao fun cw hs=>?_;refine⟨_,_,_,_,_,_,_,_,hs.at 1 rfl (o:=0) (n:=8) rfl,?_⟩;refine (pK g cw (hg.ext hs.ext) (hx.ext hs.ext)).mono ?_;rintro _ ko ⟨rfl,E⟩;replace hs:=hs.step E;refine⟨_,rfl,aa (fun c=>?_) (fun c=>?_)⟩
 .refine hs.put 0 rfl (o:=0) (vs:=fc.cs) rfl (bu 14) fun cR hs=>?_;refine vG (w:=fc) (Q:=fun cs=>vz g h cR (.tuple ⟨[.agg ⟨cs⟩,.int .i64 1]⟩)) (hs.at 0 rfl (o:=0) (n:=14) rfl) ?_;exact .bad (eI (bF c)) hs.ext
 have hV:=cd (bT c);have hr6:=hV.OE.n6;refine hs.aj (vs:=fc.cs) rfl rfl fun tB hs=>?_;have hs:St h tB (Uz ko.size h9.size h.size g fc [] []):=((hs.cn 65 3).cn 65 3).perm (by
  show List.Perm ([_,_]++([_]++[_,_])) ([_]++([_,_]++[_,_]));rw[<-Yz,<-Yz];exact List.Perm.append_right _ List.perm_append_comm)
 refine⟨g.hr,hs.rd 4 rfl (i:=1) rfl,?_⟩;refine⟨fun len x h' μ=>∃(i:Nat) (W:WS) (w:Wt),x=(i:Int)/\g.hr.n-i=μ/\i<=g.hr.n/\mM g i W len/\w.k=W.k/\w.r=W.r/\w.e=W.e/\w.o=W.o/\St h h' (Uz ko.size h9.size h.size g w W.F W.S),⟨_,0,yM,fc,rfl,rfl,Nat.zero_le _,.zero,rfl,rfl,rfl,rfl,hs⟩,?_⟩;clear hs;rintro-len _ CA μ ⟨i,W,w,rfl,rfl,hi,hF,e1,e2,e3,e4,hs⟩;refine aQ (fun c=>?_) (fun c=>?_)
 .refine⟨_,_,_,_,_,_,_,_,hs.at 4 rfl (o:=0) (n:=8) rfl,?_⟩;refine (I3 g (i:Int) CA (hg.ext hs.ext) (hx.ext hs.ext) hV ⟨by omega,by omega⟩).mono ?_;rintro _ Ng ⟨W',n',hP,w',f1,f2,f3,f4,rfl,L,cj⟩;refine⟨w'.k,w'.r,w'.f,w'.s,w'.e.r,w'.e.s,w'.e.p,w'.e.l,aH,w'.o.r,w'.o.s,w'.o.p,w'.o.l,aH,n',0,rfl,?_⟩;have hs:=hs.join cj;refine hs.aj (vs:=w'.cs) rfl rfl fun h73 hs=>?_;have tk:∀ {hZ:Heap},(n'<len\/n'=len/\n'<bh/\W'.k<W.k)->St h hZ ((It.af Ng.size w'.cs 35::(Uz ko.size h9.size h.size g w W.F W.S ++ .sl w'.f 65 3 (W'.F.map Ac.cs) :: .sl w'.s 65 3 (W'.S.map Ac.cs)::L)).set 1 (.af ko.size w'.cs 35)) ->
    ∃m,m<g.hr.n-i/\∃(i':Nat) (W:WS) (w:Wt),IntKind.wrap .i64 ((i:Int)+1)=(i':Int)/\g.hr.n-i'=m/\i'<=g.hr.n/\mM g i' W n'/\w.k=W.k/\w.r=W.r/\w.e=W.e/\w.o=W.o/\St h hZ (Uz ko.size h9.size h.size g w W.F W.S):=fun {hZ} hc hs=>by
   refine⟨_,?_,i+1,W',w',by rw[bd (by omega) (by omega)];omega,rfl,by omega,.take hF hP hc,f1,f2,f3,f4,?_⟩
   .omega
   .refine hs.mT (R:=.af Ng.size w'.cs 35 :: .sl w.f 65 3 (W.F.map Ac.cs) :: .sl w.s 65 3 (W.S.map Ac.cs)::L) ?_;show List.Perm (.af Ng.size w'.cs 35 :: .af ko.size w'.cs 35 :: .sl w.f 65 3 (W.F.map Ac.cs) :: .sl w.s 65 3 (W.S.map Ac.cs) :: .af h9.size fc.cs 35 :: .af h.size g.cs 27 :: .sl w'.f 65 3 (W'.F.map Ac.cs) :: .sl w'.s 65 3 (W'.S.map Ac.cs)::L) (.af ko.size w'.cs 35 :: .sl w'.f 65 3 (W'.F.map Ac.cs) :: .sl w'.s 65 3 (W'.S.map Ac.cs) :: .af h9.size fc.cs 35 :: .af h.size g.cs 27 :: .af Ng.size w'.cs 35 :: .sl w.f 65 3 (W.F.map Ac.cs) :: .sl w.s 65 3 (W.S.map Ac.cs)::L);exact Oz _ _ _ _ _ _ _ _ L
  have kp:∀ {hZ:Heap},¬(n'<len\/n'=len/\n'<bh/\W'.k<W.k)->St h hZ (It.af Ng.size w'.cs 35::(Uz ko.size h9.size h.size g w W.F W.S ++ .sl w'.f 65 3 (W'.F.map Ac.cs) :: .sl w'.s 65 3 (W'.S.map Ac.cs)::L)) ->
    ∃m,m<g.hr.n-i/\∃(i':Nat) (W:WS) (w:Wt),IntKind.wrap .i64 ((i:Int)+1)=(i':Int)/\g.hr.n-i'=m/\i'<=g.hr.n/\mM g i' W len/\w.k=W.k/\w.r=W.r/\w.e=W.e/\w.o=W.o/\St h hZ (Uz ko.size h9.size h.size g w W.F W.S):=fun {hZ} hc hs=>by
   refine⟨_,?_,i+1,W,w,by rw[bd (by omega) (by omega)];omega,rfl,by omega,.cr hF hP hc,e1,e2,e3,e4,(hs.drop 1).mT (List.Perm.refl _)⟩;omega
  refine aQ (fun c1=>?_) (fun c1=>?_)
  .exact Jm hs 0 1 (w:=w') (w0:=w) rfl rfl fun h88 hs=>tk (.inl c1) hs
  .refine eS (fun c2=>?_) (fun c2=>?_)
   .refine aQ (fun c3=>?_) (fun c3=>?_)
    .refine⟨w'.k,hs.rd 0 rfl (i:=0) rfl,w.k,hs.rd 1 rfl (i:=0) rfl,aQ (fun c4=>?_) (fun c4=>?_)⟩
     .exact Jm hs 0 1 (w:=w') (w0:=w) rfl rfl fun sy hs=>tk (.inr ⟨c2,c3,by rw[<-e1,<-f1];exact c4⟩) hs
     .exact kp (fun h9=>h9.elim c1 fun h9=>c4 (by rw[e1,f1];exact h9.2.2)) hs
    .exact kp (fun h9=>h9.elim c1 fun h9=>c3 h9.2.1) hs
   .exact kp (fun h9=>h9.elim c1 fun h9=>c2 h9.1) hs
 .have:i=g.rs.length:=by omega
  subst this;refine eS (fun c1=>?_) (fun c1=>?_)
  .refine hs.put 3 rfl (o:=0) (vs:=fc.cs) rfl (bu 14) fun Ni hs=>?_;refine vG (w:=fc) (Q:=fun cs=>vz g h Ni (.tuple ⟨[.agg ⟨cs⟩,.int .i64 0]⟩)) (hs.at 3 rfl (o:=0) (n:=14) rfl) ?_;exact .ok hV (by rw[<-show len=bh from c1];exact hF) hs.ext
  .refine Jm hs 0 3 (w:=w) (w0:=fc) rfl rfl fun IQ hs=>?_;refine vG (w:=w) (Q:=fun cs=>vz g h IQ (.tuple ⟨[.agg ⟨cs⟩,.int .i64 18]⟩)) (hs.at 3 rfl (o:=0) (n:=14) rfl) ?_;exact .err hV hF c1 ⟨w,e1,e2,e3,e4,rfl,_,hs.drop 1⟩
/-! ### moves of pairs, and views -/
theorem Xn{g:Gl}{role:Int}{s t:Nat}{x:Ed}(hx:x∈g.es)(hv:aG role x=none)(hf:x.f=(s:Int)):∃m∈bP g.es role s t,bD m=(x.t.toNat,t):=by
 obtain⟨i,hi⟩:=Yf.1 hx;refine⟨⟨(i:Int),-1,(eA g.es i).t,(t:Nat)⟩,?_,by unfold bD;rw[aI hi];rfl⟩;unfold bP sZ;refine List.mem_append_left _ (List.mem_append_left _ (Yp.2 ⟨i,List.mem_filter.2 ⟨ay.2 ⟨x,hi,hf⟩,?_⟩,rfl⟩));unfold yN;rw[aI hi,hv];rfl
theorem Xo{g:Gl}{role:Int}{s t:Nat}{x:Ed}(hx:x∈g.es)(hv:aG role x=none)(hf:x.f=(t:Int)):∃m∈bP g.es role s t,bD m=(s,x.t.toNat):=by
 obtain⟨i,hi⟩:=Yf.1 hx;refine⟨⟨-1,(i:Int),(s:Nat),(eA g.es i).t⟩,?_,by unfold bD;rw[aI hi];rfl⟩;unfold bP B8;refine List.mem_append_left _ (List.mem_append_right _ (Yp.2 ⟨i,List.mem_filter.2 ⟨ay.2 ⟨x,hi,hf⟩,?_⟩,rfl⟩));unfold yN;rw[aI hi,hv];rfl
theorem Xp{g:Gl}{role:Int}{s t:Nat}{x y:Ed}{e:Ev}(hx:x∈g.es)(hy:y∈g.es)(hvx:aG role x=some e)(T4:aG role y=some e)(hf:x.f=(s:Int))(hg:y.f=(t:Int)):∃m∈bP g.es role s t,bD m=(x.t.toNat,y.t.toNat):=by
 obtain⟨i,hi⟩:=Yf.1 hx;obtain⟨k,hk⟩:=Yf.1 hy;refine⟨⟨(i:Int),(k:Int),(eA g.es i).t,(eA g.es k).t⟩,?_,by unfold bD;rw[aI hi,aI hk]⟩;unfold bP pE;refine List.mem_append_right _ (List.mem_flatMap.2 ⟨i,ay.2 ⟨x,hi,hf⟩,?_⟩);unfold s6;rw[aI hi,hvx];refine Yp.2 ⟨k,List.mem_filter.2 ⟨ay.2 ⟨y,hk,hg⟩,decide_eq_true ?_⟩,rfl⟩;rw[aI hk,T4]
theorem eR.q1{g:Gl}{role:Int}{l:List Int}{t:Nat}{a:Int}(hn:∀x∈g.es,0<=x.f/\0<=x.t)(hl:∀b∈l,0<=b/\eR g role (b.toNat,t))(h:Qr g.es role l a):0<=a/\eR g role (a.toNat,t):=by
 induction h with
 | base hm=>exact hl _ hm
 | @step a b _ hx ih=>
  obtain⟨x,hx,hv,hf,rfl⟩:=hx;obtain⟨m,hm,he⟩:=Xn (t:=t) (s:=a.toNat) hx hv (by omega);refine⟨(hn x hx).2,?_⟩;have:=eR.step ih.2 hm
  rwa [he] at this
theorem eR.q2{g:Gl}{role:Int}{l:List Int}{s:Nat}{a:Int}(hn:∀x∈g.es,0<=x.f/\0<=x.t)(hl:∀b∈l,0<=b/\eR g role (s,b.toNat))(h:Qr g.es role l a):0<=a/\eR g role (s,a.toNat):=by
 induction h with
 | base hm=>exact hl _ hm
 | @step a b _ hx ih=>
  obtain⟨x,hx,hv,hf,rfl⟩:=hx;obtain⟨m,hm,he⟩:=Xo (s:=s) (t:=a.toNat) hx hv (by omega);refine⟨(hn x hx).2,?_⟩;have:=eR.step ih.2 hm
  rwa [he] at this
def PrP(g:Gl)(role:Int)(p:aX):Prop:=∀s t:Nat,p s=true->p t=true->eR g role (s,t)
theorem CQ{g:Gl}{role:Int}{l:List Int}(hn:∀x∈g.es,0<=x.f/\0<=x.t)(h0:∀a∈l,0<=a)(hl:∀a∈l,∀b∈l,eR g role (a.toNat,b.toNat)):PrP g role (eD g.es role l):=fun s t hs ht=>by
 have h1:=bK.1 hs;have h2:=bK.1 ht;have h3:∀b∈l,eR g role (s,b.toNat):=fun b hb=>by
  have:=(eR.q1 (t:=b.toNat) hn (fun a ha=>⟨h0 a ha,hl a ha b hb⟩) h1).2
  rwa [Ys] at this
 have:=(eR.q2 (s:=s) hn (fun b hb=>⟨h0 b hb,h3 b hb⟩) h2).2
 rwa [Ys] at this
theorem ly{es:List Ed}{role:Int}{p:aX}{e:Ev}{a:Int}(h:a∈jZ es role p e):∃x∈es,aG role x=some e/\x.t=a/\∃n:Nat,x.f=(n:Int)/\p n=true:=by
 unfold jZ at h;obtain⟨n,hn,h⟩:=List.mem_flatMap.1 h;obtain⟨y,hy,h⟩:=vT.1 h;unfold bS at hy;obtain⟨x,hx,hy⟩:=vT.1 hy;split at hy
 .rename_i hf;obtain⟨e',xD,rfl⟩:=rP.1 hy;split at h
  .rename_i h9;cases h;simp only at h9;subst h9;exact⟨x,hx,xD,rfl,n,hf,(br.1 hn).2⟩
  .cases h
 .cases hy
theorem tR{es:List Ed}{role:Int}{i:Nat}{p:aX}{P:aX->Prop}(hc:∀x,P (eD es role (jZ es role p x))):∀(l:List Ev) (S:List aX) (M:List Mv),(∀s∈S,P s)->∀s∈(cH es role i p l S M).1,P s
 | [],S,M,h=>h
 | x::r,S,M,h=>by
  rw[cH];refine tR hc r _ _ fun s hs=>?_;unfold fW at hs;split at hs
  .exact h s hs
  .rcases Yk.1 hs with hs | hs
   .exact h s hs
   .rw[Ye.1 hs];exact hc x
theorem p8{es:List Ed}{role:Int}{P:aX->Prop}(hc:∀p x,P p->P (eD es role (jZ es role p x))):∀(f i:Nat) (S:List aX) (M:List Mv) {S':List aX} {M':List Mv},(∀s∈S,P s)->du es role f i S M=some (S',M')->∀s∈S',P s
 | 0,i,S,M,S',M',_,h=>by cases h
 | f+1,i,S,M,S',M',h1,h=>by
  rw[du] at h;split at h
  .cases h;exact h1
  .rename_i p hp;split at h
   .cases h
   .exact p8 hc f (i+1) _ _ (tR (fun x=>hc p x (h1 p (Yb hp))) _ _ _ h1) h
theorem sF{g:Gl}{role:Int}(hV:ah g){S:List aX}{M:List Mv}(h:views g role=some (S,M)):∀p∈S,PrP g role p:=by
 have hN:=hV.num.n;have hn:∀x∈g.es,0<=x.f/\0<=x.t:=fun x hx=>by have:=hV.num.e x hx;unfold fp at this;omega
 unfold views at h;refine p8 (P:=PrP g role) (fun p x hp=>CQ hn (fun a ha=>?_) fun a ha b hb=>?_) 202 0 _ [] (fun s hs=>?_) h
 .obtain⟨y,hy,_,rfl,_⟩:=ly ha;exact (hn y hy).2
 .obtain⟨y,hy,T4,rfl,s,hs,Ik⟩:=ly ha;obtain⟨z,hz,hvz,rfl,t,ht,Cj⟩:=ly hb;obtain⟨m,hm,he⟩:=Xp hy hz T4 hvz hs ht;have:=eR.step (hp s t Ik Cj) hm
  rwa [he] at this
 .rw[Ye.1 hs];refine CQ hn (fun a ha=>by rw[Ye] at ha;omega) fun a ha b hb=>?_;rw[Ye] at ha hb;rw[ha,hb];exact .start
/-! ### nothing is found: no reached pair and no reached state fails -/
theorem Dn.back{g:Gl}{role:Int}{a7:Pr->Option Nat}{p:Pr}(h:eR g role p):∀ {n:Nat},Dn (dc g role) a7 p n->∃k,Dn (dc g role) a7 (jk g) k:=by
 induction h with
 | start=>exact fun hd=>⟨_,hd⟩
 | step _ hm ih=>exact fun hd=>ih (.step hm hd)
theorem rR.back{g:Gl}{role:Int}{MX:Nat->Prop}(hV:ah g){p:Pr}(h:eR g role p):(∀ {n:Nat},rR g.es MX p.1 n->∃k,rR g.es MX g.s.toNat k):=by
 induction h with
 | start=>exact fun hd=>⟨_,hd⟩
 | @step p m _ hm ih=>
  intro n hd;have key:(bD m).1=p.1\/∃x∈g.es,x.f=(p.1:Int)/\x.t.toNat=(bD m).1:=by
   unfold bP at hm;rcases Yk.1 hm with hm | hm
   .rcases Yk.1 hm with hm | hm
    .obtain⟨k,hk,rfl⟩:=Yp.1 hm;obtain⟨x,hx,hf⟩:=ay.1 (List.mem_filter.1 hk).1;exact .inr ⟨x,Yb hx,hf,by unfold bD;rw[aI hx]⟩
    .obtain⟨k,hk,rfl⟩:=Yp.1 hm;exact .inl (by unfold bD;exact Ys _)
   .unfold pE at hm;obtain⟨i,hi,hm⟩:=List.mem_flatMap.1 hm;unfold s6 at hm;split at hm
    .cases hm
    .obtain⟨k,hk,rfl⟩:=Yp.1 hm;obtain⟨x,hx,hf⟩:=ay.1 hi;exact .inr ⟨x,Yb hx,hf,by unfold bD;rw[aI hx]⟩
  rcases key with e | ⟨x,hx,hf,ht⟩
  .rw[e] at hd;exact ih hd
  .exact ih (.step hx hf (by rw[ht];exact hd))
theorem rU.qZ{g:Gl}{role kind:Int}{X:An}{W:WS}{n:Int}(h:rU g role kind X W n)(hn:bh<=n){p:Pr}(hp:eR g role p):dR X kind p=none:=by
 cases h with
 | kR bM=>
  cases hc:dR X kind p with
  | none=>rfl
  | some c=>
   have hd:Dn (dc g role) (eX X kind) p c.toNat:=.base (by unfold eX;rw[hc];rfl);obtain⟨k,hk⟩:=Dn.back hp hd;obtain⟨j,hj⟩:=Dn.least hk;exact absurd hj (bM j)
 | hit _ hb=>unfold bh at hn;omega
theorem Lg.qZ{g:Gl}{role:Int}{X:An}{W:WS}{n:Int}(h:Lg g role X W n)(hV:ah g)(hn:bh<=n){p:Pr}(hp:eR g role p):¬p6 X p.1:=by
 cases h with
 | kR bM=>exact fun hm=>by obtain⟨k,hk⟩:=rR.back hV hp (.base hm);exact bM k hk
 | hit _ hb=>unfold bh at hn;omega
theorem iO.all{g:Gl}{role:Int}{X:An}{i:Nat}{W:WS}{n:Int}(h:iO g role X i W n):∀j,j<i->∃W' n',tf g role X j W' n'/\n<=n':=by
 induction h with
 | zero=>intro j hj;omega
 | @take i W W' n n' _ hk bt ih=>
  intro j hj;by_cases e:j=i
  .subst e;exact⟨_,_,hk,Int.le_refl _⟩
  .obtain⟨W2,n2,h1,h2⟩:=ih j (by omega);exact⟨W2,n2,h1,by omega⟩
 | @cr i W W' n n' _ hk bt ih=>
  intro j hj;by_cases e:j=i
  .subst e;exact⟨_,_,hk,by omega⟩
  .exact ih j (by omega)
theorem mM.all{g:Gl}{i:Nat}{W:WS}{n:Int}(h:mM g i W n):∀j:Nat,j<i->∃W' n',dj g (j:Int) W' n'/\n<=n':=by
 induction h with
 | zero=>intro j hj;omega
 | @take i W W' n n' _ hk bt ih=>
  intro j hj;by_cases e:j=i
  .subst e;exact⟨_,_,hk,Int.le_refl _⟩
  .obtain⟨W2,n2,h1,h2⟩:=ih j (by omega);exact⟨W2,n2,h1,by omega⟩
 | @cr i W W' n n' _ hk bt ih=>
  intro j hj;by_cases e:j=i
  .subst e;exact⟨_,_,hk,by omega⟩
  .exact ih j (by omega)
structure Bf (g:Gl) (role:Int) (X:An):Prop where
 x:jX g role X
 d:∀p,eR g role p->dR X 1 p=none
 m:∀p,eR g role p->¬p6 X p.1
 c:∀p,eR g role p->¬KO X.li X.ag X.ow p.1 p.2
 a:∀p,eR g role p->dR X 4 p=none
end Go.VC
end

section
namespace Go.VC
/-! ### two blocks change places; a part is turned round -/
/-! ### order -/
end Go.VC
end

section
namespace Go.VC
open Go.Proofs Go.LexS



def o8(g:Gl)(r hd:Sl):List Value:=[.string (bs g.nm),.slice r.a r.n r.c,.slice hd.a hd.n hd.c,.int .i64 0,.int .i64 0,.int .i64 0,.slice none 0 0,.slice none 0 0]
end Go.VC
end

section
namespace Go.VC
open Go.LexS

end Go.VC
end

section
namespace Go.VC
open Go.Proofs Go.LexS


end Go.VC
end

section
namespace Go.VC
open Go.LexS
def D5(σ:Nat->Nat)(v:Int):Int:=((σ v.toNat:Nat):Int)
def Qc(σ:Nat->Nat)(y:Ed):Ed:=⟨D5 σ y.f,y.a,y.b,y.l,D5 σ y.t,y.ag⟩
structure Ren (g c:Gl) (σ:Nat->Nat):Prop where
 n:c.n=g.n
 r:∀i,i<g.n.toNat->σ i<g.n.toNat
 inj:∀i j,i<g.n.toNat->j<g.n.toNat->σ i=σ j->i=j
 s:c.s=D5 σ g.s
 e:c.e=D5 σ g.e
 ed:∀x,x∈c.es ↔ ∃y∈g.es,x=Qc σ y
 ti:∀t∈c.ts,∃u∈g.ts,t.s=D5 σ u.s/\t.k=u.k/\∃z,g.es[u.e.toNat]?=some z/\c.es[t.e.toNat]?=some (Qc σ z)
 tj:∀u∈g.ts,∃t∈c.ts,t.s=D5 σ u.s/\t.k=u.k/\∃z,g.es[u.e.toNat]?=some z/\c.es[t.e.toNat]?=some (Qc σ z)
 rs:c.rs=g.rs
theorem GK{g:Gl}(hV:ah g){x:Ed}{t u:Ti}(h:Tz g x t)(k:Tz g x u):t=u:=by
 rcases h with ⟨a,ha,has,z,hz,rfl⟩ | ⟨bM,rfl⟩
 .rcases k with ⟨b,hb,hbs,z',lp,rfl⟩ | ⟨bM,_⟩
  .have e:=v8 hV.TH ha hb (by omega);subst e;rw[hz] at lp;cases lp;rfl
  .exact absurd has (bM a ha)
 .rcases k with ⟨b,hb,hbs,_⟩ | ⟨_,rfl⟩
  .exact absurd hbs (bM b hb)
  .rfl
end Go.VC
end

section
namespace Go.VC
open Go.Proofs Go.LexS
theorem kQ{α β:Type}(f:α->β)(P:α->Prop)[DecidablePred P]:∀(l:List α) (b:β),(l.foldl (fun b t=>if P t then f t else b) b=b/\∀u∈l,¬P u)\/∃u∈l,P u/\l.foldl (fun b t=>if P t then f t else b) b=f u
 | [],b=>.inl ⟨rfl,fun u hu=>by cases hu⟩
 | a::l,b=>by
  rw[List.foldl_cons];by_cases h:P a
  .rw[if_pos h];rcases kQ f P l (f a) with ⟨h1,h2⟩ | ⟨u,hu,h1,h2⟩
   .exact .inr ⟨a,Yx,h,h1⟩
   .exact .inr ⟨u,Yn _ hu,h1,h2⟩
  .rw[if_neg h];rcases kQ f P l b with ⟨h1,h2⟩ | ⟨u,hu,h1,h2⟩
   .refine .inl ⟨h1,fun u hu=>?_⟩;rcases Yr.1 hu with rfl | hu
    .exact h
    .exact h2 u hu
   .exact .inr ⟨u,Yn _ hu,h1,h2⟩
theorem NT{g:Gl}(hV:ah g){x:Ed}(hx:x∈g.es){s:Nat}(hf:x.f=(s:Int)):eG g.es s=x.ag:=by
 unfold eG;cases h:x.ag with
 | true=>exact List.any_eq_true.2 ⟨x,hx,by rw[decide_eq_true hf,h];rfl⟩
 | false=>
  refine List.any_eq_false.2 fun y hy h9=>?_;rw[Yt,decide_eq_true_eq] at h9;have:=(eV hV hx hy (by rw[hf,h9.1])).2;rw[h,h9.2] at this;cases this
theorem MB{g:Gl}(hV:ah g){role:Int}{x:Ed}(hx:x∈g.es)(ha:x.a=role){s:Nat}(hf:x.f=(s:Int)):Tz g x ⟨eG g.es s,(cG g role g.ts s).k,(cG g role g.ts s).x⟩:=by
 rw[NT hV hx hf];unfold cG;rcases kQ (s9 g role) (fun t:To=>t.s=(s:Int)) g.ts Gb with ⟨h1,h2⟩ | ⟨u,hu,h1,h2⟩
 .rw[h1];exact .inr ⟨fun u hu=>by rw[hf];exact h2 u hu,rfl⟩
 .rw[h2];obtain⟨_,_,_,z,hz,TY⟩:=tZ hV hu;refine .inl ⟨u,hu,by rw[hf];exact h1,z,hz,?_⟩;have hza:z.a=role:=by rw[<-ha];exact (eV hV (Yb hz) hx (by rw[TY,h1,hf])).1
  have hv:aG role z=some ⟨true,z.b,z.l⟩:=by unfold aG;rw[if_pos hza.symm]
  unfold s9;rw[aI hz,hv];rfl
/-! ### lists of events in order -/
theorem qf{L:List Ev}(hp:L.Pairwise cy)(h:a8 L (L.length-1)=true){e:Ev}(he:e∈L):e.send=true:=by
 obtain⟨i,hi⟩:=Yf.1 he;have mc:=(Ya.1 hi).1;obtain⟨y,hy⟩:=get_some (l:=L) (i:=L.length-1) (by omega);unfold a8 at h;rw[hy] at h;simp only at h;by_cases e1:i=L.length-1
 .rw[e1,hy] at hi;cases hi;exact h
 .have h9:=List.pairwise_iff_getElem.1 hp i (L.length-1) mc (by omega) (by omega);rw[(Ya.1 hi).2,(Ya.1 hy).2] at h9;unfold cy at h9;rcases h9 with ⟨h9,_⟩ | ⟨h9,_⟩
  .exact h9
  .rw[h9];exact h
theorem sL{L:List Ev}(hp:L.Pairwise cy){e:Ev}(he:e∈L)(hs:e.send=true):a8 L 0=true:=by
 obtain⟨i,hi⟩:=Yf.1 he;have mc:=(Ya.1 hi).1;obtain⟨y,hy⟩:=get_some (l:=L) (i:=0) (by omega);unfold a8;rw[hy];by_cases e1:i=0
 .rw[e1,hy] at hi;cases hi;exact hs
 .have h9:=List.pairwise_iff_getElem.1 hp 0 i (by omega) mc (by omega);rw[(Ya.1 hi).2,(Ya.1 hy).2] at h9;unfold cy at h9;rcases h9 with ⟨h9,_⟩ | ⟨h9,_⟩
  .exact h9
  .show y.send=true;rw[h9];exact hs
theorem jX.at{g:Gl}{role:Int}{X:An}(h:jX g role X){s:Nat}(hs:(s:Int)<g.n):∃f,X.fi[s]?=some f/\f.l=ai g role (s:Nat)/\f.b=aV g role (s:Nat):=by
 have hl:X.fi.length=g.n.toNat:=by have:=congrArg List.length h.fi;simpa using this
 obtain⟨f,hf⟩:=get_some (l:=X.fi) (i:=s) (by omega);have h1:=aU h.fi (s:=s) (by omega);rw[Yd,hf] at h1;have h2:=eP h1;exact⟨f,hf,congrArg Prod.fst h2,congrArg Prod.snd h2⟩
theorem Bf.snd{g:Gl}{role:Int}{X:An}(hF:Bf g role X){n k:Nat}(hn:(n:Int)<g.n)(hk:(k:Int)<g.n)(h1:eR g role (n,k)){e:Ev}(he:e∈ai g role (n:Nat))(hs:e.send=true):e∈ai g role (k:Nat):=by
 obtain⟨f,hf,fl,_⟩:=hF.x.at hn;obtain⟨f',sj,Gj,_⟩:=hF.x.at hk;have h9:=hF.d _ h1;unfold dR at h9;rw[if_pos rfl,hf,sj] at h9;simp only at h9;cases bZ:f.l.find? (fQ f'.l) with
 | some x=>rw[bZ] at h9;cases h9
 | none=>
  rw[List.find?_eq_none] at bZ;have:=bZ e (by rw[fl];exact he);unfold fQ at this;rw[hs,Gj] at this;exact Classical.byContradiction fun bM=>this (by rw[decide_eq_false bM];rfl)
theorem Bf.mx{g:Gl}{role:Int}{X:An}(hF:Bf g role X){n k:Nat}(hn:(n:Int)<g.n)(h1:eR g role (n,k))(hs:a8 (ai g role (n:Nat)) 0=true):aV g role (n:Nat)=false/\a8 (ai g role (n:Nat)) ((ai g role (n:Nat)).length-1)=true:=by
 obtain⟨f,hf,fl,fb⟩:=hF.x.at hn;have h9:=hF.m _ h1;have cw:Ga f=false:=by
  cases h:Ga f with
  | false=>rfl
  | true=>exact absurd ⟨f,hf,h⟩ h9
 unfold Ga at cw;rw[fl,fb,hs,Bool.true_and,Bool.or_eq_false_iff] at cw;exact⟨cw.1,by simpa using cw.2⟩
theorem sG{g:Gl}{role:Int}(hV:ah g){S:List aX}{M:List Mv}(h:views g role=some (S,M)):∀p∈S,PrP g role p->∀j,p j=true->(j:Int)<g.n:=fun p _ hp j hj=>(eR.lt hV (hp j j hj hj)).1
end Go.VC
end
