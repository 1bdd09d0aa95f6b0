/- PwF PwSort PuMv PtX0 PtX PtY PtMa PuJ PuL PwG PwH PwI PwJ PwK PwL PwM PwN PwO PwQ PwR PwU PwV PwW PwY PwZ PwAa PwAk. -/
import Derived.Test.YtibmnldhlgcnjaaGreatDoorEM07
set_option linter.all false
set_option maxRecDepth 100000
set_option maxHeartbeats 8000000

section
namespace Go.VC
open Go.Proofs Go.LexS
def bxI (n p:Nat) (x:Mv):Nat:=if x.send=true then n*p+x.peer.toNat else n*x.peer.toNat+p
theorem two_lt {n a b:Nat} (ha:a<n) (hb:b<n):n*a+b<n*n:=by
 have h1:n*(a+1)<=n*n:=Nat.mul_le_mul_left _ (by omega);rw[Nat.mul_succ] at h1;omega
theorem bxI_lt {n p:Nat} {x:Mv} (hp:p<n) (h0:0<=x.peer) (h1:x.peer<(n:Int)):bxI n p x<n*n:=by
 unfold bxI;split
 .exact two_lt hp (by omega)
 .exact two_lt (by omega) hp
def canS (n:Nat) (k:Int) (S:List Int) (BL:List (List Int)) (p:Nat) (x:Mv):Int:=
 if x.f≠S.getD p 0 then 7 else
 if x.send=true then (if k<=((BL.getD (bxI n p x) []).length:Int) then 19 else 0)
 else match BL.getD (bxI n p x) [] with
  | []=>23
  | l::_=>if l≠x.label then 23 else 0
theorem box60 (n p:Nat) (x:Mv) (h:Heap) (hn:n<=6) (hp:p<n) (h0:0<=x.peer) (h1:x.peer<(n:Int)) :
  Fn Pz 110 #[.int .i64 (n:Int),.int .i64 (p:Int),.agg ⟨x.cs⟩] h fun v h'=>v=.int .i64 (bxI n p x:Nat)/\Ext h h':=by
 apply vc110 (n:Int) (p:Int) x.f x.send x.peer x.label x.t x.ag;unfold W110;have h36:=sq6 hn;refine (St.refl h).newb fun h7 hs=>?_;refine⟨_,hs.rd 0 rfl (i:=1) rfl,?_⟩;obtain⟨q,hq⟩:∃q:Nat,x.peer=(q:Int):=⟨x.peer.toNat,by omega⟩;have hqn:q<n:=by omega
 have hqt:x.peer.toNat=q:=by omega
 have b1:=two_lt hp hqn;have b2:=two_lt hqn hp;unfold bxI;rw[hqt];refine sB_intro (fun c=>?_) (fun c=>?_)
 .refine⟨(q:Int),by rw[<-hq];exact hs.rd 0 rfl (i:=2) rfl,?_⟩;have e1:(n:Int)*(p:Int)=((n*p:Nat):Int):=rfl;have e2:((n*p:Nat):Int)+(q:Int)=((n*p+q:Nat):Int):=rfl;rw[if_pos c,e1,w64 (n:=((n*p:Nat):Int)) (by omega) (by omega),e2,w64 (n:=((n*p+q:Nat):Int)) (by omega) (by omega)];exact⟨rfl,hs.ext⟩
 .refine⟨(q:Int),by rw[<-hq];exact hs.rd 0 rfl (i:=2) rfl,?_⟩;have e1:(n:Int)*(q:Int)=((n*q:Nat):Int):=rfl;have e2:((n*q:Nat):Int)+(p:Int)=((n*q+p:Nat):Int):=rfl;rw[if_neg (by rw[c];exact Bool.false_ne_true),e1,w64 (n:=((n*q:Nat):Int)) (by omega) (by omega),e2,w64 (n:=((n*q+p:Nat):Int)) (by omega) (by omega)];exact⟨rfl,hs.ext⟩
theorem can58 (n:Nat) (k:Int) (ss sb:Sl) (S:List Int) (B:List Bx) (p:Nat) (x:Mv) (h:Heap) (hC:CfI h ss sb S B) (hn:n<=6) (hS:S.length=n) (hB:B.length=n*n) (hp:p<n) (h0:0<=x.peer) (h1:x.peer<(n:Int)) :
  Fn Pz 108 #[.int .i64 (n:Int),.int .i64 k,.agg ⟨[.slice ss.a ss.n ss.c,.slice sb.a sb.n sb.c]⟩,.int .i64 (p:Int),.agg ⟨x.cs⟩] h fun v h'=>v=.int .i64 (canS n k S (B.map Bx.l) p x)/\Ext h h':=by
 apply vc108 (n:Int) k ss sb (p:Int) x.f x.send x.peer x.label x.t x.ag;unfold W108 V108a;have hsn:=hC.s.ln;have hbn:=hC.b.ln;have hlt:=bxI_lt hp h0 h1;refine (St.refl h).newb fun h9 hs=>?_;refine hs.newb fun h10 hs=>?_;refine⟨sb,hs.rd 1 rfl (i:=1) rfl,_,_,_,_,_,_,hs.at 0 rfl (o:=0) (n:=6) rfl,?_⟩;refine (box60 n p x h10 hn hp h0 h1).mono ?_;rintro _ h20 ⟨rfl,E⟩;have hs:=hs.step E;refine⟨_,rfl,E.sm,?_⟩;refine (hC.b.rw.ext hs.ext).nbI (Int.natCast_nonneg _) (Int.ofNat_lt.2 (by rw[hbn,hB];exact hlt)) fun b21 o22 q gq t=>?_;rw[Ys] at gq;replace gq:B[bxI n p x]?=some q:=gq;have hqi:=hC.i q (Yb gq);have hql:=hqi.ln;refine⟨q.s,t.hd,_,hs.rd 0 rfl (i:=0) rfl,ss,hs.rd 1 rfl rfl,?_⟩;refine (hC.s.rw.ext hs.ext).nbI (by omega) (by omega) fun b o z gz t2=>?_;rw[Ys] at gz;replace gz:S[p]?=some z:=gz;have hSg:S.getD p 0=z:=getD_some gz;have hBg:(B.map Bx.l).getD (bxI n p x) []=q.l:=getD_some (by rw[Yd,gq];rfl);refine⟨_,t2.hd,?_⟩;unfold canS;rw[hSg,hBg];refine sBn (fun c=>⟨by rw[if_pos c],hs.ext⟩) (fun c=>?_);rw[if_neg (fun h=>h c)];refine⟨_,hs.rd 0 rfl (i:=1) rfl,sB_intro (fun d=>?_) (fun d=>?_)⟩
 .rw[if_pos d];refine sBi (fun e=>⟨by rw[if_pos (by omega)],hs.ext⟩) (fun e=>?_);rw[if_neg (by omega)];exact⟨_,hs.rd 0 rfl (i:=1) rfl,sB_f (by rw[d];rfl) ⟨rfl,hs.ext⟩⟩
 .rw[if_neg (by rw[d];exact Bool.false_ne_true)];refine⟨_,hs.rd 0 rfl (i:=1) rfl,sB_t (by rw[d];rfl) (sBe (fun e=>?_) (fun e=>?_))⟩
  .rw[List.eq_nil_of_length_eq_zero (l:=q.l) (by omega)];exact⟨rfl,hs.ext⟩
  .refine (hqi.rw.ext hs.ext).nbI (by omega) (by omega) fun b3 o3 y gy t3=>?_;replace gy:q.l[0]?=some y:=gy;cases hl:q.l with
   | nil=>rw[hl] at gy;cases gy
   | cons a r=>
    rw[hl] at gy;cases gy;refine⟨_,t3.hd,_,hs.rd 0 rfl (i:=3) rfl,sBn (fun f=>⟨?_,hs.ext⟩) (fun f=>⟨?_,hs.ext⟩)⟩
    .show _=Value.int .i64 (if y≠x.label then 23 else 0);rw[if_pos f]
    .show _=Value.int .i64 (if y≠x.label then 23 else 0);rw[if_neg (fun h=>h f)]
def posS (L:List Mch) (k:Int) (S:List Int) (BL:List (List Int)) (r i:Int):Int:=
 if r<0\/(L.length:Int)<=r then 2 else match L[r.toNat]? with
 | none=>2
 | some m=>if i<0\/(m.mv.length:Int)<=i then 2 else match m.mv[i.toNat]? with
  | none=>2
  | some x=>canS L.length k S BL r.toNat x
theorem possible61 (L:List MR) (s:Sl) (k:Int) (ss sb:Sl) (S:List Int) (B:List Bx) (r i:Int) (h:Heap) (hS:SyI h s L) (hV:SysV (L.map MR.m)) (hC:CfI h ss sb S B) (hSl:S.length=L.length) (hBl:B.length=L.length*L.length) :
  Fn Pz 103 #[.slice s.a s.n s.c,.int .i64 k,.agg ⟨[.slice ss.a ss.n ss.c,.slice sb.a sb.n sb.c]⟩,.agg ⟨[.int .i64 r,.int .i64 i]⟩] h fun v h'=>v=.int .i64 (posS (L.map MR.m) k S (B.map Bx.l) r i)/\Ext h h':=by
 apply vc103 s k ss sb r i;unfold W103;have hn:=hS.r.ln;have hsn:=hC.s.ln;have hbn:=hC.b.ln;have hlm:(L.map MR.m).length=L.length:=Yc _;have hV6:=hV.n;rw[hlm] at hV6;have h36:=sq6 hV6.2;refine (St.refl h).newb fun h5 hs=>?_;refine hs.newb fun h6 hs=>?_;unfold posS;rw[hlm];refine⟨_,hs.rd 0 rfl (i:=0) rfl,sBi (fun c=>⟨by rw[if_pos (.inl c)],hs.ext⟩) (fun c1=>?_)⟩;refine⟨_,hs.rd 0 rfl (i:=0) rfl,sBi (fun c=>⟨by rw[if_pos (.inr (by omega))],hs.ext⟩) (fun c2=>?_)⟩;rw[if_neg (by omega)];obtain⟨p,rfl⟩:∃p:Nat,r=(p:Int):=⟨r.toNat,by omega⟩;have hp:p<L.length:=by omega
 obtain⟨y,gy⟩:=get_some (l:=L) (i:=p) hp;have gm:(L.map MR.m)[p]?=some y.m:=by rw[Yd,gy];rfl
 rw[Ys,gm];have hyi:=hS.i y (Yb gy);have hgn:=hyi.pm.ln;refine⟨_,hs.rd 0 rfl (i:=1) rfl,sBi (fun c=>⟨?_,hs.ext⟩) (fun c3=>?_)⟩
 .show _=Value.int .i64 (if i<0\/(y.m.mv.length:Int)<=i then 2 else _);rw[if_pos (.inl c)]
 refine⟨_,hs.rd 0 rfl (i:=1) rfl,_,hs.rd 0 rfl (i:=0) rfl,?_⟩;have rdL:∀ {F:Nat->Nat->Prop} {h':Heap},Ext h h'->(∀b o,atC h' ⟨b,o+p*6,none⟩ y.cs->F b o)->NB s.a fun b o=>(0<=(p:Int)/\(p:Int)<(s.n:Nat))/\F b o:=fun {F h'} E hF=>(hS.r.rw.ext E).nbI (by omega) (by omega) fun b o y' gy' t=>by
  rw[Ys] at gy' t;replace gy':L[p]?=some y':=gy';rw[gy] at gy';cases gy';exact hF b o t
 refine rdL hs.ext fun b1 o1 t1=>?_;refine⟨y.g,t1.nth 4 rfl,sBi (fun c=>⟨?_,hs.ext⟩) (fun c4=>?_)⟩
 .show _=Value.int .i64 (if i<0\/(y.m.mv.length:Int)<=i then 2 else _);rw[if_pos (.inr (by omega))]
 obtain⟨j,rfl⟩:∃j:Nat,i=(j:Int):=⟨i.toNat,by omega⟩;obtain⟨x,gx⟩:=get_some (l:=y.m.mv) (i:=j) (by omega);refine⟨_,hs.rd 0 rfl (i:=0) rfl,rdL hs.ext fun b2 o2 t2=>?_⟩;refine⟨y.g,t2.nth 4 rfl,_,hs.rd 0 rfl (i:=1) rfl,?_⟩;refine (hyi.pm.rw.ext hs.ext).nbI (by omega) (by omega) fun b3 o3 x' gx' t3=>?_;rw[Ys] at gx';replace gx':y.m.mv[j]?=some x':=gx';rw[gx] at gx';cases gx';refine⟨_,_,_,_,_,_,t3,?_⟩;have hxm:=Yb gx;have hvm:=hV.m p y.m gm;have hx0:0<=x.peer:=(hvm.2.1.n.mv x hxm).2.2.2.2.1;have hx1:x.peer<(L.length:Int):=by have:=hvm.2.2 x hxm;rw[hlm] at this;exact this
 refine hs.newbE fun h28 E28 hs=>⟨E28.sm,?_⟩;refine hs.put 0 rfl (o:=0) (vs:=x.cs) rfl (show 6<=6 by decide) fun h29 hs=>?_;refine⟨ss,hs.rd 2 rfl rfl,_,hs.rd 1 rfl (i:=0) rfl,?_⟩;refine (hC.s.rw.ext hs.ext).nbI (by omega) (by omega) fun b4 o4 z gz t4=>?_;rw[Ys] at gz;replace gz:S[p]?=some z:=gz;have hSg:S.getD p 0=z:=getD_some gz;refine⟨_,t4.hd,_,hs.rd 0 rfl (i:=0) rfl,?_⟩;show sB _ (Value.int .i64 7=.int .i64 (if (j:Int)<0\/(y.m.mv.length:Int)<=(j:Int) then 2 else match y.m.mv[(j:Int).toNat]? with | none=>2 | some x=>canS L.length k S (B.map Bx.l) p x)/\Ext h h29) _;rw[if_neg (by omega),Ys,gx];refine sBn (fun c=>⟨?_,hs.ext⟩) (fun c5=>?_)
 .show _=Value.int .i64 (canS L.length k S (B.map Bx.l) p x);unfold canS;rw[hSg,if_pos (fun e=>c e.symm)]
 have key:∀v:Int,v=canS L.length k S (B.map Bx.l) p x->∀h',Ext h h'->(Value.int .i64 v=.int .i64 (if (j:Int)<0\/(y.m.mv.length:Int)<=(j:Int) then 2 else match y.m.mv[(j:Int).toNat]? with | none=>2 | some x=>canS L.length k S (B.map Bx.l) p x)/\Ext h h'):=fun v hv h' E=>by
  rw[if_neg (by omega),Ys,gx,hv];exact⟨rfl,E⟩
 obtain⟨q,hq⟩:∃q:Nat,x.peer=(q:Int):=⟨x.peer.toNat,by omega⟩;have hqn:q<L.length:=by omega
 have hqt:x.peer.toNat=q:=by omega
 have b1':=two_lt hp hqn;have b2':=two_lt hqn hp;refine⟨_,hs.rd 0 rfl (i:=1) rfl,sB_intro (fun d=>?_) (fun d=>?_)⟩
 .refine⟨sb,hs.rd 2 rfl (i:=1) rfl,_,hs.rd 1 rfl (i:=0) rfl,(q:Int),by rw[<-hq];exact hs.rd 0 rfl (i:=2) rfl,?_⟩;have e1:(s.n:Int)*(p:Int)=((L.length*p:Nat):Int):=by rw[hn];rfl
  have e2:((L.length*p:Nat):Int)+(q:Int)=((L.length*p+q:Nat):Int):=rfl;rw[e1,w64 (n:=((L.length*p:Nat):Int)) (by omega) (by omega),e2,w64 (n:=((L.length*p+q:Nat):Int)) (by omega) (by omega)];refine (hC.b.rw.ext hs.ext).nbI (Int.natCast_nonneg _) (Int.ofNat_lt.2 (by rw[hbn,hBl];exact b1')) fun b5 o5 u gu t5=>?_;rw[Ys] at gu;replace gu:B[L.length*p+q]?=some u:=gu;have hul:=(hC.i u (Yb gu)).ln;have hBg:(B.map Bx.l).getD (bxI L.length p x) []=u.l:=by
   unfold bxI;rw[if_pos d,hqt];exact getD_some (by rw[Yd,gu];rfl)
  refine⟨u.s,t5.hd,sBi (fun e=>key _ ?_ _ hs.ext) (fun e=>key _ ?_ _ hs.ext)⟩
  .unfold canS;rw[hSg,hBg,if_neg (fun h=>h c5.symm),if_pos d,if_pos (by omega)]
  .unfold canS;rw[hSg,hBg,if_neg (fun h=>h c5.symm),if_pos d,if_neg (by omega)]
 .have hdn:¬x.send=true:=by rw[d];exact Bool.false_ne_true
  refine⟨sb,hs.rd 2 rfl (i:=1) rfl,(q:Int),by rw[<-hq];exact hs.rd 0 rfl (i:=2) rfl,_,hs.rd 1 rfl (i:=0) rfl,?_⟩;have e1:(s.n:Int)*(q:Int)=((L.length*q:Nat):Int):=by rw[hn];rfl
  have e2:((L.length*q:Nat):Int)+(p:Int)=((L.length*q+p:Nat):Int):=rfl;rw[e1,w64 (n:=((L.length*q:Nat):Int)) (by omega) (by omega),e2,w64 (n:=((L.length*q+p:Nat):Int)) (by omega) (by omega)];refine (hC.b.rw.ext hs.ext).nbI (Int.natCast_nonneg _) (Int.ofNat_lt.2 (by rw[hbn,hBl];exact b2')) fun b5 o5 u gu t5=>?_;rw[Ys] at gu;replace gu:B[L.length*q+p]?=some u:=gu;have hui:=hC.i u (Yb gu);have hul:=hui.ln;have hBg:(B.map Bx.l).getD (bxI L.length p x) []=u.l:=by
   unfold bxI;rw[if_neg hdn,hqt];exact getD_some (by rw[Yd,gu];rfl)
  have hcan:canS L.length k S (B.map Bx.l) p x=match u.l with | []=>23 | l::_=>if l≠x.label then 23 else 0:=by
   unfold canS;rw[hSg,hBg,if_neg (fun h=>h c5.symm),if_neg hdn]
  refine⟨u.s,t5.hd,sBe (fun e=>key _ ?_ _ hs.ext) (fun e=>?_)⟩
  .rw[hcan,List.eq_nil_of_length_eq_zero (l:=u.l) (by omega)]
  .refine (hui.rw.ext hs.ext).nbI (by omega) (by omega) fun b6 o6 w gw t6=>?_;replace gw:u.l[0]?=some w:=gw;cases hl:u.l with
   | nil=>rw[hl] at gw;cases gw
   | cons a r=>
    rw[hl] at gw;cases gw;rw[hl] at hcan;refine⟨_,t6.hd,_,hs.rd 0 rfl (i:=3) rfl,sBn (fun f=>key _ ?_ _ hs.ext) (fun f=>key _ ?_ _ hs.ext)⟩
    .rw[hcan];show _=if w≠x.label then 23 else 0;rw[if_pos f]
    .rw[hcan];show _=if w≠x.label then 23 else 0;rw[if_neg (fun h=>h f)]
end Go.VC
end

section
namespace Go.VC
open Go.Proofs Go.Shelf
theorem stC_fin {n:Nat} (p:Int) (k:List (Fin n)):(k.map Fin.val).map (stC p)=k.map fun x=>stC p x.val:=by
 rw[List.map_map];rfl
theorem sort80:Sort80:=by
 intro m sm a p h0 h Ls hs i s l hi hlm hnil hml hll hread;by_cases hl0:l=[]
 .subst hl0;have ha:=hnil rfl;have hget:=hs.get hi;rcases hget.1.2 with ⟨_,hn0,hc0⟩ | ⟨b,cur,ha',_⟩
  .have hset:Ls.set i (.sl s 43 2 (([]:List Nat).map (stC p)))=Ls:=by
    obtain⟨p,q⟩:=Ya.1 hi;rw[<-q];exact List.set_getElem_self p
   intro w hw;subst hw;rw[ha,hn0,hc0];refine (AnyF.slices_SortFunc_none Tryz.sortL80 none ((0:Nat):Nat) (.func (.func 116) #[] #[.pointer (some a)]) w).mono ?_;rintro e' w' ⟨rfl,rfl⟩;exact⟨_,rfl,⟨rfl,[],List.Perm.refl _,List.Pairwise.nil,by rw[hset];exact hs⟩,rfl,rfl,rfl,trivial⟩
  .rw[ha] at ha';cases ha'
 .have hpos:0<m.mv.length:=by
   cases l with
   | nil=>exact absurd rfl hl0
   | cons x r=>have:=hlm x Yx;omega
  haveI:Inhabited (Fin m.mv.length):=⟨⟨0,hpos⟩⟩
  obtain⟨k,rfl⟩:=fin_list hlm;have hi':Ls[i]?=some (.sl s 43 2 (k.map fun x=>stC p x.val)):=by rw[hi,stC_fin]
  rw[Yc] at hll;have g:∀x:Fin m.mv.length,m.mv[x.val]?=some m.mv[x.val]:=fun x=>Yi x.isLt;have ev:∀x:Fin m.mv.length,(m.mv.getD x.val ⟨0,false,0,0,0,false⟩).ev=m.mv[x.val].ev:=fun x=>by rw[Yo,g x];rfl
  refine Fn.mono (sort_ownC Tryz.sortL80 2 43 Tryz.isAgg43 Tryz.sizeOf43 (fun x:Fin m.mv.length=>stC p x.val) (fun _=>rfl) (fun x v hv=>by simp[stC] at hv;rcases hv with rfl | rfl<;>rfl) (fun x y:Fin m.mv.length=>cmpE m.mv[x.val].ev m.mv[y.val].ev) (swo_on swoE fun x:Fin m.mv.length=>m.mv[x.val].ev) 116 #[.pointer (some a)] (enters_of Tryz.func116 (by kernel_rfl) rfl) hs i hi' (by omega) (by omega) (fun x y h' hsz hoth=>?_)) ?_
  .obtain⟨r1,r2⟩:=hread h' hsz hoth;exact @M.orderS81 monoDrawn m.mv sm a p p x.val y.val m.mv[x.val] m.mv[y.val] h' r1 r2 (g x) (g y)
  .rintro v h' ⟨rfl,k',hp,hw,hs'⟩;refine⟨rfl,k'.map Fin.val,hp.map _,?_,by rw[stC_fin];exact hs'⟩;rw[List.pairwise_map];refine hw.imp fun {a b} hab=>?_;unfold ltOf at hab;rw[decide_eq_false_iff_not,cmpE_neg] at hab;rw[ev a,ev b];exact hab
end Go.VC
end

section
namespace Go.VC
open Go.LexS
theorem srt_uniq {m:Mch} (hD:DetM m) {s:Int} {O Q:List Nat} (p1:O.Perm (outIx m s)) (s1:O.Pairwise fun a b=>¬evLt (evI m b) (evI m a)) (p2:Q.Perm (outIx m s)) (s2:Q.Pairwise fun a b=>¬evLt (evI m b) (evI m a)):O=Q:=by
 refine List.Perm.eq_of_pairwise (le:=fun a b=>¬evLt (evI m b) (evI m a)) (fun a b ha hb h3 h4=>?_) s1 s2 (p1.trans p2.symm);obtain⟨x,hx,hxf⟩:=outIx_mem.1 (p1.mem_iff.1 ha);obtain⟨y,hy,hyf⟩:=outIx_mem.1 (p2.mem_iff.1 hb);by_cases e:a=b
 .exact e
 .have:=(hD a b x y hx hy e (by rw[hxf,hyf])).1;rw[evI_of hx,evI_of hy] at h3 h4;exact absurd (evLt_of h3 this) h4
open Classical in
noncomputable def mvS (m:Mch) (s:Int):List Nat:=if h:∃O:List Nat,O.Perm (outIx m s)/\O.Pairwise fun a b=>¬evLt (evI m b) (evI m a) then Classical.choose h else outIx m s
theorem mvS_eq {m:Mch} (hD:DetM m) {s:Int} {O:List Nat} (p1:O.Perm (outIx m s)) (s1:O.Pairwise fun a b=>¬evLt (evI m b) (evI m a)):mvS m s=O:=by
 unfold mvS;have h:∃O:List Nat,O.Perm (outIx m s)/\O.Pairwise fun a b=>¬evLt (evI m b) (evI m a):=⟨O,p1,s1⟩;rw[dif_pos h];have:=Classical.choose_spec h;exact srt_uniq hD this.1 this.2 p1 s1
theorem evLt_nt {a b c:Ev} (h1:¬evLt b a) (h2:¬evLt c b):¬evLt c a:=fun h=>by
 rcases evLt_tri a b with h3 | h3 | h3
 .rcases evLt_tri b c with h4 | h4 | h4
  .exact evLt_irr _ (evLt_trans (evLt_trans h3 h4) h)
  .subst h4;exact evLt_irr _ (evLt_trans h3 h)
  .exact h2 h4
 .subst h3;exact h2 h
 .exact h1 h3
theorem mvS_srt (m:Mch) (s:Int):(mvS m s).Perm (outIx m s)/\(mvS m s).Pairwise fun a b=>¬evLt (evI m b) (evI m a):=by
 have hex:∃O:List Nat,O.Perm (outIx m s)/\O.Pairwise fun a b=>¬evLt (evI m b) (evI m a):=by
  refine⟨(outIx m s).mergeSort (fun a b=>!decide (evLt (evI m b) (evI m a))),List.mergeSort_perm _ _,?_⟩;have h:=List.pairwise_mergeSort (le:=fun a b=>!decide (evLt (evI m b) (evI m a))) (fun a b c h1 h2=>by
   simp only[Bool.not_eq_true',decide_eq_false_iff_not] at h1 h2 ⊢;exact evLt_nt h1 h2) (fun a b=>by
   simp only[Bool.or_eq_true,Bool.not_eq_true',decide_eq_false_iff_not];rcases evLt_tri (evI m a) (evI m b) with h3 | h3 | h3
   .exact .inl fun h=>evLt_irr _ (evLt_trans h3 h)
   .exact .inl fun h=>by rw[h3] at h;exact evLt_irr _ h
   .exact .inr fun h=>evLt_irr _ (evLt_trans h3 h)) (outIx m s)
  exact h.imp fun h=>by simpa using h
 unfold mvS;rw[dif_pos hex];exact Classical.choose_spec hex
end Go.VC
end

section
namespace Go.VC
def setOf (L:List Nat):PSet:=fun j=>decide (j∈L)
def Can (n:Nat) (L:List Nat):Prop:=L=(List.range n).filter fun j=>decide (j∈L)
theorem Can.mk (n:Nat) (p:Nat->Bool):Can n ((List.range n).filter p):=by
 unfold Can;apply List.filter_congr;intro x hx;by_cases hm:x∈(List.range n).filter p
 .rw[decide_eq_true hm];exact (List.mem_filter.1 hm).2
 .rw[decide_eq_false hm];cases hp:p x
  .rfl
  .exact absurd (List.mem_filter.2 ⟨hx,hp⟩) hm
theorem Can.lt {n:Nat} {L:List Nat} (h:Can n L):∀j∈L,j<n:=by
 intro j hj;rw[h,List.mem_filter,List.mem_range] at hj;exact hj.1
theorem setOf_inj {n:Nat} {L L':List Nat} (h:Can n L) (h':Can n L'):setOf L=setOf L' ↔ L=L':=by
 constructor
 .intro e;rw[h,h'];congr 1
 .intro e;rw[e]
theorem elems_setOf {n:Nat} {L:List Nat} (h:Can n L) (hn:n<=4096):elems (setOf L)=L:=by
 unfold elems;have e:List.range 4096=List.range n++(List.range (4096-n)).map (n + ·):=by rw[<-List.range_add];congr 1;omega
 rw[e,List.filter_append];have e2:((List.range (4096-n)).map (n + ·)).filter (setOf L)=[]:=by
  rw[List.filter_eq_nil_iff];intro x hx;obtain⟨y,_,rfl⟩:=Yp.1 hx;unfold setOf;simp only[decide_eq_true_eq];intro hm;have:=h.lt _ hm;omega
 rw[e2,Yw];exact h.symm
def evsC (es:List Ed) (role:Int) (L:List Nat):List Ev:=sortE (L.flatMap fun n=>(visL es role n).map (·.x))
def toC (es:List Ed) (role:Int) (L:List Nat) (x:Ev):List Int:=L.flatMap fun n=>(visL es role n).filterMap fun a=>if a.x=x then some a.to else none
theorem evs_setOf {n:Nat} {L:List Nat} (h:Can n L) (hn:n<=4096) (es:List Ed) (role:Int):evs es role (setOf L)=evsC es role L:=by unfold evs evL evsC;rw[elems_setOf h hn]
theorem toL_setOf {n:Nat} {L:List Nat} (h:Can n L) (hn:n<=4096) (es:List Ed) (role:Int) (x:Ev):toL es role (setOf L) x=toC es role L x:=by unfold toL toC;rw[elems_setOf h hn]
def addC (es:List Ed) (role:Int) (L:List Nat):List Nat:=es.foldl (fun L x=>if (vis1 role x).isNone&&decide (x.f.toNat∈L) && !decide (x.t.toNat∈L) then L++[x.t.toNat] else L) L
def bfsC (es:List Ed) (role:Int):Nat->List Nat->List Nat
 | 0,L=>L
 | f+1,L=>bfsC es role f (addC es role L)
def okC (es:List Ed) (role:Int) (l:List Int) (L:List Nat):Bool:=
 l.all (fun v=>decide (0<=v)&&decide (v.toNat∈L))&&es.all (fun x=>!(vis1 role x).isNone || !decide (x.f.toNat∈L)||decide (x.t.toNat∈L)) &&
  (List.range L.length).all fun i=>match L[i]? with
   | some j=>l.any (fun v=>decide (v=(j:Int)))||es.any fun x=>(vis1 role x).isNone&&decide (x.f.toNat∈L.take i)&&decide (x.t=(j:Int))
   | none=>false
theorem okC_clo {es:List Ed} {role:Int} {l:List Int} {L:List Nat} (hes:∀x∈es,0<=x.f/\0<=x.t) (h:okC es role l L=true) (j:Nat):clo es role l j=decide (j∈L):=by
 unfold okC at h;simp only[Yt,List.all_eq_true,List.mem_range] at h;obtain⟨⟨h1,h2⟩,h3⟩:=h;have fwd:∀a:Int,Qr es role l a->0<=a/\a.toNat∈L:=by
  intro a ha
  induction ha with
  | base hm=>have:=h1 _ hm;simpa using this
  | step _ hx ih=>
   obtain⟨x,hx,hv,hf,rfl⟩:=hx;refine⟨(hes x hx).2,?_⟩;have:=h2 x hx;simp only[Bool.or_eq_true,Bool.not_eq_true',decide_eq_false_iff_not,decide_eq_true_eq] at this;rcases this with (h4 | h4) | h4
   .rw[hv] at h4;cases h4
   .exact absurd (by rw[hf];exact ih.2) h4
   .exact h4
 have bwd:∀i,i<=L.length->∀j∈L.take i,Qr es role l (j:Int):=by
  intro i
  induction i with
  | zero=>intro _ j hj;rw[Yyk] at hj;cases hj
  | succ i ih=>
   intro hi j hj;obtain⟨y,hy⟩:=get_some (l:=L) (i:=i) (by omega);rw[take_snoc hy,Yk,Ye] at hj;rcases hj with hj | rfl
   .exact ih (by omega) j hj
   .have:=h3 i (by omega);rw[hy] at this;simp only[Bool.or_eq_true,List.any_eq_true,decide_eq_true_eq,Yt] at this;rcases this with ⟨v,hv,rfl⟩ | ⟨x,hx,⟨h4,h5⟩,h6⟩
    .exact .base hv
    .have hq:=ih (by omega) _ h5;rw[show ((x.f.toNat:Nat):Int)=x.f by have:=hes x hx;omega] at hq;exact .step hq ⟨x,hx,Option.isNone_iff_eq_none.1 h4,rfl,h6⟩
 have hiff:clo es role l j=true ↔ j∈L:=by
  rw[clo_iff];constructor
  .intro h;have:=(fwd _ h).2;rwa [Ys] at this
  .intro h;exact bwd L.length (Yyt _) j (by rw[Yye];exact h)
 by_cases hj:j∈L
 .rw[decide_eq_true hj];exact hiff.2 hj
 .rw[decide_eq_false hj];cases hc:clo es role l j
  .rfl
  .exact absurd (hiff.1 hc) hj
def cloC (es:List Ed) (role:Int) (n:Nat) (l:List Int):Option (List Nat):=
 let L:=bfsC es role n (l.map Int.toNat).eraseDups
 if okC es role l L then some ((List.range n).filter fun j=>decide (j∈L)) else none
theorem cloC_ok {es:List Ed} {role:Int} {n:Nat} {l:List Int} {L:List Nat} (hes:∀x∈es,0<=x.f/\0<=x.t) (hlt:∀j:Nat,clo es role l j=true->j<n) (h:cloC es role n l=some L):Can n L/\clo es role l=setOf L:=by
 unfold cloC at h;simp only at h;split at h
 .rename_i hk;cases h;refine⟨Can.mk _ _,?_⟩
  funext j
  rw[okC_clo hes hk];unfold setOf;by_cases hj:j∈bfsC es role n (l.map Int.toNat).eraseDups
  .rw[decide_eq_true hj,decide_eq_true];have:clo es role l j=true:=by rw[okC_clo hes hk,decide_eq_true hj]
   exact List.mem_filter.2 ⟨List.mem_range.2 (hlt j this),decide_eq_true hj⟩
  .rw[decide_eq_false hj,decide_eq_false];intro hm;exact hj (Yyn (List.mem_filter.1 hm).2)
 .cases h
def rowCS (S:List (List Nat)) (L:List Nat):List (List Nat):=if L∈S then S else S++[L]
theorem rowI_setOf {n:Nat} {L:List Nat} (hL:Can n L):∀ {S:List (List Nat)},(∀s∈S,Can n s)->rowI (S.map setOf) (setOf L)=idxF S L
 | [],_=>rfl
 | s::S,h=>by
  rw[Yyl,rowI,idxF];have hs:=setOf_inj (h s (Yx ..)) hL;by_cases e:s=L
  .rw[if_pos (hs.2 e),if_pos e]
  .rw[if_neg (fun h=>e (hs.1 h)),if_neg e,rowI_setOf hL fun s hs=>h s (Yn _ hs)]
theorem rowS_setOf {n:Nat} {L:List Nat} (hL:Can n L) {S:List (List Nat)} (hS:∀s∈S,Can n s):rowS (S.map setOf) (setOf L)=(rowCS S L).map setOf/\∀s∈rowCS S L,Can n s:=by
 have hiff:setOf L∈S.map setOf ↔ L∈S:=by
  rw[<-rowI_lt,rowI_setOf hL hS,Yc];constructor
  .intro h;by_cases hm:L∈S
   .exact hm
   .rw[idxF_not hm] at h;omega
  .intro h;exact idxF_lt h
 unfold rowS rowCS;by_cases hm:L∈S
 .rw[if_pos (hiff.2 hm),if_pos hm];exact⟨rfl,hS⟩
 .rw[if_neg (fun h=>hm (hiff.1 h)),if_neg hm,Ym];refine⟨rfl,fun s hs=>?_⟩;rcases Yk.1 hs with hs | hs
  .exact hS s hs
  .rw[Ye] at hs;rw[hs];exact hL
def arcsC (es:List Ed) (role:Int) (n:Nat) (i:Nat) (L:List Nat):List Ev->List (List Nat)->List Mv->Option (List (List Nat) × List Mv)
 | [],S,M=>some (S,M)
 | x::r,S,M=>match cloC es role n (toC es role L x) with
  | none=>none
  | some T=>arcsC es role n i L r (rowCS S T) (M++[⟨i,x.send,x.peer,x.label,(idxF S T:Nat),false⟩])
theorem arcsC_ok {es:List Ed} {role:Int} {n i:Nat} {L:List Nat} (hn:n<=4096) (hes:∀x∈es,0<=x.f/\0<=x.t) (hlt:∀(x:Ev) (j:Nat),clo es role (toC es role L x) j=true->j<n) (hL:Can n L):∀(l:List Ev) (S:List (List Nat)) (M:List Mv) {S':List (List Nat)} {M':List Mv},(∀s∈S,Can n s)->arcsC es role n i L l S M=some (S',M') ->
  arcsF es role i (setOf L) l (S.map setOf) M=(S'.map setOf,M')/\∀s∈S',Can n s
 | [],S,M,S',M',hS,h=>by cases h;exact⟨rfl,hS⟩
 | x::r,S,M,S',M',hS,h=>by
  rw[arcsC] at h;cases hc:cloC es role n (toC es role L x) with
  | none=>rw[hc] at h;cases h
  | some T=>
   rw[hc] at h;replace h:arcsC es role n i L r (rowCS S T) (M++[⟨i,x.send,x.peer,x.label,(idxF S T:Nat),false⟩])=some (S',M'):=h;obtain⟨h1,h2⟩:=cloC_ok hes (hlt x) hc;have h3:=rowS_setOf h1 hS;have:=arcsC_ok hn hes hlt hL r _ _ h3.2 h;rw[arcsF,toL_setOf hL hn,h2,rowI_setOf h1 hS,h3.1];exact this
def viewsCF (es:List Ed) (role:Int) (n:Nat):Nat->Nat->List (List Nat)->List Mv->Option (Option (List (List Nat) × List Mv))
 | 0,_,_,_=>some none
 | f+1,i,S,M=>match S[i]? with
  | none=>some (some (S,M))
  | some L=>match arcsC es role n i L (evsC es role L) S M with
   | none=>none
   | some (S',M')=>if S'.length>200 then some none else viewsCF es role n f (i+1) S' M'
theorem viewsCF_ok {es:List Ed} {role:Int} {n:Nat} (hn:n<=4096) (hes:∀x∈es,0<=x.f/\0<=x.t) (hlt:∀(L:List Nat) (x:Ev) (j:Nat),clo es role (toC es role L x) j=true->j<n):∀(f i:Nat) (S:List (List Nat)) (M:List Mv) {r:Option (List (List Nat) × List Mv)},(∀s∈S,Can n s)->viewsCF es role n f i S M=some r ->
  viewsF es role f i (S.map setOf) M=r.map (fun q=>(q.1.map setOf,q.2))/\∀q,r=some q->∀s∈q.1,Can n s
 | 0,i,S,M,r,_,h=>by cases h;exact⟨rfl,fun q hq=>by cases hq⟩
 | f+1,i,S,M,r,hS,h=>by
  rw[viewsCF] at h;rw[viewsF,Yd];cases hg:S[i]? with
  | none=>
   rw[hg] at h;cases h;exact⟨rfl,fun q hq=>by cases hq;exact hS⟩
  | some L=>
   rw[hg] at h;have hL:=hS L (Yb hg);cases ha:arcsC es role n i L (evsC es role L) S M with
   | none=>simp only[ha] at h;cases h
   | some q=>
    obtain⟨S',M'⟩:=q;simp only[ha] at h;have h1:=arcsC_ok hn hes (hlt L) hL _ S M hS ha;rw[<-evs_setOf hL hn] at h1;show (if (arcsF es role i (setOf L) (evs es role (setOf L)) (S.map setOf) M).1.length>200 then none else viewsF es role f (i+1) (arcsF es role i (setOf L) (evs es role (setOf L)) (S.map setOf) M).1 (arcsF es role i (setOf L) (evs es role (setOf L)) (S.map setOf) M).2)=_/\_;rw[h1.1];simp only[Yc];split
    .rename_i hc;rw[if_pos hc] at h;cases h;exact⟨rfl,fun q hq=>by cases hq⟩
    .rename_i hc;rw[if_neg hc] at h;exact viewsCF_ok hn hes hlt f (i+1) S' M' h1.2 h
theorem viewV_congr {F F':Nat->List Ev} {en en':Nat->Bool} {O:List Bool} {T:List Ti} {l:List Nat} (hF:∀k∈l,F k=F' k) (he:∀k∈l,en k=en' k):viewV F en O T l=viewV F' en' O T l:=by
 have hb:∀k∈l,badV F en l k=badV F' en' l k:=by
  intro k hk;unfold badV;have ha:(l.any fun q=>en q||decide (F k≠F q))=l.any fun q=>en' q||decide (F' k≠F' q):=by
   rw[Bool.eq_iff_iff,List.any_eq_true,List.any_eq_true];constructor
   .rintro⟨q,hq,h⟩;exact⟨q,hq,by rw[<-he q hq,<-hF q hq,<-hF k hk];exact h⟩
   .rintro⟨q,hq,h⟩;exact⟨q,hq,by rw[he q hq,hF q hq,hF k hk];exact h⟩
  rw[ha,hF k hk,he k hk]
 unfold viewV;congr 1
 suffices h:∀(m:List Nat) (st:Option (Bool × Ti)),(∀k∈m,k∈l)->m.foldl (stepV F en O T l) st=m.foldl (stepV F' en' O T l) st from h l _ fun k hk=>hk
 intro m
 induction m with
 | nil=>intro st _;rfl
 | cons a m ih=>
  intro st hs;rw[List.foldl_cons,List.foldl_cons];have:stepV F en O T l st a=stepV F' en' O T l st a:=by unfold stepV;rw[hb a (hs a (Yx ..))]
  rw[this];exact ih _ fun k hk=>hs k (Yn _ hk)
def rawLC (vw:List Nat->Option Ti):Nat->List (List Nat)->List Mv->List To->Option (List Mv × List To)
 | _,[],M,L=>some (M,L)
 | n,p::S,M,L=>match vw p with
  | none=>none
  | some x=>rawLC vw (n+1) S (M.map (updR n x)) (L++limR n x M)
theorem rawLC_ok {vw vw':List Nat->Option Ti} {N:Nat} (hN:N<=4096):∀(n:Nat) (S:List (List Nat)) (M:List Mv) (L:List To),(∀s∈S,Can N s/\vw s=vw' s)->rawL vw n (S.map setOf) M L=rawLC vw' n S M L
 | _,[],_,_,_=>rfl
 | n,p::S,M,L,h=>by
  obtain⟨h1,h2⟩:=h p (Yx ..);rw[Yyl,rawL,rawLC,elems_setOf h1 hN,h2];cases vw' p with
  | none=>rfl
  | some x=>exact rawLC_ok hN (n+1) S _ _ fun s hs=>h s (Yn _ hs)
end Go.VC
end

section
namespace Go.VC
open Go.LexS
def fC (g:Gl) (role:Int) (k:Nat):List Ev:=((cloC g.es role g.n.toNat [(k:Int)]).map (evsC g.es role)).getD []
def enC (g:Gl) (role:Int) (k:Nat):Bool:=((cloC g.es role g.n.toNat [(k:Int)]).map fun L=>decide (g.e.toNat∈L)).getD false
def vwC (g:Gl) (role:Int):List Nat->Option Ti:=viewV (fC g role) (enC g role) (ownE g.es role g.n.toNat).1 (ownT g.es g.ts role g.n.toNat)
def rawC (g:Gl) (role:Int):Option (Option Mch × Int):=
 if !(List.range g.n.toNat).all (fun k=>(cloC g.es role g.n.toNat [(k:Int)]).isSome) then none else
 match cloC g.es role g.n.toNat [g.s] with
 | none=>none
 | some L0=>match viewsCF g.es role g.n.toNat 202 0 [L0] [] with
  | none=>none
  | some none=>some (none,6)
  | some (some (S,M))=>if M.length>400 then some (none,6) else
   match rawLC (vwC g role) 0 S M [] with
   | none=>some (none,18)
   | some (M',L')=>some (some ⟨role,S.length,0,S.map (fun L=>decide (g.e.toNat∈L)),M',L'⟩,0)
theorem rawC_ok {g:Gl} {role:Int} {r:Option Mch × Int} (hV:ValidS g) (h0:0<=role) (h1:role<g.rs.length) (h:rawC g role=some r):raw g role=r:=by
 have hN:=hV.num.n;have hn:g.n.toNat<=4096:=by omega
 have hes:∀x∈g.es,0<=x.f/\0<=x.t:=fun x hx=>by have:=hV.num.e x hx;unfold EdS at this;omega
 have hlt:∀(l:List Int),(∀v∈l,0<=v/\v<g.n)->∀j:Nat,clo g.es role l j=true->j<g.n.toNat:=fun l hl j hj=>by have:=clo_lt hV hl j hj;omega
 have hto:∀(L:List Nat) (x:Ev) (j:Nat),clo g.es role (toC g.es role L x) j=true->j<g.n.toNat:=by
  intro L x;refine hlt _ fun v hv=>?_;unfold toC at hv;obtain⟨k,_,h2⟩:=List.mem_flatMap.1 hv;obtain⟨a,ha,h3⟩:=Yym.1 h2;unfold visL at ha;obtain⟨e,he,h4⟩:=Yym.1 ha;have:=hV.num.e e he;unfold EdS at this;split at h4
  .rw[Yya] at h4;obtain⟨_,_,rfl⟩:=h4;split at h3
   .cases h3;show 0<=e.t/\e.t<g.n;omega
   .cases h3
  .cases h4
 unfold rawC at h;split at h
 .cases h
 rename_i hall;have hall:∀k,k<g.n.toNat->(cloC g.es role g.n.toNat [(k:Int)]).isSome=true:=by
  intro k hk;have:(List.range g.n.toNat).all (fun k=>(cloC g.es role g.n.toNat [(k:Int)]).isSome)=true:=by
   revert hall
   generalize (List.range g.n.toNat).all (fun k=>(cloC g.es role g.n.toNat [(k:Int)]).isSome)=b;cases b<;>simp
  exact List.all_eq_true.1 this k (List.mem_range.2 hk)
 have hfirst:∀k,k<g.n.toNat->firstE g role (k:Int)=fC g role k/\firstB g role (k:Int)=enC g role k:=by
  intro k hk;obtain⟨L,hL⟩:=Option.isSome_iff_exists.1 (hall k hk);obtain⟨h2,h3⟩:=cloC_ok hes (hlt [(k:Int)] fun v hv=>by rw[Ye] at hv;omega) hL;unfold firstE firstB fC enC;rw[hL,h3,evs_setOf h2 hn];exact⟨rfl,rfl⟩
 cases hc0:cloC g.es role g.n.toNat [g.s] with
 | none=>simp only[hc0] at h;cases h
 | some L0=>
  simp only[hc0] at h;obtain⟨h2,h3⟩:=cloC_ok hes (hlt [g.s] fun v hv=>by rw[Ye] at hv;omega) hc0;cases hv:viewsCF g.es role g.n.toNat 202 0 [L0] [] with
  | none=>simp only[hv] at h;cases h
  | some w=>
   simp only[hv] at h;obtain⟨h4,h5⟩:=viewsCF_ok hn hes hto 202 0 [L0] [] (fun s hs=>by rw[Ye] at hs;rw[hs];exact h2) hv;have h6:views g role=w.map fun q=>(q.1.map setOf,q.2):=by
    unfold views;rw[h3];exact h4
   unfold raw;rw[if_neg (by simpa using ⟨hV,h0,h1⟩),h6];cases w with
   | none=>simpa using h
   | some q=>
    obtain⟨S,M⟩:=q;have hS:=h5 (S,M) rfl;simp only[Option.map_some] at h ⊢;split at h
    .rename_i hM;rw[if_pos hM];simpa using h
    .rename_i hM;rw[if_neg hM];rw[rawLC_ok (vw:=vwG g role) (vw':=vwC g role) hn 0 S M [] fun s hs=>⟨hS s hs,viewV_congr (fun k hk=>(hfirst k ((hS s hs).lt k hk)).1) fun k hk=>(hfirst k ((hS s hs).lt k hk)).2⟩];cases hl:rawLC (vwC g role) 0 S M [] with
     | none=>simp only[hl] at h ⊢;simpa using h
     | some q=>
      obtain⟨M',L'⟩:=q;simp only[hl] at h ⊢;rw[<-Yyp h,Yc,List.map_map];rfl
end Go.VC
end

section
namespace Go.VC
open Go.Proofs Go.LexS
def exD (x:Nm):Dc:=⟨x,⟨none,0,0⟩,0,⟨none,0,0⟩,⟨none,0,0⟩,[],[],[]⟩
def exEs:Bool->List Ed
 | true=>[⟨0,0,1,0,1,false⟩,⟨0,0,1,1,2,false⟩,⟨1,1,2,0,3,false⟩,⟨2,1,2,1,4,false⟩,⟨3,2,1,2,5,false⟩,⟨4,2,1,3,5,false⟩]
 | false=>[⟨0,0,1,0,1,false⟩,⟨0,0,1,1,2,false⟩,⟨1,2,1,2,3,false⟩,⟨2,2,1,3,3,false⟩]
def exGl (b:Bool) (hr hd he ht:Sl):Gl:=⟨[101],hr,hd,if b then 6 else 4,0,if b then 5 else 3,he,ht,[[112],[113],[114]],[exD [97],exD [98],exD [99],exD [100]],exEs b,[]⟩
theorem edge70 (p0 p1 p2 p3 p4:Int) (h:Heap):Fn Pz 88 #[.int .i64 p0,.int .i64 p1,.int .i64 p2,.int .i64 p3,.int .i64 p4] h fun v h'=>v=.agg ⟨Ed.cs ⟨p0,p1,p2,p3,p4,false⟩⟩/\Ext h h':=by
 apply vc88;unfold W88;have hs:=St.refl h;refine hs.newput (vs:=Ed.cs ⟨p0,p1,p2,p3,p4,false⟩) rfl rfl fun h2 hs=>?_;exact⟨_,_,_,_,_,_,hs.at 0 rfl (n:=6) rfl,rfl,hs.ext⟩
theorem RL.none_ {α:Type} {h:Heap} {k:Nat} {cs:α->List Value}:RL h k ⟨none,0,0⟩ cs []:=⟨Rw.nil,Yyt _,fun _=>⟨rfl,rfl⟩,Nat.zero_le _⟩
theorem St.rl {α:Type} {h0 h:Heap} {L:List It} (hs:St h0 h L) (k:Nat) {s:Sl} {e:TypeId} {n:Nat} {cs:α->List Value} {l:List α} (hk:L[k]?=some (.sl s e n (l.map cs))) (hn:0<n) (hl:l.length<=1048576):RL h n s cs l:=by
 have:=hs.len k hk hn;exact⟨hs.rows k hk hn,this.2.1,this.2.2,hl⟩
theorem nmrows (L:List Nm):∀r∈L.map nmC,r.length=1:=fun r hr=>by obtain⟨x,_,rfl⟩:=Yp.1 hr;rfl
theorem dcrows (L:List Dc):∀r∈L.map Dc.cs,r.length=5:=fun r hr=>by obtain⟨x,_,rfl⟩:=Yp.1 hr;rfl
theorem edrows (L:List Ed):∀r∈L.map Ed.cs,r.length=6:=fun r hr=>by obtain⟨x,_,rfl⟩:=Yp.1 hr;rfl
theorem example34 (b:Bool) (h:Heap):Fn Pz 34 #[.bool b] h fun v h'=>Ext h h'/\∃hr hd he:Sl,v=(exGl b hr hd he ⟨none,0,0⟩).v/\GI h' (exGl b hr hd he ⟨none,0,0⟩):=by
 apply vc34;unfold W34 V34a;have hs:=St.refl h;refine hs.newb fun h1 hs=>?_;refine hs.newb fun h2 hs=>?_;have hs:=hs.blkS 3 1 ([[112],[113],[114]].map nmC) rfl (nmrows _) rfl (by decide);refine hs.newb fun h3 hs=>?_;have hs:=hs.blkS 4 5 ([exD [97],exD [98],exD [99],exD [100]].map Dc.cs) rfl (dcrows _) rfl (by decide);refine hs.newput (vs:=[.string (bs [101]),.slice (some ⟨h1.size,0,none⟩) 3 3,.slice (some ⟨h2.size,0,none⟩) 4 4,.int .i64 4,.int .i64 0,.int .i64 3,.slice none 0 0,.slice none 0 0]) rfl rfl fun h5 hs=>?_;refine (edge70 _ _ _ _ _ _).mono ?_;rintro _ _ ⟨rfl,E⟩;replace hs:=hs.step E;clear E;refine⟨_,_,_,_,_,_,rfl,?_⟩;refine (edge70 _ _ _ _ _ _).mono ?_;rintro _ _ ⟨rfl,E⟩;replace hs:=hs.step E;clear E;refine⟨_,_,_,_,_,_,rfl,?_⟩;refine (edge70 _ _ _ _ _ _).mono ?_;rintro _ _ ⟨rfl,E⟩;replace hs:=hs.step E;clear E;refine⟨_,_,_,_,_,_,rfl,?_⟩;refine (edge70 _ _ _ _ _ _).mono ?_;rintro _ _ ⟨rfl,E⟩;replace hs:=hs.step E;clear E;refine⟨_,_,_,_,_,_,rfl,?_⟩;refine hs.newb fun h38 hs=>?_;have hs:=hs.blkS 4 6 ((exEs false).map Ed.cs) rfl (edrows _) rfl (by decide);refine hs.put 1 rfl (o:=6) (vs:=[.slice (some ⟨_,0,none⟩) 4 4]) rfl (show 7<=8 by decide) fun h39 hs=>?_;cases b
 .refine sB_f rfl ?_;refine⟨_,⟨some ⟨h1.size,0,none⟩,3,3⟩,⟨some ⟨h2.size,0,none⟩,4,4⟩,_,_,_,⟨some ⟨_,0,none⟩,4,4⟩,⟨none,0,0⟩,hs.at 1 rfl (n:=8) rfl,?_⟩;refine hs.put 4 rfl (o:=0) (vs:=(exGl false ⟨some ⟨h1.size,0,none⟩,3,3⟩ ⟨some ⟨h2.size,0,none⟩,4,4⟩ ⟨some ⟨_,0,none⟩,4,4⟩ ⟨none,0,0⟩).cs) rfl (show 8<=8 by decide) fun h117 hs=>?_;refine⟨_,⟨some ⟨h1.size,0,none⟩,3,3⟩,⟨some ⟨h2.size,0,none⟩,4,4⟩,_,_,_,⟨some ⟨_,0,none⟩,4,4⟩,⟨none,0,0⟩,hs.at 4 rfl (n:=8) rfl,hs.ext,_,_,_,rfl,?_⟩;refine⟨hs.rl 3 rfl (by decide) (show 3<=1048576 by decide),⟨hs.rl 2 rfl (by decide) (show 4<=1048576 by decide),fun d hd=>?_⟩,hs.rl 0 rfl (by decide) (show 4<=1048576 by decide),RL.none_⟩;have hd:d∈[exD [97],exD [98],exD [99],exD [100]]:=hd;simp only[Yr,List.not_mem_nil,or_false] at hd;rcases hd with rfl | rfl | rfl | rfl<;>exact⟨RL.none_,RL.none_,RL.none_⟩
 .refine sB_t rfl ?_;refine hs.put 1 rfl (o:=3) (vs:=[.int .i64 6]) rfl (show 4<=8 by decide) fun h40 hs=>?_;refine hs.put 1 rfl (o:=5) (vs:=[.int .i64 5]) rfl (show 6<=8 by decide) fun h41 hs=>?_;refine (edge70 _ _ _ _ _ _).mono ?_;rintro _ _ ⟨rfl,E⟩;replace hs:=hs.step E;clear E;refine⟨_,_,_,_,_,_,rfl,?_⟩;refine (edge70 _ _ _ _ _ _).mono ?_;rintro _ _ ⟨rfl,E⟩;replace hs:=hs.step E;clear E;refine⟨_,_,_,_,_,_,rfl,?_⟩;refine (edge70 _ _ _ _ _ _).mono ?_;rintro _ _ ⟨rfl,E⟩;replace hs:=hs.step E;clear E;refine⟨_,_,_,_,_,_,rfl,?_⟩;refine (edge70 _ _ _ _ _ _).mono ?_;rintro _ _ ⟨rfl,E⟩;replace hs:=hs.step E;clear E;refine⟨_,_,_,_,_,_,rfl,?_⟩;refine (edge70 _ _ _ _ _ _).mono ?_;rintro _ _ ⟨rfl,E⟩;replace hs:=hs.step E;clear E;refine⟨_,_,_,_,_,_,rfl,?_⟩;refine (edge70 _ _ _ _ _ _).mono ?_;rintro _ _ ⟨rfl,E⟩;replace hs:=hs.step E;clear E;refine⟨_,_,_,_,_,_,rfl,?_⟩;refine hs.newb fun h90 hs=>?_;have hs:=hs.blkS 6 6 ((exEs true).map Ed.cs) rfl (edrows _) rfl (by decide);refine hs.put 2 rfl (o:=6) (vs:=[.slice (some ⟨_,0,none⟩) 6 6]) rfl (show 7<=8 by decide) fun h91 hs=>?_;refine⟨_,⟨some ⟨h1.size,0,none⟩,3,3⟩,⟨some ⟨h2.size,0,none⟩,4,4⟩,_,_,_,⟨some ⟨_,0,none⟩,6,6⟩,⟨none,0,0⟩,hs.at 2 rfl (n:=8) rfl,?_⟩;refine hs.put 5 rfl (o:=0) (vs:=(exGl true ⟨some ⟨h1.size,0,none⟩,3,3⟩ ⟨some ⟨h2.size,0,none⟩,4,4⟩ ⟨some ⟨_,0,none⟩,6,6⟩ ⟨none,0,0⟩).cs) rfl (show 8<=8 by decide) fun h117 hs=>?_;refine⟨_,⟨some ⟨h1.size,0,none⟩,3,3⟩,⟨some ⟨h2.size,0,none⟩,4,4⟩,_,_,_,⟨some ⟨_,0,none⟩,6,6⟩,⟨none,0,0⟩,hs.at 5 rfl (n:=8) rfl,hs.ext,_,_,_,rfl,?_⟩;refine⟨hs.rl 4 rfl (by decide) (show 3<=1048576 by decide),⟨hs.rl 3 rfl (by decide) (show 4<=1048576 by decide),fun d hd=>?_⟩,hs.rl 0 rfl (by decide) (show 6<=1048576 by decide),RL.none_⟩;have hd:d∈[exD [97],exD [98],exD [99],exD [100]]:=hd;simp only[Yr,List.not_mem_nil,or_false] at hd;rcases hd with rfl | rfl | rfl | rfl<;>exact⟨RL.none_,RL.none_,RL.none_⟩
deriving instance DecidableEq for Ed
theorem ex_valid (b:Bool) (hr hd he ht:Sl):ValidS (exGl b hr hd he ht):=by
 have hrs:(exGl b hr hd he ht).rs=[[112],[113],[114]]:=rfl;have hds:(exGl b hr hd he ht).ds=[exD [97],exD [98],exD [99],exD [100]]:=rfl;have hes:(exGl b hr hd he ht).es=exEs b:=rfl;have hall:allF [exD [97],exD [98],exD [99],exD [100]]=[]:=rfl;have get3:∀ {α:Type} {P:Nat->α->Prop} {l:List α},(∀i (hi:i<l.length),P i l[i])->∀i x,l[i]?=some x->P i x:=by
  intro α P l h i x hx;obtain⟨h1,h2⟩:=Ya.1 hx;rw[<-h2];exact h i h1
 refine⟨⟨by rfl,by rw[hrs];decide,by rw[hrs];decide,?_⟩,⟨?_,?_,?_⟩,?_,⟨?_,?_,?_⟩,?_,?_,?_⟩
 .rw[hrs];refine get3 (P:=fun i s=>isWord s=true/\s∉List.take i [[112],[113],[114]]) fun i hi=>?_;have hi:i<3:=hi
  match i,hi with
  | 0,_=>exact Yyn rfl
  | 1,_=>exact Yyn rfl
  | 2,_=>exact Yyn rfl
 .cases b<;>exact⟨Yyn rfl,Yyn rfl,Yyn rfl,Yyn rfl,Yyn rfl,Yyn rfl⟩
 .rw[hes];cases b<;>decide
 .rw[hes];unfold EdS;rw[hrs,hds];cases b
  .show ∀x∈exEs false,0<=x.f/\0<=x.t/\0<=x.a/\0<=x.b/\0<=x.l/\x.f<4/\x.t<4/\x.a<((3:Nat):Int)/\x.b<((3:Nat):Int)/\x.a≠x.b/\x.l<((4:Nat):Int);decide
  .show ∀x∈exEs true,0<=x.f/\0<=x.t/\0<=x.a/\0<=x.b/\0<=x.l/\x.f<6/\x.t<6/\x.a<((3:Nat):Int)/\x.b<((3:Nat):Int)/\x.a≠x.b/\x.l<((4:Nat):Int);decide
 .rw[hds];refine⟨by decide,by rw[hall];decide,?_⟩;refine get3 (P:=fun i d=>DcS [exD [97],exD [98],exD [99],exD [100]] i d) fun i hi=>?_;have hi:i<4:=hi;have hg:GuardS [] [] []:=⟨by decide,by decide,fun x hx=>(by cases hx),fun x hx=>(by cases hx)⟩
  match i,hi with
  | 0,_=>exact⟨by rfl,Yyn rfl,Yyn rfl,by rfl,fun k f hf=>(by cases hf),by rw[hall];exact hg⟩
  | 1,_=>exact⟨by rfl,Yyn rfl,Yyn rfl,by rfl,fun k f hf=>(by cases hf),by rw[hall];exact hg⟩
  | 2,_=>exact⟨by rfl,Yyn rfl,Yyn rfl,by rfl,fun k f hf=>(by cases hf),by rw[hall];exact hg⟩
  | 3,_=>exact⟨by rfl,Yyn rfl,Yyn rfl,by rfl,fun k f hf=>(by cases hf),by rw[hall];exact hg⟩
 .rw[hes];cases b
  .show ∀x∈exEs false,x.f≠3;decide
  .show ∀x∈exEs true,x.f≠5;decide
 .rw[hes];cases b
  .show ∀x∈exEs false,x.ag=true->x.f≠0;decide
  .show ∀x∈exEs true,x.ag=true->x.f≠0;decide
 .rw[hes];have key:((exEs b).zipIdx.all fun p=>(exEs b).zipIdx.all fun q=>!decide ((p.2≠q.2/\p.1.f=q.1.f/\((p.1.a=q.1.a/\p.1.b=q.1.b/\p.1.l=q.1.l)\/p.1.a≠q.1.a\/p.1.ag=true))\/(p.1.ag=true/\q.1.t=p.1.f/\(p.1.a≠q.1.a\/p.1.l≠q.1.l))))=true:=by
   cases b<;>decide
  intro i x hx k y hy hbad;have h1:=List.all_eq_true.1 key (x,i) (Yf.2 ⟨i,by rw[List.getElem?_zipIdx,hx];simp⟩);have h2:=List.all_eq_true.1 h1 (y,k) (Yf.2 ⟨k,by rw[List.getElem?_zipIdx,hy];simp⟩);have h3:=Yyo (Bool.not_eq_true' _ ▸ h2);exact h3 hbad
 .intro i t ht;exact absurd ht (by show ([]:List To)[i]?≠some t;simp)
 .intro v h0 h1;rw[hes];cases b
  .have h1:v<4:=h1;show Rch (exEs false) false 0 v;have s0:Rch (exEs false) false 0 0:=.refl;have s1:Rch (exEs false) false 0 1:=.step s0 ⟨⟨0,0,1,0,1,false⟩,by decide,rfl,rfl⟩;have s2:Rch (exEs false) false 0 2:=.step s0 ⟨⟨0,0,1,1,2,false⟩,by decide,rfl,rfl⟩;have s3:Rch (exEs false) false 0 3:=.step s1 ⟨⟨1,2,1,2,3,false⟩,by decide,rfl,rfl⟩;have:v=0\/v=1\/v=2\/v=3:=by omega
   rcases this with rfl | rfl | rfl | rfl<;>assumption
  .have h1:v<6:=h1;show Rch (exEs true) false 0 v;have s0:Rch (exEs true) false 0 0:=.refl;have s1:Rch (exEs true) false 0 1:=.step s0 ⟨⟨0,0,1,0,1,false⟩,by decide,rfl,rfl⟩;have s2:Rch (exEs true) false 0 2:=.step s0 ⟨⟨0,0,1,1,2,false⟩,by decide,rfl,rfl⟩;have s3:Rch (exEs true) false 0 3:=.step s1 ⟨⟨1,1,2,0,3,false⟩,by decide,rfl,rfl⟩;have s4:Rch (exEs true) false 0 4:=.step s2 ⟨⟨2,1,2,1,4,false⟩,by decide,rfl,rfl⟩;have s5:Rch (exEs true) false 0 5:=.step s3 ⟨⟨3,2,1,2,5,false⟩,by decide,rfl,rfl⟩;have:v=0\/v=1\/v=2\/v=3\/v=4\/v=5:=by omega
   rcases this with rfl | rfl | rfl | rfl | rfl | rfl<;>assumption
 .intro v h0 h1;rw[hes];cases b
  .have h1:v<4:=h1;show Rch (exEs false) true 3 v;have s3:Rch (exEs false) true 3 3:=.refl;have s1:Rch (exEs false) true 3 1:=.step s3 ⟨⟨1,2,1,2,3,false⟩,by decide,rfl,rfl⟩;have s2:Rch (exEs false) true 3 2:=.step s3 ⟨⟨2,2,1,3,3,false⟩,by decide,rfl,rfl⟩;have s0:Rch (exEs false) true 3 0:=.step s1 ⟨⟨0,0,1,0,1,false⟩,by decide,rfl,rfl⟩;have:v=0\/v=1\/v=2\/v=3:=by omega
   rcases this with rfl | rfl | rfl | rfl<;>assumption
  .have h1:v<6:=h1;show Rch (exEs true) true 5 v;have s5:Rch (exEs true) true 5 5:=.refl;have s3:Rch (exEs true) true 5 3:=.step s5 ⟨⟨3,2,1,2,5,false⟩,by decide,rfl,rfl⟩;have s4:Rch (exEs true) true 5 4:=.step s5 ⟨⟨4,2,1,3,5,false⟩,by decide,rfl,rfl⟩;have s1:Rch (exEs true) true 5 1:=.step s3 ⟨⟨1,1,2,0,3,false⟩,by decide,rfl,rfl⟩;have s2:Rch (exEs true) true 5 2:=.step s4 ⟨⟨2,1,2,1,4,false⟩,by decide,rfl,rfl⟩;have s0:Rch (exEs true) true 5 0:=.step s1 ⟨⟨0,0,1,0,1,false⟩,by decide,rfl,rfl⟩;have:v=0\/v=1\/v=2\/v=3\/v=4\/v=5:=by omega
   rcases this with rfl | rfl | rfl | rfl | rfl | rfl<;>assumption
theorem before26 (x y:Mv) (h:Heap):Fn Pz 155 #[.agg ⟨x.cs⟩,.agg ⟨y.cs⟩] h fun v h'=>v=.bool (decide (evLt x.ev y.ev))/\Ext h h':=by
 apply vc155 x.f x.send x.peer x.label x.t x.ag y.f y.send y.peer y.label y.t y.ag;unfold W155;have hs:=St.refl h;refine hs.newb fun h13 hs=>?_;refine hs.newb fun h14 hs=>?_;refine⟨_,hs.rd 1 rfl rfl,_,hs.rd 0 rfl rfl,?_⟩;have hev:evLt x.ev y.ev ↔ (x.send=true/\y.send=false)\/(x.send=y.send/\(x.peer<y.peer\/(x.peer=y.peer/\x.label<y.label))):=Iff.rfl;refine sB_intro (fun c1=>?_) (fun c1=>?_)
 .have c1:x.send≠y.send:=by simpa using c1
  refine⟨_,hs.rd 1 rfl rfl,?_,hs.ext⟩;congr 1;cases hx:x.send<;>cases hy:y.send<;>simp[hx,hy] at c1 hev ⊢<;>simp[hev]
 .have c1:x.send=y.send:=by simpa using c1
  refine⟨_,hs.rd 1 rfl rfl,_,hs.rd 0 rfl rfl,?_⟩;refine sBn (fun c2=>?_) (fun c2=>?_)
  .refine⟨_,hs.rd 1 rfl rfl,_,hs.rd 0 rfl rfl,?_,hs.ext⟩;congr 1;rw[decide_eq_decide,hev,c1];constructor
   .intro h;exact .inr ⟨rfl,.inl h⟩
   .rintro (⟨h1,h2⟩ | ⟨_,h | ⟨h,_⟩⟩)
    .rw[h1] at h2;cases h2
    .exact h
    .exact absurd h c2
  .refine⟨_,hs.rd 1 rfl rfl,_,hs.rd 0 rfl rfl,?_,hs.ext⟩;congr 1;rw[decide_eq_decide,hev,c1];constructor
   .intro h;exact .inr ⟨rfl,.inr ⟨c2,h⟩⟩
   .rintro (⟨h1,h2⟩ | ⟨_,h | ⟨_,h⟩⟩)
    .rw[h1] at h2;cases h2
    .omega
    .exact h
end Go.VC
end

section
namespace Go.VC
theorem Rw.prefix {h:Heap} {k:Nat} {s:Sl} {rows:List (List Value)} (hr:Rw h k s rows) {i c:Nat} (hi:i<=s.n):Rw h k ⟨s.a,i,c⟩ (rows.take i):=by
 have hn:=hr.1;refine⟨by rw[Yu];show i=_;omega,fun hp=>?_⟩;rw[Yu] at hp;obtain⟨b,o,ha,hall⟩:=hr.2 (by omega);refine⟨b,o,ha,fun j row hj=>hall j row ?_⟩;rw[Yyf] at hj;split at hj
 .exact hj
 .cases hj
end Go.VC
end

section
namespace Go.VC
open Go.Proofs Go.LexS
namespace M
theorem intrw {h:Heap} {s:Sl} {L:List Int} (hr:Rw h 1 s (L.map inC)) (hc:s.n<=s.c) {i:Nat} (hi:i<=s.n):Rw h 1 ⟨subA s.a i s.c 1,s.n-i,s.c-i⟩ ((L.drop i).map inC):=by
 have hn:=hr.ln;rw[List.map_drop];by_cases h0:i=s.n
 .rw[List.drop_eq_nil_of_le (by rw[Yc];omega)];exact Rw.empty (by show s.n-i=0;omega)
 .exact hr.from hc (by omega)
theorem subA_nil {s:Sl} {i:Nat} (hna:s.a=none->s.n=0/\s.c=0) (h:subA s.a i s.c 1=none):s.n-i=0/\s.c-i=0:=by
 unfold subA at h;split at h
 .have:=hna h;omega
 .cases ha:s.a with
  | none=>have:=hna ha;omega
  | some a=>rw[ha] at h;cases h
end M
theorem ins_ok {m:Mch} {s:Int} {O:List Nat} {i k:Nat} (hP:O.Perm ((List.range i).filter (outP m s))) (hS:O.Pairwise fun a b=>¬evLt (evI m b) (evI m a)) (hx:outP m s i=true)
  (hb:∀(j a:Nat),j<k->O[j]?=some a->¬evLt (evI m i) (evI m a)) (ha:∀c,O[k]?=some c->evLt (evI m i) (evI m c)) :
  (O.take k++[i]++O.drop k).Perm ((List.range (i+1)).filter (outP m s))/\(O.take k++[i]++O.drop k).Pairwise fun a b=>¬evLt (evI m b) (evI m a):=by
 constructor
 .rw[List.range_succ,List.filter_append,List.filter_cons_of_pos hx,List.filter_nil];refine List.Perm.trans ?_ (hP.append_right [i]);rw[Yz];refine List.Perm.trans (List.Perm.append_left _ List.perm_append_comm) ?_;rw[<-Yz,List.take_append_drop]
 .have hS':=hS;rw[<-List.take_append_drop k O,List.pairwise_append] at hS';rw[Yz,List.pairwise_append];have hdr:∀b∈O.drop k,¬evLt (evI m b) (evI m i):=fun b hbm hlt=>by
   cases hd:O.drop k with
   | nil=>rw[hd] at hbm;cases hbm
   | cons c l=>
    have hc:O[k]?=some c:=by
     have:=List.getElem?_drop (xs:=O) (i:=k) (j:=0);rw[hd] at this;simpa using this.symm
    have h1:=ha c hc;have h2:=hS'.2.1;rw[hd] at hbm h2;rcases Yr.1 hbm with rfl | hbm
    .exact evLt_irr _ (evLt_trans h1 hlt)
    .exact (List.pairwise_cons.1 h2).1 b hbm (evLt_trans hlt h1)
  refine⟨hS'.1,?_,fun a ham b hbm=>?_⟩
  .rw[List.singleton_append,List.pairwise_cons];exact⟨hdr,hS'.2.1⟩
  .rcases Yk.1 hbm with hbm | hbm
   .rw[Ye.1 hbm];obtain⟨j,hj⟩:=Yf.1 ham;rw[Yyf] at hj;split at hj
    .exact hb j a (by assumption) hj
    .cases hj
   .exact hS'.2.2 a ham b hbm
theorem refOut62S (m:Mch) (sf sm sl:Sl) (s:Int) (h:Heap) (hM:MI h m sf sm sl) :
  Fn Pz 102 #[.agg ⟨mC m sf sm sl⟩,.int .i64 s] h fun v h'=>∃(r:Sl) (O:List Nat),v=.slice r.a r.n r.c/\St h h' [.sl r 3 1 ((natI O).map inC)]/\O.Perm (outIx m s)/\O.Pairwise fun a b=>¬evLt (evI m b) (evI m a):=by
 apply vc102 m.role m.n m.s sf sm sl;unfold W102 V102a V102b;have hs:=St.refl h;have hmn:=hM.pm.ln;have hmb:=hM.pm.sm;refine hs.newb fun h7 hs=>?_;have hs:=hs.nil_ 3 1;refine up_loopA (n:=m.mv.length) hs (fun i rows=>∃O:List Nat,rows=(natI O).map inC/\O.Perm ((List.range i).filter (outP m s))/\O.Pairwise fun a b=>¬evLt (evI m b) (evI m a)) ⟨[],rfl,List.Perm.refl _,List.Pairwise.nil⟩ ?_;clear hs;rintro-i out h13 _ hi hs ⟨O,rfl,hP,hSo⟩;have holn:=(hs.rows 0 (cs:=inC) rfl (by omega)).ln;have hocap:=hs.len 0 (s:=out) (e:=3) (n:=1) rfl (by omega);rw[show (natI O).length=O.length from Yc _] at holn;have hol:O.length<=i:=by rw[hP.length_eq];exact Yys (List.length_filter_le _ _) (by rw[Yyd];exact Yyt _)
 refine⟨sm,hs.rd 1 rfl rfl,?_⟩;refine sBi (fun c1=>?_) (fun c1=>?_)
 .have him:i<m.mv.length:=by omega
  refine⟨sm,hs.rd 1 rfl rfl,?_⟩;refine (hM.pm.ext hs.ext).rw.nbI (by omega) (by omega) fun b16 o17 x g16 t16=>?_;replace g16:m.mv[i]?=some x:=g16;refine⟨_,t16.hd,?_⟩;have hp:outP m s i=decide (x.f=s):=by unfold outP;rw[g16]
  refine sBn (fun c2=>?_) (fun c2=>?_)
  .refine UpA.next him (by omega) ⟨_,hs,O,rfl,?_,hSo⟩;rw[List.range_succ,List.filter_append,List.filter_cons_of_neg (by rw[hp,decide_eq_false c2];simp),List.filter_nil,Yw];exact hP
  .have hxi:outP m s i=true:=by rw[hp];exact decide_eq_true c2
   have hevi:evI m i=x.ev:=evI_of g16;have hOm:∀(k j:Nat),O[k]?=some j->∃y,m.mv[j]?=some y:=fun k j hk=>by
    have:=hP.mem_iff.1 (Yb hk);rw[List.mem_filter,List.mem_range] at this;exact get_some (by omega)
   refine up_loopS (n:=out.n) hs (fun k=>∀(j a:Nat),j<k->O[j]?=some a->¬evLt (evI m i) (evI m a)) (fun j a hj=>by omega) ?_;clear hs;rintro-k h24 hko ⟨hs,hq⟩;refine sBi (fun c3=>?_) (fun c3=>?_);rotate_left;have hat:∀c,O[k]?=some c->evLt (evI m i) (evI m c):=fun c hc=>by have:=(Ya.1 hc).1;omega
   rotate_left;refine⟨sm,hs.rd 1 rfl rfl,?_⟩;refine (hM.pm.ext hs.ext).rw.nbI (by omega) (by omega) fun b26 o27 x' g26 t26=>?_;rw[Ys,g16] at g26;cases g26;refine⟨_,_,_,_,_,_,t26,sm,hs.rd 1 rfl rfl,?_⟩;refine (hs.rows 0 (cs:=inC) rfl (by omega)).nbI (by omega) (by omega) fun b35 o36 d g35 t35=>?_;obtain⟨j,hj,rfl⟩:=natI_get g35;replace hj:O[k]?=some j:=hj;obtain⟨y,hy⟩:=hOm _ _ hj;have hyl:=(Ya.1 hy).1;have hevj:evI m j=y.ev:=evI_of hy;refine⟨_,t35.hd,?_⟩;refine (hM.pm.ext hs.ext).rw.nbI (by omega) (by omega) fun b38 o39 y' g38 t38=>?_;rw[Ys,hy] at g38;cases g38;refine⟨_,_,_,_,_,_,t38,?_⟩;refine (before26 x y h24).mono ?_;rintro _ h48 ⟨rfl,E48⟩;have hs:=hs.step E48;refine⟨_,rfl,sB_intro (fun c4=>?_) (fun c4=>?_)⟩
   .have hnl:¬evLt x.ev y.ev:=Yyo (bF c4);refine Up.next (by omega) (by omega) ⟨hs,fun j' a hj' ha=>?_⟩;by_cases e:j'=k
    .subst e;rw[hj] at ha;cases ha;rw[hevi,hevj];exact hnl
    .exact hq j' a (by omega) ha
   have hlt:evLt x.ev y.ev:=Yyn (bT c4);have hat:∀c,O[k]?=some c->evLt (evI m i) (evI m c):=fun c hc=>by rw[hj] at hc;cases hc;rw[hevi,hevj];exact hlt
   all_goals
    have fin:∀ {h':Heap} {r:Sl},St h h' [.sl r 3 1 ((natI (O.take k)).map inC++[[.int .i64 (i:Nat)]]++(natI (O.drop k)).map inC),.blk h.size (mC m sf sm sl) 98]->∃m',m'<m.mv.length-i/\UpA m.mv.length (fun i s_1 h'=>∃rows,St h h' (.sl s_1 3 1 rows::[.blk h.size (mC m sf sm sl) 98])/\∃O:List Nat,rows=(natI O).map inC/\O.Perm ((List.range i).filter (outP m s))/\O.Pairwise fun a b=>¬evLt (evI m b) (evI m a)) r (IntKind.wrap .i64 ((i:Int)+1)) h' m':=by
     intro h' r h1;have hok:=ins_ok hP hSo hxi hq hat;refine UpA.next him (by omega) ⟨_,h1,O.take k++[i]++O.drop k,?_,hok.1,hok.2⟩;unfold natI;rw[Ym,Ym,Ym,Ym];rfl
    have e0:subA out.a (Int.toNat 0) out.c 1=out.a:=subA_zero _ _ _;have hpre:∀ {h':Heap},Rw h' 1 out ((natI O).map inC)->Rw h' 1 (⟨subA out.a (Int.toNat 0) out.c 1,Int.toNat (k:Int)-Int.toNat 0,out.c-Int.toNat 0⟩:Sl) ((natI (O.take k)).map inC):=fun {h'} hr=>by
     have h1:=hr.prefix (i:=k) (c:=out.c-Int.toNat 0) hko;rw[e0];unfold natI at h1 ⊢;rw[List.map_take,List.map_take];exact h1
    have hsuf:∀ {h':Heap},Rw h' 1 out ((natI O).map inC)->Rw h' 1 (⟨subA out.a (Int.toNat (k:Int)) out.c 1,Int.toNat (out.n:Nat)-Int.toNat (k:Int),out.c-Int.toNat (k:Int)⟩:Sl) ((natI (O.drop k)).map inC):=fun {h'} hr=>by
     have h1:=M.intrw hr hocap.2.1 (i:=k) hko;unfold natI at h1 ⊢;rw[List.map_drop];exact h1
    have hnilp:(⟨subA out.a (Int.toNat 0) out.c 1,Int.toNat (k:Int)-Int.toNat 0,out.c-Int.toNat 0⟩:Sl).a=none->(⟨subA out.a (Int.toNat 0) out.c 1,Int.toNat (k:Int)-Int.toNat 0,out.c-Int.toNat 0⟩:Sl).n=0/\(⟨subA out.a (Int.toNat 0) out.c 1,Int.toNat (k:Int)-Int.toNat 0,out.c-Int.toNat 0⟩:Sl).c=0:=by
     intro hn;have hn:subA out.a (Int.toNat 0) out.c 1=none:=hn;rw[e0] at hn;have:=hocap.2.2 hn;exact⟨by show Int.toNat (k:Int)-Int.toNat 0=0;omega,by show out.c-Int.toNat 0=0;omega⟩
    have hnils:(⟨subA out.a (Int.toNat (k:Int)) out.c 1,Int.toNat (out.n:Nat)-Int.toNat (k:Int),out.c-Int.toNat (k:Int)⟩:Sl).a=none->(⟨subA out.a (Int.toNat (k:Int)) out.c 1,Int.toNat (out.n:Nat)-Int.toNat (k:Int),out.c-Int.toNat (k:Int)⟩:Sl).n=0/\(⟨subA out.a (Int.toNat (k:Int)) out.c 1,Int.toNat (out.n:Nat)-Int.toNat (k:Int),out.c-Int.toNat (k:Int)⟩:Sl).c=0:=fun hn=>M.subA_nil hocap.2.2 hn;refine⟨⟨by omega,by omega,by omega⟩,⟨by omega,by omega,by omega⟩,?_,?_⟩
    .refine hs.newb fun h76 hs=>?_;have hs:=hs.blkS 0 1 [] rfl (by simp) rfl (by decide);refine⟨?_,?_⟩
     .refine hs.appRw 0 (rows:=[]) (news:=(natI (O.take k)).map inC) rfl app42 (y:=⟨subA out.a (Int.toNat 0) out.c 1,Int.toNat (k:Int)-Int.toNat 0,out.c-Int.toNat 0⟩) (hpre (hs.rows 1 (s:=out) (cs:=inC) (l:=natI O) rfl (by omega))) (inrows _) hnilp (flat_oneB (fun _=>rfl) _) (by show (0+(Int.toNat (k:Int)-Int.toNat 0))*8<=_;omega) (by show 0+(Int.toNat (k:Int)-Int.toNat 0)<=_;simp only[maxLen];omega) fun s77 h78 n77 hs=>?_;replace n77:s77.n=k:=by rw[n77];show 0+(Int.toNat (k:Int)-Int.toNat 0)=k;omega
      refine hs.app 0 rfl app42 (m:=1) [[.int .i64 (i:Nat)]] rfl rfl (by simp) rfl (by omega) (by simp only[maxLen];omega) fun s80 h81 n80 hs=>?_;refine hs.appRw 0 (rows:=(natI (O.take k)).map inC++[[.int .i64 (i:Nat)]]) (news:=(natI (O.drop k)).map inC) rfl app42 (y:=⟨subA out.a (Int.toNat (k:Int)) out.c 1,Int.toNat (out.n:Nat)-Int.toNat (k:Int),out.c-Int.toNat (k:Int)⟩) (hsuf (hs.rows 1 (s:=out) (cs:=inC) (l:=natI O) rfl (by omega))) (inrows _) hnils (flat_oneB (fun _=>rfl) _) (by show (_+(Int.toNat (out.n:Nat)-Int.toNat (k:Int)))*8<=_;omega) (by show _+(Int.toNat (out.n:Nat)-Int.toNat (k:Int))<=_;simp only[maxLen];omega) fun s82 h83 n82 hs=>?_;refine fin (hs.sub ?_);exact .cons_cons _ (.cons _ (.cons_cons _ .slnil))
     .refine hs.newb fun h85 hs=>?_;refine hs.appRw 1 (rows:=[]) (news:=(natI (O.take k)).map inC) rfl app42 (y:=⟨subA out.a (Int.toNat 0) out.c 1,Int.toNat (k:Int)-Int.toNat 0,out.c-Int.toNat 0⟩) (hpre (hs.rows 2 (s:=out) (cs:=inC) (l:=natI O) rfl (by omega))) (inrows _) hnilp (flat_oneB (fun _=>rfl) _) (by show (0+(Int.toNat (k:Int)-Int.toNat 0))*8<=_;omega) (by show 0+(Int.toNat (k:Int)-Int.toNat 0)<=_;simp only[maxLen];omega) fun s77 h78 n77 hs=>?_;replace n77:s77.n=k:=by rw[n77];show 0+(Int.toNat (k:Int)-Int.toNat 0)=k;omega
      refine hs.appended 1 (rows:=(natI (O.take k)).map inC) rfl app42 (m:=1) (news:=[[.int .i64 (i:Nat)]]) (hs.at 0 rfl (n:=1) rfl) rfl (by simp) rfl (by omega) (by simp only[maxLen];omega) fun s80 h81 n80 hs=>?_;refine hs.appRw 1 (rows:=(natI (O.take k)).map inC++[[.int .i64 (i:Nat)]]) (news:=(natI (O.drop k)).map inC) rfl app42 (y:=⟨subA out.a (Int.toNat (k:Int)) out.c 1,Int.toNat (out.n:Nat)-Int.toNat (k:Int),out.c-Int.toNat (k:Int)⟩) (hsuf (hs.rows 2 (s:=out) (cs:=inC) (l:=natI O) rfl (by omega))) (inrows _) hnils (flat_oneB (fun _=>rfl) _) (by show (_+(Int.toNat (out.n:Nat)-Int.toNat (k:Int)))*8<=_;omega) (by show _+(Int.toNat (out.n:Nat)-Int.toNat (k:Int))<=_;simp only[maxLen];omega) fun s82 h83 n82 hs=>?_;refine fin (hs.sub ?_);exact .cons _ (.cons_cons _ (.cons _ (.cons_cons _ .slnil)))
    .refine hs.newb fun h93 hs=>?_;refine hs.newb fun h94 hs=>?_;have hs:=hs.blkS 0 1 [] rfl (by simp) rfl (by decide);refine hs.appRw 0 (rows:=[]) (news:=(natI (O.take k)).map inC) rfl app42 (y:=⟨subA out.a (Int.toNat 0) out.c 1,Int.toNat (k:Int)-Int.toNat 0,out.c-Int.toNat 0⟩) (hpre (hs.rows 2 (s:=out) (cs:=inC) (l:=natI O) rfl (by omega))) (inrows _) hnilp (flat_oneB (fun _=>rfl) _) (by show (0+(Int.toNat (k:Int)-Int.toNat 0))*8<=_;omega) (by show 0+(Int.toNat (k:Int)-Int.toNat 0)<=_;simp only[maxLen];omega) fun s77 h78 n77 hs=>?_;replace n77:s77.n=k:=by rw[n77];show 0+(Int.toNat (k:Int)-Int.toNat 0)=k;omega
     refine hs.appended 0 (rows:=(natI (O.take k)).map inC) rfl app42 (m:=1) (news:=[[.int .i64 (i:Nat)]]) (hs.at 1 rfl (n:=1) rfl) rfl (by simp) rfl (by omega) (by simp only[maxLen];omega) fun s80 h81 n80 hs=>?_;refine hs.appRw 0 (rows:=(natI (O.take k)).map inC++[[.int .i64 (i:Nat)]]) (news:=(natI (O.drop k)).map inC) rfl app42 (y:=⟨subA out.a (Int.toNat (k:Int)) out.c 1,Int.toNat (out.n:Nat)-Int.toNat (k:Int),out.c-Int.toNat (k:Int)⟩) (hsuf (hs.rows 2 (s:=out) (cs:=inC) (l:=natI O) rfl (by omega))) (inrows _) hnils (flat_oneB (fun _=>rfl) _) (by show (_+(Int.toNat (out.n:Nat)-Int.toNat (k:Int)))*8<=_;omega) (by show _+(Int.toNat (out.n:Nat)-Int.toNat (k:Int))<=_;simp only[maxLen];omega) fun s82 h83 n82 hs=>?_;refine fin (hs.sub ?_);exact .cons_cons _ (.cons _ (.cons _ (.cons_cons _ .slnil)))
 .refine⟨out,O,rfl,hs.sub (.cons_cons _ (.cons _ .slnil)),?_,hSo⟩;rw[show i=m.mv.length by omega] at hP;exact hP
end Go.VC
end

section
namespace Go.VC
open Go.Proofs Go.LexS
theorem app35:appB Pz 69 43 2 16=true:=by kernel_rfl
theorem app39:appB Pz 56 62 2 16=true:=by kernel_rfl
def mv0:Mv:=⟨0,false,0,0,0,false⟩
def mvD (m:Mch) (i:Nat):Mv:=m.mv.getD i mv0
theorem mvD_of {m:Mch} {i:Nat} {x:Mv} (h:m.mv[i]?=some x):mvD m i=x:=getD_some h
theorem evI_mvD (m:Mch) (i:Nat):evI m i=(mvD m i).ev:=by
 unfold evI mvD;rw[Yo];cases m.mv[i]?<;>rfl
def posB (n:Nat) (k:Int) (S:List Int) (BL:List (List Int)) (p:Nat) (m:Mch) (i:Nat):Bool:=decide (canS n k S BL p (mvD m i)=0)
noncomputable def stepsP (n:Nat) (k:Int) (S:List Int) (BL:List (List Int)) (p:Nat) (m:Mch):List Nat:=(mvS m (S.getD p 0)).filter (posB n k S BL p m)
def stpC (q:Nat × Nat):List Value:=stC (q.1:Int) q.2
noncomputable def stepsR (n:Nat) (k:Int) (S:List Int) (BL:List (List Int)) (L:List Mch) (p:Nat):List (Nat × Nat):=match L[p]? with
 | some m=>(stepsP n k S BL p m).map fun i=>(p,i)
 | none=>[]
noncomputable def stepsS (L:List Mch) (k:Int) (S:List Int) (BL:List (List Int)):List (Nat × Nat):=(List.range L.length).flatMap (stepsR L.length k S BL L)
theorem posB_f {n:Nat} {k:Int} {S:List Int} {BL:List (List Int)} {p:Nat} {m:Mch} {i:Nat} (h:posB n k S BL p m i=true):(mvD m i).f=S.getD p 0:=by
 have h:=Yyn h;unfold canS at h;split at h
 .omega
 .rename_i c;exact Classical.not_not.1 c
theorem pos_ix {n:Nat} {k:Int} {S:List Int} {BL:List (List Int)} {p:Nat} {m:Mch}:(List.range m.mv.length).filter (posB n k S BL p m)=(outIx m (S.getD p 0)).filter (posB n k S BL p m):=by
 unfold outIx;rw[List.filter_filter];refine List.filter_congr fun i hi=>?_;obtain⟨x,hx⟩:=get_some (l:=m.mv) (i:=i) (List.mem_range.1 hi);cases hp:posB n k S BL p m i with
 | false=>rfl
 | true=>
  have hf:=posB_f hp;rw[mvD_of hx] at hf;show true=(true&&outP m _ i);unfold outP;rw[hx];show true=(true&&decide (x.f=_));rw[hf];simp
theorem steps_uniq {n:Nat} {k:Int} {S:List Int} {BL:List (List Int)} {p:Nat} {m:Mch} (hD:DetM m) {O:List Nat} (h1:O.Perm ((List.range m.mv.length).filter (posB n k S BL p m))) (h2:O.Pairwise fun a b=>¬evLt (evI m b) (evI m a)):O=stepsP n k S BL p m:=by
 obtain⟨s1,s2⟩:=mvS_srt m (S.getD p 0);rw[pos_ix] at h1;unfold stepsP;have h3:=(s1.filter (posB n k S BL p m)).symm;refine List.Perm.eq_of_pairwise (le:=fun a b=>¬evLt (evI m b) (evI m a)) (fun a b ha hb h3 h4=>?_) h2 (s2.sublist List.filter_sublist) (h1.trans h3);have ha':=(List.mem_filter.1 (h1.mem_iff.1 ha)).1;have hb':=s1.mem_iff.1 (List.mem_filter.1 hb).1;obtain⟨x,hx,hxf⟩:=outIx_mem.1 ha';obtain⟨y,hy,hyf⟩:=outIx_mem.1 hb';by_cases e:a=b
 .exact e
 .have:=(hD a b x y hx hy e (by rw[hxf,hyf])).1;rw[evI_of hx,evI_of hy] at h3 h4;exact absurd (evLt_of h3 this) h4
theorem stepsP_len {n:Nat} {k:Int} {S:List Int} {BL:List (List Int)} {p:Nat} {m:Mch}:(stepsP n k S BL p m).length<=m.mv.length:=by
 unfold stepsP;refine Yys (List.length_filter_le _ _) ?_;rw[(mvS_srt m (S.getD p 0)).1.length_eq];unfold outIx;refine Yys (List.length_filter_le _ _) ?_;rw[Yyd];exact Yyt _
theorem stpRows (p:Nat) (O:List Nat):(O.map fun i=>(p,i)).map stpC=O.map (stC (p:Int)):=by rw[List.map_map];rfl
theorem strows (p:Int) (l:List Nat):∀r∈l.map (stC p),r.length=2:=fun r hr=>by obtain⟨x,_,rfl⟩:=Yp.1 hr;rfl
theorem stepsR_len {n:Nat} {k:Int} {S:List Int} {BL:List (List Int)} {L:List Mch} (hV:SysV L) (p:Nat):(stepsR n k S BL L p).length<=400:=by
 unfold stepsR;cases h:L[p]? with
 | none=>exact Nat.zero_le _
 | some m=>
  show (List.map _ _).length<=400;rw[Yc];exact Yys stepsP_len (hV.m p m h).2.1.n.ml
theorem steps_len {n:Nat} {k:Int} {S:List Int} {BL:List (List Int)} {L:List Mch} (hV:SysV L):∀i,((List.range i).flatMap (stepsR n k S BL L)).length<=i*400
 | 0=>Nat.zero_le _
 | i+1=>by
  have h1:=steps_len (n:=n) (k:=k) (S:=S) (BL:=BL) hV i;have h2:=stepsR_len (n:=n) (k:=k) (S:=S) (BL:=BL) hV i;rw[List.range_succ,List.flatMap_append,Yh,List.flatMap_cons,List.flatMap_nil,Yw];omega
theorem steps47 (L:List MR) (s:Sl) (k:Int) (ss sb:Sl) (S:List Int) (B:List Bx) (h:Heap) (hS:SyI h s L) (hV:SysV (L.map MR.m)) (hC:CfI h ss sb S B) (hSl:S.length=L.length) (hBl:B.length=L.length*L.length) :
  Fn Pz 59 #[.slice s.a s.n s.c,.int .i64 k,.agg ⟨[.slice ss.a ss.n ss.c,.slice sb.a sb.n sb.c]⟩] h fun v h'=>Ext h h'/\∃r:Sl,v=.slice r.a r.n r.c/\RL h' 2 r stpC (stepsS (L.map MR.m) k S (B.map Bx.l)):=by
 apply vc59 s k ss sb;unfold W59;have hn:=hS.r.ln;have hlm:(L.map MR.m).length=L.length:=Yc _;have hV6:=hV.n;rw[hlm] at hV6;generalize hBB:B.map Bx.l=BL at *;have hLL:stepsS (L.map MR.m) k S BL=(List.range L.length).flatMap (stepsR L.length k S BL (L.map MR.m)):=by unfold stepsS;rw[hlm]
 refine (St.refl h).newb fun h3 hs=>?_;have hs:=hs.nil_ 43 2;refine⟨fun out x h' μ=>∃i:Nat,x=(i:Int)/\μ=L.length-i/\i<=L.length/\St h h' [.sl out 43 2 (((List.range i).flatMap (stepsR L.length k S BL (L.map MR.m))).map stpC),.blk h.size [.slice ss.a ss.n ss.c,.slice sb.a sb.n sb.c] 52],⟨_,0,rfl,rfl,Nat.zero_le _,hs⟩,?_⟩;clear hs;rintro-out _ h9 μ ⟨i,rfl,rfl,hi,hs⟩;have hon:=(hs.rows 0 (s:=out) (cs:=stpC) rfl (by omega)).ln;have hol:=steps_len (n:=L.length) (k:=k) (S:=S) (BL:=BL) hV i;refine sBi (fun c1=>?_) (fun c1=>?_)
 .obtain⟨y,gy⟩:=get_some (l:=L) (i:=i) (by omega);have gm:(L.map MR.m)[i]?=some y.m:=by rw[Yd,gy];rfl
  have hyi:=hS.i y (Yb gy);have hvm:=hV.m i y.m gm;have hgn:=hyi.pm.ln;have hml:=hvm.2.1.n.ml;refine (hS.r.rw.ext hs.ext).nbI (by omega) (by omega) fun b o y' gy' t=>?_;rw[Ys] at gy';replace gy':L[i]?=some y':=gy';rw[gy] at gy';cases gy';refine⟨_,_,_,_,_,_,t,?_⟩;refine hs.newput (vs:=mC y.m y.f y.g y.l) rfl rfl fun h19 hs=>?_;refine⟨y.g,hs.rd 0 rfl (i:=4) rfl,?_⟩;have hs:=hs.nil_ 43 2;refine⟨fun l x h' μ=>∃j:Nat,x=(j:Int)/\μ=y.m.mv.length-j/\j<=y.m.mv.length/\St h h' [.sl l 43 2 (((List.range j).filter (posB L.length k S BL i y.m)).map (stC (i:Int))),.blk h9.size (mC y.m y.f y.g y.l) 98,.sl out 43 2 (((List.range i).flatMap (stepsR L.length k S BL (L.map MR.m))).map stpC),.blk h.size [.slice ss.a ss.n ss.c,.slice sb.a sb.n sb.c] 52]/\((List.range j).filter (posB L.length k S BL i y.m)=[]->l.a=none),⟨_,0,rfl,rfl,Nat.zero_le _,hs,fun _=>rfl⟩,?_⟩;clear hs;rintro-l _ h26 μ ⟨j,rfl,rfl,hj,hs,hnil⟩;have hln:=(hs.rows 0 (s:=l) (cs:=stC (i:Int)) rfl (by omega)).ln;have hll:((List.range j).filter (posB L.length k S BL i y.m)).length<=j:=Yys (List.length_filter_le _ _) (by rw[Yyd];exact Yyt _);refine sBi (fun c2=>?_) (fun c2=>?_)
  .obtain⟨x,gx⟩:=get_some (l:=y.m.mv) (i:=j) (by omega);have hxm:=Yb gx;have hx0:0<=x.peer:=(hvm.2.1.n.mv x hxm).2.2.2.2.1;have hx1:x.peer<(L.length:Int):=by have:=hvm.2.2 x hxm;rw[hlm] at this;exact this
   refine (hyi.pm.rw.ext hs.ext).nbI (by omega) (by omega) fun b2 o2 x' gx' t2=>?_;rw[Ys] at gx';replace gx':y.m.mv[j]?=some x':=gx';rw[gx] at gx';cases gx';refine⟨_,_,_,_,_,_,t2,?_⟩;refine hs.newput (vs:=x.cs) rfl rfl fun h36 hs=>?_;refine⟨ss,sb,hs.at 4 rfl (o:=0) (n:=2) rfl,_,_,_,_,_,_,hs.at 0 rfl (o:=0) (n:=6) rfl,?_⟩;rw[hn];refine (can58 L.length k ss sb S B i x h36 (hC.ext hs.ext) hV6.2 hSl hBl (by omega) hx0 hx1).mono ?_;rintro _ h47 ⟨rfl,E⟩;have hs:=(hs.step E).drop 1;rw[hBB];have hmd:mvD y.m j=x:=mvD_of gx;refine⟨_,rfl,sBe (fun c3=>?_) (fun c3=>?_)⟩
   .have hp:posB L.length k S BL i y.m j=true:=by unfold posB;rw[hmd];exact decide_eq_true c3
    refine hs.app 0 (s:=l) (n:=2) (rows:=((List.range j).filter (posB L.length k S BL i y.m)).map (stC (i:Int))) rfl app35 (m:=1) [stC (i:Int) j] rfl rfl (fun r hr=>by rw[Ye] at hr;rw[hr];rfl) rfl (by omega) (by simp only[maxLen];omega) fun r h50 nr hs=>?_;refine⟨_,(show y.m.mv.length-(j+1)<y.m.mv.length-j by omega),j+1,by rw[w64 (by omega) (by omega)];omega,rfl,by omega,?_,?_⟩
    .rw[List.range_succ,List.filter_append,List.filter_cons_of_pos hp,List.filter_nil,Ym];exact hs
    .intro e;rw[List.range_succ,List.filter_append,List.filter_cons_of_pos hp] at e;exact absurd (List.append_eq_nil_iff.1 e).2 (by simp)
   .have hp:posB L.length k S BL i y.m j=false:=by unfold posB;rw[hmd];exact decide_eq_false c3
    have e1:(List.range (j+1)).filter (posB L.length k S BL i y.m)=(List.range j).filter (posB L.length k S BL i y.m):=by
     rw[List.range_succ,List.filter_append,List.filter_cons_of_neg (by rw[hp];exact Bool.false_ne_true),List.filter_nil,Yw]
    exact⟨_,(show y.m.mv.length-(j+1)<y.m.mv.length-j by omega),j+1,by rw[w64 (by omega) (by omega)];omega,rfl,by omega,by rw[e1];exact hs,by rw[e1];exact hnil⟩
  .have hjl:j=y.m.mv.length:=by omega
   subst hjl;have hbg:([.sl l 43 2 (((List.range y.m.mv.length).filter (posB L.length k S BL i y.m)).map (stC (i:Int))),.blk h9.size (mC y.m y.f y.g y.l) 98,.sl out 43 2 (((List.range i).flatMap (stepsR L.length k S BL (L.map MR.m))).map stpC),.blk h.size [.slice ss.a ss.n ss.c,.slice sb.a sb.n sb.c] 52]:List It)[0]?=some (.sl l 43 2 (((List.range y.m.mv.length).filter (posB L.length k S BL i y.m)).map (stC (i:Int)))):=rfl;have hap:l.a.map (·.block)≠some h9.size:=fun e=>by
    have h1:=(List.pairwise_cons.1 hs.ap).1 (.blk h9.size (mC y.m y.f y.g y.l) 98) (Yx);exact h1 h9.size e rfl
   have hfr:∀b,l.a.map (·.block)=some b->h.size<=b:=fun b hb=>(hs.ok _ Yx).2 b hb;refine (sort80 y.m y.g ⟨h9.size,0,none⟩ (i:Int) hs 0 hbg (fun x hx=>List.mem_range.1 (List.mem_filter.1 hx).1) hnil (by omega) (by omega) fun h' hsz hoth=>?_).mono ?_
   .have E':Ext h h':=⟨Yys hs.ext.1 hsz,fun c hc=>by
     rw[hoth c (by have:=hs.ext.1;omega) fun e=>by have:=hfr c e;omega];exact hs.ext.2 c hc⟩
    refine⟨?_,hyi.pm.rw.ext E'⟩;have h1:hc h26 ⟨h9.size,0+4,none⟩=some (.slice y.g.a y.g.n y.g.c):=hs.rd 1 rfl rfl;rw[hc_of_block (h:=h26) (h':=h') (a:=⟨h9.size,0+4,none⟩) (by
     show h'[h9.size]?=h26[h9.size]?;exact hoth h9.size (hc_blk h1) hap)]
    exact h1
   .rintro _ h54 ⟨rfl,l',hp',hw',hs⟩;refine⟨rfl,?_⟩;have hu:l'=stepsP L.length k S BL i y.m:=steps_uniq hvm.2.1.d hp' (hw'.imp fun {a b} hab=>by rw[evI_mvD,evI_mvD];exact hab);subst hu;have hs:St h h54 [.sl l 43 2 ((stepsP L.length k S BL i y.m).map (stC (i:Int))),.blk h9.size (mC y.m y.f y.g y.l) 98,.sl out 43 2 (((List.range i).flatMap (stepsR L.length k S BL (L.map MR.m))).map stpC),.blk h.size [.slice ss.a ss.n ss.c,.slice sb.a sb.n sb.c] 52]:=hs;have hln2:=(hs.rows 0 (s:=l) (cs:=stC (i:Int)) rfl (by omega)).ln;have hpl:(stepsP L.length k S BL i y.m).length<=y.m.mv.length:=stepsP_len;refine hs.appRw 2 (rows:=((List.range i).flatMap (stepsR L.length k S BL (L.map MR.m))).map stpC) (news:=(stepsP L.length k S BL i y.m).map (stC (i:Int))) rfl app35 (y:=l) (hs.rw 0 rfl (by omega)) (strows _ _) (hs.len 0 rfl (by omega)).2.2 (flat_oneB (fun _=>rfl) _) (by omega) (by simp only[maxLen];omega) fun r h56 nr hs=>?_;refine⟨_,(show L.length-(i+1)<L.length-i by omega),i+1,by rw[w64 (by omega) (by omega)];omega,rfl,by omega,?_⟩;have e1:stepsR L.length k S BL (L.map MR.m) i=(stepsP L.length k S BL i y.m).map fun q=>(i,q):=by unfold stepsR;rw[gm]
    rw[List.range_succ,List.flatMap_append,List.flatMap_cons,List.flatMap_nil,Yw,Ym,e1,stpRows];exact hs.sub (.cons _ (.cons _ (.cons_cons _ (.cons_cons _ (List.nil_sublist _)))))
 .have hil:i=L.length:=by omega
  subst hil;refine⟨hs.ext,out,rfl,?_⟩;rw[hLL];have:=hs.len 0 (s:=out) rfl (by omega);exact⟨hs.rows 0 rfl (by omega),this.2.1,this.2.2,by omega⟩
theorem refAll48 (L:List MR) (s:Sl) (k:Int) (ss sb:Sl) (S:List Int) (B:List Bx) (h:Heap) (hS:SyI h s L) (hV:SysV (L.map MR.m)) (hC:CfI h ss sb S B) (hSl:S.length=L.length) (hBl:B.length=L.length*L.length) :
  Fn Pz 45 #[.slice s.a s.n s.c,.int .i64 k,.agg ⟨[.slice ss.a ss.n ss.c,.slice sb.a sb.n sb.c]⟩] h fun v h'=>Ext h h'/\∃r:Sl,v=.slice r.a r.n r.c/\RL h' 2 r stpC (stepsS (L.map MR.m) k S (B.map Bx.l)):=by
 apply vc45 s k ss sb;unfold W45;have hn:=hS.r.ln;have hsn:=hC.s.ln;have hlm:(L.map MR.m).length=L.length:=Yc _;have hV6:=hV.n;rw[hlm] at hV6;have hpos:∀(r i:Int) (h:Heap),SyI h s L->CfI h ss sb S B->_:=fun r i h a b=>possible61 L s k ss sb S B r i h a hV b hSl hBl;generalize hBB:B.map Bx.l=BL at *;have hLL:stepsS (L.map MR.m) k S BL=(List.range L.length).flatMap (stepsR L.length k S BL (L.map MR.m)):=by unfold stepsS;rw[hlm]
 refine (St.refl h).newb fun h3 hs=>?_;have hs:=hs.nil_ 62 2;refine⟨fun out x h' μ=>∃i:Nat,x=(i:Int)/\μ=L.length-i/\i<=L.length/\St h h' [.sl out 62 2 (((List.range i).flatMap (stepsR L.length k S BL (L.map MR.m))).map stpC),.blk h.size [.slice ss.a ss.n ss.c,.slice sb.a sb.n sb.c] 28],⟨_,0,rfl,rfl,Nat.zero_le _,hs⟩,?_⟩;clear hs;rintro-out _ h9 μ ⟨i,rfl,rfl,hi,hs⟩;have hon:=(hs.rows 0 (s:=out) (cs:=stpC) rfl (by omega)).ln;have hol:=steps_len (n:=L.length) (k:=k) (S:=S) (BL:=BL) hV i;refine sBi (fun c1=>?_) (fun c1=>?_)
 .obtain⟨y,gy⟩:=get_some (l:=L) (i:=i) (by omega);have gm:(L.map MR.m)[i]?=some y.m:=by rw[Yd,gy];rfl
  have hyi:=hS.i y (Yb gy);have hvm:=hV.m i y.m gm;have hml:=hvm.2.1.n.ml;refine (hS.r.rw.ext hs.ext).nbI (by omega) (by omega) fun b o y' gy' t=>?_;rw[Ys] at gy';replace gy':L[i]?=some y':=gy';rw[gy] at gy';cases gy';refine⟨_,_,_,_,_,_,t,ss,hs.rd 1 rfl rfl,?_⟩;refine (hC.s.rw.ext hs.ext).nbI (by omega) (by omega) fun b2 o2 z gz t2=>?_;rw[Ys] at gz;replace gz:S[i]?=some z:=gz;have hSg:S.getD i 0=z:=getD_some gz;refine⟨_,t2.hd,?_⟩;refine (refOut62S y.m y.f y.g y.l z h9 (hyi.ext hs.ext)).mono ?_;rintro _ h24 ⟨r,O,rfl,h1,hP,hSo⟩;have hs:=hs.join h1;have hO:O=mvS y.m z:=(mvS_eq hvm.2.1.d hP hSo).symm;have hOl:O.length<=y.m.mv.length:=by
   rw[hP.length_eq];unfold outIx;refine Yys (List.length_filter_le _ _) ?_;rw[Yyd];exact Yyt _
  refine⟨r,rfl,?_⟩;refine⟨fun out x h' μ=>∃j:Nat,x=(j:Int)/\μ=O.length-j/\j<=O.length/\St h h' [.sl out 62 2 ((((List.range i).flatMap (stepsR L.length k S BL (L.map MR.m)))++((O.take j).filter (posB L.length k S BL i y.m)).map fun q=>(i,q)).map stpC),.blk h.size [.slice ss.a ss.n ss.c,.slice sb.a sb.n sb.c] 28,.sl r 3 1 ((natI O).map inC)],⟨_,0,rfl,rfl,Nat.zero_le _,by rw[Yyk,List.filter_nil,List.map_nil,Yw];exact hs⟩,?_⟩;clear hs;rintro-out2 _ h30 μ ⟨j,rfl,rfl,hj,hs⟩;have hon2:=(hs.rows 0 (s:=out2) (cs:=stpC) rfl (by omega)).ln;have hrn:=(hs.rows 2 (s:=r) (cs:=inC) rfl (by omega)).ln;rw[show (natI O).length=O.length from Yc _] at hrn;have hfl:((O.take j).filter (posB L.length k S BL i y.m)).length<=j:=Yys (List.length_filter_le _ _) (by rw[Yu];omega);rw[Yh,Yc] at hon2;refine sBi (fun c2=>?_) (fun c2=>?_)
  .obtain⟨q,gq⟩:=get_some (l:=O) (i:=j) (by omega);have hqm:q<y.m.mv.length:=by
    have:=hP.mem_iff.1 (Yb gq);obtain⟨x,hx,_⟩:=outIx_mem.1 this;exact (Ya.1 hx).1
   refine (hs.rows 2 (s:=r) (cs:=inC) rfl (by omega)).nbI (by omega) (by omega) fun b3 o3 q' gq' t3=>?_;rw[Ys] at gq';replace gq':(natI O)[j]?=some q':=gq';obtain⟨q2,gq2,rfl⟩:=natI_get gq';rw[gq] at gq2;cases gq2;refine⟨_,t3.hd,?_⟩;refine hs.newput (vs:=stC (i:Int) q) rfl rfl fun h35 hs=>?_;refine⟨ss,sb,hs.at 2 rfl (o:=0) (n:=2) rfl,_,_,hs.at 0 rfl (o:=0) (n:=2) rfl,?_⟩;refine (hpos (i:Int) (q:Int) h35 (hS.ext hs.ext) (hC.ext hs.ext)).mono ?_;rintro _ h42 ⟨rfl,E⟩;have hs:=hs.step E;obtain⟨x,gx⟩:=get_some hqm;have hmd:mvD y.m q=x:=mvD_of gx;have hpo:posS (L.map MR.m) k S BL (i:Int) (q:Int)=canS L.length k S BL i (mvD y.m q):=by
    unfold posS;rw[hlm,if_neg (by omega),Ys,gm];show (if (q:Int)<0\/(y.m.mv.length:Int)<=(q:Int) then 2 else match y.m.mv[(q:Int).toNat]? with | none=>2 | some x=>canS L.length k S BL i x)=_;rw[if_neg (by omega),Ys,gx,hmd]
   rw[hpo];refine⟨_,rfl,sBe (fun c3=>?_) (fun c3=>?_)⟩
   .have hp:posB L.length k S BL i y.m q=true:=decide_eq_true c3;refine⟨_,_,hs.at 0 rfl (o:=0) (n:=2) rfl,?_⟩;refine hs.app 1 (s:=out2) (n:=2) (rows:=(((List.range i).flatMap (stepsR L.length k S BL (L.map MR.m)))++((O.take j).filter (posB L.length k S BL i y.m)).map fun q=>(i,q)).map stpC) rfl app39 (m:=1) [stC (i:Int) q] rfl rfl (fun r hr=>by rw[Ye] at hr;rw[hr];rfl) rfl (by omega) (by simp only[maxLen];omega) fun r2 h47 nr hs=>?_;refine⟨_,(show O.length-(j+1)<O.length-j by omega),j+1,by rw[w64 (by omega) (by omega)];omega,rfl,by omega,?_⟩;have e1:((O.take (j+1)).filter (posB L.length k S BL i y.m)).map (fun q=>(i,q))=((O.take j).filter (posB L.length k S BL i y.m)).map (fun q=>(i,q))++[(i,q)]:=by
     rw[take_snoc gq,List.filter_append,List.filter_cons_of_pos hp,List.filter_nil,Ym];rfl
    rw[e1,<-Yz,Ym];exact hs.drop 1
   .have hp:posB L.length k S BL i y.m q=false:=decide_eq_false c3;refine⟨_,(show O.length-(j+1)<O.length-j by omega),j+1,by rw[w64 (by omega) (by omega)];omega,rfl,by omega,?_⟩;rw[take_snoc gq,List.filter_append,List.filter_cons_of_neg (by rw[hp];exact Bool.false_ne_true),List.filter_nil,Yw];exact hs.drop 1
  .have hjl:j=O.length:=by omega
   subst hjl;refine⟨_,(show L.length-(i+1)<L.length-i by omega),i+1,by rw[w64 (by omega) (by omega)];omega,rfl,by omega,?_⟩;have e1:stepsR L.length k S BL (L.map MR.m) i=(O.filter (posB L.length k S BL i y.m)).map fun q=>(i,q):=by
    unfold stepsR;rw[gm];show ((stepsP L.length k S BL i y.m).map fun q=>(i,q))=_;unfold stepsP;rw[hSg,<-hO]
   rw[List.range_succ,List.flatMap_append,List.flatMap_cons,List.flatMap_nil,Yw,e1];rw[Yye] at hs;exact hs.sub (.cons_cons _ (.cons_cons _ (List.nil_sublist _)))
 .have hil:i=L.length:=by omega
  subst hil;refine⟨hs.ext,out,rfl,?_⟩;rw[hLL];have:=hs.len 0 (s:=out) rfl (by omega);exact⟨hs.rows 0 rfl (by omega),this.2.1,this.2.2,by omega⟩
theorem steps16 (L:List MR) (s:Sl) (k:Int) (ss sb:Sl) (S:List Int) (B:List Bx) (h:Heap) (hS:SyI h s L) (hC:CfI h ss sb S B) :
  Fn Pz 97 #[.slice s.a s.n s.c,.int .i64 k,.agg ⟨[.slice ss.a ss.n ss.c,.slice sb.a sb.n sb.c]⟩] h fun v h'=>Ext h h'/\∃(r:Sl) (e:Int) (l:List (Nat × Nat)),v=.tuple ⟨[.slice r.a r.n r.c,.int .i64 e]⟩/\RL h' 2 r stpC l/\(ProS (L.map MR.m) k S (B.map Bx.l)->e=0/\l=stepsS (L.map MR.m) k S (B.map Bx.l))/\(¬ProS (L.map MR.m) k S (B.map Bx.l)->e=1/\l=[]):=by
 apply vc97 s k ss sb;unfold W97;have hlm:(L.map MR.m).length=L.length:=Yc _;have hbm:(B.map Bx.l).length=B.length:=Yc _;refine (St.refl h).newb fun h3 hs=>?_;refine⟨ss,sb,hs.at 0 rfl (o:=0) (n:=2) rfl,?_⟩;refine (proper24 L s k ss sb S B h3 (hS.ext hs.ext) (hC.ext hs.ext)).mono ?_;rintro _ h8 ⟨⟨b,rfl,hb⟩,E⟩;have hs:=hs.step E;refine⟨_,rfl,sB_intro (fun c=>?_) (fun c=>?_)⟩
 .have hn:¬ProS (L.map MR.m) k S (B.map Bx.l):=fun hp=>by rw[hb.2 hp] at c;cases c
  exact⟨hs.ext,⟨none,0,0⟩,1,[],rfl,⟨Rw.nil,Yyt _,fun _=>⟨rfl,rfl⟩,Nat.zero_le _⟩,fun hp=>absurd hp hn,fun _=>⟨rfl,rfl⟩⟩
 .have hp:=hb.1 (bT c);have h1:=hp.p.s;have h2:=hp.p.b;rw[hlm] at h1;rw[hbm,hlm] at h2;refine⟨ss,sb,hs.at 0 rfl (o:=0) (n:=2) rfl,?_⟩;refine (steps47 L s k ss sb S B h8 (hS.ext hs.ext) hp.v (hC.ext hs.ext) h1 h2).mono ?_;rintro _ h13 ⟨E,r,rfl,hr⟩;exact⟨r,rfl,(hs.step E).ext,r,0,_,rfl,hr,fun _=>⟨rfl,rfl⟩,fun hn=>absurd hp hn⟩
def StaV (L:List Mch) (h:Heap) (v:Value) (h':Heap):Prop:=∃(ss sb:Sl) (S:List Int) (B:List Bx) (e:Int) (A:List It),v=.tuple ⟨[cfA ss sb,.int .i64 e]⟩/\St h h' A/\CfM A ss sb S B/\(SysV L->e=0/\S=startS L/\B=List.replicate (L.length*L.length) bx0)/\(¬SysV L->e=1/\S=[]/\B=[])
theorem St.nil2 {h0 h:Heap} {A:List It} (hs:St h0 h A):St h0 h ([.sl ⟨none,0,0⟩ 3 1 [],.sl ⟨none,0,0⟩ 25 1 []]++A):=(hs.nil_ 25 1).nil_ 3 1
theorem start14 (L:List MR) (s:Sl) (h:Heap) (hS:SyI h s L):Fn Pz 53 #[.slice s.a s.n s.c] h fun v h'=>StaV (L.map MR.m) h v h':=by
 apply vc53 s;unfold W53;have hn:=hS.r.ln;have hlm:(L.map MR.m).length=L.length:=Yc _;refine (St.refl h).newb fun h1 hs=>?_;refine (valid22 L s h1 (hS.ext hs.ext)).mono ?_;rintro _ h4 ⟨⟨b,rfl,hb⟩,E⟩;have hs:=hs.step E;refine⟨_,rfl,sB_intro (fun c=>?_) (fun c=>?_)⟩
 .have hn:¬SysV (L.map MR.m):=fun hp=>by rw[hb.2 hp] at c;cases c
  refine hs.put 0 rfl (o:=0) (vs:=[.slice none 0 0,.slice none 0 0]) rfl (show 2<=2 by decide) fun h5 hs=>?_;exact⟨⟨none,0,0⟩,⟨none,0,0⟩,hs.at 0 rfl (o:=0) (n:=2) rfl,_,_,[],[],1,_,rfl,hs.nil2,CfM.none_.mono fun i hi=>List.mem_append_left _ hi,fun hp=>absurd hp hn,fun _=>⟨rfl,rfl,rfl⟩⟩
 .have hv:=hb.1 (bT c);have h6:=hv.n;rw[hlm] at h6;have h36:=sq6 h6.2;have hsq:(s.n:Int)*(s.n:Int)=((L.length*L.length:Nat):Int):=by rw[hn];rfl
  generalize hnn:L.length*L.length=nn at *;rw[hsq,w64 (n:=((nn:Nat):Int)) (by omega) (by omega),Ys];refine⟨⟨by omega,by omega,by omega⟩,?_⟩;refine hs.newb fun h8 hs=>?_;have hs:=hs.blkS nn 1 ((List.replicate nn bx0).map Bx.cs) (by rw[made42,List.map_replicate,List.map_replicate];rfl) (bxrows _) (by rw[Yc,Yg]) (by simp only[maxLen];omega);refine hs.newput (vs:=[.slice none 0 0,.slice (some ⟨h4.size,0,none⟩) nn nn]) rfl rfl fun h10 hs=>?_;have hs:=hs.nil_ 3 1;have hSl:(startS (L.map MR.m)).length=L.length:=by unfold startS;rw[Yc,Yc]
  refine⟨fun x h' μ=>∃(i:Nat) (st:Sl),x=(i:Int)/\μ=L.length-i/\i<=L.length/\St h h' [.sl st 3 1 (((startS (L.map MR.m)).take i).map inC),.blk h8.size [.slice st.a st.n st.c,.slice (some ⟨h4.size,0,none⟩) nn nn] 52,.sl ⟨some ⟨h4.size,0,none⟩,nn,nn⟩ 25 1 ((List.replicate nn bx0).map Bx.cs),.blk h.size [.slice none 0 0,.slice none 0 0] 52],⟨_,0,_,rfl,rfl,Nat.zero_le _,hs⟩,?_⟩;clear hs;rintro-_ h15 μ ⟨i,st,rfl,rfl,hi,hs⟩;refine sBi (fun c=>?_) (fun c=>?_)
  .obtain⟨y,gy⟩:=get_some (l:=L) (i:=i) (by omega);have gs:(startS (L.map MR.m))[i]?=some y.m.s:=by unfold startS;rw[Yd,Yd,gy];rfl
   have hst:=(hs.rows 0 (s:=st) (cs:=inC) rfl (by omega)).ln;rw[Yu] at hst;refine (hS.r.rw.ext hs.ext).nbI (by omega) (by omega) fun b o y' gy' t=>?_;rw[Ys] at gy';replace gy':L[i]?=some y':=gy';rw[gy] at gy';cases gy';refine⟨_,_,_,_,_,_,t,?_⟩;refine hs.newput (vs:=mC y.m y.f y.g y.l) rfl rfl fun h25 hs=>?_;refine⟨st,hs.rd 2 rfl rfl,_,hs.rd 0 rfl (i:=2) rfl,?_⟩;refine hs.app 1 (s:=st) (n:=1) (rows:=((startS (L.map MR.m)).take i).map inC) rfl app42 (m:=1) [inC y.m.s] rfl rfl (fun r hr=>by rw[Ye] at hr;rw[hr];rfl) rfl (by omega) (by simp only[maxLen];omega) fun r h30 nr hs=>?_;refine hs.put 2 rfl (o:=0) (vs:=[.slice r.a r.n r.c]) rfl (show 1<=2 by decide) fun h31 hs=>?_;refine⟨_,(show L.length-(i+1)<L.length-i by omega),i+1,r,by rw[w64 (by omega) (by omega)];omega,rfl,by omega,?_⟩;rw[take_snoc gs,Ym];exact hs.drop 1
  .have hil:i=L.length:=by omega
   subst hil;rw[Yj (by omega)] at hs;refine⟨st,⟨some ⟨h4.size,0,none⟩,nn,nn⟩,hs.at 1 rfl (o:=0) (n:=2) rfl,?_⟩;refine hs.put 3 rfl (o:=0) (vs:=[.slice st.a st.n st.c,.slice (some ⟨h4.size,0,none⟩) nn nn]) rfl (show 2<=2 by decide) fun h35 hs=>?_;refine⟨st,⟨some ⟨h4.size,0,none⟩,nn,nn⟩,hs.at 3 rfl (o:=0) (n:=2) rfl,st,_,_,_,0,_,rfl,hs,?_,fun _=>⟨rfl,rfl,by rw[hlm,hnn]⟩,fun hn=>absurd hv hn⟩;refine⟨Yx,Yn _ (Yn _ Yx),fun q hq=>.inl (List.eq_of_mem_replicate hq),by omega,by rw[Yg];omega,fun q hq=>?_⟩;rw[List.eq_of_mem_replicate hq];exact Nat.zero_le _
theorem app22:appB Pz 22 98 6 96=true:=by kernel_rfl
structure MrM (A:List It) (x:MR):Prop where
 f:It.sl x.f 4 1 (x.m.fin.map bC)∈A
 g:It.sl x.g 110 6 (x.m.mv.map Mv.cs)∈A
 l:It.sl x.l 230 3 (x.m.li.map To.cs)∈A
 n:x.m.fin.length<=1048576/\x.m.mv.length<=1048576/\x.m.li.length<=1048576
theorem MrM.mono {A A':List It} {x:MR} (h:MrM A x) (hA:∀i∈A,i∈A'):MrM A' x:=⟨hA _ h.f,hA _ h.g,hA _ h.l,h.n⟩
theorem MrM.mi {h0 h:Heap} {A:List It} {x:MR} (hs:St h0 h A) (hM:MrM A x):MI h x.m x.f x.g x.l:=by
 obtain⟨k1,e1⟩:=Yf.1 hM.f;obtain⟨k2,e2⟩:=Yf.1 hM.g;obtain⟨k3,e3⟩:=Yf.1 hM.l;exact⟨hs.rl k1 e1 (by omega) hM.n.1,hs.rl k2 e2 (by omega) hM.n.2.1,hs.rl k3 e3 (by omega) hM.n.2.2⟩
theorem all43 (g:Gl) (h:Heap) (hg:GI h g) (hx:Gx h) (hV:ValidS g) (Lm:List Mch) (hn:Lm.length=g.hr.n) (h6:Lm.length<=1048576)
  (hp:∀(i:Nat) m,Lm[i]?=some m->proj g (i:Int)=(some m,0)/\m.fin.length<=1048576/\m.mv.length<=1048576/\m.li.length<=1048576) :
  Fn Pz 33 #[g.v] h fun v h'=>∃(s:Sl) (L:List MR),v=.tuple ⟨[.slice s.a s.n s.c,.int .i64 0]⟩/\Ext h h'/\L.map MR.m=Lm/\SyI h' s L:=by
 apply vc33 (bs g.nm) g.hr g.hd g.n g.s g.e g.he g.ht;unfold W33;refine (St.refl h).newb fun h9 hs=>?_;refine⟨_,_,_,_,_,_,_,_,hs.at 0 rfl (o:=0) (n:=8) rfl,?_⟩;refine (valid38 g h9 (hg.ext hs.ext) (hx.ext hs.ext)).mono ?_;rintro _ h20 ⟨rfl,E⟩;have hs:=hs.step E;refine⟨_,rfl,?_⟩;refine sB_f (by rw[decide_eq_true hV];rfl) ?_;refine⟨g.hr,hs.rd 0 rfl (i:=1) rfl,?_⟩;have hs:=hs.nil_ 98 6;refine⟨fun out x h' μ=>∃(i:Nat) (L:List MR) (A:List It),x=(i:Int)/\μ=Lm.length-i/\i<=Lm.length/\L.map MR.m=Lm.take i/\St h h' (.sl out 98 6 (L.map MR.cs) :: .blk h.size [.string (bs g.nm),.slice g.hr.a g.hr.n g.hr.c,.slice g.hd.a g.hd.n g.hd.c,.int .i64 g.n,.int .i64 g.s,.int .i64 g.e,.slice g.he.a g.he.n g.he.c,.slice g.ht.a g.ht.n g.ht.c] 92::A)/\∀x∈L,MrM A x,⟨_,0,[],[],rfl,rfl,Nat.zero_le _,rfl,hs,fun x hx=>(by cases hx)⟩,?_⟩;clear hs;rintro-out _ h27 μ ⟨i,L,A,rfl,rfl,hi,hL,hs,hM⟩;have hLl:L.length=i:=by have:=congrArg List.length hL;rw[Yc,Yu] at this;omega
 have hst:=(hs.rows 0 (s:=out) (cs:=MR.cs) rfl (by omega)).ln;refine sBi (fun c=>?_) (fun c=>?_)
 .obtain⟨m',gm⟩:=get_some (l:=Lm) (i:=i) (by omega);obtain⟨hpr,hb⟩:=hp i m' gm;refine⟨_,_,_,_,_,_,_,_,hs.at 1 rfl (o:=0) (n:=8) rfl,?_⟩;refine (project12 g (i:Int) h27 (hg.ext hs.ext) (hx.ext hs.ext)).mono ?_;rintro _ h44 ⟨-,hm⟩;rw[hpr] at hm;cases hm with
  | err he0 _=>cases he0
  | @ok m sf sm sl he0 hs2=>
   cases he0;have hs:=hs.join hs2;refine⟨_,_,_,sf,sm,sl,0,rfl,?_⟩;refine hs.newput (vs:=mC m' sf sm sl) rfl rfl fun h46 hs=>?_;refine sB_f rfl ?_;refine⟨_,_,_,sf,sm,sl,hs.at 0 rfl (o:=0) (n:=6) rfl,?_⟩;refine hs.app 1 (s:=out) (n:=6) (rows:=L.map MR.cs) rfl app22 (m:=1) [mC m' sf sm sl] rfl rfl (fun r hr=>by rw[Ye] at hr;rw[hr];rfl) rfl (by omega) (by simp only[maxLen];omega) fun r h55 nr hs=>?_;refine⟨_,(show Lm.length-(i+1)<Lm.length-i by omega),i+1,L++[⟨m',sf,sm,sl⟩],A++[.sl sf 4 1 (m'.fin.map bC),.sl sm 110 6 (m'.mv.map Mv.cs),.sl sl 230 3 (m'.li.map To.cs)],by rw[w64 (by omega) (by omega)];omega,rfl,by omega,?_,?_,?_⟩
   .rw[take_snoc gm,Ym,hL];rfl
   .rw[Ym];exact hs.drop 1
   .intro x hx;rcases Yk.1 hx with hx | hx
    .exact (hM x hx).mono fun j hj=>List.mem_append_left _ hj
    .rw[Ye] at hx;subst hx;exact⟨List.mem_append_right _ (Yx),List.mem_append_right _ (Yn _ Yx),List.mem_append_right _ (Yn _ (Yn _ Yx)),hb⟩
 .have hil:i=Lm.length:=by omega
  rw[hil,Yj (Yyt _)] at hL;refine⟨out,L,rfl,hs.ext,hL,hs.rl 0 rfl (by omega) (by omega),fun x hx=>?_⟩;exact MrM.mi hs ((hM x hx).mono fun j hj=>Yn _ (Yn _ hj))
theorem clone92 (l:List Int) (s:Sl) (h:Heap) (hr:RL h 1 s inC l):Fn Pz 126 #[.slice s.a s.n s.c] h fun v h'=>∃t:Sl,v=.slice t.a t.n t.c/\St h h' [.sl t 3 1 (l.map inC)]:=by
 apply vc126 s;unfold W126;have hn:=hr.ln;have hsm:=hr.sm;refine sB_intro (fun c=>?_) (fun c=>?_)
 .have h0:=hr.nil (Option.isNone_iff_eq_none.1 c);have:l=[]:=List.eq_nil_of_length_eq_zero (by omega);subst this;exact⟨⟨none,0,0⟩,rfl,(St.refl h).nil_ 3 1⟩
 .refine (St.refl h).newb fun h1 hs=>?_;have hs:=hs.blkS 0 1 [] rfl (fun r hr=>by cases hr) rfl (Nat.zero_le _);refine hs.appRw 0 (s:=⟨some ⟨h.size,0,none⟩,0,0⟩) (rows:=[]) (y:=s) rfl app42 (hr.rw.ext hs.ext) (inrows' l) hr.nil (flat_oneB (fun _=>rfl) _) (by show (0+s.n)*8<=_;omega) (by show 0+s.n<=_;simp only[maxLen];omega) fun r h3 _ hs=>?_;exact⟨r,rfl,hs⟩
def clB (ob b0 b3:Nat) (h12:Heap) (R:Value->Heap->Prop):Prop:=
 (∃x13:Sl,hc h12 ⟨b0,1,none⟩=some (.slice x13.a x13.n x13.c) /\ 
 (∃I14:Int->Heap->Nat->Prop,(∃m15,I14 0 h12 m15) /\ 
 (∀(_:Env) (x_17:Int) (h18:Heap) (m16:Nat),I14 x_17 h18 m16 -> 
 (sB (decide (x_17<(x13.n:Int))) 
  ((NB x13.a fun b19 o20=>((0<=(x_17:Int)/\(x_17:Int)<(x13.n:Nat)) /\ 
  (∃x21:Sl,hc h18 ⟨b19,o20+Int.toNat x_17*1,none⟩=some (.slice x21.a x21.n x21.c) /\ 
  (∃x22:Sl,hc h18 ⟨ob,1,none⟩=some (.slice x22.a x22.n x22.c) /\ 
  (Fn Pz 126 #[.slice x21.a x21.n x21.c] h18 
  (fun v23 h25=>∃x24:Sl,v23=.slice x24.a x24.n x24.c /\ 
  (Sm [⟨ob,1,none⟩] h18 h25 /\ 
  (NB x22.a fun b26 o27=>((0<=(x_17:Int)/\(x_17:Int)<(x22.n:Nat)) /\ 
  (okAt h25 ⟨b26,o27+Int.toNat x_17*1,none⟩ 1/\∀h28:Heap,h28=hputs h25 ⟨b26,o27+Int.toNat x_17*1,none⟩ 0 [.slice x24.a x24.n x24.c] -> 
  (∃m29,m29<m16/\I14 (IntKind.wrap .i64 (x_17+1)) h28 m29)))))))))))) 
  ((∃x30:Sl,∃x31:Sl,atC h18 ⟨ob,0,none⟩ [.slice x30.a x30.n x30.c,.slice x31.a x31.n x31.c] /\ 
  (okAt h18 ⟨b3,0,none⟩ 2/\∀h32:Heap,h32=hputs h18 ⟨b3,0,none⟩ 0 [.slice x30.a x30.n x30.c,.slice x31.a x31.n x31.c] -> 
  (∃x33:Sl,∃x34:Sl,atC h32 ⟨b3,0,none⟩ [.slice x33.a x33.n x33.c,.slice x34.a x34.n x34.c] /\ 
  R (.agg ⟨[.slice x33.a x33.n x33.c,.slice x34.a x34.n x34.c]⟩) h32))))))))
def CloV (S:List Int) (B:List Bx) (h:Heap) (v:Value) (h':Heap):Prop:=∃(ts tb:Sl) (T:List Bx),v=cfA ts tb/\T.map Bx.l=B.map Bx.l/\St h h' ([.sl ts 3 1 (S.map inC),.sl tb 25 1 (T.map Bx.cs)]++T.map Bx.it)
theorem set_grow {α:Type} {T:List α} {i k:Nat} {z x:α} (hT:T.length=i):(T++List.replicate (k+1) z).set i x=(T++[x])++List.replicate k z:=by
 subst hT;rw[List.set_append_right _ _ (Yyt _),Nat.sub_self,List.replicate_succ,List.set_cons_zero,Yz];rfl
theorem cloneB (ob b0 b3:Nat) (ss sb ts tb u1 u2:Sl) (S:List Int) (B:List Bx) (h h12:Heap) (hC:CfI h ss sb S B)
  (hs:St h h12 [.blk ob [.slice ts.a ts.n ts.c,.slice tb.a tb.n tb.c] 52,.sl tb 25 1 ((List.replicate B.length bx0).map Bx.cs),.blk b3 [.slice u1.a u1.n u1.c,.slice u2.a u2.n u2.c] 52,.blk b0 [.slice ss.a ss.n ss.c,.slice sb.a sb.n sb.c] 52,.sl ts 3 1 (S.map inC)]) :
  clB ob b0 b3 h12 (CloV S B h):=by
 unfold clB;have hbn:=hC.b.ln;have hbs:=hC.b.sm;refine⟨sb,hs.rd 3 rfl (i:=1) rfl,?_⟩;refine⟨fun x h' μ=>∃(i:Nat) (T:List Bx),x=(i:Int)/\μ=B.length-i/\i<=B.length/\T.map Bx.l=(B.take i).map Bx.l/\St h h' (.blk ob [.slice ts.a ts.n ts.c,.slice tb.a tb.n tb.c] 52 :: .sl tb 25 1 ((T++List.replicate (B.length-i) bx0).map Bx.cs) :: .blk b3 [.slice u1.a u1.n u1.c,.slice u2.a u2.n u2.c] 52 :: .blk b0 [.slice ss.a ss.n ss.c,.slice sb.a sb.n sb.c] 52 :: .sl ts 3 1 (S.map inC)::T.map Bx.it),⟨_,0,[],rfl,rfl,Nat.zero_le _,rfl,hs⟩,?_⟩;clear hs;rintro-_ h18 μ ⟨i,T,rfl,rfl,hi,hT,hs⟩;have hTl:T.length=i:=by have:=congrArg List.length hT;rw[Yc,Yc,Yu] at this;omega
 have htb:=(hs.rows 1 (s:=tb) (cs:=Bx.cs) rfl (by omega)).ln;rw[Yh,Yg] at htb;refine sBi (fun c=>?_) (fun c=>?_)
 .obtain⟨q,gq⟩:=get_some (l:=B) (i:=i) (by omega);refine (hC.b.rw.ext hs.ext).nbI (by omega) (by omega) fun b o q' gq' t=>?_;rw[Ys] at gq';rw[gq] at gq';cases gq';refine⟨q.s,t.hd,tb,hs.rd 0 rfl (i:=1) rfl,?_⟩;refine (clone92 q.l q.s h18 ((hC.i q (Yb gq)).ext hs.ext)).mono ?_;rintro _ h25 ⟨u,rfl,hs2⟩;have hs:=hs.join hs2;refine⟨u,rfl,hs2.ext.sm,?_⟩;refine hs.set 1 (s:=tb) (cs:=Bx.cs) (x:=(i:Int)) rfl (by omega) (by omega) (by omega) (⟨u,q.l⟩:Bx) rfl rfl (fun b o h28 hs=>?_) rfl;refine⟨_,(show B.length-(i+1)<B.length-i by omega),i+1,T++[⟨u,q.l⟩],by rw[w64 (by omega) (by omega)];omega,rfl,by omega,?_,?_⟩
  .rw[take_snoc gq,Ym,Ym,hT];rfl
  .have e:=set_grow (k:=B.length-(i+1)) (z:=bx0) (x:=(⟨u,q.l⟩:Bx)) hTl;rw[show B.length-(i+1)+1=B.length-i by omega] at e;rw[Ys,e] at hs;rw[Ym (f:=Bx.it)];exact hs
 .have hil:i=B.length:=by omega
  rw[hil,Nat.sub_self,List.replicate_zero,Yw] at hs;rw[hil,Yj (Yyt _)] at hT;refine⟨ts,tb,hs.at 0 rfl (o:=0) (n:=2) rfl,?_⟩;refine hs.put 2 rfl (o:=0) (vs:=[.slice ts.a ts.n ts.c,.slice tb.a tb.n tb.c]) rfl (show 2<=2 by decide) fun h32 hs=>?_;refine⟨ts,tb,hs.at 2 rfl (o:=0) (n:=2) rfl,ts,tb,T,rfl,hT,?_⟩;refine (hs.sub (L':=.sl tb 25 1 (T.map Bx.cs) :: .sl ts 3 1 (S.map inC)::T.map Bx.it) ?_).perm (List.Perm.swap _ _ _);exact List.Sublist.cons _ (List.Sublist.cons_cons _ (List.Sublist.cons _ (List.Sublist.cons _ (List.Sublist.refl _))))
theorem boxes0 (n:Nat):madeL Pz 25 n=((List.replicate n bx0).map Bx.cs).flatten:=by rw[made42,List.map_replicate,List.map_replicate];rfl
theorem clone59 (ss sb:Sl) (S:List Int) (B:List Bx) (h:Heap) (hC:CfI h ss sb S B) :
  Fn Pz 109 #[.agg ⟨[.slice ss.a ss.n ss.c,.slice sb.a sb.n sb.c]⟩] h (CloV S B h):=by
 apply vc109 ss sb;unfold W109 V109b V109a;have hbn:=hC.b.ln;have hbs:=hC.b.sm;refine (St.refl h).newb fun h3 hs=>?_;refine hs.newb fun h4 hs=>?_;refine⟨ss,hs.rd 1 rfl (i:=0) rfl,sb,hs.rd 1 rfl (i:=1) rfl,?_⟩;rw[Ys];have hc:((0:Int)<=(sb.n:Int)/\((sb.n:Int):Int)<=(sb.n:Int)/\((24:Nat):Int)*(sb.n:Int)<=140737488355328):=⟨by omega,by omega,by omega⟩;have mk:∀ {hX:Heap} {b:Nat} {L:List It},St h hX (.blk b (madeL Pz 25 sb.n) 25::L)->St h hX (.sl ⟨some ⟨b,0,none⟩,sb.n,sb.n⟩ 25 1 ((List.replicate B.length bx0).map Bx.cs)::L):=fun hs=>
  hs.blkS sb.n 1 _ (by rw[hbn];exact boxes0 _) (bxrows _) (by rw[Yc,Yg,hbn]) (by simp only[maxLen];omega)
 refine And.intro ?_ (And.intro ?_ ?_)
 .refine (clone92 S ss h4 (hC.s.ext hs.ext)).mono ?_;rintro _ h9 ⟨ts,rfl,hs2⟩;have hs:=hs.join hs2;refine⟨ts,rfl,hs2.ext.sm,And.intro ?_ ?_⟩
  .refine⟨hc,hs.newbE fun h10 E10 hs=>⟨E10.sm,?_⟩⟩;have hs:=mk hs;refine hs.newbE fun h11 E11 hs=>⟨E11.sm,?_⟩;refine hs.put 0 rfl (o:=0) (vs:=[.slice ts.a ts.n ts.c,.slice (some ⟨h9.size,0,none⟩) sb.n sb.n]) rfl (show 2<=2 by decide) fun h12 hs=>?_;exact cloneB _ _ _ ss sb ts ⟨some ⟨h9.size,0,none⟩,sb.n,sb.n⟩ ⟨none,0,0⟩ ⟨none,0,0⟩ S B h h12 hC hs
  .refine hs.newbE fun h10 E10 hs=>⟨E10.sm,hc,?_⟩;refine hs.newbE fun h11 E11 hs=>⟨E11.sm,?_⟩;have hs:=mk hs;refine hs.put 1 rfl (o:=0) (vs:=[.slice ts.a ts.n ts.c,.slice (some ⟨h10.size,0,none⟩) sb.n sb.n]) rfl (show 2<=2 by decide) fun h12 hs=>?_;exact cloneB _ _ _ ss sb ts ⟨some ⟨h10.size,0,none⟩,sb.n,sb.n⟩ ⟨none,0,0⟩ ⟨none,0,0⟩ S B h h12 hC (hs.perm (List.Perm.swap _ _ _))
 .refine⟨hc,hs.newbE fun h10 E10 hs=>⟨E10.sm,?_⟩⟩;have hs:=mk hs;refine And.intro ?_ ?_;refine (clone92 S ss h10 (hC.s.ext hs.ext)).mono ?_;rintro _ h9 ⟨ts,rfl,hs2⟩;have hs:=hs.join hs2;refine⟨ts,rfl,hs2.ext.sm,?_⟩;refine hs.newbE fun h11 E11 hs=>⟨E11.sm,?_⟩;rotate_left;refine hs.newbE fun h11 E11 hs=>⟨E11.sm,?_⟩;refine (clone92 S ss h11 (hC.s.ext hs.ext)).mono ?_;rintro _ h9 ⟨ts,rfl,hs2⟩;have hs:=hs.join hs2;refine⟨ts,rfl,hs2.ext.sm,?_⟩;all_goals
   refine hs.put 0 rfl (o:=0) (vs:=[.slice ts.a ts.n ts.c,.slice (some ⟨h4.size,0,none⟩) sb.n sb.n]) rfl (show 2<=2 by decide) fun h12 hs=>?_;exact cloneB _ _ _ ss sb ts ⟨some ⟨h4.size,0,none⟩,sb.n,sb.n⟩ ⟨none,0,0⟩ ⟨none,0,0⟩ S B h h12 hC hs
 .refine hs.newbE fun h10 E10 hs=>⟨E10.sm,And.intro ?_ ?_⟩
  .refine (clone92 S ss h10 (hC.s.ext hs.ext)).mono ?_;rintro _ h9 ⟨ts,rfl,hs2⟩;have hs:=hs.join hs2;refine⟨ts,rfl,hs2.ext.sm,hc,?_⟩;refine hs.newbE fun h11 E11 hs=>⟨E11.sm,?_⟩;have hs:=mk hs;refine hs.put 1 rfl (o:=0) (vs:=[.slice ts.a ts.n ts.c,.slice (some ⟨h9.size,0,none⟩) sb.n sb.n]) rfl (show 2<=2 by decide) fun h12 hs=>?_;exact cloneB _ _ _ ss sb ts ⟨some ⟨h9.size,0,none⟩,sb.n,sb.n⟩ ⟨none,0,0⟩ ⟨none,0,0⟩ S B h h12 hC (hs.perm (List.Perm.swap _ _ _))
  .refine⟨hc,hs.newbE fun h11 E11 hs=>⟨E11.sm,?_⟩⟩;have hs:=mk hs;refine (clone92 S ss h11 (hC.s.ext hs.ext)).mono ?_;rintro _ h9 ⟨ts,rfl,hs2⟩;have hs:=hs.join hs2;refine⟨ts,rfl,hs2.ext.sm,?_⟩;refine hs.put 1 rfl (o:=0) (vs:=[.slice ts.a ts.n ts.c,.slice (some ⟨h10.size,0,none⟩) sb.n sb.n]) rfl (show 2<=2 by decide) fun h12 hs=>?_;exact cloneB _ _ _ ss sb ts ⟨some ⟨h10.size,0,none⟩,sb.n,sb.n⟩ ⟨none,0,0⟩ ⟨none,0,0⟩ S B h h12 hC (hs.perm (List.Perm.swap _ _ _))
def mvO (L:List Mch) (r i:Int):Option Mv:=if r<0\/(L.length:Int)<=r then none else match L[r.toNat]? with
 | none=>none
 | some m=>if i<0\/(m.mv.length:Int)<=i then none else m.mv[i.toNat]?
def mv00:Mv:=⟨0,false,0,0,0,false⟩
def MovV (o:Option Mv):Value:=match o with
 | none=>.tuple ⟨[.agg ⟨mv00.cs⟩,.bool false]⟩
 | some x=>.tuple ⟨[.agg ⟨x.cs⟩,.bool true]⟩
theorem move57 (L:List MR) (s:Sl) (r i:Int) (h:Heap) (hS:SyI h s L) :
  Fn Pz 107 #[.slice s.a s.n s.c,.agg ⟨[.int .i64 r,.int .i64 i]⟩] h fun v h'=>v=MovV (mvO (L.map MR.m) r i)/\Ext h h':=by
 apply vc107 s r i;unfold W107 V107a;have hn:=hS.r.ln;have hlm:(L.map MR.m).length=L.length:=Yc _;refine (St.refl h).newb fun h3 hs=>?_;refine hs.newb fun h4 hs=>?_;have no:∀ {h5:Heap},St h h5 [.blk h3.size mv00.cs 110,.blk h.size [.int .i64 r,.int .i64 i] 43]->mvO (L.map MR.m) r i=none->(okAt h5 ⟨h3.size,0,none⟩ 6/\∀h6:Heap,h6=hputs h5 ⟨h3.size,0,none⟩ 0 [.int .i64 0,.bool false,.int .i64 0,.int .i64 0,.int .i64 0,.bool false] -> 
   (∃x7:Int,∃x8:Bool,∃x9:Int,∃x10:Int,∃x11:Int,∃x12:Bool,atC h6 ⟨h3.size,0,none⟩ [.int .i64 x7,.bool x8,.int .i64 x9,.int .i64 x10,.int .i64 x11,.bool x12] /\ 
   (Value.tuple ⟨[.agg ⟨[.int .i64 x7,.bool x8,.int .i64 x9,.int .i64 x10,.int .i64 x11,.bool x12]⟩,.bool false]⟩=MovV (mvO (L.map MR.m) r i)/\Ext h h6))):=fun {h5} hs e=>by
  refine hs.put 0 rfl (o:=0) (vs:=mv00.cs) rfl (show 6<=6 by decide) fun h6 hs=>?_;exact⟨_,_,_,_,_,_,hs.at 0 rfl (o:=0) (n:=6) rfl,by rw[e];rfl,hs.ext⟩
 refine⟨_,hs.rd 1 rfl (i:=0) rfl,sBi (fun c=>no hs (by unfold mvO;rw[if_pos (.inl c)])) (fun c1=>?_)⟩;refine⟨_,hs.rd 1 rfl (i:=0) rfl,sBi (fun c=>no hs (by unfold mvO;rw[if_pos (.inr (by omega))])) (fun c2=>?_)⟩;obtain⟨p,rfl⟩:∃p:Nat,r=(p:Int):=⟨r.toNat,by omega⟩;have hp:p<L.length:=by omega
 obtain⟨y,gy⟩:=get_some (l:=L) (i:=p) hp;have gm:(L.map MR.m)[p]?=some y.m:=by rw[Yd,gy];rfl
 have hmv:mvO (L.map MR.m) (p:Int) i=if i<0\/(y.m.mv.length:Int)<=i then none else y.m.mv[i.toNat]?:=by
  unfold mvO;rw[if_neg (by omega),Ys,gm]
 have hyi:=hS.i y (Yb gy);have hgn:=hyi.pm.ln;refine⟨_,hs.rd 1 rfl (i:=1) rfl,sBi (fun c=>no hs (by rw[hmv,if_pos (.inl c)])) (fun c3=>?_)⟩;refine⟨_,hs.rd 1 rfl (i:=1) rfl,_,hs.rd 1 rfl (i:=0) rfl,?_⟩;have rdL:∀ {F:Nat->Nat->Prop} {h':Heap},Ext h h'->(∀b o,atC h' ⟨b,o+p*6,none⟩ y.cs->F b o)->NB s.a fun b o=>(0<=(p:Int)/\(p:Int)<(s.n:Nat))/\F b o:=fun {F h'} E hF=>(hS.r.rw.ext E).nbI (by omega) (by omega) fun b o y' gy' t=>by
  rw[Ys] at gy' t;replace gy':L[p]?=some y':=gy';rw[gy] at gy';cases gy';exact hF b o t
 refine rdL hs.ext fun b1 o1 t1=>?_;refine⟨y.g,t1.nth 4 rfl,sBi (fun c=>no hs (by rw[hmv,if_pos (.inr (by omega))])) (fun c4=>?_)⟩;obtain⟨j,rfl⟩:∃j:Nat,i=(j:Int):=⟨i.toNat,by omega⟩;obtain⟨x,gx⟩:=get_some (l:=y.m.mv) (i:=j) (by omega);refine⟨_,hs.rd 1 rfl (i:=0) rfl,rdL hs.ext fun b2 o2 t2=>?_⟩;refine⟨y.g,t2.nth 4 rfl,_,hs.rd 1 rfl (i:=1) rfl,?_⟩;refine (hyi.pm.rw.ext hs.ext).nbI (by omega) (by omega) fun b3 o3 x' gx' t3=>?_;rw[Ys] at gx';replace gx':y.m.mv[j]?=some x':=gx';rw[gx] at gx';cases gx';refine⟨_,_,_,_,_,_,t3,?_⟩;refine hs.put 0 rfl (o:=0) (vs:=x.cs) rfl (show 6<=6 by decide) fun h29 hs=>?_;refine⟨_,_,_,_,_,_,hs.at 0 rfl (o:=0) (n:=6) rfl,?_,hs.ext⟩;rw[hmv,if_neg (by omega),Ys,gx];rfl
end Go.VC
end

section
namespace Go.VC
open Go.Proofs Go.LexS
theorem St.smbO {h0 h h1 h':Heap} {L L':List It} (hs:St h0 h L) (hs':St h1 h' L') (k k' o:Nat) {b:Nat} {xs:List Value} {e:TypeId} (hk:L[k]?=some (.blk b xs e)) (hk':L'[k']?=some (.blk b xs e)):Sm [⟨b,o,none⟩] h h':=by
 intro a ha i v hv;rw[Ye.1 ha] at hv ⊢;have e1:h[b]?=some (.cells ⟨xs⟩ e):=hs.get hk;have e2:h'[b]?=some (.cells ⟨xs⟩ e):=hs'.get hk';have e3:h'[b]?=h[b]?:=by rw[e1,e2]
 rw[hc_of_block (h:=h) (h':=h') (a:=addk ⟨b,o,none⟩ i) (by rw[addk_block'];exact e3)];exact hv
def doB (n p:Nat) (x:Mv) (BL:List (List Int)):List (List Int):=BL.set (bxI n p x) (if x.send=true then BL.getD (bxI n p x) []++[x.label] else (BL.getD (bxI n p x) []).tail)
open Classical in
noncomputable def doS (L:List Mch) (k:Int) (S:List Int) (BL:List (List Int)) (r i:Int):Int × List Int × List (List Int):=
 if ProS L k S BL then match mvO L r i with
  | none=>(2,[],[])
  | some x=>if canS L.length k S BL r.toNat x=0 then (0,S.set r.toNat x.t,doB L.length r.toNat x BL) else (canS L.length k S BL r.toNat x,[],[])
 else (1,[],[])
def DoV (o:Int × List Int × List (List Int)) (h:Heap) (v:Value) (h':Heap):Prop:=∃(ts tb:Sl) (T:List Bx) (A:List It),v=.tuple ⟨[cfA ts tb,.int .i64 o.1]⟩/\T.map Bx.l=o.2.2/\St h h' A/\CfM A ts tb o.2.1 T
theorem DoV.none_ {o:Int × List Int × List (List Int)} {h h':Heap} {A:List It} {e:Int} (hs:St h h' A) (ho:o=(e,[],[])):DoV o h (.tuple ⟨[.agg ⟨[.slice none 0 0,.slice none 0 0]⟩,.int .i64 e]⟩) h':=by
 subst ho;exact⟨⟨none,0,0⟩,⟨none,0,0⟩,[],_,rfl,rfl,hs.nil2,CfM.none_.mono fun i hi=>List.mem_append_left _ hi⟩
theorem mvO_some {L:List Mch} {r i:Int} {x:Mv} (h:mvO L r i=some x):∃p:Nat,r=(p:Int)/\∃m,L[p]?=some m/\x∈m.mv:=by
 unfold mvO at h;split at h
 .cases h
 .rename_i c;refine⟨r.toNat,by omega,?_⟩;split at h
  .cases h
  .rename_i m gm;split at h
   .cases h
   .exact⟨m,gm,Yb h⟩
theorem getD_map {B:List Bx} {j:Nat} {q:Bx} (h:B[j]?=some q):(B.map Bx.l).getD j []=q.l:=by
 rw[Yo,Yd,h];rfl
theorem do27 (L:List MR) (s:Sl) (k:Int) (ss sb:Sl) (S:List Int) (B:List Bx) (r i:Int) (h:Heap) (hS:SyI h s L) (hC:CfI h ss sb S B) :
  Fn Pz 55 #[.slice s.a s.n s.c,.int .i64 k,.agg ⟨[.slice ss.a ss.n ss.c,.slice sb.a sb.n sb.c]⟩,.agg ⟨[.int .i64 r,.int .i64 i]⟩] h (DoV (doS (L.map MR.m) k S (B.map Bx.l) r i) h):=by
 apply vc55 s k ss sb r i;unfold W55 V55a;have hn:=hS.r.ln;have hlm:(L.map MR.m).length=s.n:=by rw[Yc,hn]
 have hbm:(B.map Bx.l).length=B.length:=Yc _;refine (St.refl h).newb fun h5 hs=>?_;refine hs.newb fun h6 hs=>?_;refine hs.newb fun h7 hs=>?_;refine⟨ss,sb,hs.at 2 rfl (o:=0) (n:=2) rfl,?_⟩;refine (proper24 L s k ss sb S B h7 (hS.ext hs.ext) (hC.ext hs.ext)).mono ?_;rintro _ h12 ⟨⟨b,rfl,hb⟩,E⟩;have hs:=hs.step E;refine⟨_,rfl,sB_intro (fun c=>?_) (fun c=>?_)⟩
 .have hnp:¬ProS (L.map MR.m) k S (B.map Bx.l):=fun hp=>by rw[hb.2 hp] at c;cases c
  refine hs.put 0 rfl (o:=0) (vs:=[.slice none 0 0,.slice none 0 0]) rfl (show 2<=2 by decide) fun h13 hs=>?_;exact⟨⟨none,0,0⟩,⟨none,0,0⟩,hs.at 0 rfl (o:=0) (n:=2) rfl,DoV.none_ hs (by unfold doS;rw[if_neg hnp])⟩
 have hP:=hb.1 (bT c);have hV6:=hP.v.n;have hSl:S.length=s.n:=by rw[hP.p.s,hlm]
 have hBl:B.length=s.n*s.n:=by rw[<-hbm,hP.p.b,hlm]
 rw[hlm] at hV6;have h36:=sq6 hV6.2;refine⟨r,i,hs.at 1 rfl (o:=0) (n:=2) rfl,?_⟩;refine (move57 L s r i h12 (hS.ext hs.ext)).mono ?_;rintro v h26 ⟨hv,E⟩;have hs:=hs.step E;cases hmo:mvO (L.map MR.m) r i with
 | none=>
  rw[hmo] at hv;subst hv;refine⟨_,_,_,_,_,_,false,rfl,?_⟩;refine hs.newput (vs:=mv00.cs) rfl rfl fun h28 hs=>sB_t rfl ?_;refine hs.put 1 rfl (o:=0) (vs:=[.slice none 0 0,.slice none 0 0]) rfl (show 2<=2 by decide) fun h29 hs=>?_;exact⟨⟨none,0,0⟩,⟨none,0,0⟩,hs.at 1 rfl (o:=0) (n:=2) rfl,DoV.none_ hs (by unfold doS;rw[if_pos hP,hmo])⟩
 | some x=>
  rw[hmo] at hv;subst hv;have hdo:doS (L.map MR.m) k S (B.map Bx.l) r i=if canS s.n k S (B.map Bx.l) r.toNat x=0 then (0,S.set r.toNat x.t,doB s.n r.toNat x (B.map Bx.l)) else (canS s.n k S (B.map Bx.l) r.toNat x,[],[]):=by
   unfold doS;rw[if_pos hP,hmo,<-hlm]
  obtain⟨p,rfl,m,gm,hxm⟩:=mvO_some hmo;rw[hdo];clear hdo hmo;rw[Ys];have hp:p<s.n:=by rw[<-hlm];exact (Ya.1 gm).1
  have hvm:=hP.v.m p m gm;have hx0:0<=x.peer:=(hvm.2.1.n.mv x hxm).2.2.2.2.1;have hx1:x.peer<(s.n:Int):=by have:=hvm.2.2 x hxm;rw[hlm] at this;exact this
  have hj:=bxI_lt (n:=s.n) (x:=x) hp hx0 hx1;refine⟨x.f,x.send,x.peer,x.label,x.t,x.ag,true,rfl,?_⟩;refine hs.newput (vs:=x.cs) rfl rfl fun h28 hs=>sB_f rfl ?_;refine⟨ss,sb,hs.at 3 rfl (o:=0) (n:=2) rfl,(p:Int),hs.rd 2 rfl (i:=0) rfl,x.f,x.send,x.peer,x.label,x.t,x.ag,hs.at 0 rfl (o:=0) (n:=6) rfl,?_⟩;refine (can58 s.n k ss sb S B p x h28 (hC.ext hs.ext) hV6.2 hSl hBl hp hx0 hx1).mono ?_;rintro _ h43 ⟨rfl,E⟩;have hs:=hs.step E;refine⟨_,rfl,sBn (fun c=>?_) (fun c=>?_)⟩
  .refine hs.put 1 rfl (o:=0) (vs:=[.slice none 0 0,.slice none 0 0]) rfl (show 2<=2 by decide) fun h29 hs=>?_;exact⟨⟨none,0,0⟩,⟨none,0,0⟩,hs.at 1 rfl (o:=0) (n:=2) rfl,DoV.none_ hs (by rw[if_neg c])⟩
  rw[if_pos c];refine⟨ss,sb,hs.at 3 rfl (o:=0) (n:=2) rfl,?_⟩;refine (clone59 ss sb S B h43 (hC.ext hs.ext)).mono ?_;rintro _ h52 ⟨ts,tb,T,rfl,hT,hs2⟩;have hs:=hs.join hs2;have hTl:T.length=B.length:=by rw[<-Yc (f:=Bx.l),hT,hbm]
  refine⟨ts,tb,rfl,?_⟩;refine hs.newput (vs:=[.slice ts.a ts.n ts.c,.slice tb.a tb.n tb.c]) rfl rfl fun h54 hs=>?_;have hts:=(hs.rows 5 (s:=ts) (cs:=inC) rfl (by omega)).ln;have htb:=(hs.rows 6 (s:=tb) (cs:=Bx.cs) rfl (by omega)).ln;refine⟨ts,hs.rd 0 rfl (i:=0) rfl,(p:Int),hs.rd 3 rfl (i:=0) rfl,x.t,hs.rd 1 rfl (i:=4) rfl,?_⟩;refine hs.set 5 (s:=ts) (cs:=inC) (x:=(p:Int)) rfl (by omega) (by omega) (by omega) x.t rfl rfl (fun b o h60 hs=>?_) rfl;refine⟨(p:Int),hs.rd 3 rfl (i:=0) rfl,x.f,x.send,x.peer,x.label,x.t,x.ag,hs.at 1 rfl (o:=0) (n:=6) rfl,?_⟩;refine (box60 s.n p x h60 hV6.2 hp hx0 hx1).mono ?_;rintro _ h70 ⟨rfl,E⟩;have hs:=hs.step E;rw[Ys] at hs;have hBd:=hP.p.bx;unfold doB;generalize hjj:bxI s.n p x=j at hj ⊢;obtain⟨q,gq⟩:=get_some (l:=T) (i:=j) (by omega);have hql:(B.map Bx.l).getD j []=q.l:=by rw[<-hT];exact getD_map gq
  have hqb:(B.map Bx.l)[j]?=some q.l:=by rw[<-hT,Yd,gq];rfl
  have hqk:=(hBd j q.l hqb).1;have hk4:=hP.c.2;have hall:∀z∈T,z.l.length<=4:=fun z hz=>by
   obtain⟨j',gj⟩:=Yf.1 hz;have:=(hBd j' z.l (by rw[<-hT,Yd,gj];rfl)).1;omega
  have hsl:(S.set p x.t).length<=1048576:=by rw[Yyh];omega
  have rdB:∀ {h':Heap} {L':List It} {F:Nat->Nat->Prop} (kk:Nat),St h h' L'->L'[kk]?=some (.sl tb 25 1 (T.map Bx.cs))->(∀b o,hc h' ⟨b,o+Int.toNat (j:Int)*1,none⟩=some (.slice q.s.a q.s.n q.s.c)->F b o)->NB tb.a fun b o=>(0<=(j:Int)/\(j:Int)<(tb.n:Nat))/\F b o:=fun kk hs hk hF=>
   (hs.rows kk (s:=tb) (cs:=Bx.cs) hk (by omega)).nbI (by omega) (by omega) fun b o q' gq' t=>by
    rw[Ys,gq] at gq';cases gq';exact hF b o t.hd
  refine⟨(j:Int),rfl,x.send,hs.rd 1 rfl (i:=1) rfl,sB_intro (fun d=>?_) (fun d=>?_)⟩
  .rw[if_pos d];refine⟨tb,hs.rd 0 rfl (i:=1) rfl,tb,hs.rd 0 rfl (i:=1) rfl,rdB 6 hs rfl fun b o t=>?_⟩;refine⟨q.s,t,x.label,hs.rd 1 rfl (i:=3) rfl,?_⟩;refine hs.newbE fun h78 E78 hs=>⟨E78.sm,?_⟩;have hs78:=hs;have hqi:(T.map Bx.it)[j]?=some q.it:=by rw[Yd,gq];rfl
   have hqn:=(hs.len (j+8) (s:=q.s) (e:=3) (n:=1) (rows:=q.l.map inC) hqi (by omega)).1;rw[Yc] at hqn;have hq4:=hall q (Yb gq);refine hs.appended (j+8) (s:=q.s) (n:=1) (rows:=q.l.map inC) hqi app42 (m:=1) (news:=[inC x.label]) (hs.at 0 rfl (n:=1) rfl) rfl (by simp[inC]) rfl (by omega) (by simp only[maxLen];omega) fun u h80 nr hs=>?_;refine⟨hs78.smbO hs 1 1 1 rfl rfl,?_⟩;refine hs.set 7 (s:=tb) (cs:=Bx.cs) (x:=(j:Int)) rfl (by omega) (by omega) (by omega) (⟨u,q.l++[x.label]⟩:Bx) rfl rfl (fun b o h83 hs=>?_) rfl;refine⟨ts,tb,hs.at 1 rfl (o:=0) (n:=2) rfl,?_⟩;refine hs.put 3 rfl (o:=0) (vs:=[.slice ts.a ts.n ts.c,.slice tb.a tb.n tb.c]) rfl (show 2<=2 by decide) fun h86 hs=>?_;rw[Ys] at hs;refine⟨ts,tb,hs.at 3 rfl (o:=0) (n:=2) rfl,ts,tb,T.set j ⟨u,q.l++[x.label]⟩,_,rfl,?_,hs,?_⟩
   .rw[List.map_set,hT,hql]
   .refine⟨Yb (i:=6) rfl,Yb (i:=7) rfl,fun z hz=>.inr (.inl ?_),hsl,by rw[Yyh];omega,fun z hz=>?_⟩
    .obtain⟨j',gj⟩:=Yf.1 hz;refine Yb (i:=j'+8) ?_;show ((T.map Bx.it).set j (.sl u 3 1 (q.l.map inC++[inC x.label])))[j']?=_;have e1:It.sl u 3 1 (q.l.map inC++[inC x.label])=Bx.it ⟨u,q.l++[x.label]⟩:=by unfold Bx.it;rw[Ym];rfl
     rw[e1,<-List.map_set,Yd,gj];rfl
    .rcases List.mem_or_eq_of_mem_set hz with hz | rfl
     .have:=hall z hz;omega
     .show (q.l++[x.label]).length<=_;rw[Yh,Yv];omega
  .rw[if_neg (by rw[d];decide)];have hqm:=Yb gq;have hqi:(T.map Bx.it)[j]?=some q.it:=by rw[Yd,gq];rfl
   have hql2:=hs.len (j+7) (s:=q.s) (e:=3) (n:=1) (rows:=q.l.map inC) hqi (by omega);have hqn:=hql2.1;rw[Yc] at hqn;obtain⟨tl,hqe⟩:∃tl,q.l=x.label::tl:=by
    unfold canS at c;rw[hjj,hql] at c;split at c
    .exact absurd c (by decide)
    .rw[if_neg (by rw[d];decide)] at c;cases hq:q.l with
     | nil=>rw[hq] at c;exact absurd c (show ¬((23:Int)=0) by decide)
     | cons l tl=>
      rw[hq] at c;dsimp only at c;split at c
      .exact absurd c (by decide)
      .rename_i e;exact⟨tl,by rw[Classical.not_not.1 e]⟩
   have hqn1:q.s.n=tl.length+1:=by rw[hqn,hqe,Yyj]
   refine⟨tb,hs.rd 0 rfl (i:=1) rfl,tb,hs.rd 0 rfl (i:=1) rfl,rdB 6 hs rfl fun b o t=>?_⟩;refine⟨q.s,t,⟨by omega,by omega,by have:=hql2.2.1;omega⟩,?_⟩;refine hs.set 6 (s:=tb) (cs:=Bx.cs) (x:=(j:Int)) rfl (by omega) (by omega) (by omega) (⟨⟨subA q.s.a (Int.toNat 1) q.s.c 1,Int.toNat (q.s.n:Nat)-Int.toNat 1,q.s.c-Int.toNat 1⟩,tl⟩:Bx) rfl rfl (fun b o h83 hs=>?_) rfl;refine⟨ts,tb,hs.at 0 rfl (o:=0) (n:=2) rfl,?_⟩;refine hs.put 2 rfl (o:=0) (vs:=[.slice ts.a ts.n ts.c,.slice tb.a tb.n tb.c]) rfl (show 2<=2 by decide) fun h86 hs=>?_;rw[Ys] at hs;refine⟨ts,tb,hs.at 2 rfl (o:=0) (n:=2) rfl,?_⟩;generalize hnw:(⟨⟨subA q.s.a (Int.toNat 1) q.s.c 1,Int.toNat (q.s.n:Nat)-Int.toNat 1,q.s.c-Int.toNat 1⟩,tl⟩:Bx)=nw at hs;have hs:=hs.sub (L':=.sl ts 3 1 ((S.set p x.t).map inC) :: .sl tb 25 1 ((T.set j nw).map Bx.cs)::T.map Bx.it) (.cons _ (.cons _ (.cons _ (.cons _ (.cons _ (.refl _))))));have hjt:j<T.length:=(Ya.1 gq).1;have hgj:T[j]=q:=(Ya.1 gq).2;have hp0:(T.map Bx.it).Perm (.sl q.s 3 1 (inC x.label::tl.map inC)::(T.eraseIdx j).map Bx.it):=by
    have h1:(T.map Bx.it).Perm ((T[j]::T.eraseIdx j).map Bx.it):=by
     rw[List.eraseIdx_eq_take_drop_succ];have e2:T=T.take j++T[j]::T.drop (j+1):=by rw[List.getElem_cons_drop,List.take_append_drop]
     have h2:T.Perm (T[j]::(T.take j++T.drop (j+1))):=by
      conv=>lhs;rw[e2]
      exact List.perm_middle
     exact h2.map _
    rw[Yyl,hgj] at h1;have e1:q.it=.sl q.s 3 1 (inC x.label::tl.map inC):=by unfold Bx.it;rw[hqe];rfl
    rw[e1] at h1;exact h1
   have hs:=hs.perm (((hp0.cons _).cons _).trans (List.perm_middle (l₁:=[_,_])));have hs:=(hs.toQ (by omega)).qtail;refine⟨ts,tb,T.set j nw,_,rfl,?_,hs,?_⟩
   .rw[List.map_set,hT,hql,hqe,<-hnw];rfl
   .refine⟨Yn _ Yx,Yn _ (Yn _ Yx),fun z hz=>.inr ?_,hsl,by rw[Yyh];omega,fun z hz=>?_⟩
    .obtain⟨j',gj⟩:=Yf.1 hz;by_cases e:j'=j
     .subst e;rw[Yq hjt] at gj;cases gj;refine .inr ?_;rw[<-hnw];exact Yx
     .rw[Yy (Ne.symm e)] at gj;exact .inl (Yn _ (Yn _ (Yn _ (List.mem_map_of_mem (List.mem_eraseIdx_iff_getElem?.2 ⟨j',e,gj⟩)))))
    .rcases List.mem_or_eq_of_mem_set hz with hz | rfl
     .have:=hall z hz;omega
     .rw[<-hnw];have:=hall q hqm;rw[hqe,Yyj] at this;show tl.length<=_;omega
end Go.VC
end

section
namespace Go.VC
open Go.Proofs Go.LexS
def xm0:Mch:=⟨0,2,0,[false,true],[⟨0,true,1,0,1,false⟩,⟨0,true,1,1,1,false⟩],[]⟩
theorem xm0_get (i:Nat) (x:Mv) (h:xm0.mv[i]?=some x):(i=0/\x=⟨0,true,1,0,1,false⟩)\/(i=1/\x=⟨0,true,1,1,1,false⟩):=by
 match i,h with
 | 0,h=>exact .inl ⟨rfl,(Yyp h).symm⟩
 | 1,h=>exact .inr ⟨rfl,(Yyp h).symm⟩
 | n+2,h=>exact absurd h (by simp[xm0])
theorem xm0_mem (x:Mv) (h:x∈xm0.mv):x=⟨0,true,1,0,1,false⟩\/x=⟨0,true,1,1,1,false⟩:=by
 obtain⟨i,hi⟩:=Yf.1 h;rcases xm0_get i x hi with ⟨_,e⟩ | ⟨_,e⟩
 .exact .inl e
 .exact .inr e
theorem xm0_ag (x:Mv) (h:x∈xm0.mv):x.ag=false:=by
 rcases xm0_mem x h with rfl | rfl<;>rfl
theorem xm0_vm:VM xm0:=by
 refine⟨⟨⟨by decide,by decide⟩,⟨by decide,by decide⟩,⟨by decide,by decide⟩,rfl,by decide,fun x hx=>?_⟩,fun i k x y hx hy hne hf=>?_,fun v h0 h1=>?_,⟨fun x hx ha=>?_,fun x hx ha=>?_,fun x hx ha=>?_,fun x hx ha=>?_,fun x hx ha=>?_⟩,fun i t h=>?_⟩
 .rcases xm0_mem x hx with rfl | rfl<;>decide
 .rcases xm0_get i x hx with ⟨rfl,rfl⟩ | ⟨rfl,rfl⟩<;>rcases xm0_get k y hy with ⟨rfl,rfl⟩ | ⟨rfl,rfl⟩<;>first
   | exact absurd rfl hne
   | exact absurd hf (by decide)
   | exact⟨fun e=>absurd (congrArg Ev.label e) (by decide),rfl⟩
 .have q0:Qr (meds xm0) (-1) [xm0.s] 0:=.base (Ye.2 rfl);have q1:Qr (meds xm0) (-1) [xm0.s] 1:=.step q0 ⟨⟨0,0,0,0,1,false⟩,Yp.2 ⟨⟨0,true,1,0,1,false⟩,by simp[xm0],rfl⟩,rfl,rfl,rfl⟩;have h1:v<2:=h1;have:v=0\/v=1:=by omega
  rcases this with rfl | rfl
  .exact q0
  .exact q1
 .rw[xm0_ag x hx] at ha;cases ha
 .rw[xm0_ag x hx] at ha;cases ha
 .rw[xm0_ag x hx] at ha;cases ha
 .rw[xm0_ag x hx] at ha;cases ha
 .rw[xm0_ag x hx] at ha;cases ha
 .simp[xm0] at h
def xm1:Mch:=⟨1,6,0,[false,false,false,false,false,true],[⟨0,false,0,0,1,false⟩,⟨0,false,0,1,2,false⟩,⟨1,true,2,0,3,false⟩,⟨2,true,2,1,4,false⟩,⟨3,false,2,2,5,false⟩,⟨4,false,2,3,5,false⟩],[]⟩
theorem xm1_get (i:Nat) (x:Mv) (h:xm1.mv[i]?=some x):(i=0/\x=⟨0,false,0,0,1,false⟩)\/(i=1/\x=⟨0,false,0,1,2,false⟩)\/(i=2/\x=⟨1,true,2,0,3,false⟩)\/(i=3/\x=⟨2,true,2,1,4,false⟩)\/(i=4/\x=⟨3,false,2,2,5,false⟩)\/(i=5/\x=⟨4,false,2,3,5,false⟩):=by
 match i,h with
 | 0,h=>exact .inl ⟨rfl,(Yyp h).symm⟩
 | 1,h=>exact .inr (.inl ⟨rfl,(Yyp h).symm⟩)
 | 2,h=>exact .inr (.inr (.inl ⟨rfl,(Yyp h).symm⟩))
 | 3,h=>exact .inr (.inr (.inr (.inl ⟨rfl,(Yyp h).symm⟩)))
 | 4,h=>exact .inr (.inr (.inr (.inr (.inl ⟨rfl,(Yyp h).symm⟩))))
 | 5,h=>exact .inr (.inr (.inr (.inr (.inr ⟨rfl,(Yyp h).symm⟩))))
 | n+6,h=>exact absurd h (by simp[xm1])
theorem xm1_mem (x:Mv) (h:x∈xm1.mv):x=⟨0,false,0,0,1,false⟩\/x=⟨0,false,0,1,2,false⟩\/x=⟨1,true,2,0,3,false⟩\/x=⟨2,true,2,1,4,false⟩\/x=⟨3,false,2,2,5,false⟩\/x=⟨4,false,2,3,5,false⟩:=by
 obtain⟨i,hi⟩:=Yf.1 h;rcases xm1_get i x hi with ⟨_,e⟩ | ⟨_,e⟩ | ⟨_,e⟩ | ⟨_,e⟩ | ⟨_,e⟩ | ⟨_,e⟩
 .exact .inl e
 .exact .inr (.inl e)
 .exact .inr (.inr (.inl e))
 .exact .inr (.inr (.inr (.inl e)))
 .exact .inr (.inr (.inr (.inr (.inl e))))
 .exact .inr (.inr (.inr (.inr (.inr e))))
theorem xm1_ag (x:Mv) (h:x∈xm1.mv):x.ag=false:=by
 rcases xm1_mem x h with rfl | rfl | rfl | rfl | rfl | rfl<;>rfl
theorem xm1_vm:VM xm1:=by
 refine⟨⟨⟨by decide,by decide⟩,⟨by decide,by decide⟩,⟨by decide,by decide⟩,rfl,by decide,fun x hx=>?_⟩,fun i k x y hx hy hne hf=>?_,fun v h0 h1=>?_,⟨fun x hx ha=>?_,fun x hx ha=>?_,fun x hx ha=>?_,fun x hx ha=>?_,fun x hx ha=>?_⟩,fun i t h=>?_⟩
 .rcases xm1_mem x hx with rfl | rfl | rfl | rfl | rfl | rfl<;>decide
 .rcases xm1_get i x hx with ⟨rfl,rfl⟩ | ⟨rfl,rfl⟩ | ⟨rfl,rfl⟩ | ⟨rfl,rfl⟩ | ⟨rfl,rfl⟩ | ⟨rfl,rfl⟩<;>rcases xm1_get k y hy with ⟨rfl,rfl⟩ | ⟨rfl,rfl⟩ | ⟨rfl,rfl⟩ | ⟨rfl,rfl⟩ | ⟨rfl,rfl⟩ | ⟨rfl,rfl⟩<;>first
   | exact absurd rfl hne
   | exact absurd hf (by decide)
   | exact⟨fun e=>absurd (congrArg Ev.label e) (by decide),rfl⟩
 .have q0:Qr (meds xm1) (-1) [xm1.s] 0:=.base (Ye.2 rfl);have q1:Qr (meds xm1) (-1) [xm1.s] 1:=.step q0 ⟨⟨0,0,0,0,1,false⟩,Yp.2 ⟨⟨0,false,0,0,1,false⟩,by simp[xm1],rfl⟩,rfl,rfl,rfl⟩;have q2:Qr (meds xm1) (-1) [xm1.s] 2:=.step q0 ⟨⟨0,0,0,0,2,false⟩,Yp.2 ⟨⟨0,false,0,1,2,false⟩,by simp[xm1],rfl⟩,rfl,rfl,rfl⟩;have q3:Qr (meds xm1) (-1) [xm1.s] 3:=.step q1 ⟨⟨1,0,0,0,3,false⟩,Yp.2 ⟨⟨1,true,2,0,3,false⟩,by simp[xm1],rfl⟩,rfl,rfl,rfl⟩;have q4:Qr (meds xm1) (-1) [xm1.s] 4:=.step q2 ⟨⟨2,0,0,0,4,false⟩,Yp.2 ⟨⟨2,true,2,1,4,false⟩,by simp[xm1],rfl⟩,rfl,rfl,rfl⟩;have q5:Qr (meds xm1) (-1) [xm1.s] 5:=.step q3 ⟨⟨3,0,0,0,5,false⟩,Yp.2 ⟨⟨3,false,2,2,5,false⟩,by simp[xm1],rfl⟩,rfl,rfl,rfl⟩;have h1:v<6:=h1;have:v=0\/v=1\/v=2\/v=3\/v=4\/v=5:=by omega
  rcases this with rfl | rfl | rfl | rfl | rfl | rfl
  .exact q0
  .exact q1
  .exact q2
  .exact q3
  .exact q4
  .exact q5
 .rw[xm1_ag x hx] at ha;cases ha
 .rw[xm1_ag x hx] at ha;cases ha
 .rw[xm1_ag x hx] at ha;cases ha
 .rw[xm1_ag x hx] at ha;cases ha
 .rw[xm1_ag x hx] at ha;cases ha
 .simp[xm1] at h
def xm2:Mch:=⟨2,4,0,[false,false,false,true],[⟨0,false,1,0,1,false⟩,⟨0,false,1,1,2,false⟩,⟨1,true,1,2,3,false⟩,⟨2,true,1,3,3,false⟩],[]⟩
theorem xm2_get (i:Nat) (x:Mv) (h:xm2.mv[i]?=some x):(i=0/\x=⟨0,false,1,0,1,false⟩)\/(i=1/\x=⟨0,false,1,1,2,false⟩)\/(i=2/\x=⟨1,true,1,2,3,false⟩)\/(i=3/\x=⟨2,true,1,3,3,false⟩):=by
 match i,h with
 | 0,h=>exact .inl ⟨rfl,(Yyp h).symm⟩
 | 1,h=>exact .inr (.inl ⟨rfl,(Yyp h).symm⟩)
 | 2,h=>exact .inr (.inr (.inl ⟨rfl,(Yyp h).symm⟩))
 | 3,h=>exact .inr (.inr (.inr ⟨rfl,(Yyp h).symm⟩))
 | n+4,h=>exact absurd h (by simp[xm2])
theorem xm2_mem (x:Mv) (h:x∈xm2.mv):x=⟨0,false,1,0,1,false⟩\/x=⟨0,false,1,1,2,false⟩\/x=⟨1,true,1,2,3,false⟩\/x=⟨2,true,1,3,3,false⟩:=by
 obtain⟨i,hi⟩:=Yf.1 h;rcases xm2_get i x hi with ⟨_,e⟩ | ⟨_,e⟩ | ⟨_,e⟩ | ⟨_,e⟩
 .exact .inl e
 .exact .inr (.inl e)
 .exact .inr (.inr (.inl e))
 .exact .inr (.inr (.inr e))
theorem xm2_ag (x:Mv) (h:x∈xm2.mv):x.ag=false:=by
 rcases xm2_mem x h with rfl | rfl | rfl | rfl<;>rfl
theorem xm2_vm:VM xm2:=by
 refine⟨⟨⟨by decide,by decide⟩,⟨by decide,by decide⟩,⟨by decide,by decide⟩,rfl,by decide,fun x hx=>?_⟩,fun i k x y hx hy hne hf=>?_,fun v h0 h1=>?_,⟨fun x hx ha=>?_,fun x hx ha=>?_,fun x hx ha=>?_,fun x hx ha=>?_,fun x hx ha=>?_⟩,fun i t h=>?_⟩
 .rcases xm2_mem x hx with rfl | rfl | rfl | rfl<;>decide
 .rcases xm2_get i x hx with ⟨rfl,rfl⟩ | ⟨rfl,rfl⟩ | ⟨rfl,rfl⟩ | ⟨rfl,rfl⟩<;>rcases xm2_get k y hy with ⟨rfl,rfl⟩ | ⟨rfl,rfl⟩ | ⟨rfl,rfl⟩ | ⟨rfl,rfl⟩<;>first
   | exact absurd rfl hne
   | exact absurd hf (by decide)
   | exact⟨fun e=>absurd (congrArg Ev.label e) (by decide),rfl⟩
 .have q0:Qr (meds xm2) (-1) [xm2.s] 0:=.base (Ye.2 rfl);have q1:Qr (meds xm2) (-1) [xm2.s] 1:=.step q0 ⟨⟨0,0,0,0,1,false⟩,Yp.2 ⟨⟨0,false,1,0,1,false⟩,by simp[xm2],rfl⟩,rfl,rfl,rfl⟩;have q2:Qr (meds xm2) (-1) [xm2.s] 2:=.step q0 ⟨⟨0,0,0,0,2,false⟩,Yp.2 ⟨⟨0,false,1,1,2,false⟩,by simp[xm2],rfl⟩,rfl,rfl,rfl⟩;have q3:Qr (meds xm2) (-1) [xm2.s] 3:=.step q1 ⟨⟨1,0,0,0,3,false⟩,Yp.2 ⟨⟨1,true,1,2,3,false⟩,by simp[xm2],rfl⟩,rfl,rfl,rfl⟩;have h1:v<4:=h1;have:v=0\/v=1\/v=2\/v=3:=by omega
  rcases this with rfl | rfl | rfl | rfl
  .exact q0
  .exact q1
  .exact q2
  .exact q3
 .rw[xm2_ag x hx] at ha;cases ha
 .rw[xm2_ag x hx] at ha;cases ha
 .rw[xm2_ag x hx] at ha;cases ha
 .rw[xm2_ag x hx] at ha;cases ha
 .rw[xm2_ag x hx] at ha;cases ha
 .simp[xm2] at h
def xr0:Mch:=⟨0,3,0,[false,true,true],[⟨0,true,1,0,1,false⟩,⟨0,true,1,1,2,false⟩],[]⟩
theorem xr0_raw (hr hd he ht:Sl):rawC (exGl true hr hd he ht) 0=some (some xr0,0):=by kernel_rfl
theorem xm1_raw (hr hd he ht:Sl):rawC (exGl true hr hd he ht) 1=some (some xm1,0):=by kernel_rfl
theorem xm2_raw (hr hd he ht:Sl):rawC (exGl true hr hd he ht) 2=some (some xm2,0):=by kernel_rfl
theorem xm0_min:minF xr0=xm0:=by kernel_rfl
theorem xm1_min:minF xm1=xm1:=by kernel_rfl
theorem xm2_min:minF xm2=xm2:=by kernel_rfl
theorem xproj (hr hd he ht:Sl) (i:Int) (w m:Mch) (h0:0<=i) (h3:i<((3:Nat):Int)) (hw:rawC (exGl true hr hd he ht) i=some (some w,0)) (hm:minF w=m):proj (exGl true hr hd he ht) i=(some m,0):=by
 have:=rawC_ok (ex_valid true hr hd he ht) h0 h3 hw;unfold proj;rw[this];show (some (minF w),0)=_;rw[hm]
def xL:List Mch:=[xm0,xm1,xm2]
theorem xsys:SysV xL:=by
 refine⟨⟨by decide,by decide⟩,fun p m h=>?_⟩
 match p,h with
 | 0,h=>cases h;exact⟨rfl,xm0_vm,fun x hx=>by rcases xm0_mem x hx with rfl | rfl<;>decide⟩
 | 1,h=>cases h;exact⟨rfl,xm1_vm,fun x hx=>by rcases xm1_mem x hx with rfl | rfl | rfl | rfl | rfl | rfl<;>decide⟩
 | 2,h=>cases h;exact⟨rfl,xm2_vm,fun x hx=>by rcases xm2_mem x hx with rfl | rfl | rfl | rfl<;>decide⟩
 | n+3,h=>exact absurd h (by simp[xL])
theorem stepsP_of {n:Nat} {k:Int} {S:List Int} {BL:List (List Int)} {p:Nat} {m:Mch} (hD:DetM m) {O:List Nat} (h1:(List.range m.mv.length).filter (posB n k S BL p m)=O) (h2:O.Pairwise fun a b=>¬evLt (evI m b) (evI m a)):stepsP n k S BL p m=O:=(steps_uniq hD (by rw[h1]) h2).symm

structure FinS (L:List Mch) (S:List Int) (BL:List (List Int)):Prop where
 s:∀(p:Nat) s m,S[p]?=some s->L[p]?=some m->m.fin[s.toNat]?=some true
 b:∀b∈BL,b=[]
theorem cal94:callable Pz 114=true:=by kernel_rfl
theorem index131 (B:List Bx) (s:Sl) (h:Heap) (hr:RL h 1 s Bx.cs B) (hi:∀q∈B,RL h 1 q.s inC q.l) :
  Fn Pz 158 #[.slice s.a s.n s.c,.func (.func 114) #[] #[]] h fun v h'=>(∃k:Int,v=.int .i64 k/\(0<=k ↔ ¬∀b∈B.map Bx.l,b=[]))/\Ext h h':=by
 apply vc158 s 114;unfold W158;have hn:=hr.ln;have hl:=hr.sm;refine up_loop (n:=s.n) (fun i h'=>Ext h h'/\∀(j:Nat) (x:Bx),j<i->B[j]?=some x->x.l=[]) ⟨.rfl',fun j x hj=>by omega⟩ ?_;rintro-i h5 hi' ⟨E,hq⟩;refine sB_intro (fun c=>?_) (fun c=>?_)
 .replace c:=lt_t c;refine (hr.rw.ext E).nbI (by omega) (by omega) fun b6 o7 x gx t14=>?_;replace gx:B[i]?=some x:=gx;have hm:=Yb gx;have hxn:=(hi x hm).ln;refine⟨x.s,t14.hd,?_⟩;rw[cal94,cond_true];apply vc114 x.s;unfold W114;refine⟨_,rfl,sBi (fun c2=>?_) (fun c2=>?_)⟩
  .refine⟨⟨_,rfl,iff_of_true (by omega) fun hall=>?_⟩,E⟩;have:=hall x.l (List.mem_map_of_mem hm);rw[this] at hxn;simp at hxn;omega
  .refine Up.next (by omega) (by omega) ⟨E,fun j y hj hy=>?_⟩;by_cases e:j=i
   .subst e;rw[gx] at hy;cases hy;exact List.eq_nil_of_length_eq_zero (by omega)
   .exact hq j y (by omega) hy
 .replace c:=lt_f c;refine⟨⟨_,rfl,iff_of_false (by omega) fun hall=>hall fun b hb=>?_⟩,E⟩;obtain⟨x,hx,rfl⟩:=Yp.1 hb;obtain⟨j,hj⟩:=Yf.1 hx;exact hq j x (by have:=(Ya.1 hj).1;omega) hj
theorem any93 (B:List Bx) (s:Sl) (h:Heap) (hr:RL h 1 s Bx.cs B) (hi:∀q∈B,RL h 1 q.s inC q.l) :
  Fn Pz 113 #[.slice s.a s.n s.c,.func (.func 114) #[] #[]] h (RP (¬∀b∈B.map Bx.l,b=[]) h):=by
 apply vc113 s 114;unfold W113;refine (index131 B s h hr hi).mono ?_;rintro _ h3 ⟨⟨k,rfl,hk⟩,E⟩;exact⟨_,rfl,RP.e (by rw[decide_eq_true_eq];exact hk) E⟩
theorem final67 (L:List MR) (s:Sl) (k:Int) (ss sb:Sl) (S:List Int) (B:List Bx) (h:Heap) (hS:SyI h s L) (hC:CfI h ss sb S B) (hP:ProS (L.map MR.m) k S (B.map Bx.l)) :
  Fn Pz 58 #[.slice s.a s.n s.c,.agg ⟨[.slice ss.a ss.n ss.c,.slice sb.a sb.n sb.c]⟩] h (RP (FinS (L.map MR.m) S (B.map Bx.l)) h):=by
 apply vc58 s ss sb;unfold W58;have hn:=hS.r.ln;have hsn:=hC.s.ln;have hsm:=hC.s.sm;have hlm:(L.map MR.m).length=L.length:=Yc _;have hSl:=hP.p.s;rw[hlm] at hSl;refine (St.refl h).newb fun h3 hs=>?_;refine⟨ss,hs.rd 0 rfl (i:=0) rfl,?_⟩;refine up_loopS (n:=ss.n) hs (fun i=>∀(p:Nat) z m,p<i->S[p]?=some z->(L.map MR.m)[p]?=some m->m.fin[z.toNat]?=some true) (fun p z m hj=>by omega) ?_;rintro-i h9 hi ⟨hs,hq⟩;refine sB_intro (fun c=>?_) (fun c=>?_)
 .replace c:=lt_t c;refine (hC.s.rw.ext hs.ext).nbI (by omega) (by omega) fun b10 o11 z gz t=>?_;replace gz:S[i]?=some z:=gz;refine⟨z,t.hd,?_⟩;refine (hS.r.rw.ext hs.ext).nbI (by omega) (by omega) fun b o y gy t2=>?_;replace gy:L[i]?=some y:=gy;have gm:(L.map MR.m)[i]?=some y.m:=by rw[Yd,gy];rfl
  have hyi:=hS.i y (Yb gy);have hfl:=(hP.v.m i y.m gm).2.1.n.fl;have hz:=hP.p.st i z y.m gz gm;have hfn:=hyi.pf.ln;refine⟨y.f,t2.nth 3 rfl,?_⟩;refine (hyi.pf.rw.ext hs.ext).nbI hz.1 (by omega) fun b o f gf t3=>?_;refine⟨f,t3.hd,sB_intro (fun d=>?_) (fun d=>?_)⟩
  .refine RP.f (fun hF=>?_) hs.ext;have:=hF.s i z y.m gz gm;rw[gf] at this;cases this;cases d
  .refine Up.next (by omega) (by omega) ⟨hs,fun p z' m' hj h1 h2=>?_⟩;by_cases e:p=i
   .subst e;rw[gz] at h1;rw[gm] at h2;cases h1;cases h2;rw[gf];cases f
    .cases d
    .rfl
   .exact hq p z' m' (by omega) h1 h2
 .replace c:=lt_f c;refine⟨sb,hs.rd 0 rfl (i:=1) rfl,?_⟩;refine (any93 B sb h9 (hC.b.ext hs.ext) fun q hq=>(hC.i q hq).ext hs.ext).mono ?_;rintro _ h23 ⟨⟨b,rfl,hb⟩,E⟩;refine⟨b,rfl,RP.e ?_ (hs.ext.trans E)⟩;have hall:∀(p:Nat) z m,S[p]?=some z->(L.map MR.m)[p]?=some m->m.fin[z.toNat]?=some true:=fun p z m h1 h2=>hq p z m (by have:=(Ya.1 h1).1;omega) h1 h2;cases b with
  | true=>exact iff_of_false (by decide) fun hF=>hb.1 rfl hF.b
  | false=>exact iff_of_true rfl ⟨hall,Classical.not_not.1 fun hn=>by have:=hb.2 hn;cases this⟩
theorem done68 (L:List MR) (s:Sl) (k:Int) (ss sb:Sl) (S:List Int) (B:List Bx) (h:Heap) (hS:SyI h s L) (hC:CfI h ss sb S B) (hP:ProS (L.map MR.m) k S (B.map Bx.l)) :
  Fn Pz 106 #[.slice s.a s.n s.c,.agg ⟨[.slice ss.a ss.n ss.c,.slice sb.a sb.n sb.c]⟩] h (RP (FinS (L.map MR.m) S (B.map Bx.l)) h):=by
 apply vc106 s ss sb;unfold W106;have hn:=hS.r.ln;have hsn:=hC.s.ln;have hbn:=hC.b.ln;have hsm:=hC.s.sm;have hbs:=hC.b.sm;have hlm:(L.map MR.m).length=L.length:=Yc _;have hSl:=hP.p.s;rw[hlm] at hSl;refine (St.refl h).newb fun h3 hs=>?_;refine up_loopS (n:=s.n) hs (fun i=>∀(p:Nat) z m,p<i->S[p]?=some z->(L.map MR.m)[p]?=some m->m.fin[z.toNat]?=some true) (fun p z m hj=>by omega) ?_;rintro-i h9 hi ⟨hs,hq⟩;refine sB_intro (fun c=>?_) (fun c=>?_)
 .replace c:=lt_t c;refine (hS.r.rw.ext hs.ext).nbI (by omega) (by omega) fun b o y gy t2=>?_;replace gy:L[i]?=some y:=gy;have gm:(L.map MR.m)[i]?=some y.m:=by rw[Yd,gy];rfl
  have hyi:=hS.i y (Yb gy);have hfl:=(hP.v.m i y.m gm).2.1.n.fl;have hfn:=hyi.pf.ln;refine⟨y.f,t2.nth 3 rfl,ss,hs.rd 0 rfl (i:=0) rfl,?_⟩;refine (hC.s.rw.ext hs.ext).nbI (by omega) (by omega) fun b10 o11 z gz t=>?_;replace gz:S[i]?=some z:=gz;have hz:=hP.p.st i z y.m gz gm;refine⟨z,t.hd,?_⟩;refine (hyi.pf.rw.ext hs.ext).nbI hz.1 (by omega) fun b o f gf t3=>?_;refine⟨f,t3.hd,sB_intro (fun d=>?_) (fun d=>?_)⟩
  .refine RP.f (fun hF=>?_) hs.ext;have:=hF.s i z y.m gz gm;rw[gf] at this;cases this;cases d
  .refine Up.next (by omega) (by omega) ⟨hs,fun p z' m' hj h1 h2=>?_⟩;by_cases e:p=i
   .subst e;rw[gz] at h1;rw[gm] at h2;cases h1;cases h2;rw[gf];cases f
    .cases d
    .rfl
   .exact hq p z' m' (by omega) h1 h2
 .replace c:=lt_f c;have hall:∀(p:Nat) z m,S[p]?=some z->(L.map MR.m)[p]?=some m->m.fin[z.toNat]?=some true:=fun p z m h1 h2=>hq p z m (by have:=(Ya.1 h1).1;omega) h1 h2;refine up_loopS (n:=sb.n) hs (fun i=>∀(j:Nat) (x:Bx),j<i->B[j]?=some x->x.l=[]) (fun p z hj=>by omega) ?_;rintro-i h24 hi ⟨hs,hq⟩;refine⟨sb,hs.rd 0 rfl (i:=1) rfl,sB_intro (fun c=>?_) (fun c=>?_)⟩
  .replace c:=lt_t c;refine⟨sb,hs.rd 0 rfl (i:=1) rfl,?_⟩;refine (hC.b.rw.ext hs.ext).nbI (by omega) (by omega) fun b o x gx t=>?_;replace gx:B[i]?=some x:=gx;have hm:=Yb gx;have hxn:=(hC.i x hm).ln;refine⟨x.s,t.hd,sBi (fun d=>?_) (fun d=>?_)⟩
   .refine RP.f (fun hF=>?_) hs.ext;have:=hF.b x.l (List.mem_map_of_mem hm);rw[this] at hxn;simp at hxn;omega
   .refine Up.next (by omega) (by omega) ⟨hs,fun j y hj hy=>?_⟩;by_cases e:j=i
    .subst e;rw[gx] at hy;cases hy;exact List.eq_nil_of_length_eq_zero (by omega)
    .exact hq j y (by omega) hy
  .replace c:=lt_f c;refine RP.t ⟨hall,fun b hb=>?_⟩ hs.ext;obtain⟨x,hx,rfl⟩:=Yp.1 hb;obtain⟨j,hj⟩:=Yf.1 hx;exact hq j x (by have:=(Ya.1 hj).1;omega) hj
def tailN (p0:Sl) (ob b0 b5 b6 b7:Nat) (h0:Heap) (R:Value->Heap->Prop):Prop:=
 (∃x33,rS h0 ⟨ob,0,none⟩ x33 /\ 
 (∃x34,rI h0 ⟨b5,0,none⟩ x34 /\ 
 (∃x35,rI h0 ⟨b7,4,none⟩ x35 /\ 
 (NB x33.a fun b36 o37=>(Ib x34 x33.n /\ 
 (Wp h0 ⟨b36,o37+Int.toNat x34*1,none⟩ 1 [vI x35] fun h38=>
 (∃x39,rB h38 ⟨b7,1,none⟩ x39 /\ 
 (sB x39 
 ((∃x40,rI h38 ⟨b5,0,none⟩ x40 /\ 
 (∃x41,rI h38 ⟨b7,2,none⟩ x41 /\ 
 (∃x42,rS h38 ⟨ob,1,none⟩ x42 /\ 
 (∃x43,rS h38 ⟨b0,1,none⟩ x43 /\ 
 (NB x43.a fun b44 o45=>((0<=((IntKind.wrap .i64 ((IntKind.wrap .i64 ((p0.n:Int)*x40))+x41)):Int)/\((IntKind.wrap .i64 ((IntKind.wrap .i64 ((p0.n:Int)*x40))+x41)):Int)<(x43.n:Nat)) /\ 
 (∃x46,rS h38 ⟨b44,o45+Int.toNat (IntKind.wrap .i64 ((IntKind.wrap .i64 ((p0.n:Int)*x40))+x41))*1,none⟩ x46 /\ 
 (∃x47,rI h38 ⟨b7,3,none⟩ x47 /\ 
 ((Wn h38 [] 3 fun h48=>
 (Sm [⟨b7,3,none⟩,⟨b44,o45+Int.toNat (IntKind.wrap .i64 ((IntKind.wrap .i64 ((p0.n:Int)*x40))+x41))*1,none⟩,⟨b0,1,none⟩,⟨ob,1,none⟩] h38 h48 /\ 
 ((App Pz 25 25 (.slice (some (aS h38 0)) 0 0) (vS x46) h48 fun s49 h50=>
 (Sm [⟨b7,3,none⟩,⟨ob,1,none⟩] h48 h50 /\ 
 (Wn h50 [vI x47] 3 fun h51=>
 (Sm [⟨b44,o45+Int.toNat (IntKind.wrap .i64 ((IntKind.wrap .i64 ((p0.n:Int)*x40))+x41))*1,none⟩,⟨b0,1,none⟩,⟨ob,1,none⟩] h50 h51 /\ 
 (App Pz 25 25 (vS s49) (.slice (some (aS h50 0)) 1 1) h51 fun s52 h53=>
 (Sm [⟨ob,1,none⟩] h51 h53 /\ 
 (NB x42.a fun b54 o55=>((0<=((IntKind.wrap .i64 ((IntKind.wrap .i64 ((p0.n:Int)*x40))+x41)):Int)/\((IntKind.wrap .i64 ((IntKind.wrap .i64 ((p0.n:Int)*x40))+x41)):Int)<(x42.n:Nat)) /\ 
 (Wp h53 ⟨b54,o55+Int.toNat (IntKind.wrap .i64 ((IntKind.wrap .i64 ((p0.n:Int)*x40))+x41))*1,none⟩ 1 [vS s52] fun h56=>
 (∃x57:Sl,∃x58:Sl,atC h56 ⟨ob,0,none⟩ [vS x57,vS x58] /\ 
 (Wp h56 ⟨b6,0,none⟩ 2 [vS x57,vS x58] fun h59=>
 (∃x60:Sl,∃x61:Sl,atC h59 ⟨b6,0,none⟩ [vS x60,vS x61] /\ 
 R (.agg ⟨[vS x60,vS x61]⟩) h59)))))))))))))/\((Wn h48 [vI x47] 3 fun h62=>
 (Sm [⟨b44,o45+Int.toNat (IntKind.wrap .i64 ((IntKind.wrap .i64 ((p0.n:Int)*x40))+x41))*1,none⟩,⟨b0,1,none⟩,⟨ob,1,none⟩] h48 h62 /\ 
 (App Pz 25 25 (.slice (some (aS h38 0)) 0 0) (vS x46) h62 fun s63 h64=>
 (Sm [⟨b7,3,none⟩,⟨ob,1,none⟩] h62 h64 /\ 
 (App Pz 25 25 (vS s63) (.slice (some (aS h48 0)) 1 1) h64 fun s65 h66=>
 (Sm [⟨ob,1,none⟩] h64 h66 /\ 
 (NB x42.a fun b67 o68=>((0<=((IntKind.wrap .i64 ((IntKind.wrap .i64 ((p0.n:Int)*x40))+x41)):Int)/\((IntKind.wrap .i64 ((IntKind.wrap .i64 ((p0.n:Int)*x40))+x41)):Int)<(x42.n:Nat)) /\ 
 (Wp h66 ⟨b67,o68+Int.toNat (IntKind.wrap .i64 ((IntKind.wrap .i64 ((p0.n:Int)*x40))+x41))*1,none⟩ 1 [vS s65] fun h69=>
 (∃x70:Sl,∃x71:Sl,atC h69 ⟨ob,0,none⟩ [vS x70,vS x71] /\ 
 (Wp h69 ⟨b6,0,none⟩ 2 [vS x70,vS x71] fun h72=>
 (∃x73:Sl,∃x74:Sl,atC h72 ⟨b6,0,none⟩ [vS x73,vS x74] /\ 
 R (.agg ⟨[vS x73,vS x74]⟩) h72))))))))))))))))/\((Wn h38 [vI x47] 3 fun h75=>
 (Sm [⟨b44,o45+Int.toNat (IntKind.wrap .i64 ((IntKind.wrap .i64 ((p0.n:Int)*x40))+x41))*1,none⟩,⟨b0,1,none⟩,⟨ob,1,none⟩] h38 h75 /\ 
 (Wn h75 [] 3 fun h76=>
 (Sm [⟨b7,3,none⟩,⟨b44,o45+Int.toNat (IntKind.wrap .i64 ((IntKind.wrap .i64 ((p0.n:Int)*x40))+x41))*1,none⟩,⟨b0,1,none⟩,⟨ob,1,none⟩] h75 h76 /\ 
 (App Pz 25 25 (.slice (some (aS h75 0)) 0 0) (vS x46) h76 fun s77 h78=>
 (Sm [⟨b7,3,none⟩,⟨ob,1,none⟩] h76 h78 /\ 
 (App Pz 25 25 (vS s77) (.slice (some (aS h38 0)) 1 1) h78 fun s79 h80=>
 (Sm [⟨ob,1,none⟩] h78 h80 /\ 
 (NB x42.a fun b81 o82=>((0<=((IntKind.wrap .i64 ((IntKind.wrap .i64 ((p0.n:Int)*x40))+x41)):Int)/\((IntKind.wrap .i64 ((IntKind.wrap .i64 ((p0.n:Int)*x40))+x41)):Int)<(x42.n:Nat)) /\ 
 (Wp h80 ⟨b81,o82+Int.toNat (IntKind.wrap .i64 ((IntKind.wrap .i64 ((p0.n:Int)*x40))+x41))*1,none⟩ 1 [vS s79] fun h83=>
 (∃x84:Sl,∃x85:Sl,atC h83 ⟨ob,0,none⟩ [vS x84,vS x85] /\ 
 (Wp h83 ⟨b6,0,none⟩ 2 [vS x84,vS x85] fun h86=>
 (∃x87:Sl,∃x88:Sl,atC h86 ⟨b6,0,none⟩ [vS x87,vS x88] /\ 
 R (.agg ⟨[vS x87,vS x88]⟩) h86)))))))))))))))))))))))) 
 ((∃x89,rI h38 ⟨b7,2,none⟩ x89 /\ 
 (∃x90,rI h38 ⟨b5,0,none⟩ x90 /\ 
 (∃x91,rS h38 ⟨ob,1,none⟩ x91 /\ 
 (∃x92,rS h38 ⟨b0,1,none⟩ x92 /\ 
 (NB x92.a fun b93 o94=>((0<=((IntKind.wrap .i64 ((IntKind.wrap .i64 ((p0.n:Int)*x89))+x90)):Int)/\((IntKind.wrap .i64 ((IntKind.wrap .i64 ((p0.n:Int)*x89))+x90)):Int)<(x92.n:Nat)) /\ 
 (∃x95,rS h38 ⟨b93,o94+Int.toNat (IntKind.wrap .i64 ((IntKind.wrap .i64 ((p0.n:Int)*x89))+x90))*1,none⟩ x95 /\ 
 (((0:Int)<=(1:Int)/\(1:Int)<=((x95.n:Nat):Int)/\((x95.n:Nat):Int)<=(x95.c:Nat)) /\ 
 (Wn h38 [] 3 fun h96=>
 (Sm [⟨b93,o94+Int.toNat (IntKind.wrap .i64 ((IntKind.wrap .i64 ((p0.n:Int)*x89))+x90))*1,none⟩,⟨b0,1,none⟩,⟨ob,1,none⟩] h38 h96 /\ 
 (App Pz 25 25 (.slice (some (aS h38 0)) 0 0) (.slice (subA x95.a (Int.toNat 1) x95.c 1) (Int.toNat (x95.n:Nat)-Int.toNat 1) (x95.c-Int.toNat 1)) h96 fun s97 h98=>
 (Sm [⟨ob,1,none⟩] h96 h98 /\ 
 (NB x91.a fun b99 o100=>((0<=((IntKind.wrap .i64 ((IntKind.wrap .i64 ((p0.n:Int)*x89))+x90)):Int)/\((IntKind.wrap .i64 ((IntKind.wrap .i64 ((p0.n:Int)*x89))+x90)):Int)<(x91.n:Nat)) /\ 
 (Wp h98 ⟨b99,o100+Int.toNat (IntKind.wrap .i64 ((IntKind.wrap .i64 ((p0.n:Int)*x89))+x90))*1,none⟩ 1 [vS s97] fun h101=>
 (∃x102:Sl,∃x103:Sl,atC h101 ⟨ob,0,none⟩ [vS x102,vS x103] /\ 
 (Wp h101 ⟨b6,0,none⟩ 2 [vS x102,vS x103] fun h104=>
 (∃x105:Sl,∃x106:Sl,atC h104 ⟨b6,0,none⟩ [vS x105,vS x106] /\ 
 R (.agg ⟨[vS x105,vS x106]⟩) h104)))))))))))))))))))))))))))
theorem Sm_two {a b:Addr} {h h':Heap} (h1:Sm [a] h h') (h2:Sm [b] h h'):Sm [a,b] h h':=fun x hx k v hv=>by
 rcases Yr.1 hx with rfl | hx
 .exact h1 _ Yx k v hv
 .exact h2 _ hx k v hv
theorem Rw.tail1 {h:Heap} {s:Sl} {row:List Value} {rows:List (List Value)} (hr:Rw h 1 s (row::rows)) (hc:s.n<=s.c) (h1:1<=s.n):Rw h 1 ⟨subA s.a (Int.toNat 1) s.c 1,Int.toNat (s.n:Nat)-Int.toNat 1,s.c-Int.toNat 1⟩ rows/\subA s.a (Int.toNat 1) s.c 1≠none:=by
 obtain⟨e1,e2⟩:=hr;rw[Yyj] at e1;obtain⟨b,o,ha,hrow⟩:=e2 (by simp);have e3:Int.toNat (1:Int)=1:=rfl;rw[e3,Ys];refine⟨⟨by show s.n-1=_;omega,fun hp=>?_⟩,?_⟩
 .have hc1:¬s.c=1:=by omega
  refine⟨b,o+1,?_,fun i r hi=>?_⟩
  .show subA s.a 1 s.c 1=_;unfold subA;rw[if_neg hc1,ha,Option.map_some,Nat.one_mul,Addr.add_lit]
  .have:=hrow (i+1) r hi
   rwa [show o+(i+1)*1=o+1+i*1 by omega] at this
 .show subA s.a 1 s.c 1≠none;unfold subA;rw[ha];split<;>simp
def NexV (S:List Int) (B:List Bx) (p j:Nat) (x:Mv) (l:List Int) (h:Heap) (v:Value) (h':Heap):Prop:=∃(ts tb u:Sl),v=cfA ts tb/\St h h' [.sl ts 3 1 ((S.set p x.t).map inC),.sl tb 25 1 ((B.set j ⟨u,l⟩).map Bx.cs),.sl u 3 1 (l.map inC)]
theorem tailN_ok (n:Nat) (s ss sb ts tb u1 u2:Sl) (S:List Int) (B:List Bx) (p:Nat) (i:Int) (x:Mv) (q:Bx) (l:List Int) (ob b0 b5 b6 b7:Nat) (h h0:Heap) (hC:CfI h ss sb S B) (hn:s.n=n) (h6:n<=6) (hp:p<n) (hx0:0<=x.peer) (hx1:x.peer<(n:Int)) (hS:S.length=n) (hB:B.length=n*n)
  (gq:B[bxI n p x]?=some q) (hq:q.l.length<=4) (hl:l=if x.send=true then q.l++[x.label] else q.l.tail) (hr:x.send=false->1<=q.l.length)
  (hs:St h h0 [.blk ob [.slice ts.a ts.n ts.c,.slice tb.a tb.n tb.c] 28,.sl ts 3 1 (S.map inC),.sl tb 25 1 (B.map Bx.cs),.blk b7 x.cs 110,.blk b6 [.slice u1.a u1.n u1.c,.slice u2.a u2.n u2.c] 28,.blk b5 [.int .i64 (p:Int),.int .i64 i] 62,.blk b0 [.slice ss.a ss.n ss.c,.slice sb.a sb.n sb.c] 28]) :
  tailN s ob b0 b5 b6 b7 h0 (NexV S B p (bxI n p x) x l h):=by
 unfold tailN;have h36:=sq6 h6;have hj:=bxI_lt (n:=n) (x:=x) hp hx0 hx1;have hts:=(hs.rows 1 (s:=ts) (cs:=inC) rfl (by omega)).ln;have htb:=(hs.rows 2 (s:=tb) (cs:=Bx.cs) rfl (by omega)).ln;have hbn:=hC.b.ln;have hqs:=hC.i q (Yb gq);have hqn:=hqs.ln;obtain⟨pe,hpe⟩:∃pe:Nat,x.peer=(pe:Int):=⟨x.peer.toNat,by omega⟩;have hpt:x.peer.toNat=pe:=by omega
 refine⟨ts,hs.rd 0 rfl (i:=0) rfl,(p:Int),hs.rd 5 rfl (i:=0) rfl,x.t,hs.rd 3 rfl (i:=4) rfl,?_⟩;refine hs.set 1 (s:=ts) (cs:=inC) (x:=(p:Int)) rfl (by omega) (by omega) (by omega) x.t rfl rfl (fun b o h38 hs=>?_) rfl;rw[Ys] at hs;have hw1:∀a b:Nat,a<n->b<n->IntKind.wrap .i64 (IntKind.wrap .i64 ((s.n:Int)*(a:Int))+(b:Int))=((n*a+b:Nat):Int):=fun a b ha hb=>by
  have e1:(s.n:Int)*(a:Int)=((n*a:Nat):Int):=by rw[hn];rfl
  have:=two_lt ha hb;rw[e1,w64 (n:=((n*a:Nat):Int)) (by omega) (by omega)];rw[w64 (by omega) (by omega)];rfl
 have fin:∀ {u:Sl} {hh:Heap} {A:List It} ,St h hh (A++[.sl u 3 1 (l.map inC),.blk ob [.slice ts.a ts.n ts.c,.slice tb.a tb.n tb.c] 28,.sl ts 3 1 ((S.set p x.t).map inC),.sl tb 25 1 ((B.set (bxI n p x) ⟨u,l⟩).map Bx.cs),.blk b7 x.cs 110,.blk b6 [.slice u1.a u1.n u1.c,.slice u2.a u2.n u2.c] 28,.blk b5 [.int .i64 (p:Int),.int .i64 i] 62,.blk b0 [.slice ss.a ss.n ss.c,.slice sb.a sb.n sb.c] 28]) ->
   (∃x57:Sl,∃x58:Sl,atC hh ⟨ob,0,none⟩ [.slice x57.a x57.n x57.c,.slice x58.a x58.n x58.c] /\ 
   (okAt hh ⟨b6,0,none⟩ 2/\∀h59:Heap,h59=hputs hh ⟨b6,0,none⟩ 0 [.slice x57.a x57.n x57.c,.slice x58.a x58.n x58.c] -> 
   (∃x60:Sl,∃x61:Sl,atC h59 ⟨b6,0,none⟩ [.slice x60.a x60.n x60.c,.slice x61.a x61.n x61.c] /\ 
   NexV S B p (bxI n p x) x l h (.agg ⟨[.slice x60.a x60.n x60.c,.slice x61.a x61.n x61.c]⟩) h59))):=fun {u hh A} hs=>by
  have hs:=hs.sub (List.sublist_append_right A _);refine⟨ts,tb,hs.at 1 rfl (o:=0) (n:=2) rfl,?_⟩;refine hs.put 5 rfl (o:=0) (vs:=[.slice ts.a ts.n ts.c,.slice tb.a tb.n tb.c]) rfl (show 2<=2 by decide) fun h59 hs=>?_;refine⟨ts,tb,hs.at 5 rfl (o:=0) (n:=2) rfl,ts,tb,u,rfl,?_⟩;have hs:=hs.sub (L':=[.sl u 3 1 (l.map inC),.sl ts 3 1 ((S.set p x.t).map inC),.sl tb 25 1 ((B.set (bxI n p x) ⟨u,l⟩).map Bx.cs)]) (.cons_cons _ (.cons _ (.cons_cons _ (.cons_cons _ (List.nil_sublist _)))));exact hs.perm (List.perm_middle (l₁:=[_,_]) (l₂:=[])).symm
 refine⟨x.send,hs.rd 3 rfl (i:=1) rfl,sB_intro (fun d=>?_) (fun d=>?_)⟩
 .have hjj:bxI n p x=n*p+pe:=by unfold bxI;rw[if_pos d,hpt]
  have hJ:=hw1 p pe hp (by omega);rw[if_pos d] at hl;have el:([]++q.l.map inC)++[inC x.label]=l.map inC:=by rw[hl,Ym];rfl
  rw[<-hjj,<-hpe] at hJ;refine⟨(p:Int),hs.rd 5 rfl (i:=0) rfl,x.peer,hs.rd 3 rfl (i:=2) rfl,tb,hs.rd 0 rfl (i:=1) rfl,sb,hs.rd 6 rfl (i:=1) rfl,?_⟩;rw[hJ];refine (hC.b.rw.ext hs.ext).nbI (by omega) (by omega) fun b o q' gq' t=>?_;rw[Ys,gq] at gq';cases gq';refine⟨q.s,t.hd,x.label,hs.rd 3 rfl (i:=3) rfl,And.intro ?_ ?_⟩
  .refine hs.newbE fun h48 E48 hs=>⟨E48.sm,?_⟩;have hs:=hs.blkS 0 1 [] rfl (fun r hr=>by cases hr) rfl (Nat.zero_le _);refine And.intro ?_ ?_
   .have hs48:=hs;refine hs.appRw 0 (s:=⟨some ⟨h38.size,0,none⟩,0,0⟩) (rows:=[]) (y:=q.s) rfl app42 (hqs.rw.ext hs.ext) (inrows' q.l) hqs.nil (flat_oneB (fun _=>rfl) _) (by show (0+q.s.n)*8<=_;omega) (by show 0+q.s.n<=_;simp only[maxLen];omega) fun e h50 ne hs=>?_;refine⟨Sm_two (hs48.smbO hs 4 4 3 rfl rfl) (hs48.smbO hs 1 1 1 rfl rfl),?_⟩;refine hs.newbE fun h51 E51 hs=>⟨E51.sm,?_⟩;have hs51:=hs;refine hs.appended 1 (s:=e) (n:=1) (rows:=[]++q.l.map inC) rfl app42 (m:=1) (news:=[inC x.label]) (hs.at 0 rfl (n:=1) rfl) rfl (by simp[inC]) rfl (by have:e.n=0+q.s.n:=ne;omega) (by have:e.n=0+q.s.n:=ne;simp only[maxLen];omega) fun u h53 nu hs=>?_;refine⟨hs51.smbO hs 2 2 1 rfl rfl,?_⟩;refine hs.set 4 (s:=tb) (cs:=Bx.cs) (x:=(bxI n p x:Int)) rfl (by omega) (by omega) (by omega) (⟨u,l⟩:Bx) rfl rfl (fun b o h56 hs=>?_) rfl;rw[Ys] at hs;refine fin (u:=u) (A:=[.blk h50.size [.int .i64 x.label] 3]) ?_;rw[<-el];exact hs
   .refine hs.newbE fun h62 E62 hs=>⟨E62.sm,?_⟩;have hs62:=hs;refine hs.appRw 1 (s:=⟨some ⟨h38.size,0,none⟩,0,0⟩) (rows:=[]) (y:=q.s) rfl app42 (hqs.rw.ext hs.ext) (inrows' q.l) hqs.nil (flat_oneB (fun _=>rfl) _) (by show (0+q.s.n)*8<=_;omega) (by show 0+q.s.n<=_;simp only[maxLen];omega) fun e h64 ne hs=>?_;refine⟨Sm_two (hs62.smbO hs 5 5 3 rfl rfl) (hs62.smbO hs 2 2 1 rfl rfl),?_⟩;have hs64:=hs;refine hs.appended 1 (s:=e) (n:=1) (rows:=[]++q.l.map inC) rfl app42 (m:=1) (news:=[inC x.label]) (hs.at 0 rfl (n:=1) rfl) rfl (by simp[inC]) rfl (by have:e.n=0+q.s.n:=ne;omega) (by have:e.n=0+q.s.n:=ne;simp only[maxLen];omega) fun u h66 nu hs=>?_;refine⟨hs64.smbO hs 2 2 1 rfl rfl,?_⟩;refine hs.set 4 (s:=tb) (cs:=Bx.cs) (x:=(bxI n p x:Int)) rfl (by omega) (by omega) (by omega) (⟨u,l⟩:Bx) rfl rfl (fun b o h56 hs=>?_) rfl;rw[Ys] at hs;refine fin (u:=u) (A:=[.blk h48.size [.int .i64 x.label] 3]) ?_;rw[<-el];exact hs
  .refine hs.newbE fun h75 E75 hs=>⟨E75.sm,?_⟩;refine hs.newbE fun h76 E76 hs=>⟨E76.sm,?_⟩;have hs:=hs.blkS 0 1 [] rfl (fun r hr=>by cases hr) rfl (Nat.zero_le _);have hs76:=hs;refine hs.appRw 0 (s:=⟨some ⟨h75.size,0,none⟩,0,0⟩) (rows:=[]) (y:=q.s) rfl app42 (hqs.rw.ext hs.ext) (inrows' q.l) hqs.nil (flat_oneB (fun _=>rfl) _) (by show (0+q.s.n)*8<=_;omega) (by show 0+q.s.n<=_;simp only[maxLen];omega) fun e h78 ne hs=>?_;refine⟨Sm_two (hs76.smbO hs 5 5 3 rfl rfl) (hs76.smbO hs 2 2 1 rfl rfl),?_⟩;have hs78:=hs;refine hs.appended 0 (s:=e) (n:=1) (rows:=[]++q.l.map inC) rfl app42 (m:=1) (news:=[inC x.label]) (hs.at 1 rfl (n:=1) rfl) rfl (by simp[inC]) rfl (by have:e.n=0+q.s.n:=ne;omega) (by have:e.n=0+q.s.n:=ne;simp only[maxLen];omega) fun u h80 nu hs=>?_;refine⟨hs78.smbO hs 2 2 1 rfl rfl,?_⟩;refine hs.set 4 (s:=tb) (cs:=Bx.cs) (x:=(bxI n p x:Int)) rfl (by omega) (by omega) (by omega) (⟨u,l⟩:Bx) rfl rfl (fun b o h56 hs=>?_) rfl;rw[Ys] at hs;refine fin (u:=u) (A:=[.blk h38.size [.int .i64 x.label] 3]) ?_;rw[<-el];exact hs.perm (List.Perm.swap _ _ _)
 .have hr1:=hr d;have hjj:bxI n p x=n*pe+p:=by unfold bxI;rw[if_neg (by rw[d];decide),hpt]
  have hJ:=hw1 pe p (by omega) hp;rw[if_neg (by rw[d];decide)] at hl;rw[<-hjj,<-hpe] at hJ;refine⟨x.peer,hs.rd 3 rfl (i:=2) rfl,(p:Int),hs.rd 5 rfl (i:=0) rfl,tb,hs.rd 0 rfl (i:=1) rfl,sb,hs.rd 6 rfl (i:=1) rfl,?_⟩;rw[hJ];refine (hC.b.rw.ext hs.ext).nbI (by omega) (by omega) fun b o q' gq' t=>?_;rw[Ys,gq] at gq';cases gq';have hcap:=hqs.cap;refine⟨q.s,t.hd,⟨by omega,by omega,by omega⟩,?_⟩;refine hs.newbE fun h96 E96 hs=>⟨E96.sm,?_⟩;have hs:=hs.blkS 0 1 [] rfl (fun r hr=>by cases hr) rfl (Nat.zero_le _);have hs96:=hs;obtain⟨q0,tl,hqe⟩:∃q0 tl,q.l=q0::tl:=by
   cases hq':q.l with
   | nil=>rw[hq'] at hr1;exact absurd hr1 (by decide)
   | cons a b=>exact⟨a,b,rfl⟩
  have hltl:l=tl:=by rw[hl,hqe];rfl
  have hrw:=hqs.rw.ext hs.ext;rw[hqe,Yyl] at hrw;have hsub:=Rw.tail1 hrw (by omega) (by omega);have e1:Int.toNat ((q.s.n:Nat):Int)-Int.toNat 1=q.s.n-1:=by rw[Ys];rfl
  refine hs.appRw 0 (s:=⟨some ⟨h38.size,0,none⟩,0,0⟩) (rows:=[]) (y:=⟨subA q.s.a (Int.toNat 1) q.s.c 1,Int.toNat (q.s.n:Nat)-Int.toNat 1,q.s.c-Int.toNat 1⟩) rfl app42 hsub.1 (inrows' tl) (fun ha=>absurd ha hsub.2) (flat_oneB (fun _=>rfl) _) (by show (0+(Int.toNat ((q.s.n:Nat):Int)-Int.toNat 1))*8<=_;omega) (by show 0+(Int.toNat ((q.s.n:Nat):Int)-Int.toNat 1)<=_;simp only[maxLen];omega) fun u h98 ne hs=>?_;refine⟨hs96.smbO hs 1 1 1 rfl rfl,?_⟩;refine hs.set 3 (s:=tb) (cs:=Bx.cs) (x:=(bxI n p x:Int)) rfl (by omega) (by omega) (by omega) (⟨u,l⟩:Bx) rfl rfl (fun b o h56 hs=>?_) rfl;rw[Ys] at hs;refine fin (u:=u) (A:=[]) ?_;have el:[]++tl.map inC=l.map inC:=by rw[hltl];rfl
  rw[<-el];exact hs
theorem app24:appB Pz 26 25 1 24=true:=by kernel_rfl
theorem St.pick {h0 h:Heap} {L:List It} (hs:St h0 h L) (k:Nat) {i:It} (hk:L[k]?=some i):St h0 h (i::L.eraseIdx k):=by
 obtain⟨hl,e⟩:=Ya.1 hk;refine hs.perm ?_;rw[List.eraseIdx_eq_take_drop_succ,<-e];have e2:L=L.take k++L[k]::L.drop (k+1):=by rw[List.getElem_cons_drop,List.take_append_drop]
 conv=>lhs;rw[e2]
 exact List.perm_middle
theorem next56 (L:List MR) (n:Nat) (s ss sb:Sl) (S:List Int) (B:List Bx) (p i:Nat) (y:MR) (x:Mv) (q:Bx) (l:List Int) (h:Heap) (hS:SyI h s L) (hC:CfI h ss sb S B) (hn:L.length=n) (h6:n<=6) (gy:L[p]?=some y) (gx:y.m.mv[i]?=some x) (hx0:0<=x.peer) (hx1:x.peer<(n:Int)) (hSl:S.length=n) (hBl:B.length=n*n)
  (gq:B[bxI n p x]?=some q) (hq:q.l.length<=4) (hl:l=if x.send=true then q.l++[x.label] else q.l.tail) (hr:x.send=false->1<=q.l.length) :
  Fn Pz 46 #[.slice s.a s.n s.c,.agg ⟨[.slice ss.a ss.n ss.c,.slice sb.a sb.n sb.c]⟩,.agg ⟨[.int .i64 (p:Int),.int .i64 (i:Int)]⟩] h (NexV S B p (bxI n p x) x l h):=by
 apply vc46 s ss sb (p:Int) (i:Int);unfold W46 V46e V46d V46g V46f V46c V46a V46h V46b;have hsn:=hS.r.ln;have hp:p<L.length:=(Ya.1 gy).1;have hi:i<y.m.mv.length:=(Ya.1 gx).1;have hyi:=hS.i y (Yb gy);have hgn:=hyi.pm.ln;have h36:=sq6 h6;have hssn:=hC.s.ln;have hsbn:=hC.b.ln;refine (St.refl h).newb fun h5 hs=>?_;refine hs.newb fun h6' hs=>?_;refine hs.newb fun h7 hs=>?_;refine⟨(p:Int),hs.rd 1 rfl (i:=0) rfl,?_⟩;refine (hS.r.rw.ext hs.ext).nbI (by omega) (by omega) fun b o y' gy' t=>?_;rw[Ys,gy] at gy';cases gy';refine⟨y.g,t.nth 4 rfl,(i:Int),hs.rd 1 rfl (i:=1) rfl,?_⟩;refine (hyi.pm.rw.ext hs.ext).nbI (by omega) (by omega) fun b3 o3 x' gx' t3=>?_;rw[Ys,gx] at gx';cases gx';refine⟨x.f,x.send,x.peer,x.label,x.t,x.ag,t3,?_⟩;refine hs.newbE fun h21 E21 hs=>⟨E21.sm,?_⟩;refine hs.put 0 rfl (o:=0) (vs:=x.cs) rfl (show 6<=6 by decide) fun h22 hs=>?_;refine⟨ss,hs.rd 3 rfl (i:=0) rfl,sb,hs.rd 3 rfl (i:=1) rfl,?_⟩;have leaf:∀ {ob:Nat} {ts tb:Sl} {h0:Heap},St h h0 [.blk ob [.slice ts.a ts.n ts.c,.slice tb.a tb.n tb.c] 28,.sl ts 3 1 (S.map inC),.sl tb 25 1 (B.map Bx.cs),.blk h7.size x.cs 110,.blk h6'.size [.slice none 0 0,.slice none 0 0] 28,.blk h5.size [.int .i64 (p:Int),.int .i64 (i:Int)] 62,.blk h.size [.slice ss.a ss.n ss.c,.slice sb.a sb.n sb.c] 28]->tailN s ob h.size h5.size h6'.size h7.size h0 (NexV S B p (bxI n p x) x l h):=fun {ob ts tb h0} hs=>
  tailN_ok n s ss sb ts tb ⟨none,0,0⟩ ⟨none,0,0⟩ S B p (i:Int) x q l ob h.size h5.size h6'.size h7.size h h0 hC (by omega) h6 (by omega) hx0 hx1 hSl hBl gq hq hl hr hs
 have apS:=fun {A:List It} {h':Heap} {K:Sl->Heap->Prop} {b:Nat} (hs:St h h' A) (k:Nat) (hk:A[k]?=some (.sl ⟨some ⟨b,0,none⟩,0,0⟩ 3 1 [])) (hK:∀(r:Sl) (h'':Heap),r.n=0+ss.n->St h h'' (A.set k (.sl r 3 1 ([]++S.map inC)))->K r h'')=>hs.appRw k (y:=ss) hk app42 (hC.s.rw.ext hs.ext) (inrows' S) hC.s.nil (flat_oneB (fun _=>rfl) _) (by show (0+ss.n)*8<=_;omega) (by show 0+ss.n<=_;simp only[maxLen];omega) hK;have apB:=fun {A:List It} {h':Heap} {K:Sl->Heap->Prop} {b:Nat} (hs:St h h' A) (k:Nat) (hk:A[k]?=some (.sl ⟨some ⟨b,0,none⟩,0,0⟩ 25 1 [])) (hK:∀(r:Sl) (h'':Heap),r.n=0+sb.n->St h h'' (A.set k (.sl r 25 1 ([]++B.map Bx.cs)))->K r h'')=>hs.appRw k (y:=sb) hk app24 (hC.b.rw.ext hs.ext) (bxrows B) hC.b.nil (flat_oneB (fun _=>rfl) _) (by show (0+sb.n)*24<=_;omega) (by show 0+sb.n<=_;simp only[maxLen];omega) hK;refine And.intro ?_ (And.intro ?_ ?_)
 .refine hs.newbE fun g1 E2 hs=>⟨E2.sm,?_⟩;have hs:=hs.blkS 0 1 [] rfl (fun r hr=>by cases hr) rfl (Nat.zero_le _);refine And.intro ?_ (And.intro ?_ ?_)
  .have hs5:=hs;refine apS hs 0 rfl fun s4 g3 ne6 hs=>?_;refine⟨hs5.smbO hs 4 4 1 rfl rfl,?_⟩;refine And.intro ?_ ?_
   .refine hs.newbE fun g7 E8 hs=>⟨E8.sm,?_⟩;have hs:=hs.blkS 0 1 [] rfl (fun r hr=>by cases hr) rfl (Nat.zero_le _);refine And.intro ?_ ?_
    .have hs11:=hs;refine apB hs 0 rfl fun s10 g9 ne12 hs=>?_;refine⟨hs11.smbO hs 5 5 0 rfl rfl,?_⟩;refine hs.newbE fun g13 E14 hs=>⟨E14.sm,?_⟩;refine hs.put 0 rfl (o:=0) (vs:=[.slice s4.a s4.n s4.c,.slice s10.a s10.n s10.c]) rfl (show 2<=2 by decide) fun g15 hs=>?_;exact leaf (((hs.pick 1 rfl).pick 2 rfl).pick 2 rfl)
    .refine hs.newbE fun g16 E17 hs=>⟨E17.sm,?_⟩;have hs20:=hs;refine apB hs 1 rfl fun s19 g18 ne21 hs=>?_;refine⟨hs20.smbO hs 6 6 0 rfl rfl,?_⟩;refine hs.put 0 rfl (o:=0) (vs:=[.slice s4.a s4.n s4.c,.slice s19.a s19.n s19.c]) rfl (show 2<=2 by decide) fun g22 hs=>?_;exact leaf (((hs.pick 1 rfl).pick 2 rfl).pick 2 rfl)
   .refine hs.newbE fun g23 E24 hs=>⟨E24.sm,?_⟩;refine hs.newbE fun g25 E26 hs=>⟨E26.sm,?_⟩;have hs:=hs.blkS 0 1 [] rfl (fun r hr=>by cases hr) rfl (Nat.zero_le _);have hs29:=hs;refine apB hs 0 rfl fun s28 g27 ne30 hs=>?_;refine⟨hs29.smbO hs 6 6 0 rfl rfl,?_⟩;refine hs.put 1 rfl (o:=0) (vs:=[.slice s4.a s4.n s4.c,.slice s28.a s28.n s28.c]) rfl (show 2<=2 by decide) fun g31 hs=>?_;exact leaf (((hs.pick 0 rfl).pick 2 rfl).pick 2 rfl)
  .refine hs.newbE fun g32 E33 hs=>⟨E33.sm,?_⟩;have hs:=hs.blkS 0 1 [] rfl (fun r hr=>by cases hr) rfl (Nat.zero_le _);refine And.intro ?_ ?_
   .have hs36:=hs;refine apS hs 1 rfl fun s35 g34 ne37 hs=>?_;refine⟨hs36.smbO hs 5 5 1 rfl rfl,?_⟩;refine And.intro ?_ ?_
    .have hs40:=hs;refine apB hs 0 rfl fun s39 g38 ne41 hs=>?_;refine⟨hs40.smbO hs 5 5 0 rfl rfl,?_⟩;refine hs.newbE fun g42 E43 hs=>⟨E43.sm,?_⟩;refine hs.put 0 rfl (o:=0) (vs:=[.slice s35.a s35.n s35.c,.slice s39.a s39.n s39.c]) rfl (show 2<=2 by decide) fun g44 hs=>?_;exact leaf (((hs.pick 1 rfl).pick 2 rfl).pick 2 rfl)
    .refine hs.newbE fun g45 E46 hs=>⟨E46.sm,?_⟩;have hs49:=hs;refine apB hs 1 rfl fun s48 g47 ne50 hs=>?_;refine⟨hs49.smbO hs 6 6 0 rfl rfl,?_⟩;refine hs.put 0 rfl (o:=0) (vs:=[.slice s35.a s35.n s35.c,.slice s48.a s48.n s48.c]) rfl (show 2<=2 by decide) fun g51 hs=>?_;exact leaf (((hs.pick 1 rfl).pick 2 rfl).pick 2 rfl)
   .refine hs.newbE fun g52 E53 hs=>⟨E53.sm,?_⟩;have hs56:=hs;refine apS hs 2 rfl fun s55 g54 ne57 hs=>?_;refine⟨hs56.smbO hs 6 6 1 rfl rfl,?_⟩;have hs60:=hs;refine apB hs 1 rfl fun s59 g58 ne61 hs=>?_;refine⟨hs60.smbO hs 6 6 0 rfl rfl,?_⟩;refine hs.put 0 rfl (o:=0) (vs:=[.slice s55.a s55.n s55.c,.slice s59.a s59.n s59.c]) rfl (show 2<=2 by decide) fun g62 hs=>?_;exact leaf (((hs.pick 1 rfl).pick 2 rfl).pick 2 rfl)
  .refine hs.newbE fun g63 E64 hs=>⟨E64.sm,?_⟩;refine And.intro ?_ ?_
   .have hs67:=hs;refine apS hs 1 rfl fun s66 g65 ne68 hs=>?_;refine⟨hs67.smbO hs 5 5 1 rfl rfl,?_⟩;refine hs.newbE fun g69 E70 hs=>⟨E70.sm,?_⟩;have hs:=hs.blkS 0 1 [] rfl (fun r hr=>by cases hr) rfl (Nat.zero_le _);have hs73:=hs;refine apB hs 0 rfl fun s72 g71 ne74 hs=>?_;refine⟨hs73.smbO hs 6 6 0 rfl rfl,?_⟩;refine hs.put 1 rfl (o:=0) (vs:=[.slice s66.a s66.n s66.c,.slice s72.a s72.n s72.c]) rfl (show 2<=2 by decide) fun g75 hs=>?_;exact leaf (((hs.pick 0 rfl).pick 2 rfl).pick 2 rfl)
   .refine hs.newbE fun g76 E77 hs=>⟨E77.sm,?_⟩;have hs:=hs.blkS 0 1 [] rfl (fun r hr=>by cases hr) rfl (Nat.zero_le _);have hs80:=hs;refine apS hs 2 rfl fun s79 g78 ne81 hs=>?_;refine⟨hs80.smbO hs 6 6 1 rfl rfl,?_⟩;have hs84:=hs;refine apB hs 0 rfl fun s83 g82 ne85 hs=>?_;refine⟨hs84.smbO hs 6 6 0 rfl rfl,?_⟩;refine hs.put 1 rfl (o:=0) (vs:=[.slice s79.a s79.n s79.c,.slice s83.a s83.n s83.c]) rfl (show 2<=2 by decide) fun g86 hs=>?_;exact leaf (((hs.pick 0 rfl).pick 2 rfl).pick 2 rfl)
 .refine hs.newbE fun g87 E88 hs=>⟨E88.sm,?_⟩;have hs:=hs.blkS 0 1 [] rfl (fun r hr=>by cases hr) rfl (Nat.zero_le _);refine And.intro ?_ ?_
  .refine hs.newbE fun g89 E90 hs=>⟨E90.sm,?_⟩;have hs:=hs.blkS 0 1 [] rfl (fun r hr=>by cases hr) rfl (Nat.zero_le _);refine And.intro ?_ ?_
   .have hs93:=hs;refine apS hs 0 rfl fun s92 g91 ne94 hs=>?_;refine⟨hs93.smbO hs 5 5 1 rfl rfl,?_⟩;refine And.intro ?_ ?_
    .have hs97:=hs;refine apB hs 1 rfl fun s96 g95 ne98 hs=>?_;refine⟨hs97.smbO hs 5 5 0 rfl rfl,?_⟩;refine hs.newbE fun g99 E100 hs=>⟨E100.sm,?_⟩;refine hs.put 0 rfl (o:=0) (vs:=[.slice s92.a s92.n s92.c,.slice s96.a s96.n s96.c]) rfl (show 2<=2 by decide) fun g101 hs=>?_;exact leaf (((hs.pick 2 rfl).pick 2 rfl).pick 2 rfl)
    .refine hs.newbE fun g102 E103 hs=>⟨E103.sm,?_⟩;have hs106:=hs;refine apB hs 2 rfl fun s105 g104 ne107 hs=>?_;refine⟨hs106.smbO hs 6 6 0 rfl rfl,?_⟩;refine hs.put 0 rfl (o:=0) (vs:=[.slice s92.a s92.n s92.c,.slice s105.a s105.n s105.c]) rfl (show 2<=2 by decide) fun g108 hs=>?_;exact leaf (((hs.pick 2 rfl).pick 2 rfl).pick 2 rfl)
   .refine hs.newbE fun g109 E110 hs=>⟨E110.sm,?_⟩;have hs113:=hs;refine apS hs 1 rfl fun s112 g111 ne114 hs=>?_;refine⟨hs113.smbO hs 6 6 1 rfl rfl,?_⟩;have hs117:=hs;refine apB hs 2 rfl fun s116 g115 ne118 hs=>?_;refine⟨hs117.smbO hs 6 6 0 rfl rfl,?_⟩;refine hs.put 0 rfl (o:=0) (vs:=[.slice s112.a s112.n s112.c,.slice s116.a s116.n s116.c]) rfl (show 2<=2 by decide) fun g119 hs=>?_;exact leaf (((hs.pick 2 rfl).pick 2 rfl).pick 2 rfl)
  .refine hs.newbE fun g120 E121 hs=>⟨E121.sm,?_⟩;refine hs.newbE fun g122 E123 hs=>⟨E123.sm,?_⟩;have hs:=hs.blkS 0 1 [] rfl (fun r hr=>by cases hr) rfl (Nat.zero_le _);have hs126:=hs;refine apS hs 0 rfl fun s125 g124 ne127 hs=>?_;refine⟨hs126.smbO hs 6 6 1 rfl rfl,?_⟩;have hs130:=hs;refine apB hs 2 rfl fun s129 g128 ne131 hs=>?_;refine⟨hs130.smbO hs 6 6 0 rfl rfl,?_⟩;refine hs.put 1 rfl (o:=0) (vs:=[.slice s125.a s125.n s125.c,.slice s129.a s129.n s129.c]) rfl (show 2<=2 by decide) fun g132 hs=>?_;exact leaf (((hs.pick 2 rfl).pick 1 rfl).pick 2 rfl)
 .refine hs.newbE fun g133 E134 hs=>⟨E134.sm,?_⟩;refine And.intro ?_ ?_
  .refine hs.newbE fun g135 E136 hs=>⟨E136.sm,?_⟩;have hs:=hs.blkS 0 1 [] rfl (fun r hr=>by cases hr) rfl (Nat.zero_le _);refine And.intro ?_ ?_
   .have hs139:=hs;refine apS hs 0 rfl fun s138 g137 ne140 hs=>?_;refine⟨hs139.smbO hs 5 5 1 rfl rfl,?_⟩;refine hs.newbE fun g141 E142 hs=>⟨E142.sm,?_⟩;have hs:=hs.blkS 0 1 [] rfl (fun r hr=>by cases hr) rfl (Nat.zero_le _);have hs145:=hs;refine apB hs 0 rfl fun s144 g143 ne146 hs=>?_;refine⟨hs145.smbO hs 6 6 0 rfl rfl,?_⟩;refine hs.put 2 rfl (o:=0) (vs:=[.slice s138.a s138.n s138.c,.slice s144.a s144.n s144.c]) rfl (show 2<=2 by decide) fun g147 hs=>?_;exact leaf (((hs.pick 0 rfl).pick 1 rfl).pick 2 rfl)
   .refine hs.newbE fun g148 E149 hs=>⟨E149.sm,?_⟩;have hs:=hs.blkS 0 1 [] rfl (fun r hr=>by cases hr) rfl (Nat.zero_le _);have hs152:=hs;refine apS hs 1 rfl fun s151 g150 ne153 hs=>?_;refine⟨hs152.smbO hs 6 6 1 rfl rfl,?_⟩;have hs156:=hs;refine apB hs 0 rfl fun s155 g154 ne157 hs=>?_;refine⟨hs156.smbO hs 6 6 0 rfl rfl,?_⟩;refine hs.put 2 rfl (o:=0) (vs:=[.slice s151.a s151.n s151.c,.slice s155.a s155.n s155.c]) rfl (show 2<=2 by decide) fun g158 hs=>?_;exact leaf (((hs.pick 0 rfl).pick 1 rfl).pick 2 rfl)
  .refine hs.newbE fun g159 E160 hs=>⟨E160.sm,?_⟩;have hs:=hs.blkS 0 1 [] rfl (fun r hr=>by cases hr) rfl (Nat.zero_le _);refine hs.newbE fun g161 E162 hs=>⟨E162.sm,?_⟩;have hs:=hs.blkS 0 1 [] rfl (fun r hr=>by cases hr) rfl (Nat.zero_le _);have hs165:=hs;refine apS hs 0 rfl fun s164 g163 ne166 hs=>?_;refine⟨hs165.smbO hs 6 6 1 rfl rfl,?_⟩;have hs169:=hs;refine apB hs 1 rfl fun s168 g167 ne170 hs=>?_;refine⟨hs169.smbO hs 6 6 0 rfl rfl,?_⟩;refine hs.put 2 rfl (o:=0) (vs:=[.slice s164.a s164.n s164.c,.slice s168.a s168.n s168.c]) rfl (show 2<=2 by decide) fun g171 hs=>?_;exact leaf (((hs.pick 1 rfl).pick 1 rfl).pick 2 rfl)
theorem mvO_get {L:List Mch} {r i:Int} {x:Mv} (h:mvO L r i=some x):∃p j:Nat,r=(p:Int)/\i=(j:Int)/\∃m,L[p]?=some m/\m.mv[j]?=some x:=by
 unfold mvO at h;split at h
 .cases h
 .rename_i c;split at h
  .cases h
  .rename_i m gm;split at h
   .cases h
   .rename_i c2;exact⟨r.toNat,i.toNat,by omega,by omega,m,gm,h⟩
theorem divmod_two {n a b:Nat} (hb:b<n):(n*a+b)/n=a/\(n*a+b)%n=b:=by
 constructor
 .rw[Nat.mul_add_div (by omega),Nat.div_eq_of_lt hb,Nat.add_zero]
 .rw[Nat.mul_add_mod,Nat.mod_eq_of_lt hb]
theorem pro_do {L:List Mch} {k:Int} {S:List Int} {BL:List (List Int)} {p:Nat} {m:Mch} {x:Mv} (hP:ProS L k S BL) (gm:L[p]?=some m) (hxm:x∈m.mv) (hc:canS L.length k S BL p x=0):ProS L k (S.set p x.t) (doB L.length p x BL):=by
 have hp:p<L.length:=(Ya.1 gm).1;have hvm:=hP.v.m p m gm;have hx:=hvm.2.1.n.mv x hxm;have hx1:=hvm.2.2 x hxm;have hj:=bxI_lt (n:=L.length) (x:=x) hp hx.2.2.2.2.1 hx1;obtain⟨q,gq⟩:=get_some (l:=BL) (i:=bxI L.length p x) (by rw[hP.p.b];exact hj);have hqd:BL.getD (bxI L.length p x) []=q:=by rw[Yo,gq];rfl
 have hbq:=hP.p.bx _ q gq;refine⟨hP.v,hP.c,⟨by rw[Yyh];exact hP.p.s,by unfold doB;rw[Yyh];exact hP.p.b,fun q' s m' h1 h2=>?_,fun j b hb=>?_⟩⟩
 .by_cases e:q'=p
  .subst e;rw[gm] at h2;cases h2;rw[Yq (by rw[hP.p.s];exact hp)] at h1;cases h1;exact⟨hx.2.2.1,hx.2.2.2.1⟩
  .rw[Yy (Ne.symm e)] at h1;exact hP.p.st q' s m' h1 h2
 .unfold doB at hb;by_cases e:j=bxI L.length p x
  .subst e;rw[Yq (by rw[hP.p.b];exact hj),hqd] at hb;cases hb;have hd:¬bxI L.length p x/L.length=bxI L.length p x%L.length:=by
    unfold bxI;have hpr:=hx.2.2.2.2.2.2.1;rw[hvm.1] at hpr;have h0:=hx.2.2.2.2.1;split
    .obtain⟨a,b⟩:=divmod_two (n:=L.length) (a:=p) (b:=x.peer.toNat) (by omega);rw[a,b];omega
    .obtain⟨a,b⟩:=divmod_two (n:=L.length) (a:=x.peer.toNat) (b:=p) hp;rw[a,b];omega
   refine⟨?_,fun h=>absurd h hd,?_⟩
   .unfold canS at hc;rw[hqd] at hc;split at hc
    .exact absurd hc (by decide)
    .split
     .rename_i hs;rw[if_pos hs] at hc;rw[Yh,Yv];split at hc
      .exact absurd hc (by decide)
      .omega
     .rw[List.length_tail];omega
   .intro z hz;split at hz
    .rcases Yk.1 hz with hz | hz
     .exact hbq.2.2 z hz
     .rw[Ye.1 hz];exact hx.2.2.2.2.2.2.2
    .exact hbq.2.2 z (List.mem_of_mem_tail hz)
  .rw[Yy (Ne.symm e)] at hb;exact hP.p.bx j b hb
def u8C (b:Int):List Value:=[.int .u8 b]
theorem xpro_start {L:List Mch} {k:Int} (hV:SysV L) (hk:1<=k/\k<=4):ProS L k (startS L) ((List.replicate (L.length*L.length) bx0).map Bx.l):=by
 refine⟨hV,hk,⟨by unfold startS;rw[Yc],by rw[Yc,Yg],fun p s m h1 h2=>?_,fun i b hb=>?_⟩⟩
 .unfold startS at h1;rw[Yd,h2] at h1;cases h1;exact (hV.m p m h2).2.1.n.s
 .obtain⟨q,hq,rfl⟩:=Yp.1 (Yb hb);rw[List.eq_of_mem_replicate hq];exact⟨by show ((0:Nat):Int)<=k;omega,fun _=>rfl,fun x hx=>by cases hx⟩
theorem doS_at {L:List Mch} {k:Int} {S:List Int} {BL:List (List Int)} {a b:Nat} {m:Mch} {x:Mv} (hP:ProS L k S BL) (gm:L[a]?=some m) (gx:m.mv[b]?=some x):doS L k S BL (a:Int) (b:Int)=if canS L.length k S BL a x=0 then (0,S.set a x.t,doB L.length a x BL) else (canS L.length k S BL a x,[],[]):=by
 have ha:=(Ya.1 gm).1;have hb:=(Ya.1 gx).1;have hmo:mvO L (a:Int) (b:Int)=some x:=by
  unfold mvO;rw[if_neg (by omega),Ys,gm];dsimp only;rw[if_neg (by omega),Ys,gx]
 unfold doS;rw[if_pos hP,hmo,Ys]
noncomputable def stpS (L:List Mch) (k:Int) (c:List Int × List (List Int)) (q:Nat × Nat):Option (List Int × List (List Int)):=if (doS L k c.1 c.2 (q.1:Int) (q.2:Int)).1=0 then some (doS L k c.1 c.2 (q.1:Int) (q.2:Int)).2 else none
noncomputable def runS (L:List Mch) (k:Int) (l:List (Nat × Nat)):Option (List Int × List (List Int)):=l.foldl (fun o q=>o.bind fun c=>stpS L k c q) (some (startS L,(List.replicate (L.length*L.length) bx0).map Bx.l))
theorem runS_snoc {L:List Mch} {k:Int} {l:List (Nat × Nat)} {q:Nat × Nat}:runS L k (l++[q])=(runS L k l).bind fun c=>stpS L k c q:=by
 unfold runS;rw[List.foldl_append];rfl
theorem stpS_ok {L:List Mch} {k:Int} {S:List Int} {BL:List (List Int)} {a b:Nat} {m:Mch} {x:Mv} (hP:ProS L k S BL) (gm:L[a]?=some m) (gx:m.mv[b]?=some x) (hc:canS L.length k S BL a x=0):stpS L k (S,BL) (a,b)=some (S.set a x.t,doB L.length a x BL):=by
 unfold stpS;rw[doS_at hP gm gx,if_pos hc,if_pos rfl]
theorem steps_mem {L:List Mch} {k:Int} {S:List Int} {BL:List (List Int)} {a b:Nat} (h:(a,b)∈stepsS L k S BL):∃m x,L[a]?=some m/\m.mv[b]?=some x/\canS L.length k S BL a x=0:=by
 unfold stepsS at h;obtain⟨p,_,h⟩:=List.mem_flatMap.1 h;unfold stepsR at h;cases gm:L[p]? with
 | none=>rw[gm] at h;cases h
 | some m=>
  rw[gm] at h;obtain⟨i,hi,e⟩:=Yp.1 h;cases e;unfold stepsP at hi;obtain⟨h1,h2⟩:=List.mem_filter.1 hi;obtain⟨x,gx,_⟩:=outIx_mem.1 ((mvS_srt m _).1.mem_iff.1 h1);refine⟨m,x,gm,gx,?_⟩;have:=Yyn h2
  rwa [mvD_of gx] at this
theorem mem_steps {L:List Mch} {k:Int} {S:List Int} {BL:List (List Int)} {a b:Nat} {m:Mch} {x:Mv} (gm:L[a]?=some m) (gx:m.mv[b]?=some x) (hc:canS L.length k S BL a x=0):(a,b)∈stepsS L k S BL:=by
 have hb:b<m.mv.length:=(Ya.1 gx).1;have hpos:posB L.length k S BL a m b=true:=by unfold posB;rw[mvD_of gx];exact decide_eq_true hc
 have h1:b∈(List.range m.mv.length).filter (posB L.length k S BL a m):=List.mem_filter.2 ⟨List.mem_range.2 hb,hpos⟩;rw[pos_ix] at h1;have h2:=((mvS_srt m (S.getD a 0)).1.filter (posB L.length k S BL a m)).mem_iff.2 h1;unfold stepsS;refine List.mem_flatMap.2 ⟨a,List.mem_range.2 (Ya.1 gm).1,?_⟩;unfold stepsR;rw[gm];exact Yp.2 ⟨b,h2,rfl⟩
theorem can_parts {n:Nat} {k:Int} {S:List Int} {BL:List (List Int)} {p:Nat} {x:Mv}:canS n k S BL p x=0 ↔ x.f=S.getD p 0/\(x.send=true->((BL.getD (bxI n p x) []).length:Int)<k)/\(x.send=false->∃r,BL.getD (bxI n p x) []=x.label::r):=by
 unfold canS;by_cases hf:x.f=S.getD p 0
 .rw[if_neg (fun h=>h hf)];cases hs:x.send with
  | true=>
   rw[if_pos rfl];constructor
   .intro h;split at h
    .exact absurd h (by decide)
    .exact⟨hf,fun _=>by omega,fun h=>by cases h⟩
   .rintro⟨_,h,_⟩;rw[if_neg (by have:=h rfl;omega)]
  | false=>
   rw[if_neg (by decide)];cases hb:BL.getD (bxI n p x) [] with
   | nil=>
    refine⟨fun h=>absurd h (show ¬((23:Int)=0) by decide),?_⟩;rintro⟨_,_,h⟩;obtain⟨r,h⟩:=h rfl;cases h
   | cons a l=>
    dsimp only;constructor
    .intro h;split at h
     .exact absurd h (by decide)
     .rename_i e;exact⟨hf,(fun h=>by cases h),fun _=>⟨l,by rw[Classical.not_not.1 e]⟩⟩
    .rintro⟨_,_,h⟩;obtain⟨r,h⟩:=h rfl;cases h;rw[if_neg (fun h=>h rfl)]
 .rw[if_pos hf];exact⟨fun h=>absurd h (show ¬((7:Int)=0) by decide),fun h=>absurd h.1 hf⟩
theorem getD_set_ne {α:Type} {l:List α} {i j:Nat} {a d:α} (h:i≠j):(l.set i a).getD j d=l.getD j d:=by
 rw[Yo,Yo,Yy h]
end Go.VC
end
