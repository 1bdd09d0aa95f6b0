/- KeR KwVcQ KwAh KeQ KeS KwArgs. -/
import Derived.Test.YtknallccojglcaaGreatDoorM26
import Derived.Test.YtknallccojglcaaGreatDoorRows
set_option linter.unusedVariables false
set_option linter.unusedSimpArgs false
set_option maxRecDepth 100000

section
namespace Go.VC
open Go.Proofs Go.LexS
noncomputable def repS (L:List Mch) (k:Int):Cf->Int->List (Int × Int)->Cf × Int × Int
 | c,n,[]=>(c,n,0)
 | c,n,q::r=>if (doS L k c.1 c.2 q.1 q.2).1≠0 then (c,n,(doS L k c.1 c.2 q.1 q.2).1) else repS L k (doS L k c.1 c.2 q.1 q.2).2 (n+1) r
open Classical in
noncomputable def rplV (L:List Mch) (k:Int) (X:List (Int × Int)):Cf × Int × Int:=if ¬SysV L\/k<1\/4<k then (([],[]),0,1) else repS L k (startS L,startB L) 0 X
def stI (q:Int × Int):List Value:=[.int .i64 q.1,.int .i64 q.2]
def RplV (o:Cf × Int × Int) (h:Heap) (v:Value) (h':Heap):Prop:=∃(ts tb:Sl) (T:List Bx) (A:List It),v=.tuple ⟨[cfA ts tb,.int .i64 o.2.1,.int .i64 o.2.2]⟩/\T.map Bx.l=o.1.2/\St h h' A/\CfN A ts tb o.1.1 T
theorem RplV.none_ {h h':Heap} {A:List It} (hs:St h h' A) {o:Cf × Int × Int} (ho:o=(([],[]),0,1)):RplV o h (.tuple ⟨[.agg ⟨[.slice none 0 0,.slice none 0 0]⟩,.int .i64 0,.int .i64 1]⟩) h':=by
 subst ho;exact⟨⟨none,0,0⟩,⟨none,0,0⟩,[],A,rfl,rfl,hs,fun _ _ _ _ _=>CfI.none_⟩
set_option maxHeartbeats 3200000 in
theorem replay19 (L:List MR) (s:Sl) (k:Int) (X:List (Int × Int)) (xs:Sl) (h:Heap) (hS:SyI h s L) (hX:RL h 2 xs stI X) :
  Fn Pz 19 #[.slice s.a s.n s.c,.int .i64 k,.slice xs.a xs.n xs.c] h (RplV (rplV (L.map MR.m) k X) h):=by
 apply vc19 s k xs;unfold W19 V19a;have hn:=hS.r.ln;have hxn:=hX.ln;have hxm:=hX.sm;have hlm:(L.map MR.m).length=L.length:=Yc _;refine (St.refl h).newb fun h1 hs=>?_;refine (start14 L s h1 (hS.ext hs.ext)).mono ?_;rintro _ h6 ⟨ss,sb,S,B,e,A1,rfl,hs1,hM,hv1,hv2⟩;have hs:=hs.join hs1;refine⟨ss,sb,e,rfl,?_⟩;refine hs.put 0 rfl (o:=0) (vs:=[.slice ss.a ss.n ss.c,.slice sb.a sb.n sb.c]) rfl (show 2<=2 by decide) fun h7 hs=>?_;have hs:St h h7 ([.blk h.size [.slice ss.a ss.n ss.c,.slice sb.a sb.n sb.c] 50]++A1):=hs;have fin:rplV (L.map MR.m) k X=(([],[]),0,1)->okAt h7 ⟨h.size,0,none⟩ 2/\∀h8:Heap,h8=hputs h7 ⟨h.size,0,none⟩ 0 [.slice none 0 0,.slice none 0 0] -> 
  (∃x9:Sl,∃x10:Sl,atC h8 ⟨h.size,0,none⟩ [.slice x9.a x9.n x9.c,.slice x10.a x10.n x10.c] /\ 
  RplV (rplV (L.map MR.m) k X) h (.tuple ⟨[.agg ⟨[.slice x9.a x9.n x9.c,.slice x10.a x10.n x10.c]⟩,.int .i64 0,.int .i64 1]⟩) h8):=fun ho=>by
  refine hs.put 0 rfl (o:=0) (vs:=[.slice none 0 0,.slice none 0 0]) rfl (show 2<=2 by decide) fun h9 hs=>?_;exact⟨⟨none,0,0⟩,⟨none,0,0⟩,hs.at 0 rfl (o:=0) (n:=2) rfl,RplV.none_ hs ho⟩
 by_cases hV:SysV (L.map MR.m);rotate_left
 ·obtain⟨rfl,-,-⟩:=hv2 hV;exact sB_t rfl (fin (if_pos (.inl hV)))
 obtain⟨rfl,rfl,rfl⟩:=hv1 hV;refine sB_f rfl ?_;refine sBi (fun c1=>fin (if_pos (.inr (.inl c1)))) (fun c1=>?_);refine sBi (fun c2=>fin (if_pos (.inr (.inr c2)))) (fun c2=>?_);have ho:rplV (L.map MR.m) k X=repS (L.map MR.m) k (startS (L.map MR.m),startB (L.map MR.m)) 0 X:=if_neg fun h=>by
  rcases h with h | h | h
  ·exact h hV
  ·omega
  ·omega
 clear fin;have hA1:CfN A1 ss sb (startS (L.map MR.m)) (List.replicate ((L.map MR.m).length*(L.map MR.m).length) bx0):=fun h0 hh A' hA hs=>(hM.mono hA).cfi hs;generalize rplV (L.map MR.m) k X=o at *;refine⟨fun x h' μ=>∃(i:Nat) (c1 c2:Sl) (S:List Int) (B:List Bx) (A:List It),x=(i:Int)/\μ=X.length-i/\i<=X.length/\repS (L.map MR.m) k (S,B.map Bx.l) (i:Int) (X.drop i)=o/\CfN A c1 c2 S B /\
  St h h' ([.blk h.size [.slice c1.a c1.n c1.c,.slice c2.a c2.n c2.c] 50]++A),⟨_,0,ss,sb,_,_,A1,rfl,rfl,Nat.zero_le _,by rw[bxs0];exact ho.symm,hA1,hs⟩,?_⟩
 clear hs hA1 hM hs1 ho hv1 hv2;rintro-_ h21 μ ⟨i,c1,c2,S,B,A,rfl,rfl,hi,ho,hC,hs⟩;refine sBi (fun c3=>?_) (fun c3=>?_)
 ·obtain⟨⟨a,b⟩,gz⟩:=get_some (l:=X) (i:=i) (by omega);refine (hX.rw.ext hs.ext).nbI (by omega) (by omega) fun b22 o23 z gz' t=>?_;rw[Ys,gz] at gz';cases gz';refine⟨a,b,t,?_⟩;refine hs.newput (vs:=[.int .i64 a,.int .i64 b]) rfl rfl fun h27 hs=>?_;refine⟨c1,c2,hs.at 1 rfl (o:=0) (n:=2) rfl,a,b,hs.at 0 rfl (o:=0) (n:=2) rfl,?_⟩;refine (do27 L s k c1 c2 S B a b h27 (hS.ext hs.ext) (hC.at hs (memP (P:=[_,_])))).mono ?_;rintro _ h36 ⟨ts,tb,T,A2,rfl,hT,hs2,hM2⟩;have hs:=hs.join hs2;have hC2:CfN A2 ts tb _ T:=fun h0 hh A' hA hs=>(hM2.mono hA).cfi hs;rw[drop_get gz,repS] at ho;dsimp only at ho;refine⟨ts,tb,_,rfl,?_⟩;refine hs.newput (vs:=[.slice ts.a ts.n ts.c,.slice tb.a tb.n tb.c]) rfl rfl fun h38 hs=>?_;refine sBn (fun c4=>?_) (fun c4=>?_)
  ·rw[if_pos c4] at ho;refine⟨c1,c2,hs.at 2 rfl (o:=0) (n:=2) rfl,?_⟩;refine hs.put 2 rfl (o:=0) (vs:=[.slice c1.a c1.n c1.c,.slice c2.a c2.n c2.c]) rfl (show 2<=2 by decide) fun h41 hs=>?_;refine⟨c1,c2,hs.at 2 rfl (o:=0) (n:=2) rfl,c1,c2,B,_,by rw[<-ho];rfl,by rw[<-ho],hs,?_⟩;rw[<-ho];exact hC.mono fun i hi=>memP (P:=[_,_,_]) i (List.mem_append_left _ hi)
  ·rw[if_neg (fun h=>h c4)] at ho;refine⟨ts,tb,hs.at 0 rfl (o:=0) (n:=2) rfl,?_⟩;refine hs.put 2 rfl (o:=0) (vs:=[.slice ts.a ts.n ts.c,.slice tb.a tb.n tb.c]) rfl (show 2<=2 by decide) fun h46 hs=>?_;refine⟨_,(show X.length-(i+1)<X.length-i by omega),i+1,ts,tb,_,T,A++A2,by rw[w64 (by omega) (by omega)];omega,rfl,by omega,?_,hC2.mono fun i hi=>List.mem_append_right _ hi,hs.drop 2⟩;rw[hT];exact ho
 ·have hie:i=X.length:=by omega
  subst hie;rw[List.drop_length,repS] at ho;refine⟨c1,c2,hs.at 0 rfl (o:=0) (n:=2) rfl,?_⟩;refine hs.put 0 rfl (o:=0) (vs:=[.slice c1.a c1.n c1.c,.slice c2.a c2.n c2.c]) rfl (show 2<=2 by decide) fun h50 hs=>?_;refine⟨c1,c2,hs.at 0 rfl (o:=0) (n:=2) rfl,c1,c2,B,_,by rw[<-ho,hxn];rfl,by rw[<-ho],hs,?_⟩;rw[<-ho];exact hC.mono (memP (P:=[_]))
end Go.VC
end

section
namespace Go.VC
open Go.Proofs

end Go.VC
end

section
namespace Go.VC
open Go.Proofs Go.LexS

theorem roomN {p m:Int} {n:Nat} (hm:m=(n:Int)) (h0:0<=p) (h1:p<256) (hn:1<=n) (hn2:n<=1000):∃r:Nat,r<n/\IntKind.wrap .i64 (1+Int.tmod (IntKind.wrap .i64 p) m)=((1+r:Nat):Int):=by
 obtain⟨q,rfl⟩:∃q:Nat,p=(q:Int):=⟨p.toNat,by omega⟩;subst hm;have hr:q%n<n:=Nat.mod_lt _ (by omega);refine⟨q%n,hr,?_⟩;rw[w8 h0 h1,tmod_nat,w64 (by omega) (by omega)];omega
theorem small16 (L:List MR) (s:Sl) (h:Heap) (hS:SyI h s L):Fn Pz 16 #[.slice s.a s.n s.c] h fun v h'=>∃b:Bool,v=.bool b/\(b=true->SysV (L.map MR.m))/\Ext h h':=by
 apply vc16 s;unfold W16;refine (fewC13 L s ⟨none,0,0⟩ ⟨none,0,0⟩ [] [] h hS CfI.none_).mono ?_;rintro _ h3 ⟨⟨b,rfl,hb⟩,E⟩;refine⟨b,rfl,sB_intro (fun c=>?_) (fun c=>⟨false,rfl,(fun h=>by cases h),E⟩)⟩;refine (refSys23 L s h3 (hS.ext E)).mono ?_;rintro _ h6 ⟨⟨b2,rfl,hb2⟩,E2⟩;exact⟨b2,rfl,b2,rfl,hb2.1,E.trans E2⟩
theorem expV_ok {L:List Mch} {k:Int} {lm:Nat} (hV:SysV L) (h1:1<=k) (h4:k<=4) (hl:1<=lm) (hl2:lm<=20000):expV L k (lm:Int)=((exS L k lm).rv L.length,0):=by
 unfold expV;rw[if_neg (fun h=>by rcases h with h | h | h;exact h hV;all_goals omega),if_neg (by omega),Ys]
theorem fold_none {L:List Mch} {k:Int}:∀l:List (Nat × Nat),l.foldl (fun (o:Option Cf) q=>o.bind fun c=>stpS L k c q) none=none
 | []=>rfl
 | q::r=>by rw[List.foldl_cons];exact fold_none r
theorem rep_run {L:List Mch} {k:Int}:∀ {l:List (Nat × Nat)} {c d:Cf} {n:Int},l.foldl (fun (o:Option Cf) q=>o.bind fun c=>stpS L k c q) (some c)=some d->repS L k c n (l.map fun q=>((q.1:Int),(q.2:Int)))=(d,n+l.length,0)
 | [],c,d,n,h=>by cases h;simp[repS]
 | q::r,c,d,n,h=>by
  rw[List.foldl_cons] at h;rw[Yyl,repS];dsimp only;have h1:(some c:Option Cf).bind (fun c=>stpS L k c q)=stpS L k c q:=rfl;rw[h1] at h;by_cases h0:(doS L k c.1 c.2 (q.1:Int) (q.2:Int)).1=0
  ·have e:stpS L k c q=some (doS L k c.1 c.2 (q.1:Int) (q.2:Int)).2:=by unfold stpS;rw[if_pos h0]
   rw[e] at h;rw[if_neg (fun hn=>hn h0),rep_run h,Yyj];congr 2;omega
  ·have e:stpS L k c q=none:=by unfold stpS;rw[if_neg h0]
   rw[e,fold_none] at h;cases h
theorem rpl_run {L:List Mch} {k:Int} {l:List (Nat × Nat)} {d:Cf} (hV:SysV L) (hk:1<=k/\k<=4) (h:runS L k l=some d):rplV L k (l.map fun q=>((q.1:Int),(q.2:Int)))=(d,(l.length:Int),0):=by
 unfold rplV;rw[if_neg (fun h=>by rcases h with h | h | h;exact h hV;all_goals omega)];unfold runS at h;rw[bxs0] at h;rw[show startB L=List.replicate (L.length*L.length) [] from rfl,rep_run h,Int.zero_add]
theorem stpI_rows {h:Heap} {s:Sl} {l:List (Nat × Nat)} (hr:RL h 2 s stpC l):RL h 2 s stI (l.map fun q=>((q.1:Int),(q.2:Int))):=
 ⟨by rw[List.map_map];exact hr.rw,hr.cap,hr.nil,by rw[Yc];exact hr.sm⟩
set_option maxHeartbeats 3200000 in
theorem exploreTraces8 (L:List MR) (s:Sl) (p1 p2:Int) (h:Heap) (hx:Gx h) (hS:SyI h s L) (hp:0<=p1/\p1<256) (hp2:0<=p2/\p2<256) :
  Fn Pz 8 #[.slice s.a s.n s.c,.int .u8 p1,.int .u8 p2] h fun v h'=>v=.bool true/\Ext h h':=by
 apply vc8 s p1 p2;unfold W8 V8a;refine (awake11 h hx).mono ?_;rintro _ h3 ⟨rfl,E3⟩;refine⟨true,rfl,sB_f rfl ?_⟩;refine (small16 L s h3 (hS.ext E3)).mono ?_;rintro _ h6 ⟨b,rfl,hb,E6⟩;have hs:=((St.refl h).step E3).step E6;refine⟨b,rfl,sB_intro (fun c=>⟨rfl,hs.ext⟩) (fun c=>?_)⟩;have hV:=hb (by cases b with | true=>rfl | false=>cases c);obtain⟨r,hr,er⟩:=roomN (m:=4) (n:=4) rfl hp.1 hp.2 (by decide) (by decide);have ea:∃a:Nat,1<=a/\a<=20000/\IntKind.wrap .i64 (1+IntKind.wrap .i64 p2)=(a:Int):=⟨(1+p2).toNat,by omega,by omega,by rw[w8 hp2.1 hp2.2,w64 (by omega) (by omega)];omega⟩;obtain⟨a,ha1,ha2,ea⟩:=ea;refine⟨by decide,?_⟩;rw[er,ea];have hk:(1:Int)<=((1+r:Nat):Int)/\((1+r:Nat):Int)<=4:=by omega
 generalize ((1+r:Nat):Int)=k at *;have e1:=explore13 L s k (a:Int) h6 (hS.ext hs.ext);rw[expV_ok hV hk.1 hk.2 ha1 ha2] at e1;refine e1.mono ?_;rintro _ h14 ⟨cf,mo,tr,A,rfl,hs1,hR⟩;have hs:=hs.join hs1;refine⟨_,cf,mo,_,tr,_,rfl,?_⟩;have hok:=exS_ok (lim:=a) hV hk ha1;generalize exS (L.map MR.m) k a=R1 at *;refine hs.newput (vs:=resA (R1.rv (L.map MR.m).length).v cf mo (R1.rv (L.map MR.m).length).k tr) rfl rfl fun h16 hs=>?_;have hRa:=hR.mono (A':=.blk h14.size (resA (R1.rv (L.map MR.m).length).v cf mo (R1.rv (L.map MR.m).length).k tr) 32::A) mem1;have h1:=hRa.at hs (fun i hi=>hi);dsimp only at h1;refine sB_f rfl ⟨_,hs.rd 0 rfl (i:=0) rfl,?_⟩;have hno:∀ {w:RV},w.k=0->w.t=[]->ResI h16 cf mo tr w->hc h16 ⟨h14.size,3,none⟩=some (.int .i64 w.k)->hc h16 ⟨h14.size,4,none⟩=some (.slice tr.a tr.n tr.c)->(∃x20:Int,hc h16 ⟨h14.size,3,none⟩=some (.int .i64 x20) /\ 
    (sB (x20==0) 
    ((∃x21:Sl,hc h16 ⟨h14.size,4,none⟩=some (.slice x21.a x21.n x21.c) /\ 
    (Value.bool ((x21.n:Int)==0)=.bool true/\Ext h h16))) 
    (Value.bool false=.bool true/\Ext h h16))):=fun {w} hk ht hw g3 g4=>by
  have:=hw.t.ln;rw[ht] at this;exact⟨_,g3,sB_t (by rw[hk];rfl) ⟨tr,g4,by rw[this];rfl,hs.ext⟩⟩
 cases R1 with
 | unk=>exact sB_t rfl (sB_t rfl (hno rfl rfl h1 (hs.rd 0 rfl (i:=3) rfl) (hs.rd 0 rfl (i:=4) rfl)))
 | safe Q=>exact sB_t rfl (sB_t rfl (hno rfl rfl h1 (hs.rd 0 rfl (i:=3) rfl) (hs.rd 0 rfl (i:=4) rfl)))
 | bad bd t=>
  refine sB_f rfl ⟨tr,hs.rd 0 rfl (i:=4) rfl,?_⟩;obtain⟨i,Q,c,hsea,gi,hbd,hb0⟩:=hok;have hrun:=hsea.r _ (Yb gi);have hpro:=hsea.p _ (Yb gi);dsimp only at hrun hpro;have htn:=h1.t.ln;have htl:(Res.rv (L.map MR.m).length (.bad bd t)).t=t:=rfl;rw[htl] at htn;have e2:=replay19 L s k (t.map fun q=>((q.1:Int),(q.2:Int))) tr h16 (hS.ext hs.ext) (stpI_rows h1.t);rw[rpl_run hV hk hrun] at e2;refine e2.mono ?_;rintro _ h28 ⟨ts,tb,T,A2,rfl,hT,hs2,hC⟩;dsimp only at hT hC;have hs:=hs.join hs2;refine⟨ts,tb,_,_,rfl,?_⟩;refine hs.newput (vs:=[.slice ts.a ts.n ts.c,.slice tb.a tb.n tb.c]) rfl rfl fun h30 hs=>?_;refine⟨ts,tb,hs.at 0 rfl (o:=0) (n:=2) rfl,?_⟩;refine (bad38 L s k ts tb c.1 T h30 (hS.ext hs.ext) (hC.at hs fun i hi=>Yn _ (List.mem_append_right _ hi))).mono ?_;rintro _ h36 ⟨E36,b,e,rfl,hbe,-⟩;rw[hT] at hbe;obtain⟨rfl,rfl⟩:=hbe hpro;have hs:=hs.step E36;have hcn:cf.n=0:=by
   obtain⟨C1,q1,q2,q3⟩:=h1.c;have:=q1.ln;have e:=congrArg List.length q3;rw[Yc] at e;rw[this,e];rfl
  refine⟨_,_,rfl,sB_t rfl ⟨tr,hs.rd 1 rfl (i:=4) rfl,sB_t (by rw[htn];exact beq_self_eq_true _) (sB_t rfl ⟨bd,hs.rd 1 rfl (i:=3) rfl,sB_t (by rw[hbd];exact beq_self_eq_true _) (sB_t (by rw[bne_iff_ne,hbd];exact hb0) ⟨cf,hs.rd 1 rfl (i:=1) rfl,by rw[hcn];rfl,hs.ext⟩)⟩)⟩⟩
end Go.VC
end

section
namespace Go.VC
open Go.Proofs Go.LexS Go.RowKit Go.ChangeShapes Go.WideShapes Go.Proofs.YtknallccojglcaaGreatDoor
theorem bulk_pos {H:Type} (d:DataW H):1<=Rows.uptoBulk d:=by
 cases d with
 | lit l=>cases l<;>simp[Rows.uptoBulk]
 | _=>simp[Rows.uptoBulk]
theorem bulk_part {H:Type}:∀ {l:List (DataW H)} {d:DataW H},d∈l->Rows.uptoBulk d<=Rows.uptoBulkAll l
 | [],_,h=>by cases h
 | x::r,d,h=>by
  rw[Rows.uptoBulkAll];rcases Yr.1 h with rfl | h
  ·omega
  ·have:=bulk_part h;omega
theorem bulk_len {H:Type}:∀l:List (DataW H),l.length<=Rows.uptoBulkAll l
 | []=>by simp
 | x::r=>by
  have h1:=bulk_pos x;have h2:=bulk_len r;rw[Rows.uptoBulkAll,Yyj];omega
def Rdb (P:Program) (W:World) (t:TypeId) (cs:List Value):Prop:=
 ∃(H:Type) (enc:TypeId × Value->H) (n:Nat) (x:DataW H × List MemPlace),DataW.trod enc P W 0 (fun _=>true) true n t cs=some x/\Rows.uptoBulk x.1<=1048576
theorem Rdb.rdt {P:Program} {W:World} {t:TypeId} {cs:List Value} (h:Rdb P W t cs):Rdt P W t cs:=by
 obtain⟨H,enc,n,x,h1,_⟩:=h;exact⟨H,enc,n,x,h1⟩
theorem rdb_of_trod {H:Type} {enc:TypeId × Value->H} {P:Program} {W:World} {t:TypeId} {v:Value} {d:DataW H} {p:List MemPlace} (h:DataW.Trod enc P W 0 (fun _=>true) true t v d p) (hw:Rows.uptoBulk d<=1048576):Rdb P W t v.cells.toList:=by
 obtain⟨n,h⟩:=h;exact⟨H,enc,n,_,h,hw⟩
theorem Rdb.field {P:Program} {W:World} {t ft:TypeId} {cs:List Value} {i off:Nat} (h:Rdb P W t cs) (hf:fieldAt P t i=some (ft,off)):Rdb P W ft ((cs.drop off).take (P.cellsOf ft)):=by
 unfold fieldAt at hf;split at hf
 ·rename_i fs hu;obtain⟨f,h1,h2⟩:=Yya.1 hf;cases h2;obtain⟨H,enc,n,x,h,hw⟩:=h;obtain⟨xs,m,_,hx,hl,hxl,hfi⟩:=DataW.trod_struct hu h;have hlt:i<xs.length:=by rw[hxl];exact (Yyg.1 h1).1
  refine⟨H,enc,m,xs[i],by rw[hfi i f h1,Yi hlt],?_⟩;rw[hx,Rows.uptoBulk] at hw;have:=bulk_part (l:=xs.map (·.1)) (d:=xs[i].1) (Yp.2 ⟨xs[i],List.getElem_mem hlt,rfl⟩);omega
 ·cases hf
theorem Rdb.rows {P:Program} {W:World} {t e:TypeId} {cs:List Value} (ht:P.underlying t=some (.slice e)) (h:Rdb P W t cs) (hpos:0<P.cellsOf e) :
  ∃(s:Sl) (rows:List (List Value)),cs=[.slice s.a s.n s.c]/\s.n<=s.c/\s.n<=1048576/\(s.a=none->s.n=0/\s.c=0)/\Rw W.heap (P.cellsOf e) s rows/\∀r∈rows,r.length=P.cellsOf e/\Rdb P W e r:=by
 obtain⟨H,enc,n,x,h,hw⟩:=h;rcases DataW.trod_slice ht h with ⟨rfl,_⟩ | ⟨a,len,cap,elems,rest,m,_,rfl,hx,_,hlc,hcm,hel,helem,_,_⟩
 ·exact⟨⟨none,0,0⟩,[],rfl,Yyt _,Nat.zero_le _,fun _=>⟨rfl,rfl⟩,Rw.nil,fun r hr=>by cases hr⟩
 ·rw[hx,Rows.uptoBulk] at hw;have hle:len<=1048576:=by
   have:=bulk_len (elems.map (·.1));rw[Yc] at this;omega
  have hwe:∀(i:Nat) (hi:i<elems.length),Rows.uptoBulk elems[i].1<=1048576:=fun i hi=>by
   have:=bulk_part (l:=elems.map (·.1)) (d:=elems[i].1) (Yp.2 ⟨elems[i],List.getElem_mem hi,rfl⟩);omega
  by_cases h0:len=0
  ·subst h0;exact⟨⟨some a,0,cap⟩,[],rfl,hlc,hle,fun e=>(by cases e),Rw.empty rfl,fun r hr=>by cases hr⟩
  ·have hrow:∀i,i<len->∃r,W.cells? 0 (a.add (i*P.cellsOf e)) (P.cellsOf e)=some r/\Rdb P W e r:=by
    intro i hi;have h1:=helem i hi;rw[Yi (by omega)] at h1;obtain⟨r,hr,hx2⟩:=Option.bind_eq_some_iff.1 h1;exact⟨r,hr,H,enc,m,_,hx2,hwe i (by omega)⟩
   let row:Nat->List Value:=fun i=>(W.cells? 0 (a.add (i*P.cellsOf e)) (P.cellsOf e)).getD []
   have hrow':∀i,i<len->W.cells? 0 (a.add (i*P.cellsOf e)) (P.cellsOf e)=some (row i)/\Rdb P W e (row i):=fun i hi=>by
    obtain⟨r,hr,hx⟩:=hrow i hi;have:row i=r:=by show (W.cells? 0 _ _).getD []=r;rw[hr];rfl
    rw[this];exact⟨hr,hx⟩
   have hget:∀i,i<len->((List.range len).map row)[i]?=some (row i):=fun i hi=>by
    rw[Yd,Yyb hi];rfl
   have hspot:a=⟨a.block,a.off,none⟩:=by
    have hc:=(cells_at (hrow' 0 (by omega)).1);have hl0:0<(row 0).length:=by rw[hc.1];exact hpos
    have:=hc.2 0 _ (Yi hl0);rw[Nat.zero_mul,show (a.add 0).add 0=a from rfl] at this;unfold World.cell? at this;split at this
    ·split at this
     ·cases this
     ·rename_i hs;cases a with
      | mk b o s=>
       cases s with
       | none=>rfl
       | some s=>exact absurd rfl hs
    ·cases this
   refine⟨⟨some a,len,cap⟩,(List.range len).map row,rfl,hlc,hle,fun e=>(by cases e),⟨by simp,fun _=>⟨a.block,a.off,by rw[<-hspot],fun i r hi j v hj=>?_⟩⟩,fun r hr=>?_⟩
   ·have hil:i<len:=by have:=(Ya.1 hi).1;simpa using this
    rw[hget i hil] at hi;cases hi;have h4:=(cells_at (hrow' i hil).1).2 _ _ hj;rw[hspot] at h4;have e:((⟨a.block,a.off,none⟩:Addr).add (i*P.cellsOf e)).add j=addk ⟨a.block,a.off+i*P.cellsOf e,none⟩ j:=by
     rw[addk_at,add_n,add_n]
    rw[e] at h4;exact h4
   ·obtain⟨i,hi,rfl⟩:=Yp.1 hr;have:=hrow' i (List.mem_range.1 hi);exact⟨(cells_at this.1).1,this.2⟩
theorem Rdb.list {α:Type} {P:Program} {W:World} {t e:TypeId} {k:Nat} {v:Value} {cs:α->List Value} {Q:α->Prop} (ht:P.underlying t=some (.slice e)) (hk:P.cellsOf e=k) (hpos:0<k)
  (ho:∀r,Rdb P W e r->∃x,r=cs x/\Q x) (h:Rdb P W t [v]):∃(s:Sl) (L:List α),v=.slice s.a s.n s.c/\RL W.heap k s cs L/\∀x∈L,Q x:=by
 subst hk;obtain⟨s,rows,e1,hc,hm,hna,hrw,hr⟩:=h.rows ht hpos;have key:∀rows:List (List Value),(∀r∈rows,r.length=P.cellsOf e/\Rdb P W e r)->∃L:List α,rows=L.map cs/\∀x∈L,Q x:=by
  intro rows
  induction rows with
  | nil=>intro _;exact⟨[],rfl,fun x hx=>by cases hx⟩
  | cons r rows ih=>
   intro h;obtain⟨x,hx,hq⟩:=ho r (h r (by simp)).2;obtain⟨L,hL,hQ⟩:=ih fun y hy=>h y (Yn _ hy);exact⟨x::L,by rw[hx,hL];rfl,fun y hy=>by rcases Yr.1 hy with rfl | hy;exact hq;exact hQ y hy⟩
 obtain⟨L,rfl,hQ⟩:=key rows hr;have hn:=hrw.ln;exact⟨s,L,by simpa using e1,⟨hrw,hc,hna,by omega⟩,hQ⟩
theorem v3:Pz.underlying 3=some (.int .i64):=by kernel_rfl
theorem v4b:Pz.underlying 4=some .bool:=by kernel_rfl
theorem cz3:Pz.cellsOf 3=1:=by kernel_rfl
theorem cz4:Pz.cellsOf 4=1:=by kernel_rfl
theorem cz85:Pz.cellsOf 85=1:=by kernel_rfl
theorem cz86:Pz.cellsOf 86=1:=by kernel_rfl
theorem cz75:Pz.cellsOf 75=1:=by kernel_rfl
theorem cz88:Pz.cellsOf 88=6:=by kernel_rfl
theorem cz199:Pz.cellsOf 199=3:=by kernel_rfl
theorem cz116:Pz.cellsOf 116=6:=by kernel_rfl
theorem vs85:Pz.underlying 85=some (.slice 4):=by kernel_rfl
theorem vs86:Pz.underlying 86=some (.slice 116):=by kernel_rfl
theorem vs75:Pz.underlying 75=some (.slice 199):=by kernel_rfl
theorem open_three {W:World} {t:TypeId} {r:List Value} (hc:Pz.cellsOf t=3) (h0:fieldAt Pz t 0=some (3,0)) (h1:fieldAt Pz t 1=some (3,1)) (h2:fieldAt Pz t 2=some (3,2)) (h:Rdt Pz W t r) :
  ∃a b c:Int,r=[.int .i64 a,.int .i64 b,.int .i64 c]:=by
 have hl:=h.flen h0;rw[hc] at hl
 match r,hl with
 | [x0,x1,x2],_=>
  have f0:=h.field h0;have f1:=h.field h1;have f2:=h.field h2;rw[cz3] at f0 f1 f2;obtain⟨k0,e0,_⟩:=f0.int v3;obtain⟨k1,e1,_⟩:=f1.int v3;obtain⟨k2,e2,_⟩:=f2.int v3;simp only[List.drop_zero,List.take_succ_cons,Yyk,List.drop_succ_cons,List.cons.injEq,and_true] at e0 e1 e2;subst e0 e1 e2;exact⟨k0,k1,k2,rfl⟩
theorem open_boolv {W:World} {r:List Value} (h:Rdb Pz W 4 r):∃x:Bool,r=bC x/\True:=by
 obtain⟨k,e⟩:=h.rdt.bool v4b;exact⟨k,e,trivial⟩
theorem open_limit {W:World} {r:List Value} (h:Rdb Pz W 199 r):∃x:To,r=x.cs/\True:=by
 obtain⟨a,b,c,e⟩:=open_three cz199 (by kernel_rfl) (by kernel_rfl) (by kernel_rfl) h.rdt;exact⟨⟨a,b,c⟩,e,trivial⟩
theorem open_move {W:World} {r:List Value} (h:Rdb Pz W 116 r):∃x:Mv,r=x.cs/\True:=by
 have hl:=h.rdt.flen (i:=0) (ft:=3) (off:=0) (by kernel_rfl);rw[cz116] at hl
 match r,hl with
 | [x0,x1,x2,x3,x4,x5],_=>
  have f0:=h.rdt.field (i:=0) (ft:=3) (off:=0) (by kernel_rfl);have f1:=h.rdt.field (i:=1) (ft:=4) (off:=1) (by kernel_rfl);have f2:=h.rdt.field (i:=2) (ft:=3) (off:=2) (by kernel_rfl);have f3:=h.rdt.field (i:=3) (ft:=3) (off:=3) (by kernel_rfl);have f4:=h.rdt.field (i:=4) (ft:=3) (off:=4) (by kernel_rfl);have f5:=h.rdt.field (i:=5) (ft:=4) (off:=5) (by kernel_rfl);rw[cz3] at f0 f2 f3 f4;rw[cz4] at f1 f5;obtain⟨k0,e0,_⟩:=f0.int v3;obtain⟨k1,e1⟩:=f1.bool v4b;obtain⟨k2,e2,_⟩:=f2.int v3;obtain⟨k3,e3,_⟩:=f3.int v3;obtain⟨k4,e4,_⟩:=f4.int v3;obtain⟨k5,e5⟩:=f5.bool v4b;simp only[List.drop_zero,List.take_succ_cons,Yyk,List.drop_succ_cons,List.cons.injEq,and_true] at e0 e1 e2 e3 e4 e5;subst e0 e1 e2 e3 e4 e5;exact⟨⟨k0,k1,k2,k3,k4,k5⟩,rfl,trivial⟩
theorem open_machine {W:World} {r:List Value} (h:Rdb Pz W 88 r):∃(m:Mch) (sf sm sl:Sl),r=mC m sf sm sl/\MI W.heap m sf sm sl:=by
 have hl:=h.rdt.flen (i:=0) (ft:=3) (off:=0) (by kernel_rfl);rw[cz88] at hl
 match r,hl with
 | [x0,x1,x2,x3,x4,x5],_=>
  have f0:=h.rdt.field (i:=0) (ft:=3) (off:=0) (by kernel_rfl);have f1:=h.rdt.field (i:=1) (ft:=3) (off:=1) (by kernel_rfl);have f2:=h.rdt.field (i:=2) (ft:=3) (off:=2) (by kernel_rfl);have f3:=h.field (i:=3) (ft:=85) (off:=3) (by kernel_rfl);have f4:=h.field (i:=4) (ft:=86) (off:=4) (by kernel_rfl);have f5:=h.field (i:=5) (ft:=75) (off:=5) (by kernel_rfl);rw[cz3] at f0 f1 f2;rw[cz85] at f3;rw[cz86] at f4;rw[cz75] at f5;obtain⟨k0,e0,_⟩:=f0.int v3;obtain⟨k1,e1,_⟩:=f1.int v3;obtain⟨k2,e2,_⟩:=f2.int v3;obtain⟨sf,lf,e3,hf,_⟩:=Rdb.list vs85 cz4 (by omega) (fun r hr=>open_boolv hr) (show Rdb Pz W 85 [x3] from f3);obtain⟨sm,lm,e4,hm,_⟩:=Rdb.list vs86 cz116 (by omega) (fun r hr=>open_move hr) (show Rdb Pz W 86 [x4] from f4);obtain⟨sl,ll,e5,hl,_⟩:=Rdb.list vs75 cz199 (by omega) (fun r hr=>open_limit hr) (show Rdb Pz W 75 [x5] from f5);simp only[List.drop_zero,List.take_succ_cons,Yyk,List.drop_succ_cons,List.cons.injEq,and_true] at e0 e1 e2;subst e0 e1 e2 e3 e4 e5;exact⟨⟨k0,k1,k2,lf,lm,ll⟩,sf,sm,sl,rfl,⟨hf,hm,hl⟩⟩
theorem v5u:Pz.underlying 5=some (.int .u8):=by kernel_rfl
theorem vsS22:Pz.underlying 22=some (.slice 88):=by kernel_rfl
theorem v44:Pz.underlying 44=some (.array 2 5):=by kernel_rfl
theorem open_mr {W:World} {r:List Value} (h:Rdb Pz W 88 r):∃x:MR,r=x.cs/\MI W.heap x.m x.f x.g x.l:=by
 obtain⟨m,f,g,l,e,hm⟩:=open_machine h;exact⟨⟨m,f,g,l⟩,e,hm⟩
theorem open_sys {W:World} {v:Value} (h:Rdb Pz W 22 [v]):∃(s:Sl) (L:List MR),v=.slice s.a s.n s.c/\SyI W.heap s L:=by
 obtain⟨s,L,e,hr,hq⟩:=Rdb.list vsS22 cz88 (by omega) (fun r hr=>open_mr hr) h;exact⟨s,L,e,hr,hq⟩
theorem open_u8n {W:World} {r:List Value} (h:Rdb Pz W 5 r):∃x:Int,r=u8C x/\(0<=x/\x<256):=by
 obtain⟨n,e,hw⟩:=h.rdt.int v5u;have h3:(decide (IntKind.u8.min<=n)&&decide (n<=IntKind.u8.max))=true:=hw;rw[Yt] at h3;have h4:(0:Int)<=n:=Yyn h3.1;have h5:n<=(255:Int):=Yyn h3.2;exact⟨n,e,h4,by omega⟩
theorem u8_rng {W:World} {k:Int} (h:Rdb Pz W 5 [.int .u8 k]):0<=k/\k<256:=by
 obtain⟨x,e,hx⟩:=open_u8n h;injection e with e1 _;injection e1 with _ e2;rw[e2];exact hx
end Go.VC
end
