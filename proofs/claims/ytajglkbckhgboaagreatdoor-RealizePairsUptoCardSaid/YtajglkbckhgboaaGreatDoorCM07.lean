/- SxLq SxVcS9 SxLr0 SxLr SxLt0 SxLt SxLu SxVcSa SxLx0. -/
import Derived.Test.YtajglkbckhgboaaGreatDoorCM06
set_option linter.all false
set_option maxRecDepth 100000
set_option maxHeartbeats 8000000

section
namespace Go.VC
open Go.Proofs Go.LexS
def ixI {α:Type} (p:α->Bool) (L:List α):Int:=match L.findIdx? p with | some i=>((i:Nat):Int) | none=>-1
theorem ix_hit {α:Type} {p:α->Bool}:∀ {L:List α} {i:Nat} {x:α},(∀(j:Nat) y,j<i->L[j]?=some y->p y=false)->L[i]?=some x->p x=true->L.findIdx? p=some i
 | [],i,x,_,h,_=>by cases h
 | a::L,0,x,_,h,hp=>by cases h;rw[List.findIdx?_cons,hp];rfl
 | a::L,i+1,x,hq,h,hp=>by
  rw[List.findIdx?_cons,hq 0 a (by omega) rfl,ix_hit (L:=L) (i:=i) (fun j y hj hy=>hq (j+1) y (by omega) hy) h hp];rfl
theorem ix_no {α:Type} {p:α->Bool} {L:List α} (h:∀(j:Nat) y,L[j]?=some y->p y=false):L.findIdx? p=none:=by
 rw[List.findIdx?_eq_none_iff];intro x hx;obtain⟨j,hj⟩:=Yf.1 hx;exact h j x hj
abbrev FS:=Fnd × Sl
def fnC (q:FS):List Value:=[.int .i64 q.1.m.p,.int .i64 q.1.m.l,.slice q.2.a q.2.n q.2.c]
theorem ms_eqb (x y:Ms):((x.p==y.p)&&((x.l==y.l)&&true))=decide (x=y):=by
 obtain⟨a,b⟩:=x;obtain⟨c,d⟩:=y;rw[Bool.eq_iff_iff];simp
theorem same247 (q:FS) (m:Ms) (b:Nat) (h:Heap) (hc0:atC h ⟨b,0,none⟩ m.cs):Fn Pz 132 #[.agg ⟨fnC q⟩,.pointer (some ⟨b,0,none⟩)] h fun v h'=>v=.bool (decide (q.1.m=m))/\Ext h h':=by
 apply vc132 q.1.m.p q.1.m.l q.2 ⟨b,0,none⟩;unfold W132;refine (St.refl h).newb fun h4 hs=>?_;exact⟨_,_,hs.at 0 rfl (o:=0) (n:=2) rfl,m.p,m.l,atC_ext hs.ext hc0,by rw[ms_eqb],hs.ext⟩
theorem same210 (q:FS) (m:Ms) (b:Nat) (h:Heap) (hc0:atC h ⟨b,0,none⟩ m.cs):Fn Pz 72 #[.agg ⟨fnC q⟩,.pointer (some ⟨b,0,none⟩)] h fun v h'=>v=.bool (decide (q.1.m=m))/\Ext h h':=by
 apply vc72 q.1.m.p q.1.m.l q.2 ⟨b,0,none⟩;unfold W72;refine (St.refl h).newb fun h4 hs=>?_;exact⟨_,_,hs.at 0 rfl (o:=0) (n:=2) rfl,m.p,m.l,atC_ext hs.ext hc0,by rw[ms_eqb],hs.ext⟩
theorem cal247:callable Pz 132=true:=by kernel_rfl
theorem cal210:callable Pz 72=true:=by kernel_rfl
theorem index209 (G:Nat) (hG:callable Pz G=true) (L:List FS) (m:Ms) (b:Nat) (s:Sl) (h:Heap) (hr:Rw h 3 s (L.map fnC)) (hc0:atC h ⟨b,0,none⟩ m.cs) (hl:L.length<=16777216)
  (hF:∀(q:FS) (h:Heap),atC h ⟨b,0,none⟩ m.cs->Fn Pz G #[.agg ⟨fnC q⟩,.pointer (some ⟨b,0,none⟩)] h fun v h'=>v=.bool (decide (q.1.m=m))/\Ext h h') :
  Fn Pz 71 #[.slice s.a s.n s.c,.func (.func G) #[] #[.pointer (some ⟨b,0,none⟩)]] h fun v h'=>v=.int .i64 (ixI (fun q=>decide (q.1.m=m)) L)/\Ext h h':=by
 apply vc71;unfold W71;have hn:=hr.ln;refine⟨fun x h' μ=>∃i:Nat,x=i/\μ=s.n-i/\i<=s.n/\Ext h h'/\∀(j:Nat) (y:FS),j<i->L[j]?=some y->decide (y.1.m=m)=false,⟨_,0,rfl,rfl,Nat.zero_le _,.rfl',fun j y hj=>by omega⟩,?_⟩;rintro-_ h5 μ ⟨i,rfl,rfl,hi,E,hd⟩;refine sBi (fun c=>?_) (fun c=>?_)
 .refine (hr.ext E).nbI (by omega) (by omega) fun b6 o7 q g t=>?_;replace g:L[i]?=some q:=g;refine⟨q.1.m.p,q.1.m.l,q.2,t,?_⟩;show cond (callable Pz G) _ _;rw[hG,cond_true];refine (hF q h5 (atC_ext E hc0)).mono ?_;rintro _ h16 ⟨rfl,E2⟩;refine⟨_,rfl,sB_intro (fun c1=>⟨?_,E.trans E2⟩) (fun c1=>⟨_,by omega,i+1,by rw[w64 (by omega) (by omega)];omega,rfl,by omega,E.trans E2,fun j y hj hy=>?_⟩)⟩
  .unfold ixI;rw[ix_hit hd g c1]
  .by_cases e1:j=i
   .subst e1;rw[g] at hy;cases hy;exact c1
   .exact hd j y (by omega) hy
 .refine⟨?_,E⟩;unfold ixI;rw[ix_no fun j y hj=>hd j y (by have:=(Ya.1 hj).1;omega) hj]
theorem contains246 (L:List FS) (m:Ms) (b:Nat) (s:Sl) (h:Heap) (hr:Rw h 3 s (L.map fnC)) (hc0:atC h ⟨b,0,none⟩ m.cs) (hl:L.length<=16777216) :
  Fn Pz 131 #[.slice s.a s.n s.c,.func (.func 132) #[] #[.pointer (some ⟨b,0,none⟩)]] h fun v h'=>(∃r:Bool,v=.bool r/\(r=true ↔ ∃q∈L,q.1.m=m))/\Ext h h':=by
 apply vc131;unfold W131;refine (index209 132 cal247 L m b s h hr hc0 hl fun q h hc=>same247 q m b h hc).mono ?_;rintro _ h3 ⟨rfl,E⟩;refine⟨_,rfl,⟨_,rfl,?_⟩,E⟩;rw[decide_eq_true_eq];unfold ixI;cases hf:L.findIdx? fun q=>decide (q.1.m=m) with
 | none=>
  rw[List.findIdx?_eq_none_iff] at hf;refine iff_of_false (by simp only;omega) ?_;rintro⟨q,hq,e⟩;have:=hf q hq;rw[decide_eq_true e] at this;cases this
 | some i=>
  refine iff_of_true (by simp only;omega) ?_;obtain⟨h1,h2,_⟩:=List.findIdx?_eq_some_iff_getElem.1 hf;exact⟨L[i],List.getElem_mem h1,Yyn h2⟩
theorem rev_get {α:Type} (L:List α) (i:Nat) (hi:i<L.length):L.reverse[i]?=L[L.length-1-i]?:=by
 rw[List.getElem?_reverse hi]
theorem reverse248 {h0 h:Heap} {Ls:List It} (hs:St h0 h Ls) (k:Nat) {s:Sl} {l:List Ac} (hk:Ls[k]?=some (.sl s 65 3 (l.map Ac.cs))) (hl:l.length<=33554432) :
  Fn Pz 133 #[.slice s.a s.n s.c] h fun v h'=>v=.tuple ⟨[]⟩/\St h0 h' (Ls.set k (.sl s 65 3 (l.reverse.map Ac.cs))):=by
 apply vc133 s;unfold W133;have hkl:k<Ls.length:=(Ya.1 hk).1;have hn:s.n=l.length:=by have:=(hs.len k hk (by omega)).1;rwa [Yc] at this
 have hset:Ls.set k (.sl s 65 3 (l.map Ac.cs))=Ls:=by
  obtain⟨a,b⟩:=Ya.1 hk;rw[<-b];exact List.set_getElem_self a
 refine⟨fun x y h' m=>∃(i:Nat) (c:List Ac),x=i/\y=(l.length:Int)-1-i/\m=l.length-i/\2*i<=l.length+1/\c.length=l.length/\(∀t,t<l.length->c[t]?=if t<i\/l.length-i<=t then l[l.length-1-t]? else l[t]?)/\St h0 h' (Ls.set k (.sl s 65 3 (c.map Ac.cs))),
  ⟨_,0,l,rfl,by rw[w64 (by omega) (by omega)];omega,rfl,by omega,rfl,fun t ht=>by rw[if_neg (by omega)],by rw[hset];exact hs⟩,?_⟩
 clear hs;rintro-_ _ h6 m ⟨i,c,rfl,rfl,rfl,hi,hcl,hc,hs⟩;have hkI:(Ls.set k (.sl s 65 3 (c.map Ac.cs)))[k]?=some (.sl s 65 3 (c.map Ac.cs)):=by rw[Yq hkl]
 refine sBi (fun c1=>?_) (fun c1=>?_)
 .have hj:(l.length:Int)-1-i=((l.length-1-i:Nat):Int):=by omega
  rw[hj];refine (hs.rows k hkI (by omega)).nbI (by omega) (by omega) fun b7 o8 x gx t=>?_;replace gx:c[l.length-1-i]?=some x:=gx;refine⟨x.a,x.b,x.l,t,?_⟩;refine (hs.rows k hkI (by omega)).nbI (by omega) (by omega) fun b12 o13 y gy t2=>?_;replace gy:c[i]?=some y:=gy;refine⟨y.a,y.b,y.l,t2,?_⟩;refine hs.set k hkI (by omega) (x:=(i:Int)) (by omega) (by omega) x rfl rfl (fun b17 o18 h19 hs=>?_) rfl;rw[List.set_set] at hs;have hkI2:(Ls.set k (.sl s 65 3 ((c.set (Int.toNat (i:Int)) x).map Ac.cs)))[k]?=some (.sl s 65 3 ((c.set (Int.toNat (i:Int)) x).map Ac.cs)):=by rw[Yq hkl]
  refine hs.set k hkI2 (by omega) (x:=((l.length-1-i:Nat):Int)) (by omega) (by omega) y rfl rfl (fun b20 o21 h22 hs=>?_) rfl;rw[List.set_set] at hs;refine⟨_,?_,i+1,(c.set i x).set (l.length-1-i) y,by rw[w64 (by omega) (by omega)];omega,by rw[w64 (by omega) (by omega)];omega,rfl,by omega,by rw[Yyh,Yyh];exact hcl,fun t ht=>?_,hs⟩
  .omega
  .have h1:=hc (l.length-1-i) (by omega);have h2:=hc i (by omega);rw[if_neg (by omega)] at h1 h2;rw[gx] at h1;rw[gy] at h2;by_cases e1:l.length-1-i=t
   .subst e1;rw[Yq (by rw[Yyh];omega),if_pos (by omega),show l.length-1-(l.length-1-i)=i by omega,h2]
   .rw[Yy e1];by_cases e2:i=t
    .subst e2;rw[Yq (by omega),if_pos (by omega),h1]
    .rw[Yy e2,hc t ht];by_cases e3:t<i\/l.length-i<=t
     .rw[if_pos e3,if_pos (by omega)]
     .rw[if_neg e3,if_neg (by omega)]
 .refine⟨rfl,?_⟩;have:c=l.reverse:=by
   apply Yyr;intro t;by_cases ht:t<l.length
   .rw[hc t ht,rev_get l t ht];by_cases e3:t<i\/l.length-i<=t
    .rw[if_pos e3]
    .rw[if_neg e3];congr 1;omega
   .rw[Yl (by omega),Yl (by rw[List.length_reverse];omega)]
  rw[<-this];exact hs
end Go.VC
end

section
namespace Go.VC
open Go.Proofs
/- farandole/early.search
   loop rrrrrrrrrrlrborlbrrborrlbrrlbrertrrrtrlrb: path_148:Sl, i_149:Int
   join rrrrrrrrrrlrborlbrrborrlbrr: all_173:Sl
   loop rrrrrrrrrrlrborlbrrb: queue_103:Sl, all_104:Sl, x_105:Int
   loop rrrrrrrrrrlrb: queue_87:Sl, all_88:Sl, head_89:Int
   loop rrrrlrb: x_57:Int
   loop rrrlrb: x_28:Int -/
def V68a (h140:Heap) (head_89:Int) (h144:Heap) (queue_103:Sl) (h133:Heap) (all_104:Sl) (J122:Sl->Heap->Prop):Prop:=
 (∃I145:Sl->Int->Heap->Nat->Prop,(∃m146,I145 ⟨(some ⟨h140.size,0,none⟩),1,1⟩ head_89 h144 m146) /\ 
         (∀(_:Env) (path_148:Sl) (i_149:Int) (h150:Heap) (m147:Nat),I145 path_148 i_149 h150 m147 -> 
         (NB queue_103.a fun b151 o152=>((0<=(i_149:Int)/\(i_149:Int)<(queue_103.n:Nat)) /\ 
          (∃x153:Int,hc h150 ⟨b151,o152+Int.toNat i_149*7+3,none⟩=some (.int .i64 x153) /\ 
          (sB (decide (x153>=0)) 
          ((NB queue_103.a fun b154 o155=>((0<=(i_149:Int)/\(i_149:Int)<(queue_103.n:Nat)) /\ 
          (∃x156:Int,∃x157:Int,∃x158:Int,atC h150 ⟨b154,o155+Int.toNat i_149*7+4,none⟩ [.int .i64 x156,.int .i64 x157,.int .i64 x158] /\ 
          (∀h159:Heap,h159=h150.push (.cells ⟨[.int .i64 x156,.int .i64 x157,.int .i64 x158]⟩ 65) -> 
          (App Pz 30 30 (.slice path_148.a path_148.n path_148.c) (.slice (some ⟨h150.size,0,none⟩) 1 1) h159 fun s160 h161=>
          (NB queue_103.a fun b162 o163=>((0<=(i_149:Int)/\(i_149:Int)<(queue_103.n:Nat)) /\ 
          (∃x164:Int,hc h161 ⟨b162,o163+Int.toNat i_149*7+3,none⟩=some (.int .i64 x164) /\ 
          (∃m165,m165<m147/\I145 s160 x164 h161 m165)))))))))) 
          ((Fn Pz 133 #[.slice path_148.a path_148.n path_148.c] h150 
          (fun v166 h167=>v166=.tuple ⟨[]⟩ /\ 
          (∃x168:Int,∃x169:Int,atC h167 ⟨h133.size,0,none⟩ [.int .i64 x168,.int .i64 x169] /\ 
          (∀h170:Heap,h170=h167.push (.cells ⟨[.int .i64 x168,.int .i64 x169,.slice path_148.a path_148.n path_148.c]⟩ 134) -> 
          (App Pz 130 130 (.slice all_104.a all_104.n all_104.c) (.slice (some ⟨h167.size,0,none⟩) 1 1) h170 fun s171 h172=>
          (J122 s171 h172)))))))))))))
def V68b (h121:Heap) (h90:Heap) (h106:Heap) (h116:Heap) (all_104:Sl) (x66:Int) (head_89:Int) (queue_103:Sl) (x74:Option Nat) (m102:Nat) (I100:Sl->Sl->Int->Heap->Nat->Prop) (x_105:Int):Prop:=
 (∃J122:Sl->Heap->Prop, 
 ((∃x123:Int,hc h121 (aS h90 1)=some (.int .u8 x123) /\ 
 (∃x124,rI h121 (aS h106 1) x124 /\ 
 (0<=x124/\(sB ((andI .u8 (shrI .u8 x123 x124) 1)==1) 
 ((∃x125:Int,hc h121 (aS h116 1)=some (.int .u8 x125) /\ 
 (∃x126,rI h121 (aS h106 (1+1)) x126 /\ 
 (0<=x126/\(Wp h121 (aS h116 1) 1 [.int .u8 (orI .u8 x125 (shlI .u8 1 x126))] fun h127=>
 (J122 all_104 h127)))))) 
 ((∃x128,rI h121 (aS h106 (1+1)) x128 /\ 
 (sB (x128==x66) 
 ((∃x129:Int,hc h121 (aS h90 2)=some (.int .u8 x129) /\ 
 (∃x130,rI h121 (aS h106 1) x130 /\ 
 (0<=x130/\(sB ((andI .u8 (shrI .u8 x129 x130) 1)==0) 
 ((∃x131:Int,hc h121 (aS h116 2)=some (.int .u8 x131) /\ 
 (∃x132,rI h121 (aS h106 1) x132 /\ 
 (0<=x132/\(Wp h121 (aS h116 2) 1 [.int .u8 (orI .u8 x131 (shlI .u8 1 x132))] fun h133=>
 (∃x134,rI h133 (aS h106 1) x134 /\ 
 (∃x135,rI h133 (aS h106 (1+2)) x135 /\ 
 (Wn h133 [vI 0,vI 0] 72 fun h136=>
 (Wp h136 (aS h133 0) 2 [vI x134,vI x135] fun h137=>
 (Fn Pz 131 #[vS all_104,.func (.func 132) #[] #[.pointer (some (aS h133 0))]] h137 
 (fun v138 h140=>∃x139,iB v138 x139 /\ 
 (sB (!x139) 
 ((∃x141:Int,∃x142:Int,∃x143:Int,atC h140 (aS h106 1) [vI x141,vI x142,vI x143] /\ 
 (Wn h140 [vI x141,vI x142,vI x143] 65 fun h144=>
 (V68a h140 head_89 h144 queue_103 h133 all_104 J122)))) 
 ((J122 all_104 h140)))))))))))))) 
 ((J122 all_104 h121))))))) 
 ((J122 all_104 h121)))))))))) /\ 
 (∀(_:Env) (all_173:Sl) (h174:Heap),J122 all_173 h174 -> 
 (∃x175:Int,∃x176:Int,∃x177:Int,atC h174 (aS h116 0) [vI x175,.int .u8 x176,.int .u8 x177] /\ 
 (RunW Pz (Instr.lookup 246 (.map x74) (.agg ⟨[vI x175,.int .u8 x176,.int .u8 x177]⟩) false) h174 
 (fun v178 h180=>∃x179,iB v178 x179 /\ 
 (sB (!x179) 
 ((∃x181:Int,∃x182:Int,∃x183:Int,atC h180 (aS h116 0) [vI x181,.int .u8 x182,.int .u8 x183] /\ 
 (RunW Pz (Instr.mapUpdate 246 (.map x74) (.agg ⟨[vI x181,.int .u8 x182,.int .u8 x183]⟩) (.bool true)) h180 (fun _ h184=>
 (∃x185:Int,∃x186:Int,∃x187:Int,atC h184 (aS h116 0) [vI x185,.int .u8 x186,.int .u8 x187] /\ 
 (∃x188:Int,∃x189:Int,∃x190:Int,atC h184 (aS h106 1) [vI x188,vI x189,vI x190] /\ 
 (Wn h184 [vI x185,.int .u8 x186,.int .u8 x187,vI head_89,vI x188,vI x189,vI x190] 248 fun h191=>
 (App Pz 249 249 (vS queue_103) (.slice (some (aS h184 0)) 1 1) h191 fun s192 h193=>
 (∃m194,m194<m102/\I100 s192 all_173 (IntKind.wrap .i64 (x_105+1)) h193 m194))))))))) 
 ((∃m195,m195<m102/\I100 queue_103 all_173 (IntKind.wrap .i64 (x_105+1)) h180 m195))))))))
def W68 (p0_1:ByteArray) (p0_2:Sl) (p0_3:Sl) (p0_4:Int) (p0_5:Int) (p0_6:Int) (p0_7:Sl) (p0_8:Sl) (p1:Int) (h:Heap) (R:Value->Heap->Prop):Prop:=
 (Wn h [.string p0_1,vS p0_2,vS p0_3,vI p0_4,vI p0_5,vI p0_6,vS p0_7,vS p0_8] 27 fun h9=>
 (∃x10:ByteArray,∃x11:Sl,∃x12:Sl,∃x13:Int,∃x14:Int,∃x15:Int,∃x16:Sl,∃x17:Sl,atC h9 (aS h 0) [.string x10,vS x11,vS x12,vI x13,vI x14,vI x15,vS x16,vS x17] /\ 
 (Fn Pz 40 #[.agg ⟨[.string x10,vS x11,vS x12,vI x13,vI x14,vI x15,vS x16,vS x17]⟩] h9 
 (fun v18 h20=>∃x19,iB v18 x19 /\ 
 (sB (!x19) 
 (R (.tuple ⟨[.slice none 0 0,vI 1]⟩) h20) 
 ((sB (decide (p1<0)) 
 (R (.tuple ⟨[.slice none 0 0,vI 2]⟩) h20) 
 ((∃x21,rS h20 (aS h 6) x21 /\ 
 (sB (decide (p1>=(x21.n:Int))) 
 (R (.tuple ⟨[.slice none 0 0,vI 2]⟩) h20) 
 ((∃x22,rI h20 (aS h 3) x22 /\ 
 (Mk x22 x22 24/\Wn h20 (madeL Pz 24 (Int.toNat x22)) 24 fun h23=>
 (∃x24,rS h23 (aS h 6) x24 /\ 
 (QI 0 h23 fun I25 x_28 h29 m27=>(
 (sB (decide (x_28<(x24.n:Int))) 
 ((NB x24.a fun b30 o31=>(Ib x_28 x24.n /\ 
 (∃x32:Int,∃x33:Int,∃x34:Int,∃x35:Int,∃x36:Int,∃x37:Bool,atC h29 ⟨b30,o31+Int.toNat x_28*6,none⟩ [vI x32,vI x33,vI x34,vI x35,vI x36,.bool x37] /\ 
 (Wn h29 [vI 0,vI 0,vI 0,vI 0,vI 0,.bool false] 67 fun h38=>
 (Wp h38 (aS h29 0) 6 [vI x32,vI x33,vI x34,vI x35,vI x36,.bool x37] fun h39=>
 (∃x40,rI h39 (aS h29 0) x40 /\ 
 (∃x41,rI h39 (aS h29 0) x41 /\ 
 ((0<=(x41:Int)/\(x41:Int)<((Int.toNat x22):Nat)) /\ 
 (∃x42,rS h39 (aS h20 (0+Int.toNat x41*1)) x42 /\ 
 (∃x43:Int,∃x44:Int,∃x45:Int,∃x46:Int,∃x47:Int,∃x48:Bool,atC h39 (aS h29 0) [vI x43,vI x44,vI x45,vI x46,vI x47,.bool x48] /\ 
 (Wn h39 [vI x43,vI x44,vI x45,vI x46,vI x47,.bool x48] 67 fun h49=>
 (Sm [(aS h20 (0+Int.toNat x41*1)),(aS h29 0),(aS h29 0)] h39 h49 /\ 
 (App Pz 24 24 (vS x42) (.slice (some (aS h39 0)) 1 1) h49 fun s50 h51=>
 (Sm [(aS h29 0)] h49 h51 /\ 
 ((0<=(x40:Int)/\(x40:Int)<((Int.toNat x22):Nat)) /\ 
 (Wp h51 (aS h20 (0+Int.toNat x40*1)) 1 [vS s50] fun h52=>
 (∃m53,m53<m27/\I25 (IntKind.wrap .i64 (x_28+1)) h52 m53)))))))))))))))))) 
 ((QI 0 h29 fun I54 x_57 h58 m56=>(
 (sB (decide (x_57<((Int.toNat x22):Int))) 
 (((0<=(x_57:Int)/\(x_57:Int)<((Int.toNat x22):Nat)) /\ 
 (∃x59,rS h58 (aS h20 (0+Int.toNat x_57*1)) x59 /\ 
 (Fn Pz 128 #[vS x59,.func (.func 129) #[] #[]] h58 
 (fun v60 h61=>v60=.tuple ⟨[]⟩ /\ 
 (∃m62,m62<m56/\I54 (IntKind.wrap .i64 (x_57+1)) h61 m62)))))) 
 ((∃x63,rS h58 (aS h 6) x63 /\ 
 (NB x63.a fun b64 o65=>(Ib p1 x63.n /\ 
 (∃x66,rI h58 ⟨b64,o65+Int.toNat p1*6+1+1,none⟩ x66 /\ 
 (∃x67,rS h58 (aS h 6) x67 /\ 
 (NB x67.a fun b68 o69=>(Ib p1 x67.n /\ 
 (∃x70,rI h58 ⟨b68,o69+Int.toNat p1*6+4,none⟩ x70 /\ 
 (0<=x66/\(Wn h58 [vI 0,.int .u8 0,.int .u8 0] 245 fun h71=>
 (Sm [⟨b68,o69+Int.toNat p1*6+4,none⟩,(aS h 6)] h58 h71 /\ 
 (Wp h71 (aS h58 0) 3 [vI x70,.int .u8 (shlI .u8 1 x66),.int .u8 0] fun h72=>
 (RunW Pz (Instr.makeMap 246 (none)) h72 
 (fun v73 h75=>∃x74:Option Nat,v73=.map x74 /\ 
 (∃x76:Int,∃x77:Int,∃x78:Int,atC h75 (aS h58 0) [vI x76,.int .u8 x77,.int .u8 x78] /\ 
 (RunW Pz (Instr.mapUpdate 246 (.map x74) (.agg ⟨[vI x76,.int .u8 x77,.int .u8 x78]⟩) (.bool true)) h75 (fun _ h79=>
 (∃x80:Int,∃x81:Int,∃x82:Int,atC h79 (aS h58 0) [vI x80,.int .u8 x81,.int .u8 x82] /\ 
 (Wn h79 [vI x80,.int .u8 x81,.int .u8 x82,vI (-1),vI 0,vI 0,vI 0] 248 fun h83=>
 (QSSI ⟨(some (aS h79 0)),1,1⟩ ⟨none,0,0⟩ 0 h83 fun I84 queue_87 all_88 head_89 h90 m86=>(
 (sB (decide (head_89<(queue_87.n:Int))) 
 ((NB queue_87.a fun b91 o92=>(Ib head_89 queue_87.n /\ 
 (∃x93:Int,∃x94:Int,∃x95:Int,atC h90 ⟨b91,o92+Int.toNat head_89*7,none⟩ [vI x93,.int .u8 x94,.int .u8 x95] /\ 
 (Wn h90 [vI 0,.int .u8 0,.int .u8 0] 245 fun h96=>
 (Wp h96 (aS h90 0) 3 [vI x93,.int .u8 x94,.int .u8 x95] fun h97=>
 (∃x98,rI h97 (aS h90 0) x98 /\ 
 ((0<=(x98:Int)/\(x98:Int)<((Int.toNat x22):Nat)) /\ 
 (∃x99,rS h97 (aS h20 (0+Int.toNat x98*1)) x99 /\ 
 (QSSI queue_87 all_88 0 h97 fun I100 queue_103 all_104 x_105 h106 m102=>(
 (sB (decide (x_105<(x99.n:Int))) 
 ((NB x99.a fun b107 o108=>(Ib x_105 x99.n /\ 
 (∃x109:Int,∃x110:Int,∃x111:Int,∃x112:Int,∃x113:Int,∃x114:Bool,atC h106 ⟨b107,o108+Int.toNat x_105*6,none⟩ [vI x109,vI x110,vI x111,vI x112,vI x113,.bool x114] /\ 
 (Wn h106 [vI 0,vI 0,vI 0,vI 0,vI 0,.bool false] 67 fun h115=>
 (Wp h115 (aS h106 0) 6 [vI x109,vI x110,vI x111,vI x112,vI x113,.bool x114] fun h116=>
 (∃x117,rI h116 (aS h106 4) x117 /\ 
 (∃x118:Int,hc h116 (aS h90 1)=some (.int .u8 x118) /\ 
 (∃x119:Int,hc h116 (aS h90 2)=some (.int .u8 x119) /\ 
 (Wn h116 [vI 0,.int .u8 0,.int .u8 0] 245 fun h120=>
 (Wp h120 (aS h116 0) 3 [vI x117,.int .u8 x118,.int .u8 x119] fun h121=>
 (V68b h121 h90 h106 h116 all_104 x66 head_89 queue_103 x74 m102 I100 x_105)))))))))))) 
 ((∃m196,m196<m86/\I84 queue_103 all_104 (IntKind.wrap .i64 (head_89+1)) h106 m196)))))))))))))) 
 (R (.tuple ⟨[vS all_88,vI 0]⟩) h90)))))))))))))))))))))))))))))))))))))))))))))
theorem vc68e (p0_1:ByteArray) (p0_2:Sl) (p0_3:Sl) (p0_4:Int) (p0_5:Int) (p0_6:Int) (p0_7:Sl) (p0_8:Sl) (p1:Int) (h:Heap) (R:Value->Heap->Prop):W68 p0_1 p0_2 p0_3 p0_4 p0_5 p0_6 p0_7 p0_8 p1 h R=fnW Pz 68 (.s .z (.s .z (.s .z (.s (.s .z (.b (.l [(44,.one (.int .i64))] .z))) (.s (.s .z (.b (.l [(63,.one (.int .i64))] .z))) (.s .z (.s .z (.s .z (.s .z (.s .z (.s (.s .z (.b (.l [(14,.one (.slice)),(15,.one (.slice)),(16,.one (.int .i64))] (.s .z (.s (.b (.s .z (.s .z (.b (.l [(14,.one (.slice)),(15,.one (.slice)),(109,.one (.int .i64))] (.s .z (.s .z (.s (.b (.s .z (.s .z (.j [(15,.one (.slice))] (.b (.s .z (.c .z (.s .z (.c (.s .z (.s .z (.s .z (.c (.s .z (.s (.s .z (.b (.l [(22,.one (.slice)),(23,.one (.int .i64))] .z))) .z)) .z)))) .z))))) .z)))) .z)))))))) .z))))) .z))))))))))) #[.agg ⟨[.string p0_1,.slice p0_2.a p0_2.n p0_2.c,.slice p0_3.a p0_3.n p0_3.c,.int .i64 p0_4,.int .i64 p0_5,.int .i64 p0_6,.slice p0_7.a p0_7.n p0_7.c,.slice p0_8.a p0_8.n p0_8.c]⟩,.int .i64 p1] h R:=by kernel_rfl
theorem vc68 (p0_1:ByteArray) (p0_2:Sl) (p0_3:Sl) (p0_4:Int) (p0_5:Int) (p0_6:Int) (p0_7:Sl) (p0_8:Sl) (p1:Int) (h:Heap) (R:Value->Heap->Prop) (H:W68 p0_1 p0_2 p0_3 p0_4 p0_5 p0_6 p0_7 p0_8 p1 h R):Fn Pz 68 #[.agg ⟨[.string p0_1,.slice p0_2.a p0_2.n p0_2.c,.slice p0_3.a p0_3.n p0_3.c,.int .i64 p0_4,.int .i64 p0_5,.int .i64 p0_6,.slice p0_7.a p0_7.n p0_7.c,.slice p0_8.a p0_8.n p0_8.c]⟩,.int .i64 p1] h R:=fnI (vc68e p0_1 p0_2 p0_3 p0_4 p0_5 p0_6 p0_7 p0_8 p1 h R) H
end Go.VC
end

section
namespace Go.VC
open Go.Proofs Go.LexS Go.Maps
theorem made24 (n:Nat):madeL Pz 24 n=(List.replicate n (⟨none,0,0⟩:Sl)).map slV:=by
 have e:zeroC Pz 24=[.slice none 0 0]:=by kernel_rfl
 unfold madeL;rw[e,List.map_replicate]
 induction n with
 | zero=>rfl
 | succ n ih=>rw[List.replicate_succ,List.replicate_succ,Yyu,ih];rfl
theorem app24:appB Pz 24 67 6 48=true:=by kernel_rfl
theorem app314:appB Pz 130 134 3 40=true:=by kernel_rfl
theorem app355:appB Pz 249 248 7 48=true:=by kernel_rfl
theorem app261:appB Pz 68 72 2 16=true:=by kernel_rfl
def Plc.v (p:Plc):Value:=.agg ⟨p.cs⟩
def kokL (p:Plc):Prop:=p.s<1048576/\p.b<256/\p.d<256
theorem s351 : ∃ fs, Pz.underlying 245 = some (.struct fs) /\ fs.all (·.name != "_") = true /\ fs.toList.map (fun f => (f.type, f.offset)) = [(3, 0), (5, 1), (5, 2)] := su (by kernel_rfl)
theorem c351:Pz.cellsOf 245=3:=by kernel_rfl
theorem c5:Pz.cellsOf 5=1:=by kernel_rfl
theorem u5:Pz.underlying 5=some (.int .u8):=by kernel_rfl
theorem wf8 {n:Nat} (h:n<256):(Lit.int .u8 ((n:Nat):Int)).wf=true:=by
 unfold Lit.wf;simp only[Yt,decide_eq_true_eq];have e1:IntKind.u8.min=0:=by decide
 have e2:IntKind.u8.max=255:=by decide
 rw[e1,e2];omega
theorem key_plc (p:Plc) (h:kokL p):∃l,keyOf Pz 245 p.v=some l:=by
 obtain⟨fs,hu,hn,hf⟩:=s351;obtain⟨h1,h2,h3⟩:=h;have hsz:∃n,Pz.types.size+1=n+2:=⟨Pz.types.size-1,by kernel_rfl⟩;obtain⟨n,hsz⟩:=hsz;have w1:inR ((p.s:Nat):Int):=⟨by omega,by omega⟩;have hl:Pz.keyLits (n+2) 245 p.cs=some [[.int .i64 ((p.s:Nat):Int)],[.int .u8 ((p.b:Nat):Int)],[.int .u8 ((p.d:Nat):Int)]].flatten:=by
  refine kl_struct hu (by rw[c351];rfl) hn hf ?_;simp only[List.mapM_cons,List.mapM_nil,c3,c5,Plc.cs,List.drop_zero,List.take_succ_cons,Yyk,List.drop_succ_cons,kl_int u3 w1.wf,kl_int u5 (wf8 h2),kl_int u5 (wf8 h3)];rfl
 have hkt:Pz.keyType 245=true:=by kernel_rfl
 have hfo:p.v.formed Pz 245=true:=by
  unfold Plc.v Value.formed;simp only[hu,c351];rfl
 have e:keyOf Pz 245 p.v=(Pz.keyLits (n+2) 245 p.cs).map fun ls=>.string (keyBytes ls):=by
  unfold keyOf;simp only[hu,hkt,hfo,Bool.and_self,if_true,hsz];rfl
 rw[e,hl];exact⟨_,rfl⟩
theorem plc_inj (a b:Plc) (h:a.v=b.v):a=b:=by
 unfold Plc.v Plc.cs at h;obtain⟨a1,a2,a3⟩:=a;obtain⟨b1,b2,b3⟩:=b;simp at h;obtain⟨h1,h2,h3⟩:=h;congr 1<;>omega
theorem M352:MT Pz 246 245 4 Plc.v kokL (.bool false) where
 K:=Keyed.of_law (deep_law_laid laid25 (m:=2) (by omega) (Yyn (by kernel_rfl)) (by kernel_rfl) (by kernel_rfl))
 ht:=by kernel_rfl
 key:=key_plc
 inj:=plc_inj
 z:=fun w=>by kernel_rfl
abbrev Vzt:=Plc × (Int × Ac)
def vC (v:Vzt):List Value:=[.int .i64 (v.1.s:Nat),.int .u8 (v.1.b:Nat),.int .u8 (v.1.d:Nat),.int .i64 v.2.1,.int .i64 v.2.2.a,.int .i64 v.2.2.b,.int .i64 v.2.2.l]
structure QuI (n:Nat) (Q:List Vst) (V:List Vzt) (K:List (Plc × Bool)):Prop where
 vn:V.length=Q.length
 vq:∀(i:Nat) (v:Vzt) (q:Vst),V[i]?=some v->Q[i]?=some q->v.1=q.1/\((v.2.1=-1/\q.2=[])\/∃(a:Nat) (qa:Vst),v.2.1=a/\a<i/\Q[a]?=some qa/\q.2=qa.2++[v.2.2])
 nd:(Q.map Prod.fst).Nodup
 ok:∀q∈Q,q.1.ok n
 pl:∀(i:Nat) (q:Vst),Q[i]?=some q->q.2.length<=i
 ky:∀p,p∈K.map Prod.fst ↔ p∈Q.map Prod.fst
 kt:∀q∈K,q.2=true
 kn:(K.map Prod.fst).Nodup
theorem QuI.le {n:Nat} {Q:List Vst} {V:List Vzt} {K:List (Plc × Bool)} (h:QuI n Q V K):Q.length<=n*4096:=by
 have:=plc_le h.nd fun p hp=>by obtain⟨q,hq,rfl⟩:=Yp.1 hp;exact h.ok q hq
 rwa [Yc] at this
theorem QuI.kok {n:Nat} {Q:List Vst} {V:List Vzt} {K:List (Plc × Bool)} (h:QuI n Q V K) (hn:n<=200):∀q∈K,kokL q.1:=fun q hq=>by
 have h1:=(h.ky q.1).1 (Yp.2 ⟨q,hq,rfl⟩);obtain⟨q2,h2,h3⟩:=Yp.1 h1;obtain⟨h4,h5,h6⟩:=h.ok q2 h2;rw[h3] at h4 h5 h6;exact⟨by omega,by omega,by omega⟩
theorem mset_val {α β:Type} [DecidableEq α] (a:α) (b:β):∀(l:List (α × β)) (q:α × β),q∈mset l a b->q∈l\/q=(a,b)
 | [],q,h=>by simp[mset] at h;exact .inr h
 | (c,y)::r,q,h=>by
  rw[mset] at h;split at h
  .rename_i e;subst e;rcases Yr.1 h with h | h
   .exact .inr h
   .exact .inl (Yn _ h)
  .rcases Yr.1 h with h | h
   .exact .inl (by rw[h];simp)
   .rcases mset_val a b r q h with h | h
    .exact .inl (Yn _ h)
    .exact .inr h
theorem QuI.push {n:Nat} {Q:List Vst} {V:List Vzt} {K:List (Plc × Bool)} (h:QuI n Q V K) {hd:Nat} {q:Vst} (hq:Q[hd]?=some q) {nx:Plc} {a:Ac} (hno:nx∉Q.map Prod.fst) (hok:nx.ok n) :
  QuI n (Q++[(nx,q.2++[a])]) (V++[(nx,((hd:Int),a))]) (mset K nx true):=by
 have hl:=(Ya.1 hq).1;refine⟨by rw[Yh,Yh,h.vn];rfl,fun i v p hv hp=>?_,?_,fun p hp=>?_,fun i p hp=>?_,fun p=>?_,fun p hp=>?_,mset_nodup _ _ _ h.kn⟩
 .rcases Nat.lt_or_ge i Q.length with h1 | h1
  .rw[Yyi (by rw[h.vn];exact h1)] at hv;rw[Yyi h1] at hp;obtain⟨h2,h3⟩:=h.vq i v p hv hp;refine⟨h2,h3.imp_right fun ⟨a',qa,h4,h5,h6,h7⟩=>⟨a',qa,h4,h5,?_,h7⟩⟩;rw[Yyi (by omega)];exact h6
  .rw[Yyc (by rw[h.vn];exact h1),h.vn] at hv;rw[Yyc h1] at hp;have h2:=(Ya.1 hp).1;rw[Yv] at h2;have h3:i-Q.length=0:=by omega
   rw[h3] at hv hp;cases hv;cases hp;exact⟨rfl,.inr ⟨hd,q,rfl,by omega,by rw[Yyi hl];exact hq,rfl⟩⟩
 .rw[Ym,List.nodup_append];exact⟨h.nd,by simp,fun x hx y hy e=>by simp only[Yyl,List.map_nil,Ye] at hy;subst hy;subst e;exact hno hx⟩
 .rcases Yk.1 hp with hp | hp
  .exact h.ok p hp
  .rw[Ye] at hp;rw[hp];exact hok
 .rcases Nat.lt_or_ge i Q.length with h1 | h1
  .rw[Yyi h1] at hp;exact h.pl i p hp
  .rw[Yyc h1] at hp;have h2:=(Ya.1 hp).1;rw[Yv] at h2;have h3:i-Q.length=0:=by omega
   rw[h3] at hp;cases hp;have:=h.pl hd q hq;simp only[Yh,Yv];omega
 .rw[mset_keys,h.ky,Ym,Yk];simp
 .rcases mset_val nx true K p hp with h1 | h1
  .exact h.kt p h1
  .rw[h1]
theorem QuI.look {n:Nat} {Q:List Vst} {V:List Vzt} {K:List (Plc × Bool)} (h:QuI n Q V K) (p:Plc):(mget K p).elim (Value.bool false) Value.bool=.bool (decide (p∈Q.map Prod.fst)):=by
 cases hm:mget K p with
 | none=>
  rw[decide_eq_false fun hp=>?_];rfl;have:=(mget_isSome p K).2 ((h.ky p).2 hp);rw[hm] at this;cases this
 | some b=>
  have h1:=(mget_isSome p K).1 (by rw[hm];rfl);obtain⟨q,hq,rfl⟩:=Yp.1 h1;obtain⟨j,hj⟩:=Yf.1 hq;have h2:=mget_some h.kn (a:=q.1) (y:=q.2) hj;rw[hm] at h2;cases h2;rw[decide_eq_true ((h.ky _).1 h1),h.kt q hq];rfl
theorem seaT_ok {g:Gl} (hV:ValidS g) {p:Plc} (hp:p.ok g.n.toNat) {x:Ed} (hx:x∈g.es) (role:Int):(seaT role p x).1.ok g.n.toNat:=by
 have h1:=hV.num.e x hx;have h2:=hV.nam.n6;unfold EdS at h1;obtain⟨h3,h4,h5⟩:=hp;unfold seaT;split
 .exact⟨by simp only;omega,or6 h4 (by omega),h5⟩
 .split
  .exact⟨by simp only;omega,h4,or6 h5 (by omega)⟩
  .exact⟨by simp only;omega,h4,h5⟩
def pathIt (q:FS):It:=nest 65 3 Ac.cs (q.2,q.1.path)
def seaL (gb ob mb:Nat) (g:Gl) (qu al:Sl) (V:List Vzt) (K:List (Plc × Bool)) (F:List FS) (MS:List (Sl × List Ed)):List It:=
 .sl qu 248 7 (V.map vC) :: .sl al 134 3 (F.map fnC) :: .mp mb (K.map fun q=>(q.1.v,Value.bool q.2)) :: .blk ob ((MS.map Prod.fst).map slV) 24 :: .blk gb g.cs 27::(MS.map (nest 67 6 Ed.cs)++F.map pathIt)
end Go.VC
end

section
namespace Go.VC
open Go.Proofs Go.LexS
theorem seaL_mid {gb ob mb:Nat} {g:Gl} {qu al:Sl} {V:List Vzt} {K:List (Plc × Bool)} {F:List FS} {MS:List (Sl × List Ed)} (f:FS):(seaL gb ob mb g qu al V K (F++[f]) MS).Perm (pathIt f :: .sl qu 248 7 (V.map vC) :: .sl al 134 3 ((F++[f]).map fnC) :: .mp mb (K.map fun q=>(q.1.v,Value.bool q.2)) :: .blk ob ((MS.map Prod.fst).map slV) 24 :: .blk gb g.cs 27::(MS.map (nest 67 6 Ed.cs)++F.map pathIt)):=by
 unfold seaL;rw[Ym (f:=pathIt),<-Yz];refine List.Perm.trans (List.Perm.of_eq ?_) (List.perm_append_comm (l₁:=.sl qu 248 7 (V.map vC) :: .sl al 134 3 ((F++[f]).map fnC) :: .mp mb (K.map fun q=>(q.1.v,Value.bool q.2)) :: .blk ob ((MS.map Prod.fst).map slV) 24 :: .blk gb g.cs 27::(MS.map (nest 67 6 Ed.cs)++F.map pathIt)) (l₂:=[pathIt f]));simp
theorem path206 {h0 h140 h144 h133:Heap} {hd:Nat} {g:Gl} {gb ob mb:Nat} {qu al:Sl} {V:List Vzt} {K:List (Plc × Bool)} {F:List FS} {MS:List (Sl × List Ed)} {R:List It} {Q:List Vst} {q:Vst} {x:Ac} {m:Ms} {n:Nat} {J:Sl->Heap->Prop}
  (hs:St h0 h144 (.sl ⟨some ⟨h140.size,0,none⟩,1,1⟩ 65 3 ([x].map Ac.cs) :: .blk h133.size m.cs 72::(R++seaL gb ob mb g qu al V K F MS))) (hQ:QuI n Q V K) (hn:n<=200) (hq:Q[hd]?=some q) (hF:F.length<=16777216)
  (hJ:∀(al' r:Sl) (h':Heap),St h0 h' (R++seaL gb ob mb g qu al' V K (F++[(⟨m,q.2++[x]⟩,r)]) MS)->J al' h') :
  V68a h140 (hd:Nat) h144 qu h133 al J:=by
 unfold V68a;have hle:=hQ.le;have hn2:n*4096<=200*4096:=Nat.mul_le_mul_right _ hn;refine⟨fun path y h' μ=>∃(i:Nat) (qi:Vst) (sfx:List Ac),y=i/\μ=i/\Q[i]?=some qi/\q.2=qi.2++sfx/\St h0 h' (.sl path 65 3 ((x::sfx.reverse).map Ac.cs) :: .blk h133.size m.cs 72::(R++seaL gb ob mb g qu al V K F MS)),⟨_,hd,q,[],rfl,rfl,hq,by simp,hs⟩,?_⟩;clear hs;rintro-path _ h150 i ⟨_,qi,sfx,rfl,rfl,hqi,hsf,hs⟩;have hil:=(Ya.1 hqi).1;have hpl:=hQ.pl hd q hq;have hdl:=(Ya.1 hq).1;have hsl:sfx.length<=q.2.length:=by rw[hsf,Yh];omega
 have hcap:=hs.len 0 (s:=path) (e:=65) (n:=3) (rows:=(x::sfx.reverse).map Ac.cs) rfl (by omega);rw[Yc,Yyj,List.length_reverse] at hcap;have hmem:∀ {it:It},it∈seaL gb ob mb g qu al V K F MS->it∈(.sl path 65 3 ((x::sfx.reverse).map Ac.cs) :: .blk h133.size m.cs 72::(R++seaL gb ob mb g qu al V K F MS)):=fun h=>Yn _ (Yn _ (List.mem_append_right _ h));have hqr:Rw h150 7 qu (V.map vC):=hs.rwm (e:=248) (hmem (by unfold seaL;simp)) (by omega);have hqn:=hqr.ln;have hvn:=hQ.vn;obtain⟨v,hv⟩:=get_some (l:=V) (i:=i) (by omega);obtain⟨h1,h2⟩:=hQ.vq i v qi hv hqi;refine hqr.nbI (by omega) (by omega) fun b151 o152 v' gv t=>?_;replace gv:V[i]?=some v':=gv;rw[hv] at gv;cases gv;refine⟨v.2.1,t.nth 3 rfl,sBi (fun c=>?_) (fun c=>?_)⟩
 .obtain⟨a,qa,h3,h4,h5,h6⟩:∃(a:Nat) (qa:Vst),v.2.1=a/\a<i/\Q[a]?=some qa/\qi.2=qa.2++[v.2.2]:=by
   rcases h2 with ⟨h2,_⟩ | h2
   .omega
   .exact h2
  refine hqr.nbI (by omega) (by omega) fun b154 o155 v' gv t2=>?_;replace gv:V[i]?=some v':=gv;rw[hv] at gv;cases gv;refine⟨v.2.2.a,v.2.2.b,v.2.2.l,t2.sub 4 3 rfl,?_⟩;refine hs.app 0 rfl app48 (m:=1) [v.2.2.cs] rfl rfl (fun r hr=>by rw[Ye] at hr;rw[hr];rfl) rfl (by omega) (by simp only[maxLen];omega) fun s160 h161 n160 hs=>?_;have hqr2:Rw h161 7 qu (V.map vC):=hs.rwm (e:=248) (Yn _ (Yn _ (List.mem_append_right _ (by unfold seaL;simp)))) (by omega);refine hqr2.nbI (by omega) (by omega) fun b162 o163 v' gv t3=>?_;replace gv:V[i]?=some v':=gv;rw[hv] at gv;cases gv;refine⟨v.2.1,t3.nth 3 rfl,a,h4,a,qa,v.2.2::sfx,h3,rfl,h5,by rw[hsf,h6,Yz];rfl,?_⟩;rw[List.reverse_cons,<-List.cons_append,Ym];exact hs
 .have hnil:qi.2=[]:=by
   rcases h2 with ⟨_,h2⟩ | ⟨a,_,h3,_⟩
   .exact h2
   .omega
  rw[hnil,List.nil_append] at hsf;refine (reverse248 hs 0 rfl (by rw[Yyj,List.length_reverse];omega)).mono ?_;rintro _ h167 ⟨rfl,hs⟩;have er:(x::sfx.reverse).reverse=q.2++[x]:=by rw[List.reverse_cons,List.reverse_reverse,hsf]
  rw[er] at hs;refine⟨rfl,m.p,m.l,hs.at 1 rfl (o:=0) (n:=2) rfl,?_⟩;refine hs.newbE fun h170 E170 hs=>?_;have hs:St h0 h170 (.sl al 134 3 (F.map fnC) :: .blk h167.size (fnC ((⟨m,q.2++[x]⟩:Fnd),path)) 134 :: .sl path 65 3 ((q.2++[x]).map Ac.cs) :: .blk h133.size m.cs 72::(R++(.sl qu 248 7 (V.map vC) :: .mp mb (K.map fun q=>(q.1.v,Value.bool q.2)) :: .blk ob ((MS.map Prod.fst).map slV) 24 :: .blk gb g.cs 27::(MS.map (nest 67 6 Ed.cs)++F.map pathIt)))):=by
   refine hs.perm ?_;refine List.Perm.trans (List.Perm.of_eq ?_) (List.Perm.trans (List.perm_middle (l₁:=.blk h167.size (fnC ((⟨m,q.2++[x]⟩:Fnd),path)) 134 :: .sl path 65 3 ((q.2++[x]).map Ac.cs) :: .blk h133.size m.cs 72::(R++[.sl qu 248 7 (V.map vC)])) (a:=.sl al 134 3 (F.map fnC)) (l₂:=.mp mb (K.map fun q=>(q.1.v,Value.bool q.2)) :: .blk ob ((MS.map Prod.fst).map slV) 24 :: .blk gb g.cs 27::(MS.map (nest 67 6 Ed.cs)++F.map pathIt))) (List.Perm.of_eq ?_))
   .simp[seaL,fnC]
   .simp
  have hal:=hs.len 0 (s:=al) (e:=134) (n:=3) (rows:=F.map fnC) rfl (by omega);rw[Yc] at hal;refine hs.appended 0 rfl app314 (news:=[fnC ((⟨m,q.2++[x]⟩:Fnd),path)]) (hs.at 1 rfl (o:=0) (n:=3) rfl) rfl (fun r hr=>by rw[Ye] at hr;rw[hr];rfl) rfl (by show (al.n+1)*40<=140737488355328;omega) (by show al.n+1<=9223372036854775807;omega) fun s171 h172 n171 hs=>?_;refine hJ s171 path h172 ?_;have hs:St h0 h172 (.sl s171 134 3 ((F++[((⟨m,q.2++[x]⟩:Fnd),path)]).map fnC)::pathIt ((⟨m,q.2++[x]⟩:Fnd),path)::(R++(.sl qu 248 7 (V.map vC) :: .mp mb (K.map fun q=>(q.1.v,Value.bool q.2)) :: .blk ob ((MS.map Prod.fst).map slV) 24 :: .blk gb g.cs 27::(MS.map (nest 67 6 Ed.cs)++F.map pathIt)))):=by
   rw[Ym];exact hs.sub (.cons_cons _ (.cons _ (.cons_cons _ (.cons _ (List.Sublist.refl _)))))
  refine hs.perm ?_;refine List.Perm.symm ((List.Perm.append_left R (seaL_mid _)).trans ?_);refine List.Perm.trans (List.Perm.of_eq ?_) (List.Perm.trans (List.perm_middle (l₁:=R++[pathIt ((⟨m,q.2++[x]⟩:Fnd),path),.sl qu 248 7 (V.map vC)]) (a:=.sl s171 134 3 ((F++[((⟨m,q.2++[x]⟩:Fnd),path)]).map fnC)) (l₂:=.mp mb (K.map fun q=>(q.1.v,Value.bool q.2)) :: .blk ob ((MS.map Prod.fst).map slV) 24 :: .blk gb g.cs 27::(MS.map (nest 67 6 Ed.cs)++F.map pathIt))) (List.Perm.cons _ ?_))
  .simp
  .refine List.Perm.trans (List.Perm.of_eq ?_) (List.perm_middle (l₁:=R) (a:=pathIt ((⟨m,q.2++[x]⟩:Fnd),path)));simp
structure FnI (g:Gl) (F:List Fnd):Prop where
 nd:(F.map (·.m)).Nodup
 e:∀f∈F,∃x∈g.es,f.m=⟨x.a,x.l⟩
 pl:∀f∈F,f.path.length<=1000000
theorem FnI.len {g:Gl} {F:List Fnd} (h:FnI g F):F.length<=g.es.length:=by
 have:=List.Nodup.length_le_of_subset h.nd (l₂:=g.es.map fun x=>(⟨x.a,x.l⟩:Ms)) fun m hm=>by
  obtain⟨f,hf,rfl⟩:=Yp.1 hm;obtain⟨x,hx,e⟩:=h.e f hf;exact Yp.2 ⟨x,hx,e.symm⟩
 rwa [Yc,Yc] at this
theorem FnI.note {g:Gl} {F:List Fnd} (h:FnI g F) {x:Ed} (hx:x∈g.es) {path:List Ac} (hp:path.length<=1000000):FnI g (noteF F ⟨⟨x.a,x.l⟩,path⟩):=by
 unfold noteF;split
 .exact h
 .rename_i hno;refine⟨?_,fun f hf=>?_,fun f hf=>?_⟩
  .rw[Ym,List.nodup_append];refine⟨h.nd,by simp,fun a ha b hb e=>?_⟩;simp only[Yyl,List.map_nil,Ye] at hb;subst hb;subst e;obtain⟨y,hy,e⟩:=Yp.1 ha;exact hno ⟨y,hy,e⟩
  .rcases Yk.1 hf with hf | hf
   .exact h.e f hf
   .rw[Ye] at hf;subst hf;exact⟨x,hx,rfl⟩
  .rcases Yk.1 hf with hf | hf
   .exact h.pl f hf
   .rw[Ye] at hf;subst hf;exact hp
theorem seaE_fni {g:Gl} {role:Int} {p:Plc} {path:List Ac} {st:List Vst × List Fnd} {x:Ed} (h:FnI g st.2) (hx:x∈g.es) (hp:path.length<1000000):FnI g (seaE role p path st x).2:=by
 unfold seaE;simp only;split
 .exact h.note hx (by rw[Yh,Yv];omega)
 .exact h
theorem edge206 {h0 h121 h90 h106 h116:Heap} {hd:Nat} {g:Gl} {gb ob mb:Nat} {qu al:Sl} {V:List Vzt} {K:List (Plc × Bool)} {F:List FS} {MS:List (Sl × List Ed)} {Q:List Vst} {q:Vst} {x:Ed} {role:Int} {m102:Nat} {I:Sl->Sl->Int->Heap->Nat->Prop} {y:Int}
  (hV:ValidS g) (hr:role=((role.toNat:Nat):Int))
  (hs:St h0 h121 (.blk h116.size [.int .i64 x.t,.int .u8 (q.1.b:Nat),.int .u8 (q.1.d:Nat)] 245 :: .blk h106.size x.cs 67 :: .blk h90.size q.1.cs 245::seaL gb ob mb g qu al V K F MS)) (hQ:QuI g.n.toNat Q V K) (hq:Q[hd]?=some q) (hF:FnI g (F.map Prod.fst)) (hx:x∈g.es)
  (hI:∀(qu' al':Sl) (Q':List Vst) (V':List Vzt) (K':List (Plc × Bool)) (F':List FS) (h':Heap),St h0 h' (.blk h90.size q.1.cs 245::seaL gb ob mb g qu' al' V' K' F' MS)->QuI g.n.toNat Q' V' K'->(Q',F'.map Prod.fst)=seaE role q.1 q.2 (Q,F.map Prod.fst) x->(∀(k:Nat) z,Q[k]?=some z->Q'[k]?=some z)->∃m,m<m102/\I qu' al' (IntKind.wrap .i64 (y+1)) h' m) :
  V68b h121 h90 h106 h116 al role (hd:Nat) qu (some mb) m102 I y:=by
 unfold V68b;have hN:=hV.num.n;have hM:=hV.num.m;have h6:=hV.nam.n6;have hxE:=hV.num.e x hx;unfold EdS at hxE;have hqo:=hQ.ok q (Yb hq);obtain⟨ho1,ho2,ho3⟩:=hqo;have hnx:=seaT_ok hV (hQ.ok q (Yb hq)) hx role;have hxa:x.a=((x.a.toNat:Nat):Int):=by omega
 have hxb:x.b=((x.b.toNat:Nat):Int):=by omega
 have hxt:x.t=((x.t.toNat:Nat):Int):=by omega
 have hfl:=hF.len;rw[Yc] at hfl;have b1:=bits8 ⟨q.1.b,by omega⟩ ⟨x.a.toNat,by omega⟩;have b2:=bits8 ⟨q.1.d,by omega⟩ ⟨x.a.toNat,by omega⟩;have b3:=bits8 ⟨q.1.b,by omega⟩ ⟨x.b.toNat,by omega⟩;simp only[<-hxa,<-hxb] at b1 b2 b3;refine⟨fun al' h'=>∃F':List FS,St h0 h' (.blk h116.size (seaT role q.1 x).1.cs 245 :: .blk h106.size x.cs 67 :: .blk h90.size q.1.cs 245::seaL gb ob mb g qu al' V K F' MS)/\F'.map Prod.fst=(if (seaT role q.1 x).2 then noteF (F.map Prod.fst) ⟨⟨x.a,x.l⟩,q.2++[x.act]⟩ else F.map Prod.fst),?_,?_⟩
 .refine⟨(q.1.b:Nat),hs.rd 2 rfl (i:=1) rfl,x.a,hs.rd 1 rfl (i:=1) rfl,by omega,?_⟩;rw[b1.1];refine sB_intro (fun c=>?_) (fun c=>?_)
  .refine⟨(q.1.b:Nat),hs.rd 0 rfl (i:=1) rfl,x.b,hs.rd 1 rfl (i:=2) rfl,by omega,?_⟩;rw[b3.2.2];refine hs.put 0 rfl (o:=1) (vs:=[.int .u8 ((q.1.b|||2^x.b.toNat:Nat):Int)]) rfl (show 2<=3 by decide) fun h127 hs=>?_;have e:seaT role q.1 x=(⟨x.t.toNat,q.1.b|||2^x.b.toNat,q.1.d⟩,false):=by unfold seaT;rw[if_pos c]
   rw[e];refine⟨F,?_,rfl⟩;unfold Plc.cs;simp only;rw[<-hxt];exact hs
  .refine⟨x.b,hs.rd 1 rfl (i:=2) rfl,?_⟩;have e0:∀(e:Plc),(⟨x.t.toNat,q.1.b,q.1.d⟩:Plc).cs=[.int .i64 x.t,.int .u8 (q.1.b:Nat),.int .u8 (q.1.d:Nat)]:=fun _=>by unfold Plc.cs;simp only;rw[<-hxt]
   refine sBe (fun c2=>?_) (fun c2=>?_)
   .refine⟨(q.1.d:Nat),hs.rd 2 rfl (i:=2) rfl,x.a,hs.rd 1 rfl (i:=1) rfl,by omega,?_⟩;rw[b2.2.1];refine sB_intro (fun c3=>?_) (fun c3=>?_)
    .have c3':q.1.d.testBit x.a.toNat=false:=bF c3;have e:seaT role q.1 x=(⟨x.t.toNat,q.1.b,q.1.d|||2^x.a.toNat⟩,true):=by unfold seaT;rw[if_neg (by rw[c];decide),if_pos ⟨c2,c3'⟩]
     refine⟨(q.1.d:Nat),hs.rd 0 rfl (i:=2) rfl,x.a,hs.rd 1 rfl (i:=1) rfl,by omega,?_⟩;rw[b2.2.2];refine hs.put 0 rfl (o:=2) (vs:=[.int .u8 ((q.1.d|||2^x.a.toNat:Nat):Int)]) rfl (show 3<=3 by decide) fun h133 hs=>?_;refine⟨x.a,hs.rd 1 rfl (i:=1) rfl,x.l,hs.rd 1 rfl (i:=3) rfl,?_⟩;refine hs.newput (vs:=[.int .i64 x.a,.int .i64 x.l]) rfl rfl fun h137 hs=>?_;have hs:St h0 h137 (.blk h133.size (⟨x.a,x.l⟩:Ms).cs 72 :: .blk h116.size (⟨x.t.toNat,q.1.b,q.1.d|||2^x.a.toNat⟩:Plc).cs 245 :: .blk h106.size x.cs 67 :: .blk h90.size q.1.cs 245::seaL gb ob mb g qu al V K F MS):=by
      unfold Plc.cs;simp only;rw[<-hxt];exact hs
     refine (contains246 F ⟨x.a,x.l⟩ h133.size al h137 (hs.rw 5 rfl (by omega)) (hs.at 0 rfl (o:=0) (n:=2) rfl) (by omega)).mono ?_;rintro _ h140 ⟨⟨r,rfl,hr2⟩,E⟩;replace hs:=hs.step E;have hr3:r=true ↔ ∃y∈F.map Prod.fst,y.m=⟨x.a,x.l⟩:=hr2.trans ⟨fun ⟨y,h1,h2⟩=>⟨y.1,Yp.2 ⟨y,h1,rfl⟩,h2⟩,fun ⟨y,h1,h2⟩=>by obtain⟨z,h3,rfl⟩:=Yp.1 h1;exact⟨z,h3,h2⟩⟩;rw[e];simp only[if_true];refine⟨r,rfl,sB_intro (fun c4=>?_) (fun c4=>?_)⟩
     .have hno:¬∃y∈F.map Prod.fst,y.m=⟨x.a,x.l⟩:=fun h9=>by rw[hr3.2 h9] at c4;cases c4
      refine⟨x.a,x.b,x.l,hs.at 2 rfl (o:=1) (n:=3) rfl,?_⟩;refine hs.newb fun h144 hs=>?_;have hs:=hs.blkS 1 3 ([x.act].map Ac.cs) rfl (fun r hr=>by obtain⟨x,_,rfl⟩:=Yp.1 hr;rfl) rfl (by decide);refine path206 (R:=[.blk h116.size (⟨x.t.toNat,q.1.b,q.1.d|||2^x.a.toNat⟩:Plc).cs 245,.blk h106.size x.cs 67,.blk h90.size q.1.cs 245]) (q:=q) (m:=⟨x.a,x.l⟩) hs hQ (by omega) hq (by omega) fun al' r h' hs=>⟨_,hs,?_⟩;unfold noteF;rw[if_neg hno,Ym];rfl
     .refine⟨F,hs.drop 1,?_⟩;unfold noteF;rw[if_pos (hr3.1 (bT c4))]
    .have e:seaT role q.1 x=(⟨x.t.toNat,q.1.b,q.1.d⟩,false):=by unfold seaT;rw[if_neg (by rw[c];decide),if_neg (fun h9=>by rw[h9.2] at c3;cases c3)]
     rw[e];refine⟨F,?_,rfl⟩;rw[e0 q.1];exact hs
   .have e:seaT role q.1 x=(⟨x.t.toNat,q.1.b,q.1.d⟩,false):=by unfold seaT;rw[if_neg (by rw[c];decide),if_neg (fun h9=>c2 h9.1)]
    rw[e];refine⟨F,?_,rfl⟩;rw[e0 q.1];exact hs
 .clear hs b1 b2 b3;rintro-al' h174 ⟨F',hs,hF'⟩;generalize hnxt:(seaT role q.1 x).1=nx at *;obtain⟨hn1,hn2,hn3⟩:=hnx;have hst:∀Q':List Vst,Q'=(if nx∈Q.map Prod.fst then Q else Q++[(nx,q.2++[x.act])])->(Q',F'.map Prod.fst)=seaE role q.1 q.2 (Q,F.map Prod.fst) x:=fun Q' e=>by
   unfold seaE;simp only;rw[hnxt,<-e,hF']
  refine⟨(nx.s:Nat),(nx.b:Nat),(nx.d:Nat),hs.at 0 rfl (o:=0) (n:=3) rfl,?_⟩;refine hs.mlook1 (cv:=Value.bool) (l:=K) M352 5 rfl (hQ.kok (by omega)) hQ.kn (a:=nx) ⟨by omega,by omega,by omega⟩ ?_;rw[hQ.look];refine⟨_,rfl,sB_intro (fun c=>?_) (fun c=>?_)⟩
  .have hno:nx∉Q.map Prod.fst:=Yyo (bF c);refine⟨(nx.s:Nat),(nx.b:Nat),(nx.d:Nat),hs.at 0 rfl (o:=0) (n:=3) rfl,?_⟩;refine hs.mput (cv:=Value.bool) (l:=K) M352 5 rfl (hQ.kok (by omega)) hQ.kn (a:=nx) ⟨by omega,by omega,by omega⟩ true fun h184 hs=>?_;refine⟨(nx.s:Nat),(nx.b:Nat),(nx.d:Nat),hs.at 0 rfl (o:=0) (n:=3) rfl,x.a,x.b,x.l,hs.at 1 rfl (o:=1) (n:=3) rfl,?_⟩;have hqun:=hs.len 3 (s:=qu) (e:=248) (n:=7) (rows:=V.map vC) rfl (by omega);rw[Yc] at hqun;have hle:=hQ.le;have hvn:=hQ.vn;have hn2':g.n.toNat*4096<=200*4096:=Nat.mul_le_mul_right _ (by omega);refine hs.app 3 rfl app355 (m:=1) [vC (nx,((hd:Int),x.act))] rfl rfl (fun r hr=>by rw[Ye] at hr;rw[hr];rfl) rfl (by omega) (by simp only[maxLen];omega) fun s192 h193 n192 hs=>?_;refine hI s192 al' _ (V++[(nx,((hd:Int),x.act))]) (mset K nx true) F' h193 ?_ (hQ.push hq hno ⟨hn1,hn2,hn3⟩) (hst _ (by rw[if_neg hno])) fun k z hz=>by rw[Yyi (Ya.1 hz).1];exact hz
   have hs:=hs.drop 2;unfold seaL;rw[Ym (f:=vC)];exact hs
  .have hin:nx∈Q.map Prod.fst:=Yyn (bT c);exact hI qu al' Q V K F' _ (hs.drop 2) hQ (hst Q (by rw[if_pos hin])) fun k z hz=>hz
theorem seaN_step {es:List Ed} {role:Int} {f hd:Nat} {Q:List Vst} {F:List Fnd} {q:Vst} (hq:Q[hd]?=some q):seaN es role (f+1) hd Q F=seaN es role f (hd+1) ((srtS es q.1.s).foldl (seaE role q.1 q.2) (Q,F)).1 ((srtS es q.1.s).foldl (seaE role q.1 q.2) (Q,F)).2:=by
 rw[seaN,hq]
theorem seaN_end {es:List Ed} {role:Int} {f hd:Nat} {Q:List Vst} {F:List Fnd} (hq:Q[hd]?=none):seaN es role f hd Q F=F:=by
 cases f with
 | zero=>rfl
 | succ f=>rw[seaN,hq]
theorem fan_snoc {es:List Ed} {j:Nat} {x:Ed} (hx:es[j]?=some x) (s:Nat):(es.take (j+1)).filter (fun y=>decide (y.f=(s:Int)))=(es.take j).filter (fun y=>decide (y.f=(s:Int)))++(if x.f=(s:Int) then [x] else []):=by
 rw[take_snoc hx,List.filter_append];congr 1;by_cases h:x.f=(s:Int)
 .rw[if_pos h,List.filter_cons_of_pos (by rw[decide_eq_true h])];rfl
 .rw[if_neg h,List.filter_cons_of_neg (by rw[decide_eq_false h];decide)];rfl
theorem map_range_get {α:Type} {L:List α} {n:Nat} {f:Nat->α} (h:L=(List.range n).map f) {s:Nat} (hs:s<n):L[s]?=some (f s):=by
 rw[h,Yd,Yyb hs];rfl
theorem search206 (g:Gl) (i:Nat) (x0:Ed) (h:Heap) (hg:GI h g) (hx:Gm h) (hV:ValidS g) (hi:g.es[i]?=some x0) :
  Fn Pz 68 #[g.v,.int .i64 (i:Nat)] h fun v h'=>Ext h h'/\∃(s:Sl) (F:List FS),v=.tuple ⟨[.slice s.a s.n s.c,.int .i64 0]⟩/\F.map Prod.fst=seaS g i/\RL h' 3 s fnC F/\(∀q∈F,RL h' 3 q.2 Ac.cs q.1.path)/\FnI g (seaS g i)/\St h h' (.sl s 134 3 (F.map fnC)::F.map pathIt):=by
 apply vc68 (bs g.nm) g.hr g.hd g.n g.s g.e g.he g.ht (i:Nat);unfold W68;have hN:=hV.num.n;have hM:=hV.num.m;have h6:=hV.nam.n6;have hen:=hg.e.ln;have hil:=(Ya.1 hi).1;have hxE:=hV.num.e x0 (Yb hi);have hE:=hV.num.e;unfold EdS at hxE;have hxb:x0.b=((x0.b.toNat:Nat):Int):=by omega
 have hxt:x0.t=((x0.t.toNat:Nat):Int):=by omega
 refine (St.refl h).newb fun h9 hs=>?_;refine⟨_,_,_,_,_,_,_,_,hs.at 0 rfl (n:=8) rfl,?_⟩;refine (valid38 g h9 (hg.ext hs.ext) (hx.ext hs.ext)).mono ?_;rintro _ h20 ⟨rfl,E20⟩;replace hs:=hs.step E20;refine⟨_,rfl,?_⟩;rw[decide_eq_true hV];refine sB_f rfl ?_;refine sBi (fun c=>by omega) (fun _=>?_);refine⟨g.he,hs.rd 0 rfl (i:=6) rfl,sBi (fun c=>by omega) (fun _=>?_)⟩;refine⟨g.n,hs.rd 0 rfl (i:=3) rfl,by omega,?_⟩;rw[made24];refine hs.newb fun h23 hs=>?_;have hs:=hs.nests (α:=Ed) (e:=67) (k:=6) (cs:=Ed.cs) (A:=[_,_]) (B:=[]) g.n.toNat;refine⟨g.he,hs.rd 1 rfl (i:=6) rfl,?_⟩;refine⟨fun x h' μ=>∃(j:Nat) (MS:List (Sl × List Ed)),x=(j:Int)/\μ=g.es.length-j/\j<=g.es.length/\MS.map Prod.snd=((List.range g.n.toNat).map fun s:Nat=>(g.es.take j).filter (fun y=>decide (y.f=(s:Int)))) /\
  St h h' ([.blk h20.size ((MS.map Prod.fst).map slV) 24,.blk h.size g.cs 27]++MS.map (nest 67 6 Ed.cs)++[]),
  ⟨_,0,List.replicate g.n.toNat ((⟨.none,0,0⟩,[]):Sl × List Ed),rfl,rfl,by omega,?_,?_⟩,?_⟩
 .rw[Yyk,List.map_replicate];apply Yyr;intro s;rw[List.getElem?_replicate,Yd];by_cases hs:s<g.n.toNat
  .rw[if_pos hs,Yyb hs];rfl
  .rw[if_neg hs,Yl (by rw[Yyd];omega)];rfl
 .rw[List.map_replicate (f:=Prod.fst)];exact hs
 clear hs;rintro-_ h29 μ ⟨j,MS,rfl,rfl,hj,hMS,hs⟩;have hMSl:MS.length=g.n.toNat:=by have:=congrArg List.length hMS;simpa using this
 refine sBi (fun c1=>?_) (fun c1=>?_)
 .refine (hg.e.rw.ext hs.ext).nbI (by omega) (by omega) fun b30 o31 x gx t=>?_;replace gx:g.es[j]?=some x:=gx;have hxe:=hE x (Yb gx);unfold EdS at hxe;obtain⟨q,hq⟩:=get_some (l:=MS) (i:=x.f.toNat) (by omega);refine⟨_,_,_,_,_,_,t,?_⟩;refine hs.newput (vs:=x.cs) rfl rfl fun h39 hs=>?_;refine⟨x.f,hs.rd 0 rfl (i:=0) rfl,x.f,hs.rd 0 rfl (i:=0) rfl,⟨by omega,by omega⟩,?_⟩;rw[show 0+Int.toNat x.f*1=x.f.toNat by omega];refine⟨q.1,hs.rd 1 rfl (by rw[Yd,Yd,hq];rfl),?_⟩;refine⟨_,_,_,_,_,_,hs.at 0 rfl (o:=0) (n:=6) rfl,?_⟩;refine hs.newbE fun h49 E49 hs=>⟨E49.sm,?_⟩;have hs:St h h49 ((.blk h39.size x.cs 67 :: .blk h29.size x.cs 67::[.blk h20.size ((MS.map Prod.fst).map slV) 24,.blk h.size g.cs 27])++MS.map (nest 67 6 Ed.cs)++[]):=hs;have hqn:=(hs.nestLn hq (by omega)).ln;have hq2:q.2=(g.es.take j).filter (fun y=>decide (y.f=((x.f.toNat:Nat):Int))):=by
   have h1:=map_range_get hMS (s:=x.f.toNat) (by omega);rw[Yd,hq] at h1;exact Yyp h1
  have hql:q.2.length<=400:=by rw[hq2];refine Yys (List.length_filter_le _ _) ?_;rw[Yu];omega
  refine hs.nestAt hq app24 x (hs.at 0 rfl (o:=0) (n:=6) rfl) rfl rfl (by omega) (by simp only[maxLen];omega) fun r h51 hr hs3=>?_;refine⟨sm_cons (hs.same hs3 1 1 rfl rfl) sm_nil,⟨by omega,by omega⟩,?_⟩;refine hs3.put 2 rfl (o:=x.f.toNat) (vs:=[slV r]) rfl (by rw[Yc,Yc,Yv];omega) fun h52 hs=>?_;rw[map_splice slV (by rw[Yc];omega)] at hs;refine⟨_,by omega,j+1,MS.set x.f.toNat (r,q.2++[x]),by rw[w64 (by omega) (by omega)];omega,rfl,by omega,?_,?_⟩
  .apply Yyr;intro s;rw[Yd,Yd];by_cases hsn:s<g.n.toNat
   .rw[Yyb hsn];have h1:=map_range_get hMS hsn;rw[Yd] at h1;by_cases e:x.f.toNat=s
    .subst e;rw[Yq (by omega),Option.map_some,Option.map_some,fan_snoc gx,if_pos (by omega),hq2]
    .rw[Yy e,h1,Option.map_some,fan_snoc gx,if_neg (by omega),Yw]
   .rw[Yl (by rw[Yyh];omega),Yl (by rw[Yyd];omega)];rfl
  .rw[List.map_set];exact hs.drop 2
 have hjn:j=g.es.length:=by omega
 subst hjn;rw[Yye] at hMS;refine⟨fun x h' μ=>∃(j:Nat) (MS:List (Sl × List Ed)),x=(j:Int)/\μ=g.n.toNat-j/\j<=g.n.toNat/\MS.map Prod.snd=((List.range g.n.toNat).map fun s:Nat=>if s<j then srtS g.es s else g.es.filter (fun y=>decide (y.f=(s:Int)))) /\
  St h h' ([.blk h20.size ((MS.map Prod.fst).map slV) 24,.blk h.size g.cs 27]++MS.map (nest 67 6 Ed.cs)++[]),
  ⟨_,0,MS,rfl,rfl,by omega,by rw[hMS];rfl,hs⟩,?_⟩
 clear hs hMS hMSl hj c1;rintro-_ h58 μ ⟨j,MS,rfl,rfl,hj,hMS,hs⟩;have hMSl:MS.length=g.n.toNat:=by have:=congrArg List.length hMS;simpa using this
 refine sBi (fun c1=>?_) (fun c1=>?_)
 .obtain⟨q,hq⟩:=get_some (l:=MS) (i:=j) (by omega);refine⟨⟨by omega,by omega⟩,?_⟩;rw[show 0+Int.toNat ((j:Nat):Int)*1=j by omega];refine⟨q.1,hs.rd 0 rfl (by rw[Yd,Yd,hq];rfl),?_⟩;have hil':j<(MS.map (nest 67 6 Ed.cs)).length:=by rw[Yc];omega
  have hq2:q.2=g.es.filter (fun y=>decide (y.f=((j:Nat):Int))):=by
   have h1:=map_range_get hMS (s:=j) (by omega);rw[Yd,hq,if_neg (by omega)] at h1;exact Yyp h1
  have hql:q.2.length<=400:=by rw[hq2];exact Yys (List.length_filter_le _ _) hM
  have hget:=get_mid (P:=[.blk h20.size ((MS.map Prod.fst).map slV) 24,.blk h.size g.cs 27]) (R:=[]) hil';rw[Yd,hq] at hget;refine (sort243 hs _ hget (by omega)).mono ?_;rintro _ h61 ⟨rfl,l',hp,hw,hs⟩;have hl':l'=srtS g.es j:=by unfold srtS;rw[<-hq2];exact srt_of hp hw (by rw[hq2];exact acts_apart hV _)
  rw[set_mid hil'] at hs;refine⟨rfl,_,by omega,j+1,MS.set j (q.1,l'),by rw[w64 (by omega) (by omega)];omega,rfl,by omega,?_,?_⟩
  .apply Yyr;intro s;rw[Yd,Yd];by_cases hsn:s<g.n.toNat
   .rw[Yyb hsn];have h1:=map_range_get hMS hsn;rw[Yd] at h1;by_cases e:j=s
    .subst e;rw[Yq (by omega),Option.map_some,Option.map_some,if_pos (by omega),hl']
    .rw[Yy e,h1,Option.map_some];by_cases e2:s<j
     .rw[if_pos e2,if_pos (by omega)]
     .rw[if_neg e2,if_neg (by omega)]
   .rw[Yl (by rw[Yyh];omega),Yl (by rw[Yyd];omega)];rfl
  .have e1:(MS.map Prod.fst).set j (q.1,l').1=MS.map Prod.fst:=by
    have h9:(MS.map Prod.fst)[j]?=some q.1:=by rw[Yd,hq];rfl
    obtain⟨a,b⟩:=Ya.1 h9;show (MS.map Prod.fst).set j q.1=_;rw[<-b];exact List.set_getElem_self a
   rw[List.map_set (f:=Prod.fst),e1,List.map_set (f:=nest 67 6 Ed.cs)];exact hs
 have hMS2:MS.map Prod.snd=(List.range g.n.toNat).map (srtS g.es):=by
  rw[hMS];apply List.map_congr_left;intro s hs;rw[List.mem_range] at hs;rw[if_pos (by omega)]
 clear hMS c1 hj;rw[Yw] at hs;refine⟨g.he,hs.rd 1 rfl (i:=6) rfl,?_⟩;refine (hg.e.rw.ext hs.ext).nbI (by omega) (by omega) fun b64 o65 x gx t=>?_;replace gx:g.es[i]?=some x:=gx;rw[hi] at gx;cases gx;refine⟨x0.b,t.nth 2 rfl,g.he,hs.rd 1 rfl (i:=6) rfl,?_⟩;refine (hg.e.rw.ext hs.ext).nbI (by omega) (by omega) fun b68 o69 x gx t2=>?_;replace gx:g.es[i]?=some x:=gx;rw[hi] at gx;cases gx;refine⟨x0.t,t2.nth 4 rfl,by omega,?_⟩;have e8:=shl8 ⟨x0.b.toNat,by omega⟩;simp only[<-hxb] at e8;rw[e8];have hok0:(⟨x0.t.toNat,2^x0.b.toNat,0⟩:Plc).ok g.n.toNat:=⟨by simp only;omega,two6 (by omega),(show 0<64 by decide)⟩;have hkk:kokL (⟨x0.t.toNat,2^x0.b.toNat,0⟩:Plc):=⟨by simp only;omega,two8 (by omega),(show 0<256 by decide)⟩;have hcs0:(⟨x0.t.toNat,2^x0.b.toNat,0⟩:Plc).cs=[.int .i64 x0.t,.int .u8 ((2^x0.b.toNat:Nat):Int),.int .u8 0]:=by unfold Plc.cs;simp only;rw[<-hxt];rfl
 refine hs.newbE fun h71 E71 hs=>⟨E71.sm,?_⟩;refine hs.put 0 rfl (o:=0) (vs:=[.int .i64 x0.t,.int .u8 ((2^x0.b.toNat:Nat):Int),.int .u8 0]) rfl (Yyt 3) fun h72 hs=>?_;refine hs.mmake 246 fun h75 E75 hs=>⟨some h72.size,rfl,?_⟩;refine⟨((x0.t.toNat:Nat):Int),((2^x0.b.toNat:Nat):Int),((0:Nat):Int),by rw[<-hxt];exact hs.at 1 rfl (o:=0) (n:=3) rfl,?_⟩;refine hs.mput (cv:=Value.bool) (l:=[]) M352 0 rfl (fun q hq=>by cases hq) .nil (a:=⟨x0.t.toNat,2^x0.b.toNat,0⟩) hkk true fun h79 hs=>?_;refine⟨((x0.t.toNat:Nat):Int),((2^x0.b.toNat:Nat):Int),((0:Nat):Int),by rw[<-hxt];exact hs.at 1 rfl (o:=0) (n:=3) rfl,?_⟩;refine hs.newb fun h83 hs=>?_;generalize hp0:(⟨x0.t.toNat,2^x0.b.toNat,0⟩:Plc)=p0 at *;have hs:=hs.blkS 1 7 ([(p0,((-1:Int),(⟨0,0,0⟩:Ac)))].map vC) (by subst hp0;rfl) (fun r hr=>by obtain⟨x,_,rfl⟩:=Yp.1 hr;rfl) rfl (by decide);have hs:=hs.nil_ 134 3;have hs:St h h83 (seaL h.size h20.size h72.size g ⟨some ⟨h79.size,0,none⟩,1,1⟩ ⟨none,0,0⟩ [(p0,((-1:Int),(⟨0,0,0⟩:Ac)))] [(p0,true)] [] MS):=by
  refine (hs.sub (.cons_cons _ (.cons_cons _ (.cons_cons _ (.cons _ (List.Sublist.refl _)))))).perm ?_;unfold seaL;rw[List.map_nil (f:=pathIt),Yw];exact List.Perm.swap _ _ _
 have hQ0:QuI g.n.toNat [(p0,[])] [(p0,((-1:Int),(⟨0,0,0⟩:Ac)))] [(p0,true)]:=by
  refine⟨rfl,fun k v q hv hq=>?_,by simp,fun q hq=>?_,fun k q hq=>?_,fun p=>by simp,fun q hq=>?_,by simp⟩
  .have:=(Ya.1 hv).1;rw[Yv] at this;obtain rfl:k=0:=by omega
   cases hv;cases hq;exact⟨rfl,.inl ⟨rfl,rfl⟩⟩
  .rw[Ye] at hq;rw[hq];exact hok0
  .have:=(Ya.1 hq).1;rw[Yv] at this;obtain rfl:k=0:=by omega
   cases hq;exact Nat.zero_le _
  .rw[Ye] at hq;rw[hq]
 have hF0:FnI g (([]:List FS).map Prod.fst):=⟨.nil,fun f hf=>(by cases hf),fun f hf=>(by cases hf)⟩;have hS0:seaS g i=seaN g.es x0.b (g.n.toNat*65536+1-0) 0 [(p0,[])] (([]:List FS).map Prod.fst):=by unfold seaS;rw[hi];simp only;rw[hp0];rfl
 refine⟨fun qu al x h' μ=>∃(hd:Nat) (Q:List Vst) (V:List Vzt) (K:List (Plc × Bool)) (F:List FS),x=(hd:Int)/\μ=g.n.toNat*4096-hd/\hd<=Q.length/\St h h' (seaL h.size h20.size h72.size g qu al V K F MS)/\QuI g.n.toNat Q V K/\FnI g (F.map Prod.fst)/\seaS g i=seaN g.es x0.b (g.n.toNat*65536+1-hd) hd Q (F.map Prod.fst),⟨_,0,_,_,_,[],rfl,rfl,Nat.zero_le _,hs,hQ0,hF0,hS0⟩,?_⟩;clear hs hQ0 hF0 hS0;rintro-qu al _ h90 μ ⟨hd,Q,V,K,F,rfl,rfl,hhd,hs,hQ,hF,hS⟩;have hle:=hQ.le;have hvn:=hQ.vn;have hn4:g.n.toNat*4096<=200*4096:=Nat.mul_le_mul_right _ (by omega);have hqun:=hs.len 0 (s:=qu) (e:=248) (n:=7) (rows:=V.map vC) rfl (by omega);rw[Yc] at hqun;refine sBi (fun c=>?_) (fun c=>?_)
 .obtain⟨q,hq⟩:=get_some (l:=Q) (i:=hd) (by omega);obtain⟨v,hv⟩:=get_some (l:=V) (i:=hd) (by omega);have hvq:=(hQ.vq hd v q hv hq).1;obtain⟨ho1,ho2,ho3⟩:=hQ.ok q (Yb hq);refine (hs.rows 0 rfl (by omega)).nbI (by omega) (by omega) fun b91 o92 v' gv t=>?_;replace gv:V[hd]?=some v':=gv;rw[hv] at gv;cases gv;refine⟨(v.1.s:Nat),(v.1.b:Nat),(v.1.d:Nat),t.sub0 3 rfl,?_⟩;rw[hvq];refine hs.newput (vs:=q.1.cs) rfl rfl fun h97 hs=>?_;refine⟨(q.1.s:Nat),hs.rd 0 rfl (i:=0) rfl,⟨by omega,by omega⟩,?_⟩;rw[show 0+Int.toNat ((q.1.s:Nat):Int)*1=q.1.s by omega];obtain⟨ms,hms⟩:=get_some (l:=MS) (i:=q.1.s) (by omega);have hms2:ms.2=srtS g.es q.1.s:=by
   have h1:=map_range_get hMS2 (s:=q.1.s) ho1;rw[Yd,hms] at h1;exact Yyp h1
  have hmsl:ms.2.length<=400:=by rw[hms2];unfold srtS;rw[srtL_len];exact Yys (List.length_filter_le _ _) hM
  have hqd0:=(Ya.1 hq).1;have hqpl:=hQ.pl hd q hq;refine⟨ms.1,hs.rd 4 rfl (by rw[Yd,Yd,hms];rfl),?_⟩;have hmem:∀ {qu al V K F},.sl ms.1 67 6 (ms.2.map Ed.cs)∈(.blk h90.size q.1.cs 245::seaL h.size h20.size h72.size g qu al V K F MS:List It):=fun {qu al V K F}=>by
   refine Yn _ ?_;unfold seaL;simp only[Yr,Yk]
   right;right;right;right;right;left
   exact Yp.2 ⟨ms,Yb hms,rfl⟩
  have hrow0:=hs.rwm (hmem) (by omega);have hrn:ms.1.n=ms.2.length:=by have:=hrow0.1;rwa [Yc] at this
  refine⟨fun qu al x h' μ=>∃(j:Nat) (Q':List Vst) (V:List Vzt) (K:List (Plc × Bool)) (F':List FS),x=(j:Int)/\μ=ms.1.n-j/\j<=ms.1.n/\St h h' (.blk h90.size q.1.cs 245::seaL h.size h20.size h72.size g qu al V K F' MS)/\QuI g.n.toNat Q' V K/\FnI g (F'.map Prod.fst)/\Q'[hd]?=some q/\(Q',F'.map Prod.fst)=((srtS g.es q.1.s).take j).foldl (seaE x0.b q.1 q.2) (Q,F.map Prod.fst),⟨_,0,Q,V,K,F,rfl,rfl,Nat.zero_le _,hs,hQ,hF,hq,rfl⟩,?_⟩;have hQ0:=hQ;clear hs hQ hF hqun hvn hle hv hrow0;rintro-qu al _ h106 μ ⟨j,Q',V,K,F',rfl,rfl,hj,hs,hQ,hF,hq',hfold⟩;have hrow:Rw h106 6 ms.1 (ms.2.map Ed.cs):=hs.rwm hmem (by omega);refine sBi (fun c2=>?_) (fun c2=>?_)
  .refine hrow.nbI (by omega) (by omega) fun b107 o108 x gx t3=>?_;replace gx:ms.2[j]?=some x:=gx;rw[hms2] at gx;have hxm:x∈g.es:=by
    have h1:=(srtL_mem _ _).1 (Yb gx);exact (List.mem_filter.1 h1).1
   refine⟨x.f,x.a,x.b,x.l,x.t,x.ag,t3,?_⟩;refine hs.newput (vs:=x.cs) rfl rfl fun h116 hs=>?_;refine⟨x.t,hs.rd 0 rfl (i:=4) rfl,(q.1.b:Nat),hs.rd 1 rfl (i:=1) rfl,(q.1.d:Nat),hs.rd 1 rfl (i:=2) rfl,?_⟩;refine hs.newput (vs:=[.int .i64 x.t,.int .u8 (q.1.b:Nat),.int .u8 (q.1.d:Nat)]) rfl rfl fun h121 hs=>?_;refine edge206 hV hxb hs hQ hq' hF hxm fun qu' al' Q2 V2 K2 F2 h' hs2 hQ2 he hk=>?_;refine⟨_,?_,j+1,Q2,V2,K2,F2,by rw[w64 (by omega) (by omega)];omega,rfl,by omega,hs2,hQ2,?_,hk hd q hq',?_⟩
   .omega
   .have hle0:=hQ0.le;have:=seaE_fni (role:=x0.b) (p:=q.1) (path:=q.2) (st:=(Q',F'.map Prod.fst)) hF hxm (by omega);rw[<-he] at this;exact this
   .rw[take_snoc gx,List.foldl_append,<-hfold,he];rfl
  .rw[Yj (by rw[<-hms2];omega)] at hfold;have hle:=hQ0.le;have hqd:=(Ya.1 hq').1;refine⟨_,?_,hd+1,Q',V,K,F',by rw[w64 (by omega) (by omega)];omega,rfl,by omega,hs.drop 1,hQ,hF,?_⟩
   .omega
   .rw[hS,show g.n.toNat*65536+1-hd=(g.n.toNat*65536+1-(hd+1))+1 by omega,seaN_step hq,<-hfold]
 .have hend:seaS g i=F.map Prod.fst:=by rw[hS,seaN_end (Yl (by omega))]
  have hfl:=hF.len;rw[Yc] at hfl;refine⟨hs.ext,al,F,rfl,hend.symm,RL.ofSt hs 1 rfl (by omega) (by omega),fun f hf=>?_,by rw[hend];exact hF,hs.sub (.cons _ (.cons_cons _ (.cons _ (.cons _ (.cons _ (List.sublist_append_right _ _))))))⟩;have hm:pathIt f∈seaL h.size h20.size h72.size g qu al V K F MS:=by
   unfold seaL;simp only[Yr,Yk]
   right;right;right;right;right;right
   exact Yp.2 ⟨f,hf,rfl⟩
  obtain⟨k,hk⟩:=Yf.1 hm;exact RL.ofSt hs k hk (by omega) (by have:=hF.pl f.1 (Yp.2 ⟨f,hf,rfl⟩);omega)
def insMs (x:Ms):List Ms->List Ms
 | []=>[x]
 | y::r=>if msLt y x then y::insMs x r else x::y::r
def srtMs (l:List Ms):List Ms:=l.foldr insMs []
theorem msLt_tr {x y z:Ms} (h1:msLt x y) (h2:msLt y z):msLt x z:=by unfold msLt at *;omega
theorem msLt_irr (x:Ms):¬msLt x x:=by unfold msLt;omega
theorem msLt_tri {x y:Ms} (h:x≠y) (h1:¬msLt y x):msLt x y:=by
 obtain⟨a,b⟩:=x;obtain⟨a',b'⟩:=y;unfold msLt at *;simp only[ne_eq,Ms.mk.injEq] at h;simp only at *;omega
theorem insMs_mem (x z:Ms):∀l:List Ms,z∈insMs x l ↔ z=x\/z∈l
 | []=>by simp[insMs]
 | y::r=>by
  unfold insMs;split
  .rw[Yr,insMs_mem x z r,Yr];constructor
   .rintro (h | h | h)
    .exact .inr (.inl h)
    .exact .inl h
    .exact .inr (.inr h)
   .rintro (h | h | h)
    .exact .inr (.inl h)
    .exact .inl h
    .exact .inr (.inr h)
  .simp
theorem insMs_sorted {x:Ms}:∀ {l:List Ms},l.Pairwise msLt->(∀y∈l,y≠x)->(insMs x l).Pairwise msLt
 | [],_,_=>by simp[insMs]
 | y::r,hl,hx=>by
  obtain⟨h1,h2⟩:=List.pairwise_cons.1 hl;unfold insMs;by_cases h:msLt y x
  .rw[if_pos h,List.pairwise_cons];refine⟨fun z hz=>?_,insMs_sorted h2 fun z hz=>hx z (Yn _ hz)⟩;rcases (insMs_mem x z r).1 hz with rfl | hz
   .exact h
   .exact h1 z hz
  .rw[if_neg h,List.pairwise_cons];have h3:msLt x y:=msLt_tri (fun e=>hx y (by simp) e.symm) h;refine⟨fun z hz=>?_,hl⟩;rcases Yr.1 hz with rfl | hz
   .exact h3
   .exact msLt_tr h3 (h1 z hz)
theorem srtMs_mem (l:List Ms) (z:Ms):z∈srtMs l ↔ z∈l:=by
 induction l with
 | nil=>simp[srtMs]
 | cons a l ih=>
  show z∈insMs a (srtMs l) ↔ _;rw[insMs_mem,ih,Yr]
theorem srtMs_sorted:∀ {l:List Ms},l.Nodup->(srtMs l).Pairwise msLt
 | [],_=>.nil
 | a::l,h=>by
  obtain⟨h1,h2⟩:=List.nodup_cons.1 h;exact insMs_sorted (srtMs_sorted h2) fun y hy e=>h1 (by rw[<-e];exact (srtMs_mem l y).1 hy)
theorem srtMs_of {l l':List Ms} (hp:l'.Perm l) (hw:l'.Pairwise fun a b=>¬msLt b a) (hd:l.Nodup):l'=srtMs l:=by
 refine sorted_uniq (R:=msLt) msLt_irr (fun a b c=>msLt_tr) _ _ ?_ (srtMs_sorted hd) fun x=>by rw[srtMs_mem];exact hp.mem_iff
 exact (hw.and (hp.nodup_iff.2 hd)).imp fun ⟨h1,h2⟩=>msLt_tri h2 h1
def earS (g:Gl) (i:Nat):List Ms:=srtMs ((seaS g i).map (·.m))
def pthS (g:Gl) (i:Nat) (m:Ms):List Ac:=((seaS g i).find? fun f=>decide (f.m=m)).elim [] (·.path)
theorem early162 (g:Gl) (i:Nat) (x0:Ed) (h:Heap) (hg:GI h g) (hx:Gm h) (hV:ValidS g) (hi:g.es[i]?=some x0) :
  Fn Pz 31 #[g.v,.int .i64 (i:Nat)] h fun v h'=>Ext h h'/\∃s:Sl,v=.tuple ⟨[.slice s.a s.n s.c,.int .i64 0]⟩/\St h h' [.sl s 72 2 ((earS g i).map Ms.cs)]/\(earS g i).length<=400:=by
 apply vc31 (bs g.nm) g.hr g.hd g.n g.s g.e g.he g.ht (i:Nat);unfold W31;have hM:=hV.num.m;refine (St.refl h).newb fun h9 hs=>?_;refine⟨_,_,_,_,_,_,_,_,hs.at 0 rfl (n:=8) rfl,?_⟩;refine (search206 g i x0 h9 (hg.ext hs.ext) (hx.ext hs.ext) hV hi).mono ?_;rintro _ h21 ⟨E,s,F,rfl,hF,hr,_,hI,_⟩;have E21:=(hs.step E).ext;have hFl:=hI.len;have hFl2:F.length=(seaS g i).length:=by rw[<-hF,Yc]
 have hsn:=hr.ln;refine⟨s,0,rfl,?_⟩;have hs:=(St.refl h21).nil_ 72 2;refine⟨fun out x h' μ=>∃j:Nat,x=j/\μ=s.n-j/\j<=s.n/\St h21 h' [.sl out 72 2 (((F.take j).map (·.1.m)).map Ms.cs)],⟨_,0,rfl,rfl,Nat.zero_le _,hs⟩,?_⟩;clear hs;rintro-out _ h27 μ ⟨j,rfl,rfl,hj,hs⟩;have hon:=hs.len 0 (s:=out) (e:=72) (n:=2) rfl (by omega);rw[Yc,Yc,Yu] at hon;refine sBi (fun c=>?_) (fun c=>?_)
 .refine (hr.ext hs.ext).rw.nbI (by omega) (by omega) fun b28 o29 f gf t=>?_;replace gf:F[j]?=some f:=gf;refine⟨f.1.m.p,f.1.m.l,f.2,t,?_⟩;refine hs.newput (vs:=fnC f) rfl rfl fun h34 hs=>?_;refine⟨f.1.m.p,f.1.m.l,hs.at 0 rfl (o:=0) (n:=2) rfl,?_⟩;refine hs.app 1 rfl app261 (m:=1) [f.1.m.cs] rfl rfl (fun r hr=>by rw[Ye] at hr;rw[hr];rfl) rfl (by omega) (by simp only[maxLen];omega) fun s38 h39 n38 hs=>?_;refine⟨_,by omega,j+1,by rw[w64 (by omega) (by omega)];omega,rfl,by omega,?_⟩;rw[take_snoc gf,Ym,Ym];exact hs.drop 1
 .rw[Yj (by omega)] at hs;have hms:F.map (·.1.m)=(seaS g i).map (·.m):=by rw[<-hF,List.map_map];rfl
  rw[hms] at hs;have hlm:((seaS g i).map (·.m)).length<=400:=by rw[Yc];omega
  refine (sort207 hs 0 rfl (by omega)).mono ?_;rintro _ h42 ⟨rfl,l',hp,hw,hs⟩;have hl':l'=earS g i:=srtMs_of hp hw hI.nd;refine⟨rfl,E21.trans hs.ext,out,rfl,?_⟩;rw[<-hl'];exact⟨((St.refl h).step E21).join hs,by rw[hp.length_eq];exact hlm⟩
theorem path163 (g:Gl) (i:Nat) (x0:Ed) (m:Ms) (h:Heap) (hg:GI h g) (hx:Gm h) (hV:ValidS g) (hi:g.es[i]?=some x0) (hm:m∈earS g i) :
  Fn Pz 32 #[g.v,.int .i64 (i:Nat),.agg ⟨m.cs⟩] h fun v h'=>Ext h h'/\∃s:Sl,v=.tuple ⟨[.slice s.a s.n s.c,.int .i64 0]⟩/\St h h' [.sl s 65 3 ((pthS g i m).map Ac.cs)]/\(pthS g i m).length<=1000000:=by
 apply vc32 (bs g.nm) g.hr g.hd g.n g.s g.e g.he g.ht (i:Nat) m.p m.l;unfold W32;have hM:=hV.num.m;refine (St.refl h).newb fun h11 hs=>?_;refine hs.newb fun h12 hs=>?_;refine⟨_,_,_,_,_,_,_,_,hs.at 1 rfl (n:=8) rfl,?_⟩;refine (search206 g i x0 h12 (hg.ext hs.ext) (hx.ext hs.ext) hV hi).mono ?_;rintro _ h24 ⟨E,s,F,rfl,hF,hr,hp,hI,hso⟩;have hs0:=hs;replace hs:=hs.step E;have hFl:=hI.len;have hFl2:F.length=(seaS g i).length:=by rw[<-hF,Yc]
 have hsn:=hr.ln;refine⟨s,0,rfl,sBn (fun c=>absurd rfl c) (fun _=>?_)⟩;refine (index209 72 cal210 F m h11.size s h24 hr.rw (hs.at 0 rfl (o:=0) (n:=2) rfl) (by omega) fun q h hc=>same210 q m h11.size h hc).mono ?_;rintro _ h27 ⟨rfl,E2⟩;refine⟨_,rfl,?_⟩;have hin:∃f∈F,f.1.m=m:=by
  have h1:=(srtMs_mem _ _).1 hm;rw[<-hF] at h1;obtain⟨f,h2,h3⟩:=Yp.1 h1;obtain⟨q,h4,rfl⟩:=Yp.1 h2;exact⟨q,h4,h3⟩
 unfold ixI;cases hf:F.findIdx? fun q=>decide (q.1.m=m) with
 | none=>
  rw[List.findIdx?_eq_none_iff] at hf;obtain⟨f,h1,h2⟩:=hin;have:=hf f h1;rw[decide_eq_true h2] at this;cases this
 | some k=>
  obtain⟨h1,h2,_⟩:=List.findIdx?_eq_some_iff_getElem.1 hf;simp only;refine sBi (fun c=>by omega) (fun _=>?_);refine (hr.ext E2).rw.nbI (by omega) (by omega) fun b28 o29 f gf t=>?_;replace gf:F[k]?=some f:=gf;have hfm:f.1.m=m:=by
   rw[Yi h1] at gf;rw[<-Yyp gf];exact Yyn h2
  have hfF:=Yb gf;have hpe:pthS g i m=f.1.path:=by
   have hmem:f.1∈seaS g i:=by rw[<-hF];exact Yp.2 ⟨f,hfF,rfl⟩
   unfold pthS;cases hq:(seaS g i).find? fun f=>decide (f.m=m) with
   | none=>have:=List.find?_eq_none.1 hq f.1 hmem;rw[decide_eq_true hfm] at this;exact absurd rfl this
   | some f'=>
    have h3:=List.mem_of_find?_eq_some hq;have h4:f'.m=m:=by have:=List.find?_some hq;exact Yyn this
    show f'.path=f.1.path;obtain⟨a,ha⟩:=Yf.1 h3;obtain⟨b,hb⟩:=Yf.1 hmem;have h5:((seaS g i).map (·.m))[a]?=some m:=by rw[Yd,ha,<-h4];rfl
    have h6:((seaS g i).map (·.m))[b]?=some m:=by rw[Yd,hb,<-hfm];rfl
    have h7:=nodup_ix hI.nd h5 h6;subst h7;rw[ha] at hb;cases hb;rfl
  refine⟨f.2,t.nth 2 rfl,(hs.ext.trans E2),f.2,rfl,?_⟩;rw[hpe];refine⟨(hs0.sub (List.nil_sublist _)).join ((hso.step E2).sub (List.singleton_sublist.2 (Yn _ (Yp.2 ⟨f,hfF,rfl⟩)))),hI.pl f.1 (by rw[<-hF];exact Yp.2 ⟨f,hfF,rfl⟩)⟩
end Go.VC
end

section
namespace Go.VC
open Go.Proofs
/- farandole/realize.analyse
   loop rrrrrlrb: x_161:Int
   loop rrrrlrb: x_120:Int
   loop rrrlrb: x_45:Int
   loop rrrrrlrb: x_296:Int
   loop rrrrlrb: x_255:Int
   loop rrrlrb: x_180:Int
   loop rrrrrlrb: x_432:Int
   loop rrrrlrb: x_391:Int
   loop rrrlrb: x_316:Int
   loop rrrrrlrb: x_567:Int
   loop rrrrlrb: x_526:Int
   loop rrrlrb: x_451:Int
   loop rrrrrlrb: x_703:Int
   loop rrrrlrb: x_662:Int
   loop rrrlrb: x_587:Int
   loop rrrrrlrb: x_838:Int
   loop rrrrlrb: x_797:Int
   loop rrrlrb: x_722:Int
   loop rrrrrlrb: x_975:Int
   loop rrrrlrb: x_934:Int
   loop rrrlrb: x_859:Int
   loop rrrrrlrb: x_1110:Int
   loop rrrrlrb: x_1069:Int
   loop rrrlrb: x_994:Int
   loop rrrrrlrb: x_1246:Int
   loop rrrrlrb: x_1205:Int
   loop rrrlrb: x_1130:Int
   loop rrrrrlrb: x_1381:Int
   loop rrrrlrb: x_1340:Int
   loop rrrlrb: x_1265:Int
   loop rrrrrlrb: x_1517:Int
   loop rrrrlrb: x_1476:Int
   loop rrrlrb: x_1401:Int
   loop rrrrrlrb: x_1652:Int
   loop rrrrlrb: x_1611:Int
   loop rrrlrb: x_1536:Int
   loop rrrrrlrb: x_1789:Int
   loop rrrrlrb: x_1748:Int
   loop rrrlrb: x_1673:Int
   loop rrrrrlrb: x_1924:Int
   loop rrrrlrb: x_1883:Int
   loop rrrlrb: x_1808:Int
   loop rrrrrlrb: x_2060:Int
   loop rrrrlrb: x_2019:Int
   loop rrrlrb: x_1944:Int
   loop rrrrrlrb: x_2195:Int
   loop rrrrlrb: x_2154:Int
   loop rrrlrb: x_2079:Int
   loop rrrrrlrb: x_2331:Int
   loop rrrrlrb: x_2290:Int
   loop rrrlrb: x_2215:Int
   loop rrrrrlrb: x_2466:Int
   loop rrrrlrb: x_2425:Int
   loop rrrlrb: x_2350:Int
   loop rrrrrlrb: x_2603:Int
   loop rrrrlrb: x_2562:Int
   loop rrrlrb: x_2487:Int
   loop rrrrrlrb: x_2738:Int
   loop rrrrlrb: x_2697:Int
   loop rrrlrb: x_2622:Int
   loop rrrrrlrb: x_2874:Int
   loop rrrrlrb: x_2833:Int
   loop rrrlrb: x_2758:Int
   loop rrrrrlrb: x_3009:Int
   loop rrrrlrb: x_2968:Int
   loop rrrlrb: x_2893:Int
   loop rrrrrlrb: x_3145:Int
   loop rrrrlrb: x_3104:Int
   loop rrrlrb: x_3029:Int
   loop rrrrrlrb: x_3280:Int
   loop rrrrlrb: x_3239:Int
   loop rrrlrb: x_3164:Int
   loop rrrrrlrb: x_3418:Int
   loop rrrrlrb: x_3377:Int
   loop rrrlrb: x_3302:Int
   loop rrrrrlrb: x_3553:Int
   loop rrrrlrb: x_3512:Int
   loop rrrlrb: x_3437:Int
   loop rrrrrlrb: x_3689:Int
   loop rrrrlrb: x_3648:Int
   loop rrrlrb: x_3573:Int
   loop rrrrrlrb: x_3824:Int
   loop rrrrlrb: x_3783:Int
   loop rrrlrb: x_3708:Int
   loop rrrrrlrb: x_3960:Int
   loop rrrrlrb: x_3919:Int
   loop rrrlrb: x_3844:Int
   loop rrrrrlrb: x_4095:Int
   loop rrrrlrb: x_4054:Int
   loop rrrlrb: x_3979:Int
   loop rrrrrlrb: x_4232:Int
   loop rrrrlrb: x_4191:Int
   loop rrrlrb: x_4116:Int
   loop rrrrrlrb: x_4367:Int
   loop rrrrlrb: x_4326:Int
   loop rrrlrb: x_4251:Int
   loop rrrrrlrb: x_4503:Int
   loop rrrrlrb: x_4462:Int
   loop rrrlrb: x_4387:Int
   loop rrrrrlrb: x_4638:Int
   loop rrrrlrb: x_4597:Int
   loop rrrlrb: x_4522:Int
   loop rrrrrlrb: x_4774:Int
   loop rrrrlrb: x_4733:Int
   loop rrrlrb: x_4658:Int
   loop rrrrrlrb: x_4909:Int
   loop rrrrlrb: x_4868:Int
   loop rrrlrb: x_4793:Int
   loop rrrrrlrb: x_5046:Int
   loop rrrrlrb: x_5005:Int
   loop rrrlrb: x_4930:Int
   loop rrrrrlrb: x_5181:Int
   loop rrrrlrb: x_5140:Int
   loop rrrlrb: x_5065:Int
   loop rrrrrlrb: x_5317:Int
   loop rrrrlrb: x_5276:Int
   loop rrrlrb: x_5201:Int
   loop rrrrrlrb: x_5452:Int
   loop rrrrlrb: x_5411:Int
   loop rrrlrb: x_5336:Int
   loop rrrrrlrb: x_5588:Int
   loop rrrrlrb: x_5547:Int
   loop rrrlrb: x_5472:Int
   loop rrrrrlrb: x_5723:Int
   loop rrrrlrb: x_5682:Int
   loop rrrlrb: x_5607:Int
   loop rrrrrlrb: x_5860:Int
   loop rrrrlrb: x_5819:Int
   loop rrrlrb: x_5744:Int
   loop rrrrrlrb: x_5995:Int
   loop rrrrlrb: x_5954:Int
   loop rrrlrb: x_5879:Int
   loop rrrrrlrb: x_6131:Int
   loop rrrrlrb: x_6090:Int
   loop rrrlrb: x_6015:Int
   loop rrrrrlrb: x_6266:Int
   loop rrrrlrb: x_6225:Int
   loop rrrlrb: x_6150:Int
   loop rrrrrlrb: x_6402:Int
   loop rrrrlrb: x_6361:Int
   loop rrrlrb: x_6286:Int
   loop rrrrrlrb: x_6537:Int
   loop rrrrlrb: x_6496:Int
   loop rrrlrb: x_6421:Int
   loop rrrrrlrb: x_6675:Int
   loop rrrrlrb: x_6634:Int
   loop rrrlrb: x_6559:Int
   loop rrrrrlrb: x_6810:Int
   loop rrrrlrb: x_6769:Int
   loop rrrlrb: x_6694:Int
   loop rrrrrlrb: x_6946:Int
   loop rrrrlrb: x_6905:Int
   loop rrrlrb: x_6830:Int
   loop rrrrrlrb: x_7081:Int
   loop rrrrlrb: x_7040:Int
   loop rrrlrb: x_6965:Int
   loop rrrrrlrb: x_7217:Int
   loop rrrrlrb: x_7176:Int
   loop rrrlrb: x_7101:Int
   loop rrrrrlrb: x_7352:Int
   loop rrrrlrb: x_7311:Int
   loop rrrlrb: x_7236:Int
   loop rrrrrlrb: x_7489:Int
   loop rrrrlrb: x_7448:Int
   loop rrrlrb: x_7373:Int
   loop rrrrrlrb: x_7624:Int
   loop rrrrlrb: x_7583:Int
   loop rrrlrb: x_7508:Int
   loop rrrrrlrb: x_7760:Int
   loop rrrrlrb: x_7719:Int
   loop rrrlrb: x_7644:Int
   loop rrrrrlrb: x_7895:Int
   loop rrrrlrb: x_7854:Int
   loop rrrlrb: x_7779:Int
   loop rrrrrlrb: x_8031:Int
   loop rrrrlrb: x_7990:Int
   loop rrrlrb: x_7915:Int
   loop rrrrrlrb: x_8166:Int
   loop rrrrlrb: x_8125:Int
   loop rrrlrb: x_8050:Int
   loop rrrrrlrb: x_8303:Int
   loop rrrrlrb: x_8262:Int
   loop rrrlrb: x_8187:Int
   loop rrrrrlrb: x_8438:Int
   loop rrrrlrb: x_8397:Int
   loop rrrlrb: x_8322:Int
   loop rrrrrlrb: x_8574:Int
   loop rrrrlrb: x_8533:Int
   loop rrrlrb: x_8458:Int
   loop rrrrrlrb: x_8709:Int
   loop rrrrlrb: x_8668:Int
   loop rrrlrb: x_8593:Int
   loop rrrrrlrb: x_8845:Int
   loop rrrrlrb: x_8804:Int
   loop rrrlrb: x_8729:Int
   loop rrrrrlrb: x_8980:Int
   loop rrrrlrb: x_8939:Int
   loop rrrlrb: x_8864:Int
   loop rrrrrlrb: x_9117:Int
   loop rrrrlrb: x_9076:Int
   loop rrrlrb: x_9001:Int
   loop rrrrrlrb: x_9252:Int
   loop rrrrlrb: x_9211:Int
   loop rrrlrb: x_9136:Int
   loop rrrrrlrb: x_9388:Int
   loop rrrrlrb: x_9347:Int
   loop rrrlrb: x_9272:Int
   loop rrrrrlrb: x_9523:Int
   loop rrrrlrb: x_9482:Int
   loop rrrlrb: x_9407:Int
   loop rrrrrlrb: x_9659:Int
   loop rrrrlrb: x_9618:Int
   loop rrrlrb: x_9543:Int
   loop rrrrrlrb: x_9794:Int
   loop rrrrlrb: x_9753:Int
   loop rrrlrb: x_9678:Int
   loop rrrrrlrb: x_9932:Int
   loop rrrrlrb: x_9891:Int
   loop rrrlrb: x_9816:Int
   loop rrrrrlrb: x_10067:Int
   loop rrrrlrb: x_10026:Int
   loop rrrlrb: x_9951:Int
   loop rrrrrlrb: x_10203:Int
   loop rrrrlrb: x_10162:Int
   loop rrrlrb: x_10087:Int
   loop rrrrrlrb: x_10338:Int
   loop rrrrlrb: x_10297:Int
   loop rrrlrb: x_10222:Int
   loop rrrrrlrb: x_10474:Int
   loop rrrrlrb: x_10433:Int
   loop rrrlrb: x_10358:Int
   loop rrrrrlrb: x_10609:Int
   loop rrrrlrb: x_10568:Int
   loop rrrlrb: x_10493:Int
   loop rrrrrlrb: x_10746:Int
   loop rrrrlrb: x_10705:Int
   loop rrrlrb: x_10630:Int
   loop rrrrrlrb: x_10881:Int
   loop rrrrlrb: x_10840:Int
   loop rrrlrb: x_10765:Int
   loop rrrrrlrb: x_11017:Int
   loop rrrrlrb: x_10976:Int
   loop rrrlrb: x_10901:Int
   loop rrrrrlrb: x_11152:Int
   loop rrrrlrb: x_11111:Int
   loop rrrlrb: x_11036:Int
   loop rrrrrlrb: x_11288:Int
   loop rrrrlrb: x_11247:Int
   loop rrrlrb: x_11172:Int
   loop rrrrrlrb: x_11423:Int
   loop rrrrlrb: x_11382:Int
   loop rrrlrb: x_11307:Int
   loop rrrrrlrb: x_11560:Int
   loop rrrrlrb: x_11519:Int
   loop rrrlrb: x_11444:Int
   loop rrrrrlrb: x_11695:Int
   loop rrrrlrb: x_11654:Int
   loop rrrlrb: x_11579:Int
   loop rrrrrlrb: x_11831:Int
   loop rrrrlrb: x_11790:Int
   loop rrrlrb: x_11715:Int
   loop rrrrrlrb: x_11966:Int
   loop rrrrlrb: x_11925:Int
   loop rrrlrb: x_11850:Int
   loop rrrrrlrb: x_12102:Int
   loop rrrrlrb: x_12061:Int
   loop rrrlrb: x_11986:Int
   loop rrrrrlrb: x_12237:Int
   loop rrrrlrb: x_12196:Int
   loop rrrlrb: x_12121:Int
   loop rrrrrlrb: x_12374:Int
   loop rrrrlrb: x_12333:Int
   loop rrrlrb: x_12258:Int
   loop rrrrrlrb: x_12509:Int
   loop rrrrlrb: x_12468:Int
   loop rrrlrb: x_12393:Int
   loop rrrrrlrb: x_12645:Int
   loop rrrrlrb: x_12604:Int
   loop rrrlrb: x_12529:Int
   loop rrrrrlrb: x_12780:Int
   loop rrrrlrb: x_12739:Int
   loop rrrlrb: x_12664:Int
   loop rrrrrlrb: x_12916:Int
   loop rrrrlrb: x_12875:Int
   loop rrrlrb: x_12800:Int
   loop rrrrrlrb: x_13051:Int
   loop rrrrlrb: x_13010:Int
   loop rrrlrb: x_12935:Int
   loop rrrrrlrb: x_13189:Int
   loop rrrrlrb: x_13148:Int
   loop rrrlrb: x_13073:Int
   loop rrrrrlrb: x_13324:Int
   loop rrrrlrb: x_13283:Int
   loop rrrlrb: x_13208:Int
   loop rrrrrlrb: x_13460:Int
   loop rrrrlrb: x_13419:Int
   loop rrrlrb: x_13344:Int
   loop rrrrrlrb: x_13595:Int
   loop rrrrlrb: x_13554:Int
   loop rrrlrb: x_13479:Int
   loop rrrrrlrb: x_13731:Int
   loop rrrrlrb: x_13690:Int
   loop rrrlrb: x_13615:Int
   loop rrrrrlrb: x_13866:Int
   loop rrrrlrb: x_13825:Int
   loop rrrlrb: x_13750:Int
   loop rrrrrlrb: x_14003:Int
   loop rrrrlrb: x_13962:Int
   loop rrrlrb: x_13887:Int
   loop rrrrrlrb: x_14138:Int
   loop rrrrlrb: x_14097:Int
   loop rrrlrb: x_14022:Int
   loop rrrrrlrb: x_14274:Int
   loop rrrrlrb: x_14233:Int
   loop rrrlrb: x_14158:Int
   loop rrrrrlrb: x_14409:Int
   loop rrrrlrb: x_14368:Int
   loop rrrlrb: x_14293:Int
   loop rrrrrlrb: x_14545:Int
   loop rrrrlrb: x_14504:Int
   loop rrrlrb: x_14429:Int
   loop rrrrrlrb: x_14680:Int
   loop rrrrlrb: x_14639:Int
   loop rrrlrb: x_14564:Int
   loop rrrrrlrb: x_14817:Int
   loop rrrrlrb: x_14776:Int
   loop rrrlrb: x_14701:Int
   loop rrrrrlrb: x_14952:Int
   loop rrrrlrb: x_14911:Int
   loop rrrlrb: x_14836:Int
   loop rrrrrlrb: x_15088:Int
   loop rrrrlrb: x_15047:Int
   loop rrrlrb: x_14972:Int
   loop rrrrrlrb: x_15223:Int
   loop rrrrlrb: x_15182:Int
   loop rrrlrb: x_15107:Int
   loop rrrrrlrb: x_15359:Int
   loop rrrrlrb: x_15318:Int
   loop rrrlrb: x_15243:Int
   loop rrrrrlrb: x_15494:Int
   loop rrrrlrb: x_15453:Int
   loop rrrlrb: x_15378:Int
   loop rrrrrlrb: x_15631:Int
   loop rrrrlrb: x_15590:Int
   loop rrrlrb: x_15515:Int
   loop rrrrrlrb: x_15766:Int
   loop rrrrlrb: x_15725:Int
   loop rrrlrb: x_15650:Int
   loop rrrrrlrb: x_15902:Int
   loop rrrrlrb: x_15861:Int
   loop rrrlrb: x_15786:Int
   loop rrrrrlrb: x_16037:Int
   loop rrrrlrb: x_15996:Int
   loop rrrlrb: x_15921:Int
   loop rrrrrlrb: x_16173:Int
   loop rrrrlrb: x_16132:Int
   loop rrrlrb: x_16057:Int
   loop rrrrrlrb: x_16308:Int
   loop rrrrlrb: x_16267:Int
   loop rrrlrb: x_16192:Int -/
def V49za (h79 h39 h46:Heap) (m44:Nat) (I42:Int->Heap->Nat->Prop) (x_45 p1:Int):Prop:=
 (∃x80:Sl,hc h79 ⟨h39.size,13,none⟩=some (.slice x80.a x80.n x80.c)/\(∃x81:Int,hc h79 ⟨h46.size,0,none⟩=some (.int .i64 x81)/\(∃x82:Sl,hc h79 ⟨h39.size,13,none⟩=some (.slice x82.a x82.n x82.c)/\(∃x83:Int,hc h79 ⟨h46.size,0,none⟩=some (.int .i64 x83)/\(NB x82.a fun b84 o85=>((0<=(x83:Int)/\(x83:Int)<(x82.n:Nat))/\(∃x86:Bool,hc h79 ⟨b84,o85+Int.toNat x83*1,none⟩=some (.bool x86)/\(sB x86 ((NB x80.a fun b87 o88=>((0<=(x81:Int)/\(x81:Int)<(x80.n:Nat))/\(okAt h79 ⟨b87,o88+Int.toNat x81*1,none⟩ 1/\∀h89:Heap,h89=hputs h79 ⟨b87,o88+Int.toNat x81*1,none⟩ 0 [.bool true]->(∃m90,m90<m44/\I42 (IntKind.wrap .i64 (x_45+1)) h89 m90))))) ((∃x91:Int,hc h79 ⟨h46.size,1,none⟩=some (.int .i64 x91)/\(NB x80.a fun b92 o93=>((0<=(x81:Int)/\(x81:Int)<(x80.n:Nat))/\(okAt h79 ⟨b92,o93+Int.toNat x81*1,none⟩ 1/\∀h94:Heap,h94=hputs h79 ⟨b92,o93+Int.toNat x81*1,none⟩ 0 [.bool (x91==p1)]->(∃m95,m95<m44/\I42 (IntKind.wrap .i64 (x_45+1)) h94 m95))))))))))))))
def V49a (h39:Heap) (x22:ByteArray) (x23 x24:Sl) (x25 x26 x27:Int) (x28 x29:Sl) (p1:Int) (h20:Heap) (x30:Int) (h35:Heap) (x31:Int) (h36:Heap) (x32:Int) (h37:Heap) (x33:Int) (h38:Heap) (x34:Int) (h:Heap) (R:Value->Heap->Prop):Prop:=
 (Wn h39 [.string x22,vS x23,vS x24,vI x25,vI x26,vI x27,vS x28,vS x29,vI p1,.slice (some (aS h20 0)) (Int.toNat x30) (Int.toNat x30),.slice none 0 0,.slice (some (aS h35 0)) (Int.toNat x31) (Int.toNat x31),.slice (some (aS h36 0)) (Int.toNat x32) (Int.toNat x32),.slice (some (aS h37 0)) (Int.toNat x33) (Int.toNat x33),.slice (some (aS h38 0)) (Int.toNat x34) (Int.toNat x34)] 186 fun h40=>(∃x41,rS h40 (aS h 6) x41/\(QI 0 h40 fun I42 x_45 h46 m44=>((sB (decide (x_45<(x41.n:Int))) ((NB x41.a fun b47 o48=>(Ib x_45 x41.n/\(∃x49:Int,∃x50:Int,∃x51:Int,∃x52:Int,∃x53:Int,∃x54:Bool,atC h46 ⟨b47,o48+Int.toNat x_45*6,none⟩ [vI x49,vI x50,vI x51,vI x52,vI x53,.bool x54]/\(Wn h46 [vI 0,vI 0,vI 0,vI 0,vI 0,.bool false] 67 fun h55=>(Wp h55 (aS h46 0) 6 [vI x49,vI x50,vI x51,vI x52,vI x53,.bool x54] fun h56=>(∃x57,rS h56 (aS h39 9) x57/\(∃x58,rI h56 (aS h46 0) x58/\(∃x59,rS h56 (aS h39 9) x59/\(∃x60,rI h56 (aS h46 0) x60/\(NB x59.a fun b61 o62=>(Ib x60 x59.n/\(∃x63,rS h56 ⟨b61,o62+Int.toNat x60*1,none⟩ x63/\(Wn h56 [vI x_45] 3 fun h64=>(Sm [⟨b61,o62+Int.toNat x60*1,none⟩,(aS h46 0),(aS h39 9),(aS h46 0),(aS h39 9)] h56 h64/\(App Pz 102 102 (vS x63) (.slice (some (aS h56 0)) 1 1) h64 fun s65 h66=>(Sm [(aS h46 0),(aS h39 9)] h64 h66/\(NB x57.a fun b67 o68=>(Ib x58 x57.n/\(Wp h66 ⟨b67,o68+Int.toNat x58*1,none⟩ 1 [vS s65] fun h69=>(∃x70,rS h69 (aS h39 12) x70/\(∃x71,rI h69 (aS h46 0) x71/\(∃x72,rS h69 (aS h39 12) x72/\(∃x73,rI h69 (aS h46 0) x73/\(NB x72.a fun b74 o75=>(Ib x73 x72.n/\(∃x76,rB h69 ⟨b74,o75+Int.toNat x73*1,none⟩ x76/\(sB x76 ((NB x70.a fun b77 o78=>(Ib x71 x70.n/\(Wp h69 ⟨b77,o78+Int.toNat x71*1,none⟩ 1 [.bool true] fun h79=>(V49za h79 h39 h46 m44 I42 x_45 p1))))) ((∃x96,rB h69 (aS h46 5) x96/\(NB x70.a fun b97 o98=>(Ib x71 x70.n/\(Wp h69 ⟨b97,o98+Int.toNat x71*1,none⟩ 1 [.bool x96] fun h99=>(V49za h99 h39 h46 m44 I42 x_45 p1)))))))))))))))))))))))))))))))))) ((∃x116,rS h46 (aS h 7) x116/\(QI 0 h46 fun I117 x_120 h121 m119=>((sB (decide (x_120<(x116.n:Int))) ((NB x116.a fun b122 o123=>(Ib x_120 x116.n/\(∃x124:Int,∃x125:Int,∃x126:Int,atC h121 ⟨b122,o123+Int.toNat x_120*3,none⟩ [vI x124,vI x125,vI x126]/\(Wn h121 [vI 0,vI 0,vI 0] 149 fun h127=>(Wp h127 (aS h121 0) 3 [vI x124,vI x125,vI x126] fun h128=>(∃x129,rS h128 (aS h 6) x129/\(∃x130,rI h128 (aS h121 2) x130/\(NB x129.a fun b131 o132=>(Ib x130 x129.n/\(∃x133:Int,∃x134:Int,∃x135:Int,∃x136:Int,∃x137:Int,∃x138:Bool,atC h128 ⟨b131,o132+Int.toNat x130*6,none⟩ [vI x133,vI x134,vI x135,vI x136,vI x137,.bool x138]/\(Fn Pz 106 #[.pointer (some (aS h39 0)),.agg ⟨[vI x133,vI x134,vI x135,vI x136,vI x137,.bool x138]⟩] h128 (fun v139 h144=>∃x140:Bool,∃x141:Int,∃x142:Int,∃x143:Bool,v139=.tuple ⟨[.agg ⟨[.bool x140,vI x141,vI x142]⟩,.bool x143]⟩/\(Wn h144 [.bool false,vI 0,vI 0] 188 fun h145=>(Wp h145 (aS h144 0) 3 [.bool x140,vI x141,vI x142] fun h146=>(∃x147,rS h146 (aS h39 11) x147/\(∃x148,rI h146 (aS h121 0) x148/\(∃x149,rI h146 (aS h121 1) x149/\(∃x150:Bool,∃x151:Int,∃x152:Int,atC h146 (aS h144 0) [.bool x150,vI x151,vI x152]/\(NB x147.a fun b153 o154=>(Ib x148 x147.n/\(Wp h146 ⟨b153,o154+Int.toNat x148*4,none⟩ 4 [vI x149,.bool x150,vI x151,vI x152] fun h155=>(∃m156,m156<m119/\I117 (IntKind.wrap .i64 (x_120+1)) h155 m156))))))))))))))))))))))) ((∃x157,rI h121 (aS h 3) x157/\(QI 0 h121 fun I158 x_161 h162 m160=>((sB (decide (x_161<x157)) ((∃x163,rS h162 (aS h39 10) x163/\(Fn Pz 107 #[.pointer (some (aS h39 0)),vI x_161] h162 (fun v164 h167=>∃x165:Sl,∃x166:Bool,v164=.agg ⟨[vS x165,.bool x166]⟩/\(Sm [(aS h39 10)] h162 h167/\(Wn h167 [vS x165,.bool x166] 195 fun h168=>(Sm [(aS h39 10)] h167 h168/\(App Pz 184 184 (vS x163) (.slice (some (aS h167 0)) 1 1) h168 fun s169 h170=>(Wp h170 (aS h39 10) 1 [vS s169] fun h171=>(∃m172,m172<m160/\I158 (IntKind.wrap .i64 (x_161+1)) h171 m172)))))))))) (R (.tuple ⟨[.pointer (some (aS h39 0)),vI 0]⟩) h162))))))))))))))))
def V49e (x32:Int) (h444 h:Heap) (x22:ByteArray) (x23 x24:Sl) (x25 x26 x27:Int) (x28 x29:Sl) (p1:Int) (h20:Heap) (x30:Int) (h35:Heap) (x31:Int) (h36:Heap) (x33:Int) (h308:Heap) (x34:Int) (R:Value->Heap->Prop):Prop:=
 (((0:Int)<=x32/\(x32:Int)<=x32/\((1:Nat):Int)*x32<=140737488355328)/\∀h445:Heap,h445=h444.push (.cells ⟨madeL Pz 4 (Int.toNat x32)⟩ 4)->(Sm [⟨h.size,3,none⟩,⟨h.size,3,none⟩,⟨h.size,3,none⟩,⟨h.size,3,none⟩,⟨h.size,0,none⟩] h444 h445/\(V49a h445 x22 x23 x24 x25 x26 x27 x28 x29 p1 h20 x30 h35 x31 h444 x32 h36 x33 h308 x34 h R)))
def V49j (x31:Int) (h2207 h:Heap) (x32:Int) (x22:ByteArray) (x23 x24:Sl) (x25 x26 x27:Int) (x28 x29:Sl) (p1:Int) (h20:Heap) (x30:Int) (h35:Heap) (x33:Int) (h1664:Heap) (x34:Int) (R:Value->Heap->Prop):Prop:=
 ((((0:Int)<=x31/\(x31:Int)<=x31/\((32:Nat):Int)*x31<=140737488355328)/\∀h2208:Heap,h2208=h2207.push (.cells ⟨madeL Pz 192 (Int.toNat x31)⟩ 192)->(Sm [⟨h.size,3,none⟩,⟨h.size,3,none⟩,⟨h.size,3,none⟩,⟨h.size,3,none⟩,⟨h.size,0,none⟩] h2207 h2208/\(V49e x32 h2208 h x22 x23 x24 x25 x26 x27 x28 x29 p1 h20 x30 h2207 x31 h35 x33 h1664 x34 R))))
def V49b (x31:Int) (h1258 h:Heap) (x22:ByteArray) (x23 x24:Sl) (x25 x26 x27:Int) (x28 x29:Sl) (p1:Int) (h20:Heap) (x30:Int) (h35:Heap) (x32:Int) (h850:Heap) (x33:Int) (h1122:Heap) (x34:Int) (R:Value->Heap->Prop):Prop:=
 (((0:Int)<=x31/\(x31:Int)<=x31/\((32:Nat):Int)*x31<=140737488355328)/\∀h1259:Heap,h1259=h1258.push (.cells ⟨madeL Pz 192 (Int.toNat x31)⟩ 192)->(Sm [⟨h.size,3,none⟩,⟨h.size,3,none⟩,⟨h.size,3,none⟩,⟨h.size,3,none⟩,⟨h.size,0,none⟩] h1258 h1259/\(V49a h1259 x22 x23 x24 x25 x26 x27 x28 x29 p1 h20 x30 h1258 x31 h35 x32 h850 x33 h1122 x34 h R)))
def V49s (x32:Int) (h2207 h:Heap) (x31:Int) (x22:ByteArray) (x23 x24:Sl) (x25 x26 x27:Int) (x28 x29:Sl) (p1:Int) (h20:Heap) (x30:Int) (h35:Heap) (x33:Int) (h1664:Heap) (x34:Int) (R:Value->Heap->Prop):Prop:=
 ((((0:Int)<=x32/\(x32:Int)<=x32/\((1:Nat):Int)*x32<=140737488355328)/\∀h2343:Heap,h2343=h2207.push (.cells ⟨madeL Pz 4 (Int.toNat x32)⟩ 4)->(Sm [⟨h.size,3,none⟩,⟨h.size,3,none⟩,⟨h.size,3,none⟩,⟨h.size,3,none⟩,⟨h.size,0,none⟩] h2207 h2343/\(V49b x31 h2343 h x22 x23 x24 x25 x26 x27 x28 x29 p1 h20 x30 h2207 x32 h35 x33 h1664 x34 R))))
def V49zb (x30:Int) (h12249 h:Heap) (x31 x32:Int) (x22:ByteArray) (x23 x24:Sl) (x25 x26 x27:Int) (x28 x29:Sl) (p1:Int) (h20:Heap) (x33:Int) (h9806:Heap) (x34:Int) (R:Value->Heap->Prop):Prop:=
 ((((0:Int)<=x30/\(x30:Int)<=x30/\((24:Nat):Int)*x30<=140737488355328)/\∀h12250:Heap,h12250=h12249.push (.cells ⟨madeL Pz 102 (Int.toNat x30)⟩ 102)->(Sm [⟨h.size,3,none⟩,⟨h.size,3,none⟩,⟨h.size,3,none⟩,⟨h.size,3,none⟩,⟨h.size,0,none⟩] h12249 h12250/\(V49j x31 h12250 h x32 x22 x23 x24 x25 x26 x27 x28 x29 p1 h12249 x30 h20 x33 h9806 x34 R)/\(V49s x32 h12250 h x31 x22 x23 x24 x25 x26 x27 x28 x29 p1 h12249 x30 h20 x33 h9806 x34 R))))
def V49n (x30:Int) (h5464 h:Heap) (x32:Int) (x22:ByteArray) (x23 x24:Sl) (x25 x26 x27:Int) (x28 x29:Sl) (p1:Int) (h20:Heap) (x31:Int) (h3292:Heap) (x33:Int) (h4921:Heap) (x34:Int) (R:Value->Heap->Prop):Prop:=
 ((((0:Int)<=x30/\(x30:Int)<=x30/\((24:Nat):Int)*x30<=140737488355328)/\∀h5465:Heap,h5465=h5464.push (.cells ⟨madeL Pz 102 (Int.toNat x30)⟩ 102)->(Sm [⟨h.size,3,none⟩,⟨h.size,3,none⟩,⟨h.size,3,none⟩,⟨h.size,3,none⟩,⟨h.size,0,none⟩] h5464 h5465/\(V49e x32 h5465 h x22 x23 x24 x25 x26 x27 x28 x29 p1 h5464 x30 h20 x31 h3292 x33 h4921 x34 R))))
def V49c (x30:Int) (h4515 h:Heap) (x22:ByteArray) (x23 x24:Sl) (x25 x26 x27:Int) (x28 x29:Sl) (p1:Int) (h20:Heap) (x31:Int) (h3292:Heap) (x32:Int) (h4107:Heap) (x33:Int) (h4379:Heap) (x34:Int) (R:Value->Heap->Prop):Prop:=
 (((0:Int)<=x30/\(x30:Int)<=x30/\((24:Nat):Int)*x30<=140737488355328)/\∀h4516:Heap,h4516=h4515.push (.cells ⟨madeL Pz 102 (Int.toNat x30)⟩ 102)->(Sm [⟨h.size,3,none⟩,⟨h.size,3,none⟩,⟨h.size,3,none⟩,⟨h.size,3,none⟩,⟨h.size,0,none⟩] h4515 h4516/\(V49a h4516 x22 x23 x24 x25 x26 x27 x28 x29 p1 h4515 x30 h20 x31 h3292 x32 h4107 x33 h4379 x34 h R)))
def V49u (x32:Int) (h5464 h:Heap) (x30:Int) (x22:ByteArray) (x23 x24:Sl) (x25 x26 x27:Int) (x28 x29:Sl) (p1:Int) (h20:Heap) (x31:Int) (h3292:Heap) (x33:Int) (h4921:Heap) (x34:Int) (R:Value->Heap->Prop):Prop:=
 ((((0:Int)<=x32/\(x32:Int)<=x32/\((1:Nat):Int)*x32<=140737488355328)/\∀h5600:Heap,h5600=h5464.push (.cells ⟨madeL Pz 4 (Int.toNat x32)⟩ 4)->(Sm [⟨h.size,3,none⟩,⟨h.size,3,none⟩,⟨h.size,3,none⟩,⟨h.size,3,none⟩,⟨h.size,0,none⟩] h5464 h5600/\(V49c x30 h5600 h x22 x23 x24 x25 x26 x27 x28 x29 p1 h20 x31 h5464 x32 h3292 x33 h4921 x34 R))))
def V49zc (x31:Int) (h12249 h:Heap) (x30 x32:Int) (x22:ByteArray) (x23 x24:Sl) (x25 x26 x27:Int) (x28 x29:Sl) (p1:Int) (h20:Heap) (x33:Int) (h9806:Heap) (x34:Int) (R:Value->Heap->Prop):Prop:=
 ((((0:Int)<=x31/\(x31:Int)<=x31/\((32:Nat):Int)*x31<=140737488355328)/\∀h12521:Heap,h12521=h12249.push (.cells ⟨madeL Pz 192 (Int.toNat x31)⟩ 192)->(Sm [⟨h.size,3,none⟩,⟨h.size,3,none⟩,⟨h.size,3,none⟩,⟨h.size,3,none⟩,⟨h.size,0,none⟩] h12249 h12521/\(V49n x30 h12521 h x32 x22 x23 x24 x25 x26 x27 x28 x29 p1 h12249 x31 h20 x33 h9806 x34 R)/\(V49u x32 h12521 h x30 x22 x23 x24 x25 x26 x27 x28 x29 p1 h12249 x31 h20 x33 h9806 x34 R))))
def V49r (x34:Int) (h308 h:Heap) (x32:Int) (x22:ByteArray) (x23 x24:Sl) (x25 x26 x27:Int) (x28 x29:Sl) (p1:Int) (h20:Heap) (x30:Int) (h35:Heap) (x31:Int) (h36:Heap) (x33:Int) (R:Value->Heap->Prop):Prop:=
 ((((0:Int)<=x34/\(x34:Int)<=x34/\((24:Nat):Int)*x34<=140737488355328)/\∀h444:Heap,h444=h308.push (.cells ⟨madeL Pz 274 (Int.toNat x34)⟩ 274)->(Sm [⟨h.size,3,none⟩,⟨h.size,3,none⟩,⟨h.size,3,none⟩,⟨h.size,3,none⟩,⟨h.size,0,none⟩] h308 h444/\(V49e x32 h444 h x22 x23 x24 x25 x26 x27 x28 x29 p1 h20 x30 h35 x31 h36 x33 h308 x34 R))))
def V49f (x34:Int) (h38 h:Heap) (x22:ByteArray) (x23 x24:Sl) (x25 x26 x27:Int) (x28 x29:Sl) (p1:Int) (h20:Heap) (x30:Int) (h35:Heap) (x31:Int) (h36:Heap) (x32:Int) (h37:Heap) (x33:Int) (R:Value->Heap->Prop):Prop:=
 (((0:Int)<=x34/\(x34:Int)<=x34/\((24:Nat):Int)*x34<=140737488355328)/\∀h39:Heap,h39=h38.push (.cells ⟨madeL Pz 274 (Int.toNat x34)⟩ 274)->(Sm [⟨h.size,3,none⟩,⟨h.size,3,none⟩,⟨h.size,3,none⟩,⟨h.size,3,none⟩,⟨h.size,0,none⟩] h38 h39/\(V49a h39 x22 x23 x24 x25 x26 x27 x28 x29 p1 h20 x30 h35 x31 h36 x32 h37 x33 h38 x34 h R)))
def V49w (x32:Int) (h308 h:Heap) (x34:Int) (x22:ByteArray) (x23 x24:Sl) (x25 x26 x27:Int) (x28 x29:Sl) (p1:Int) (h20:Heap) (x30:Int) (h35:Heap) (x31:Int) (h36:Heap) (x33:Int) (R:Value->Heap->Prop):Prop:=
 ((((0:Int)<=x32/\(x32:Int)<=x32/\((1:Nat):Int)*x32<=140737488355328)/\∀h309:Heap,h309=h308.push (.cells ⟨madeL Pz 4 (Int.toNat x32)⟩ 4)->(Sm [⟨h.size,3,none⟩,⟨h.size,3,none⟩,⟨h.size,3,none⟩,⟨h.size,3,none⟩,⟨h.size,0,none⟩] h308 h309/\(V49f x34 h309 h x22 x23 x24 x25 x26 x27 x28 x29 p1 h20 x30 h35 x31 h308 x32 h36 x33 R))))
def V49zd (x31:Int) (h1664 h:Heap) (x32 x34:Int) (x22:ByteArray) (x23 x24:Sl) (x25 x26 x27:Int) (x28 x29:Sl) (p1:Int) (h20:Heap) (x30:Int) (h35:Heap) (x33:Int) (R:Value->Heap->Prop):Prop:=
 ((((0:Int)<=x31/\(x31:Int)<=x31/\((32:Nat):Int)*x31<=140737488355328)/\∀h1665:Heap,h1665=h1664.push (.cells ⟨madeL Pz 192 (Int.toNat x31)⟩ 192)->(Sm [⟨h.size,3,none⟩,⟨h.size,3,none⟩,⟨h.size,3,none⟩,⟨h.size,3,none⟩,⟨h.size,0,none⟩] h1664 h1665/\(V49w x32 h1665 h x34 x22 x23 x24 x25 x26 x27 x28 x29 p1 h20 x30 h1664 x31 h35 x33 R)/\(V49r x34 h1665 h x32 x22 x23 x24 x25 x26 x27 x28 x29 p1 h20 x30 h1664 x31 h35 x33 R))))
def V49ze (x34:Int) (h1664 h:Heap) (x31 x32:Int) (x22:ByteArray) (x23 x24:Sl) (x25 x26 x27:Int) (x28 x29:Sl) (p1:Int) (h20:Heap) (x30:Int) (h35:Heap) (x33:Int) (R:Value->Heap->Prop):Prop:=
 ((((0:Int)<=x34/\(x34:Int)<=x34/\((24:Nat):Int)*x34<=140737488355328)/\∀h2207:Heap,h2207=h1664.push (.cells ⟨madeL Pz 274 (Int.toNat x34)⟩ 274)->(Sm [⟨h.size,3,none⟩,⟨h.size,3,none⟩,⟨h.size,3,none⟩,⟨h.size,3,none⟩,⟨h.size,0,none⟩] h1664 h2207/\(V49j x31 h2207 h x32 x22 x23 x24 x25 x26 x27 x28 x29 p1 h20 x30 h35 x33 h1664 x34 R)/\(V49s x32 h2207 h x31 x22 x23 x24 x25 x26 x27 x28 x29 p1 h20 x30 h35 x33 h1664 x34 R))))
def V49d (x33:Int) (h173 h:Heap) (x22:ByteArray) (x23 x24:Sl) (x25 x26 x27:Int) (x28 x29:Sl) (p1:Int) (h20:Heap) (x30:Int) (h35:Heap) (x31:Int) (h36:Heap) (x32:Int) (h37:Heap) (x34:Int) (R:Value->Heap->Prop):Prop:=
 (((0:Int)<=x33/\(x33:Int)<=x33/\((1:Nat):Int)*x33<=140737488355328)/\∀h174:Heap,h174=h173.push (.cells ⟨madeL Pz 4 (Int.toNat x33)⟩ 4)->(Sm [⟨h.size,3,none⟩,⟨h.size,3,none⟩,⟨h.size,3,none⟩,⟨h.size,3,none⟩,⟨h.size,0,none⟩] h173 h174/\(V49a h174 x22 x23 x24 x25 x26 x27 x28 x29 p1 h20 x30 h35 x31 h36 x32 h173 x33 h37 x34 h R)))
def V49x (x32:Int) (h579 h:Heap) (x33:Int) (x22:ByteArray) (x23 x24:Sl) (x25 x26 x27:Int) (x28 x29:Sl) (p1:Int) (h20:Heap) (x30:Int) (h35:Heap) (x31:Int) (h36:Heap) (x34:Int) (R:Value->Heap->Prop):Prop:=
 ((((0:Int)<=x32/\(x32:Int)<=x32/\((1:Nat):Int)*x32<=140737488355328)/\∀h580:Heap,h580=h579.push (.cells ⟨madeL Pz 4 (Int.toNat x32)⟩ 4)->(Sm [⟨h.size,3,none⟩,⟨h.size,3,none⟩,⟨h.size,3,none⟩,⟨h.size,3,none⟩,⟨h.size,0,none⟩] h579 h580/\(V49d x33 h580 h x22 x23 x24 x25 x26 x27 x28 x29 p1 h20 x30 h35 x31 h579 x32 h36 x34 R))))
def V49y (x33:Int) (h579 h:Heap) (x32:Int) (x22:ByteArray) (x23 x24:Sl) (x25 x26 x27:Int) (x28 x29:Sl) (p1:Int) (h20:Heap) (x30:Int) (h35:Heap) (x31:Int) (h36:Heap) (x34:Int) (R:Value->Heap->Prop):Prop:=
 ((((0:Int)<=x33/\(x33:Int)<=x33/\((1:Nat):Int)*x33<=140737488355328)/\∀h715:Heap,h715=h579.push (.cells ⟨madeL Pz 4 (Int.toNat x33)⟩ 4)->(Sm [⟨h.size,3,none⟩,⟨h.size,3,none⟩,⟨h.size,3,none⟩,⟨h.size,3,none⟩,⟨h.size,0,none⟩] h579 h715/\(V49e x32 h715 h x22 x23 x24 x25 x26 x27 x28 x29 p1 h20 x30 h35 x31 h579 x33 h36 x34 R))))
def V49zf (x31:Int) (h2478 h:Heap) (x32 x33:Int) (x22:ByteArray) (x23 x24:Sl) (x25 x26 x27:Int) (x28 x29:Sl) (p1:Int) (h20:Heap) (x30:Int) (h35:Heap) (x34:Int) (R:Value->Heap->Prop):Prop:=
 ((((0:Int)<=x31/\(x31:Int)<=x31/\((32:Nat):Int)*x31<=140737488355328)/\∀h2479:Heap,h2479=h2478.push (.cells ⟨madeL Pz 192 (Int.toNat x31)⟩ 192)->(Sm [⟨h.size,3,none⟩,⟨h.size,3,none⟩,⟨h.size,3,none⟩,⟨h.size,3,none⟩,⟨h.size,0,none⟩] h2478 h2479/\(V49x x32 h2479 h x33 x22 x23 x24 x25 x26 x27 x28 x29 p1 h20 x30 h2478 x31 h35 x34 R)/\(V49y x33 h2479 h x32 x22 x23 x24 x25 x26 x27 x28 x29 p1 h20 x30 h2478 x31 h35 x34 R))))
def V49i (x31:Int) (h1393 h:Heap) (x33:Int) (x22:ByteArray) (x23 x24:Sl) (x25 x26 x27:Int) (x28 x29:Sl) (p1:Int) (h20:Heap) (x30:Int) (h35:Heap) (x32:Int) (h850:Heap) (x34:Int) (R:Value->Heap->Prop):Prop:=
 ((((0:Int)<=x31/\(x31:Int)<=x31/\((32:Nat):Int)*x31<=140737488355328)/\∀h1394:Heap,h1394=h1393.push (.cells ⟨madeL Pz 192 (Int.toNat x31)⟩ 192)->(Sm [⟨h.size,3,none⟩,⟨h.size,3,none⟩,⟨h.size,3,none⟩,⟨h.size,3,none⟩,⟨h.size,0,none⟩] h1393 h1394/\(V49d x33 h1394 h x22 x23 x24 x25 x26 x27 x28 x29 p1 h20 x30 h1393 x31 h35 x32 h850 x34 R))))
def V49q (x33:Int) (h1393 h:Heap) (x31:Int) (x22:ByteArray) (x23 x24:Sl) (x25 x26 x27:Int) (x28 x29:Sl) (p1:Int) (h20:Heap) (x30:Int) (h35:Heap) (x32:Int) (h850:Heap) (x34:Int) (R:Value->Heap->Prop):Prop:=
 ((((0:Int)<=x33/\(x33:Int)<=x33/\((1:Nat):Int)*x33<=140737488355328)/\∀h1529:Heap,h1529=h1393.push (.cells ⟨madeL Pz 4 (Int.toNat x33)⟩ 4)->(Sm [⟨h.size,3,none⟩,⟨h.size,3,none⟩,⟨h.size,3,none⟩,⟨h.size,3,none⟩,⟨h.size,0,none⟩] h1393 h1529/\(V49b x31 h1529 h x22 x23 x24 x25 x26 x27 x28 x29 p1 h20 x30 h35 x32 h1393 x33 h850 x34 R))))
def V49zg (x34:Int) (h850 h:Heap) (x31 x33:Int) (x22:ByteArray) (x23 x24:Sl) (x25 x26 x27:Int) (x28 x29:Sl) (p1:Int) (h20:Heap) (x30:Int) (h35:Heap) (x32:Int) (R:Value->Heap->Prop):Prop:=
 ((((0:Int)<=x34/\(x34:Int)<=x34/\((24:Nat):Int)*x34<=140737488355328)/\∀h1393:Heap,h1393=h850.push (.cells ⟨madeL Pz 274 (Int.toNat x34)⟩ 274)->(Sm [⟨h.size,3,none⟩,⟨h.size,3,none⟩,⟨h.size,3,none⟩,⟨h.size,3,none⟩,⟨h.size,0,none⟩] h850 h1393/\(V49i x31 h1393 h x33 x22 x23 x24 x25 x26 x27 x28 x29 p1 h20 x30 h35 x32 h850 x34 R)/\(V49q x33 h1393 h x31 x22 x23 x24 x25 x26 x27 x28 x29 p1 h20 x30 h35 x32 h850 x34 R))))
def V49o (x30:Int) (h8721 h:Heap) (x31:Int) (x22:ByteArray) (x23 x24:Sl) (x25 x26 x27:Int) (x28 x29:Sl) (p1:Int) (h20:Heap) (x32:Int) (h6549:Heap) (x33:Int) (h8178:Heap) (x34:Int) (R:Value->Heap->Prop):Prop:=
 ((((0:Int)<=x30/\(x30:Int)<=x30/\((24:Nat):Int)*x30<=140737488355328)/\∀h8722:Heap,h8722=h8721.push (.cells ⟨madeL Pz 102 (Int.toNat x30)⟩ 102)->(Sm [⟨h.size,3,none⟩,⟨h.size,3,none⟩,⟨h.size,3,none⟩,⟨h.size,3,none⟩,⟨h.size,0,none⟩] h8721 h8722/\(V49b x31 h8722 h x22 x23 x24 x25 x26 x27 x28 x29 p1 h8721 x30 h20 x32 h6549 x33 h8178 x34 R))))
def V49p (x31:Int) (h8721 h:Heap) (x30:Int) (x22:ByteArray) (x23 x24:Sl) (x25 x26 x27:Int) (x28 x29:Sl) (p1:Int) (h20:Heap) (x32:Int) (h6549:Heap) (x33:Int) (h8178:Heap) (x34:Int) (R:Value->Heap->Prop):Prop:=
 ((((0:Int)<=x31/\(x31:Int)<=x31/\((32:Nat):Int)*x31<=140737488355328)/\∀h8857:Heap,h8857=h8721.push (.cells ⟨madeL Pz 192 (Int.toNat x31)⟩ 192)->(Sm [⟨h.size,3,none⟩,⟨h.size,3,none⟩,⟨h.size,3,none⟩,⟨h.size,3,none⟩,⟨h.size,0,none⟩] h8721 h8857/\(V49c x30 h8857 h x22 x23 x24 x25 x26 x27 x28 x29 p1 h8721 x31 h20 x32 h6549 x33 h8178 x34 R))))
def V49zh (x32:Int) (h12249 h:Heap) (x30 x31:Int) (x22:ByteArray) (x23 x24:Sl) (x25 x26 x27:Int) (x28 x29:Sl) (p1:Int) (h20:Heap) (x33:Int) (h9806:Heap) (x34:Int) (R:Value->Heap->Prop):Prop:=
 ((((0:Int)<=x32/\(x32:Int)<=x32/\((1:Nat):Int)*x32<=140737488355328)/\∀h12792:Heap,h12792=h12249.push (.cells ⟨madeL Pz 4 (Int.toNat x32)⟩ 4)->(Sm [⟨h.size,3,none⟩,⟨h.size,3,none⟩,⟨h.size,3,none⟩,⟨h.size,3,none⟩,⟨h.size,0,none⟩] h12249 h12792/\(V49o x30 h12792 h x31 x22 x23 x24 x25 x26 x27 x28 x29 p1 h12249 x32 h20 x33 h9806 x34 R)/\(V49p x31 h12792 h x30 x22 x23 x24 x25 x26 x27 x28 x29 p1 h12249 x32 h20 x33 h9806 x34 R))))
def V49v (x34:Int) (h37 h:Heap) (x33:Int) (x22:ByteArray) (x23 x24:Sl) (x25 x26 x27:Int) (x28 x29:Sl) (p1:Int) (h20:Heap) (x30:Int) (h35:Heap) (x31:Int) (h36:Heap) (x32:Int) (R:Value->Heap->Prop):Prop:=
 ((((0:Int)<=x34/\(x34:Int)<=x34/\((24:Nat):Int)*x34<=140737488355328)/\∀h173:Heap,h173=h37.push (.cells ⟨madeL Pz 274 (Int.toNat x34)⟩ 274)->(Sm [⟨h.size,3,none⟩,⟨h.size,3,none⟩,⟨h.size,3,none⟩,⟨h.size,3,none⟩,⟨h.size,0,none⟩] h37 h173/\(V49d x33 h173 h x22 x23 x24 x25 x26 x27 x28 x29 p1 h20 x30 h35 x31 h36 x32 h37 x34 R))))
def V49z (x33:Int) (h37 h:Heap) (x34:Int) (x22:ByteArray) (x23 x24:Sl) (x25 x26 x27:Int) (x28 x29:Sl) (p1:Int) (h20:Heap) (x30:Int) (h35:Heap) (x31:Int) (h36:Heap) (x32:Int) (R:Value->Heap->Prop):Prop:=
 ((((0:Int)<=x33/\(x33:Int)<=x33/\((1:Nat):Int)*x33<=140737488355328)/\∀h38:Heap,h38=h37.push (.cells ⟨madeL Pz 4 (Int.toNat x33)⟩ 4)->(Sm [⟨h.size,3,none⟩,⟨h.size,3,none⟩,⟨h.size,3,none⟩,⟨h.size,3,none⟩,⟨h.size,0,none⟩] h37 h38/\(V49f x34 h38 h x22 x23 x24 x25 x26 x27 x28 x29 p1 h20 x30 h35 x31 h36 x32 h37 x33 R))))
def V49zi (x30:Int) (h4107 h:Heap) (x33 x34:Int) (x22:ByteArray) (x23 x24:Sl) (x25 x26 x27:Int) (x28 x29:Sl) (p1:Int) (h20:Heap) (x31:Int) (h3292:Heap) (x32:Int) (R:Value->Heap->Prop):Prop:=
 ((((0:Int)<=x30/\(x30:Int)<=x30/\((24:Nat):Int)*x30<=140737488355328)/\∀h4108:Heap,h4108=h4107.push (.cells ⟨madeL Pz 102 (Int.toNat x30)⟩ 102)->(Sm [⟨h.size,3,none⟩,⟨h.size,3,none⟩,⟨h.size,3,none⟩,⟨h.size,3,none⟩,⟨h.size,0,none⟩] h4107 h4108/\(V49z x33 h4108 h x34 x22 x23 x24 x25 x26 x27 x28 x29 p1 h4107 x30 h20 x31 h3292 x32 R)/\(V49v x34 h4108 h x33 x22 x23 x24 x25 x26 x27 x28 x29 p1 h4107 x30 h20 x31 h3292 x32 R))))
def V49m (x30:Int) (h4650 h:Heap) (x33:Int) (x22:ByteArray) (x23 x24:Sl) (x25 x26 x27:Int) (x28 x29:Sl) (p1:Int) (h20:Heap) (x31:Int) (h3292:Heap) (x32:Int) (h4107:Heap) (x34:Int) (R:Value->Heap->Prop):Prop:=
 ((((0:Int)<=x30/\(x30:Int)<=x30/\((24:Nat):Int)*x30<=140737488355328)/\∀h4651:Heap,h4651=h4650.push (.cells ⟨madeL Pz 102 (Int.toNat x30)⟩ 102)->(Sm [⟨h.size,3,none⟩,⟨h.size,3,none⟩,⟨h.size,3,none⟩,⟨h.size,3,none⟩,⟨h.size,0,none⟩] h4650 h4651/\(V49d x33 h4651 h x22 x23 x24 x25 x26 x27 x28 x29 p1 h4650 x30 h20 x31 h3292 x32 h4107 x34 R))))
def V49t (x33:Int) (h4650 h:Heap) (x30:Int) (x22:ByteArray) (x23 x24:Sl) (x25 x26 x27:Int) (x28 x29:Sl) (p1:Int) (h20:Heap) (x31:Int) (h3292:Heap) (x32:Int) (h4107:Heap) (x34:Int) (R:Value->Heap->Prop):Prop:=
 ((((0:Int)<=x33/\(x33:Int)<=x33/\((1:Nat):Int)*x33<=140737488355328)/\∀h4786:Heap,h4786=h4650.push (.cells ⟨madeL Pz 4 (Int.toNat x33)⟩ 4)->(Sm [⟨h.size,3,none⟩,⟨h.size,3,none⟩,⟨h.size,3,none⟩,⟨h.size,3,none⟩,⟨h.size,0,none⟩] h4650 h4786/\(V49c x30 h4786 h x22 x23 x24 x25 x26 x27 x28 x29 p1 h20 x31 h3292 x32 h4650 x33 h4107 x34 R))))
def V49zj (x34:Int) (h4107 h:Heap) (x30 x33:Int) (x22:ByteArray) (x23 x24:Sl) (x25 x26 x27:Int) (x28 x29:Sl) (p1:Int) (h20:Heap) (x31:Int) (h3292:Heap) (x32:Int) (R:Value->Heap->Prop):Prop:=
 ((((0:Int)<=x34/\(x34:Int)<=x34/\((24:Nat):Int)*x34<=140737488355328)/\∀h4650:Heap,h4650=h4107.push (.cells ⟨madeL Pz 274 (Int.toNat x34)⟩ 274)->(Sm [⟨h.size,3,none⟩,⟨h.size,3,none⟩,⟨h.size,3,none⟩,⟨h.size,3,none⟩,⟨h.size,0,none⟩] h4107 h4650/\(V49m x30 h4650 h x33 x22 x23 x24 x25 x26 x27 x28 x29 p1 h20 x31 h3292 x32 h4107 x34 R)/\(V49t x33 h4650 h x30 x22 x23 x24 x25 x26 x27 x28 x29 p1 h20 x31 h3292 x32 h4107 x34 R))))
def V49zk (x30:Int) (h4921 h:Heap) (x32 x34:Int) (x22:ByteArray) (x23 x24:Sl) (x25 x26 x27:Int) (x28 x29:Sl) (p1:Int) (h20:Heap) (x31:Int) (h3292:Heap) (x33:Int) (R:Value->Heap->Prop):Prop:=
 ((((0:Int)<=x30/\(x30:Int)<=x30/\((24:Nat):Int)*x30<=140737488355328)/\∀h4922:Heap,h4922=h4921.push (.cells ⟨madeL Pz 102 (Int.toNat x30)⟩ 102)->(Sm [⟨h.size,3,none⟩,⟨h.size,3,none⟩,⟨h.size,3,none⟩,⟨h.size,3,none⟩,⟨h.size,0,none⟩] h4921 h4922/\(V49w x32 h4922 h x34 x22 x23 x24 x25 x26 x27 x28 x29 p1 h4921 x30 h20 x31 h3292 x33 R)/\(V49r x34 h4922 h x32 x22 x23 x24 x25 x26 x27 x28 x29 p1 h4921 x30 h20 x31 h3292 x33 R))))
def V49zl (x34:Int) (h4921 h:Heap) (x30 x32:Int) (x22:ByteArray) (x23 x24:Sl) (x25 x26 x27:Int) (x28 x29:Sl) (p1:Int) (h20:Heap) (x31:Int) (h3292:Heap) (x33:Int) (R:Value->Heap->Prop):Prop:=
 ((((0:Int)<=x34/\(x34:Int)<=x34/\((24:Nat):Int)*x34<=140737488355328)/\∀h5464:Heap,h5464=h4921.push (.cells ⟨madeL Pz 274 (Int.toNat x34)⟩ 274)->(Sm [⟨h.size,3,none⟩,⟨h.size,3,none⟩,⟨h.size,3,none⟩,⟨h.size,3,none⟩,⟨h.size,0,none⟩] h4921 h5464/\(V49n x30 h5464 h x32 x22 x23 x24 x25 x26 x27 x28 x29 p1 h20 x31 h3292 x33 h4921 x34 R)/\(V49u x32 h5464 h x30 x22 x23 x24 x25 x26 x27 x28 x29 p1 h20 x31 h3292 x33 h4921 x34 R))))
def V49zm (x30:Int) (h5735 h:Heap) (x32 x33:Int) (x22:ByteArray) (x23 x24:Sl) (x25 x26 x27:Int) (x28 x29:Sl) (p1:Int) (h20:Heap) (x31:Int) (h3292:Heap) (x34:Int) (R:Value->Heap->Prop):Prop:=
 ((((0:Int)<=x30/\(x30:Int)<=x30/\((24:Nat):Int)*x30<=140737488355328)/\∀h5736:Heap,h5736=h5735.push (.cells ⟨madeL Pz 102 (Int.toNat x30)⟩ 102)->(Sm [⟨h.size,3,none⟩,⟨h.size,3,none⟩,⟨h.size,3,none⟩,⟨h.size,3,none⟩,⟨h.size,0,none⟩] h5735 h5736/\(V49x x32 h5736 h x33 x22 x23 x24 x25 x26 x27 x28 x29 p1 h5735 x30 h20 x31 h3292 x34 R)/\(V49y x33 h5736 h x32 x22 x23 x24 x25 x26 x27 x28 x29 p1 h5735 x30 h20 x31 h3292 x34 R))))
def V49g (x31:Int) (h1122 h:Heap) (x34:Int) (x22:ByteArray) (x23 x24:Sl) (x25 x26 x27:Int) (x28 x29:Sl) (p1:Int) (h20:Heap) (x30:Int) (h35:Heap) (x32:Int) (h850:Heap) (x33:Int) (R:Value->Heap->Prop):Prop:=
 ((((0:Int)<=x31/\(x31:Int)<=x31/\((32:Nat):Int)*x31<=140737488355328)/\∀h1123:Heap,h1123=h1122.push (.cells ⟨madeL Pz 192 (Int.toNat x31)⟩ 192)->(Sm [⟨h.size,3,none⟩,⟨h.size,3,none⟩,⟨h.size,3,none⟩,⟨h.size,3,none⟩,⟨h.size,0,none⟩] h1122 h1123/\(V49f x34 h1123 h x22 x23 x24 x25 x26 x27 x28 x29 p1 h20 x30 h1122 x31 h35 x32 h850 x33 R))))
def V49h (x34:Int) (h1122 h:Heap) (x31:Int) (x22:ByteArray) (x23 x24:Sl) (x25 x26 x27:Int) (x28 x29:Sl) (p1:Int) (h20:Heap) (x30:Int) (h35:Heap) (x32:Int) (h850:Heap) (x33:Int) (R:Value->Heap->Prop):Prop:=
 ((((0:Int)<=x34/\(x34:Int)<=x34/\((24:Nat):Int)*x34<=140737488355328)/\∀h1258:Heap,h1258=h1122.push (.cells ⟨madeL Pz 274 (Int.toNat x34)⟩ 274)->(Sm [⟨h.size,3,none⟩,⟨h.size,3,none⟩,⟨h.size,3,none⟩,⟨h.size,3,none⟩,⟨h.size,0,none⟩] h1122 h1258/\(V49b x31 h1258 h x22 x23 x24 x25 x26 x27 x28 x29 p1 h20 x30 h35 x32 h850 x33 h1122 x34 R))))
def V49zn (x30:Int) (h8178 h:Heap) (x31 x34:Int) (x22:ByteArray) (x23 x24:Sl) (x25 x26 x27:Int) (x28 x29:Sl) (p1:Int) (h20:Heap) (x32:Int) (h6549:Heap) (x33:Int) (R:Value->Heap->Prop):Prop:=
 ((((0:Int)<=x30/\(x30:Int)<=x30/\((24:Nat):Int)*x30<=140737488355328)/\∀h8179:Heap,h8179=h8178.push (.cells ⟨madeL Pz 102 (Int.toNat x30)⟩ 102)->(Sm [⟨h.size,3,none⟩,⟨h.size,3,none⟩,⟨h.size,3,none⟩,⟨h.size,3,none⟩,⟨h.size,0,none⟩] h8178 h8179/\(V49g x31 h8179 h x34 x22 x23 x24 x25 x26 x27 x28 x29 p1 h8178 x30 h20 x32 h6549 x33 R)/\(V49h x34 h8179 h x31 x22 x23 x24 x25 x26 x27 x28 x29 p1 h8178 x30 h20 x32 h6549 x33 R))))
def V49k (x30:Int) (h4379 h:Heap) (x34:Int) (x22:ByteArray) (x23 x24:Sl) (x25 x26 x27:Int) (x28 x29:Sl) (p1:Int) (h20:Heap) (x31:Int) (h3292:Heap) (x32:Int) (h4107:Heap) (x33:Int) (R:Value->Heap->Prop):Prop:=
 ((((0:Int)<=x30/\(x30:Int)<=x30/\((24:Nat):Int)*x30<=140737488355328)/\∀h4380:Heap,h4380=h4379.push (.cells ⟨madeL Pz 102 (Int.toNat x30)⟩ 102)->(Sm [⟨h.size,3,none⟩,⟨h.size,3,none⟩,⟨h.size,3,none⟩,⟨h.size,3,none⟩,⟨h.size,0,none⟩] h4379 h4380/\(V49f x34 h4380 h x22 x23 x24 x25 x26 x27 x28 x29 p1 h4379 x30 h20 x31 h3292 x32 h4107 x33 R))))
def V49l (x34:Int) (h4379 h:Heap) (x30:Int) (x22:ByteArray) (x23 x24:Sl) (x25 x26 x27:Int) (x28 x29:Sl) (p1:Int) (h20:Heap) (x31:Int) (h3292:Heap) (x32:Int) (h4107:Heap) (x33:Int) (R:Value->Heap->Prop):Prop:=
 ((((0:Int)<=x34/\(x34:Int)<=x34/\((24:Nat):Int)*x34<=140737488355328)/\∀h4515:Heap,h4515=h4379.push (.cells ⟨madeL Pz 274 (Int.toNat x34)⟩ 274)->(Sm [⟨h.size,3,none⟩,⟨h.size,3,none⟩,⟨h.size,3,none⟩,⟨h.size,3,none⟩,⟨h.size,0,none⟩] h4379 h4515/\(V49c x30 h4515 h x22 x23 x24 x25 x26 x27 x28 x29 p1 h20 x31 h3292 x32 h4107 x33 h4379 x34 R))))
def V49zo (x31:Int) (h8178 h:Heap) (x30 x34:Int) (x22:ByteArray) (x23 x24:Sl) (x25 x26 x27:Int) (x28 x29:Sl) (p1:Int) (h20:Heap) (x32:Int) (h6549:Heap) (x33:Int) (R:Value->Heap->Prop):Prop:=
 ((((0:Int)<=x31/\(x31:Int)<=x31/\((32:Nat):Int)*x31<=140737488355328)/\∀h8450:Heap,h8450=h8178.push (.cells ⟨madeL Pz 192 (Int.toNat x31)⟩ 192)->(Sm [⟨h.size,3,none⟩,⟨h.size,3,none⟩,⟨h.size,3,none⟩,⟨h.size,3,none⟩,⟨h.size,0,none⟩] h8178 h8450/\(V49k x30 h8450 h x34 x22 x23 x24 x25 x26 x27 x28 x29 p1 h8178 x31 h20 x32 h6549 x33 R)/\(V49l x34 h8450 h x30 x22 x23 x24 x25 x26 x27 x28 x29 p1 h8178 x31 h20 x32 h6549 x33 R))))
def V49zp (x34:Int) (h8178 h:Heap) (x30 x31:Int) (x22:ByteArray) (x23 x24:Sl) (x25 x26 x27:Int) (x28 x29:Sl) (p1:Int) (h20:Heap) (x32:Int) (h6549:Heap) (x33:Int) (R:Value->Heap->Prop):Prop:=
 ((((0:Int)<=x34/\(x34:Int)<=x34/\((24:Nat):Int)*x34<=140737488355328)/\∀h8721:Heap,h8721=h8178.push (.cells ⟨madeL Pz 274 (Int.toNat x34)⟩ 274)->(Sm [⟨h.size,3,none⟩,⟨h.size,3,none⟩,⟨h.size,3,none⟩,⟨h.size,3,none⟩,⟨h.size,0,none⟩] h8178 h8721/\(V49o x30 h8721 h x31 x22 x23 x24 x25 x26 x27 x28 x29 p1 h20 x32 h6549 x33 h8178 x34 R)/\(V49p x31 h8721 h x30 x22 x23 x24 x25 x26 x27 x28 x29 p1 h20 x32 h6549 x33 h8178 x34 R))))
def V49zq (x30:Int) (h8992 h:Heap) (x31 x33:Int) (x22:ByteArray) (x23 x24:Sl) (x25 x26 x27:Int) (x28 x29:Sl) (p1:Int) (h20:Heap) (x32:Int) (h6549:Heap) (x34:Int) (R:Value->Heap->Prop):Prop:=
 ((((0:Int)<=x30/\(x30:Int)<=x30/\((24:Nat):Int)*x30<=140737488355328)/\∀h8993:Heap,h8993=h8992.push (.cells ⟨madeL Pz 102 (Int.toNat x30)⟩ 102)->(Sm [⟨h.size,3,none⟩,⟨h.size,3,none⟩,⟨h.size,3,none⟩,⟨h.size,3,none⟩,⟨h.size,0,none⟩] h8992 h8993/\(V49i x31 h8993 h x33 x22 x23 x24 x25 x26 x27 x28 x29 p1 h8992 x30 h20 x32 h6549 x34 R)/\(V49q x33 h8993 h x31 x22 x23 x24 x25 x26 x27 x28 x29 p1 h8992 x30 h20 x32 h6549 x34 R))))
def V49zr (x31:Int) (h8992 h:Heap) (x30 x33:Int) (x22:ByteArray) (x23 x24:Sl) (x25 x26 x27:Int) (x28 x29:Sl) (p1:Int) (h20:Heap) (x32:Int) (h6549:Heap) (x34:Int) (R:Value->Heap->Prop):Prop:=
 ((((0:Int)<=x31/\(x31:Int)<=x31/\((32:Nat):Int)*x31<=140737488355328)/\∀h9264:Heap,h9264=h8992.push (.cells ⟨madeL Pz 192 (Int.toNat x31)⟩ 192)->(Sm [⟨h.size,3,none⟩,⟨h.size,3,none⟩,⟨h.size,3,none⟩,⟨h.size,3,none⟩,⟨h.size,0,none⟩] h8992 h9264/\(V49m x30 h9264 h x33 x22 x23 x24 x25 x26 x27 x28 x29 p1 h8992 x31 h20 x32 h6549 x34 R)/\(V49t x33 h9264 h x30 x22 x23 x24 x25 x26 x27 x28 x29 p1 h8992 x31 h20 x32 h6549 x34 R))))
def V49zs (x32:Int) (h1664 h:Heap) (x31 x34:Int) (x22:ByteArray) (x23 x24:Sl) (x25 x26 x27:Int) (x28 x29:Sl) (p1:Int) (h20:Heap) (x30:Int) (h35:Heap) (x33:Int) (R:Value->Heap->Prop):Prop:=
 ((((0:Int)<=x32/\(x32:Int)<=x32/\((1:Nat):Int)*x32<=140737488355328)/\∀h1936:Heap,h1936=h1664.push (.cells ⟨madeL Pz 4 (Int.toNat x32)⟩ 4)->(Sm [⟨h.size,3,none⟩,⟨h.size,3,none⟩,⟨h.size,3,none⟩,⟨h.size,3,none⟩,⟨h.size,0,none⟩] h1664 h1936/\(V49g x31 h1936 h x34 x22 x23 x24 x25 x26 x27 x28 x29 p1 h20 x30 h1664 x32 h35 x33 R)/\(V49h x34 h1936 h x31 x22 x23 x24 x25 x26 x27 x28 x29 p1 h20 x30 h1664 x32 h35 x33 R))))
def V49zt (x32:Int) (h2478 h:Heap) (x31 x33:Int) (x22:ByteArray) (x23 x24:Sl) (x25 x26 x27:Int) (x28 x29:Sl) (p1:Int) (h20:Heap) (x30:Int) (h35:Heap) (x34:Int) (R:Value->Heap->Prop):Prop:=
 ((((0:Int)<=x32/\(x32:Int)<=x32/\((1:Nat):Int)*x32<=140737488355328)/\∀h2750:Heap,h2750=h2478.push (.cells ⟨madeL Pz 4 (Int.toNat x32)⟩ 4)->(Sm [⟨h.size,3,none⟩,⟨h.size,3,none⟩,⟨h.size,3,none⟩,⟨h.size,3,none⟩,⟨h.size,0,none⟩] h2478 h2750/\(V49i x31 h2750 h x33 x22 x23 x24 x25 x26 x27 x28 x29 p1 h20 x30 h2478 x32 h35 x34 R)/\(V49q x33 h2750 h x31 x22 x23 x24 x25 x26 x27 x28 x29 p1 h20 x30 h2478 x32 h35 x34 R))))
def V49zu (x33:Int) (h2478 h:Heap) (x31 x32:Int) (x22:ByteArray) (x23 x24:Sl) (x25 x26 x27:Int) (x28 x29:Sl) (p1:Int) (h20:Heap) (x30:Int) (h35:Heap) (x34:Int) (R:Value->Heap->Prop):Prop:=
 ((((0:Int)<=x33/\(x33:Int)<=x33/\((1:Nat):Int)*x33<=140737488355328)/\∀h3021:Heap,h3021=h2478.push (.cells ⟨madeL Pz 4 (Int.toNat x33)⟩ 4)->(Sm [⟨h.size,3,none⟩,⟨h.size,3,none⟩,⟨h.size,3,none⟩,⟨h.size,3,none⟩,⟨h.size,0,none⟩] h2478 h3021/\(V49j x31 h3021 h x32 x22 x23 x24 x25 x26 x27 x28 x29 p1 h20 x30 h2478 x33 h35 x34 R)/\(V49s x32 h3021 h x31 x22 x23 x24 x25 x26 x27 x28 x29 p1 h20 x30 h2478 x33 h35 x34 R))))
def V49zv (x31:Int) (h850 h:Heap) (x33 x34:Int) (x22:ByteArray) (x23 x24:Sl) (x25 x26 x27:Int) (x28 x29:Sl) (p1:Int) (h20:Heap) (x30:Int) (h35:Heap) (x32:Int) (R:Value->Heap->Prop):Prop:=
 ((((0:Int)<=x31/\(x31:Int)<=x31/\((32:Nat):Int)*x31<=140737488355328)/\∀h851:Heap,h851=h850.push (.cells ⟨madeL Pz 192 (Int.toNat x31)⟩ 192)->(Sm [⟨h.size,3,none⟩,⟨h.size,3,none⟩,⟨h.size,3,none⟩,⟨h.size,3,none⟩,⟨h.size,0,none⟩] h850 h851/\(V49z x33 h851 h x34 x22 x23 x24 x25 x26 x27 x28 x29 p1 h20 x30 h850 x31 h35 x32 R)/\(V49v x34 h851 h x33 x22 x23 x24 x25 x26 x27 x28 x29 p1 h20 x30 h850 x31 h35 x32 R))))
def V49zw (x33:Int) (h850 h:Heap) (x31 x34:Int) (x22:ByteArray) (x23 x24:Sl) (x25 x26 x27:Int) (x28 x29:Sl) (p1:Int) (h20:Heap) (x30:Int) (h35:Heap) (x32:Int) (R:Value->Heap->Prop):Prop:=
 ((((0:Int)<=x33/\(x33:Int)<=x33/\((1:Nat):Int)*x33<=140737488355328)/\∀h1122:Heap,h1122=h850.push (.cells ⟨madeL Pz 4 (Int.toNat x33)⟩ 4)->(Sm [⟨h.size,3,none⟩,⟨h.size,3,none⟩,⟨h.size,3,none⟩,⟨h.size,3,none⟩,⟨h.size,0,none⟩] h850 h1122/\(V49g x31 h1122 h x34 x22 x23 x24 x25 x26 x27 x28 x29 p1 h20 x30 h35 x32 h850 x33 R)/\(V49h x34 h1122 h x31 x22 x23 x24 x25 x26 x27 x28 x29 p1 h20 x30 h35 x32 h850 x33 R))))
def V49zx (x34:Int) (h36 h:Heap) (x32 x33:Int) (x22:ByteArray) (x23 x24:Sl) (x25 x26 x27:Int) (x28 x29:Sl) (p1:Int) (h20:Heap) (x30:Int) (h35:Heap) (x31:Int) (R:Value->Heap->Prop):Prop:=
 ((((0:Int)<=x34/\(x34:Int)<=x34/\((24:Nat):Int)*x34<=140737488355328)/\∀h579:Heap,h579=h36.push (.cells ⟨madeL Pz 274 (Int.toNat x34)⟩ 274)->(Sm [⟨h.size,3,none⟩,⟨h.size,3,none⟩,⟨h.size,3,none⟩,⟨h.size,3,none⟩,⟨h.size,0,none⟩] h36 h579/\(V49x x32 h579 h x33 x22 x23 x24 x25 x26 x27 x28 x29 p1 h20 x30 h35 x31 h36 x34 R)/\(V49y x33 h579 h x32 x22 x23 x24 x25 x26 x27 x28 x29 p1 h20 x30 h35 x31 h36 x34 R))))
def V49zy (x33:Int) (h4107 h:Heap) (x30 x34:Int) (x22:ByteArray) (x23 x24:Sl) (x25 x26 x27:Int) (x28 x29:Sl) (p1:Int) (h20:Heap) (x31:Int) (h3292:Heap) (x32:Int) (R:Value->Heap->Prop):Prop:=
 ((((0:Int)<=x33/\(x33:Int)<=x33/\((1:Nat):Int)*x33<=140737488355328)/\∀h4379:Heap,h4379=h4107.push (.cells ⟨madeL Pz 4 (Int.toNat x33)⟩ 4)->(Sm [⟨h.size,3,none⟩,⟨h.size,3,none⟩,⟨h.size,3,none⟩,⟨h.size,3,none⟩,⟨h.size,0,none⟩] h4107 h4379/\(V49k x30 h4379 h x34 x22 x23 x24 x25 x26 x27 x28 x29 p1 h20 x31 h3292 x32 h4107 x33 R)/\(V49l x34 h4379 h x30 x22 x23 x24 x25 x26 x27 x28 x29 p1 h20 x31 h3292 x32 h4107 x33 R))))
def V49zz (x32:Int) (h4921 h:Heap) (x30 x34:Int) (x22:ByteArray) (x23 x24:Sl) (x25 x26 x27:Int) (x28 x29:Sl) (p1:Int) (h20:Heap) (x31:Int) (h3292:Heap) (x33:Int) (R:Value->Heap->Prop):Prop:=
 ((((0:Int)<=x32/\(x32:Int)<=x32/\((1:Nat):Int)*x32<=140737488355328)/\∀h5193:Heap,h5193=h4921.push (.cells ⟨madeL Pz 4 (Int.toNat x32)⟩ 4)->(Sm [⟨h.size,3,none⟩,⟨h.size,3,none⟩,⟨h.size,3,none⟩,⟨h.size,3,none⟩,⟨h.size,0,none⟩] h4921 h5193/\(V49k x30 h5193 h x34 x22 x23 x24 x25 x26 x27 x28 x29 p1 h20 x31 h4921 x32 h3292 x33 R)/\(V49l x34 h5193 h x30 x22 x23 x24 x25 x26 x27 x28 x29 p1 h20 x31 h4921 x32 h3292 x33 R))))
def V49zza (x32:Int) (h5735 h:Heap) (x30 x33:Int) (x22:ByteArray) (x23 x24:Sl) (x25 x26 x27:Int) (x28 x29:Sl) (p1:Int) (h20:Heap) (x31:Int) (h3292:Heap) (x34:Int) (R:Value->Heap->Prop):Prop:=
 ((((0:Int)<=x32/\(x32:Int)<=x32/\((1:Nat):Int)*x32<=140737488355328)/\∀h6007:Heap,h6007=h5735.push (.cells ⟨madeL Pz 4 (Int.toNat x32)⟩ 4)->(Sm [⟨h.size,3,none⟩,⟨h.size,3,none⟩,⟨h.size,3,none⟩,⟨h.size,3,none⟩,⟨h.size,0,none⟩] h5735 h6007/\(V49m x30 h6007 h x33 x22 x23 x24 x25 x26 x27 x28 x29 p1 h20 x31 h5735 x32 h3292 x34 R)/\(V49t x33 h6007 h x30 x22 x23 x24 x25 x26 x27 x28 x29 p1 h20 x31 h5735 x32 h3292 x34 R))))
def V49zzb (x33:Int) (h5735 h:Heap) (x30 x32:Int) (x22:ByteArray) (x23 x24:Sl) (x25 x26 x27:Int) (x28 x29:Sl) (p1:Int) (h20:Heap) (x31:Int) (h3292:Heap) (x34:Int) (R:Value->Heap->Prop):Prop:=
 ((((0:Int)<=x33/\(x33:Int)<=x33/\((1:Nat):Int)*x33<=140737488355328)/\∀h6278:Heap,h6278=h5735.push (.cells ⟨madeL Pz 4 (Int.toNat x33)⟩ 4)->(Sm [⟨h.size,3,none⟩,⟨h.size,3,none⟩,⟨h.size,3,none⟩,⟨h.size,3,none⟩,⟨h.size,0,none⟩] h5735 h6278/\(V49n x30 h6278 h x32 x22 x23 x24 x25 x26 x27 x28 x29 p1 h20 x31 h5735 x33 h3292 x34 R)/\(V49u x32 h6278 h x30 x22 x23 x24 x25 x26 x27 x28 x29 p1 h20 x31 h5735 x33 h3292 x34 R))))
def V49zzc (x33:Int) (h8992 h:Heap) (x30 x31:Int) (x22:ByteArray) (x23 x24:Sl) (x25 x26 x27:Int) (x28 x29:Sl) (p1:Int) (h20:Heap) (x32:Int) (h6549:Heap) (x34:Int) (R:Value->Heap->Prop):Prop:=
 ((((0:Int)<=x33/\(x33:Int)<=x33/\((1:Nat):Int)*x33<=140737488355328)/\∀h9535:Heap,h9535=h8992.push (.cells ⟨madeL Pz 4 (Int.toNat x33)⟩ 4)->(Sm [⟨h.size,3,none⟩,⟨h.size,3,none⟩,⟨h.size,3,none⟩,⟨h.size,3,none⟩,⟨h.size,0,none⟩] h8992 h9535/\(V49o x30 h9535 h x31 x22 x23 x24 x25 x26 x27 x28 x29 p1 h20 x32 h8992 x33 h6549 x34 R)/\(V49p x31 h9535 h x30 x22 x23 x24 x25 x26 x27 x28 x29 p1 h20 x32 h8992 x33 h6549 x34 R))))
def V49zzd (x33:Int) (h36 h:Heap) (x32 x34:Int) (x22:ByteArray) (x23 x24:Sl) (x25 x26 x27:Int) (x28 x29:Sl) (p1:Int) (h20:Heap) (x30:Int) (h35:Heap) (x31:Int) (R:Value->Heap->Prop):Prop:=
 ((((0:Int)<=x33/\(x33:Int)<=x33/\((1:Nat):Int)*x33<=140737488355328)/\∀h308:Heap,h308=h36.push (.cells ⟨madeL Pz 4 (Int.toNat x33)⟩ 4)->(Sm [⟨h.size,3,none⟩,⟨h.size,3,none⟩,⟨h.size,3,none⟩,⟨h.size,3,none⟩,⟨h.size,0,none⟩] h36 h308/\(V49w x32 h308 h x34 x22 x23 x24 x25 x26 x27 x28 x29 p1 h20 x30 h35 x31 h36 x33 R)/\(V49r x34 h308 h x32 x22 x23 x24 x25 x26 x27 x28 x29 p1 h20 x30 h35 x31 h36 x33 R))))
def V49zze (x32:Int) (h36 h:Heap) (x33 x34:Int) (x22:ByteArray) (x23 x24:Sl) (x25 x26 x27:Int) (x28 x29:Sl) (p1:Int) (h20:Heap) (x30:Int) (h35:Heap) (x31:Int) (R:Value->Heap->Prop):Prop:=
 ((((0:Int)<=x32/\(x32:Int)<=x32/\((1:Nat):Int)*x32<=140737488355328)/\∀h37:Heap,h37=h36.push (.cells ⟨madeL Pz 4 (Int.toNat x32)⟩ 4)->(Sm [⟨h.size,3,none⟩,⟨h.size,3,none⟩,⟨h.size,3,none⟩,⟨h.size,3,none⟩,⟨h.size,0,none⟩] h36 h37/\(V49z x33 h37 h x34 x22 x23 x24 x25 x26 x27 x28 x29 p1 h20 x30 h35 x31 h36 x32 R)/\(V49v x34 h37 h x33 x22 x23 x24 x25 x26 x27 x28 x29 p1 h20 x30 h35 x31 h36 x32 R))))
def V49H0 (x30:Int) (h20:Heap) (h:Heap) (x31:Int) (x32:Int) (x33:Int) (x34:Int) (x22:ByteArray) (x23:Sl) (x24:Sl) (x25:Int) (x26:Int) (x27:Int) (x28:Sl) (x29:Sl) (p1:Int) (R:Value->Heap->Prop):Prop:=
 ((((0:Int)<=x30/\(x30:Int)<=x30/\((24:Nat):Int)*x30<=140737488355328)/\∀h35:Heap,h35=h20.push (.cells ⟨madeL Pz 102 (Int.toNat x30)⟩ 102)->(Sm [⟨h.size,3,none⟩,⟨h.size,3,none⟩,⟨h.size,3,none⟩,⟨h.size,3,none⟩,⟨h.size,0,none⟩] h20 h35/\((((0:Int)<=x31/\(x31:Int)<=x31/\((32:Nat):Int)*x31<=140737488355328)/\∀h36:Heap,h36=h35.push (.cells ⟨madeL Pz 192 (Int.toNat x31)⟩ 192)->(Sm [⟨h.size,3,none⟩,⟨h.size,3,none⟩,⟨h.size,3,none⟩,⟨h.size,3,none⟩,⟨h.size,0,none⟩] h35 h36/\(V49zze x32 h36 h x33 x34 x22 x23 x24 x25 x26 x27 x28 x29 p1 h20 x30 h35 x31 R)/\(V49zzd x33 h36 h x32 x34 x22 x23 x24 x25 x26 x27 x28 x29 p1 h20 x30 h35 x31 R)/\(V49zx x34 h36 h x32 x33 x22 x23 x24 x25 x26 x27 x28 x29 p1 h20 x30 h35 x31 R))))/\((((0:Int)<=x32/\(x32:Int)<=x32/\((1:Nat):Int)*x32<=140737488355328)/\∀h850:Heap,h850=h35.push (.cells ⟨madeL Pz 4 (Int.toNat x32)⟩ 4)->(Sm [⟨h.size,3,none⟩,⟨h.size,3,none⟩,⟨h.size,3,none⟩,⟨h.size,3,none⟩,⟨h.size,0,none⟩] h35 h850/\(V49zv x31 h850 h x33 x34 x22 x23 x24 x25 x26 x27 x28 x29 p1 h20 x30 h35 x32 R)/\(V49zw x33 h850 h x31 x34 x22 x23 x24 x25 x26 x27 x28 x29 p1 h20 x30 h35 x32 R)/\(V49zg x34 h850 h x31 x33 x22 x23 x24 x25 x26 x27 x28 x29 p1 h20 x30 h35 x32 R))))/\((((0:Int)<=x33/\(x33:Int)<=x33/\((1:Nat):Int)*x33<=140737488355328)/\∀h1664:Heap,h1664=h35.push (.cells ⟨madeL Pz 4 (Int.toNat x33)⟩ 4)->(Sm [⟨h.size,3,none⟩,⟨h.size,3,none⟩,⟨h.size,3,none⟩,⟨h.size,3,none⟩,⟨h.size,0,none⟩] h35 h1664/\(V49zd x31 h1664 h x32 x34 x22 x23 x24 x25 x26 x27 x28 x29 p1 h20 x30 h35 x33 R)/\(V49zs x32 h1664 h x31 x34 x22 x23 x24 x25 x26 x27 x28 x29 p1 h20 x30 h35 x33 R)/\(V49ze x34 h1664 h x31 x32 x22 x23 x24 x25 x26 x27 x28 x29 p1 h20 x30 h35 x33 R))))/\((((0:Int)<=x34/\(x34:Int)<=x34/\((24:Nat):Int)*x34<=140737488355328)/\∀h2478:Heap,h2478=h35.push (.cells ⟨madeL Pz 274 (Int.toNat x34)⟩ 274)->(Sm [⟨h.size,3,none⟩,⟨h.size,3,none⟩,⟨h.size,3,none⟩,⟨h.size,3,none⟩,⟨h.size,0,none⟩] h35 h2478/\(V49zf x31 h2478 h x32 x33 x22 x23 x24 x25 x26 x27 x28 x29 p1 h20 x30 h35 x34 R)/\(V49zt x32 h2478 h x31 x33 x22 x23 x24 x25 x26 x27 x28 x29 p1 h20 x30 h35 x34 R)/\(V49zu x33 h2478 h x31 x32 x22 x23 x24 x25 x26 x27 x28 x29 p1 h20 x30 h35 x34 R)))))))
def V49H1 (x31:Int) (h20:Heap) (h:Heap) (x30:Int) (x32:Int) (x33:Int) (x34:Int) (x22:ByteArray) (x23:Sl) (x24:Sl) (x25:Int) (x26:Int) (x27:Int) (x28:Sl) (x29:Sl) (p1:Int) (R:Value->Heap->Prop):Prop:=
 ((((0:Int)<=x31/\(x31:Int)<=x31/\((32:Nat):Int)*x31<=140737488355328)/\∀h3292:Heap,h3292=h20.push (.cells ⟨madeL Pz 192 (Int.toNat x31)⟩ 192)->(Sm [⟨h.size,3,none⟩,⟨h.size,3,none⟩,⟨h.size,3,none⟩,⟨h.size,3,none⟩,⟨h.size,0,none⟩] h20 h3292/\((((0:Int)<=x30/\(x30:Int)<=x30/\((24:Nat):Int)*x30<=140737488355328)/\∀h3293:Heap,h3293=h3292.push (.cells ⟨madeL Pz 102 (Int.toNat x30)⟩ 102)->(Sm [⟨h.size,3,none⟩,⟨h.size,3,none⟩,⟨h.size,3,none⟩,⟨h.size,3,none⟩,⟨h.size,0,none⟩] h3292 h3293/\(V49zze x32 h3293 h x33 x34 x22 x23 x24 x25 x26 x27 x28 x29 p1 h3292 x30 h20 x31 R)/\(V49zzd x33 h3293 h x32 x34 x22 x23 x24 x25 x26 x27 x28 x29 p1 h3292 x30 h20 x31 R)/\(V49zx x34 h3293 h x32 x33 x22 x23 x24 x25 x26 x27 x28 x29 p1 h3292 x30 h20 x31 R))))/\((((0:Int)<=x32/\(x32:Int)<=x32/\((1:Nat):Int)*x32<=140737488355328)/\∀h4107:Heap,h4107=h3292.push (.cells ⟨madeL Pz 4 (Int.toNat x32)⟩ 4)->(Sm [⟨h.size,3,none⟩,⟨h.size,3,none⟩,⟨h.size,3,none⟩,⟨h.size,3,none⟩,⟨h.size,0,none⟩] h3292 h4107/\(V49zi x30 h4107 h x33 x34 x22 x23 x24 x25 x26 x27 x28 x29 p1 h20 x31 h3292 x32 R)/\(V49zy x33 h4107 h x30 x34 x22 x23 x24 x25 x26 x27 x28 x29 p1 h20 x31 h3292 x32 R)/\(V49zj x34 h4107 h x30 x33 x22 x23 x24 x25 x26 x27 x28 x29 p1 h20 x31 h3292 x32 R))))/\((((0:Int)<=x33/\(x33:Int)<=x33/\((1:Nat):Int)*x33<=140737488355328)/\∀h4921:Heap,h4921=h3292.push (.cells ⟨madeL Pz 4 (Int.toNat x33)⟩ 4)->(Sm [⟨h.size,3,none⟩,⟨h.size,3,none⟩,⟨h.size,3,none⟩,⟨h.size,3,none⟩,⟨h.size,0,none⟩] h3292 h4921/\(V49zk x30 h4921 h x32 x34 x22 x23 x24 x25 x26 x27 x28 x29 p1 h20 x31 h3292 x33 R)/\(V49zz x32 h4921 h x30 x34 x22 x23 x24 x25 x26 x27 x28 x29 p1 h20 x31 h3292 x33 R)/\(V49zl x34 h4921 h x30 x32 x22 x23 x24 x25 x26 x27 x28 x29 p1 h20 x31 h3292 x33 R))))/\((((0:Int)<=x34/\(x34:Int)<=x34/\((24:Nat):Int)*x34<=140737488355328)/\∀h5735:Heap,h5735=h3292.push (.cells ⟨madeL Pz 274 (Int.toNat x34)⟩ 274)->(Sm [⟨h.size,3,none⟩,⟨h.size,3,none⟩,⟨h.size,3,none⟩,⟨h.size,3,none⟩,⟨h.size,0,none⟩] h3292 h5735/\(V49zm x30 h5735 h x32 x33 x22 x23 x24 x25 x26 x27 x28 x29 p1 h20 x31 h3292 x34 R)/\(V49zza x32 h5735 h x30 x33 x22 x23 x24 x25 x26 x27 x28 x29 p1 h20 x31 h3292 x34 R)/\(V49zzb x33 h5735 h x30 x32 x22 x23 x24 x25 x26 x27 x28 x29 p1 h20 x31 h3292 x34 R)))))))
def V49H2 (x32:Int) (h20:Heap) (h:Heap) (x30:Int) (x31:Int) (x33:Int) (x34:Int) (x22:ByteArray) (x23:Sl) (x24:Sl) (x25:Int) (x26:Int) (x27:Int) (x28:Sl) (x29:Sl) (p1:Int) (R:Value->Heap->Prop):Prop:=
 ((((0:Int)<=x32/\(x32:Int)<=x32/\((1:Nat):Int)*x32<=140737488355328)/\∀h6549:Heap,h6549=h20.push (.cells ⟨madeL Pz 4 (Int.toNat x32)⟩ 4)->(Sm [⟨h.size,3,none⟩,⟨h.size,3,none⟩,⟨h.size,3,none⟩,⟨h.size,3,none⟩,⟨h.size,0,none⟩] h20 h6549/\((((0:Int)<=x30/\(x30:Int)<=x30/\((24:Nat):Int)*x30<=140737488355328)/\∀h6550:Heap,h6550=h6549.push (.cells ⟨madeL Pz 102 (Int.toNat x30)⟩ 102)->(Sm [⟨h.size,3,none⟩,⟨h.size,3,none⟩,⟨h.size,3,none⟩,⟨h.size,3,none⟩,⟨h.size,0,none⟩] h6549 h6550/\(V49zv x31 h6550 h x33 x34 x22 x23 x24 x25 x26 x27 x28 x29 p1 h6549 x30 h20 x32 R)/\(V49zw x33 h6550 h x31 x34 x22 x23 x24 x25 x26 x27 x28 x29 p1 h6549 x30 h20 x32 R)/\(V49zg x34 h6550 h x31 x33 x22 x23 x24 x25 x26 x27 x28 x29 p1 h6549 x30 h20 x32 R))))/\((((0:Int)<=x31/\(x31:Int)<=x31/\((32:Nat):Int)*x31<=140737488355328)/\∀h7364:Heap,h7364=h6549.push (.cells ⟨madeL Pz 192 (Int.toNat x31)⟩ 192)->(Sm [⟨h.size,3,none⟩,⟨h.size,3,none⟩,⟨h.size,3,none⟩,⟨h.size,3,none⟩,⟨h.size,0,none⟩] h6549 h7364/\(V49zi x30 h7364 h x33 x34 x22 x23 x24 x25 x26 x27 x28 x29 p1 h6549 x31 h20 x32 R)/\(V49zy x33 h7364 h x30 x34 x22 x23 x24 x25 x26 x27 x28 x29 p1 h6549 x31 h20 x32 R)/\(V49zj x34 h7364 h x30 x33 x22 x23 x24 x25 x26 x27 x28 x29 p1 h6549 x31 h20 x32 R))))/\((((0:Int)<=x33/\(x33:Int)<=x33/\((1:Nat):Int)*x33<=140737488355328)/\∀h8178:Heap,h8178=h6549.push (.cells ⟨madeL Pz 4 (Int.toNat x33)⟩ 4)->(Sm [⟨h.size,3,none⟩,⟨h.size,3,none⟩,⟨h.size,3,none⟩,⟨h.size,3,none⟩,⟨h.size,0,none⟩] h6549 h8178/\(V49zn x30 h8178 h x31 x34 x22 x23 x24 x25 x26 x27 x28 x29 p1 h20 x32 h6549 x33 R)/\(V49zo x31 h8178 h x30 x34 x22 x23 x24 x25 x26 x27 x28 x29 p1 h20 x32 h6549 x33 R)/\(V49zp x34 h8178 h x30 x31 x22 x23 x24 x25 x26 x27 x28 x29 p1 h20 x32 h6549 x33 R))))/\((((0:Int)<=x34/\(x34:Int)<=x34/\((24:Nat):Int)*x34<=140737488355328)/\∀h8992:Heap,h8992=h6549.push (.cells ⟨madeL Pz 274 (Int.toNat x34)⟩ 274)->(Sm [⟨h.size,3,none⟩,⟨h.size,3,none⟩,⟨h.size,3,none⟩,⟨h.size,3,none⟩,⟨h.size,0,none⟩] h6549 h8992/\(V49zq x30 h8992 h x31 x33 x22 x23 x24 x25 x26 x27 x28 x29 p1 h20 x32 h6549 x34 R)/\(V49zr x31 h8992 h x30 x33 x22 x23 x24 x25 x26 x27 x28 x29 p1 h20 x32 h6549 x34 R)/\(V49zzc x33 h8992 h x30 x31 x22 x23 x24 x25 x26 x27 x28 x29 p1 h20 x32 h6549 x34 R)))))))
def V49H3 (x33:Int) (h20:Heap) (h:Heap) (x30:Int) (x31:Int) (x32:Int) (x34:Int) (x22:ByteArray) (x23:Sl) (x24:Sl) (x25:Int) (x26:Int) (x27:Int) (x28:Sl) (x29:Sl) (p1:Int) (R:Value->Heap->Prop):Prop:=
 ((((0:Int)<=x33/\(x33:Int)<=x33/\((1:Nat):Int)*x33<=140737488355328)/\∀h9806:Heap,h9806=h20.push (.cells ⟨madeL Pz 4 (Int.toNat x33)⟩ 4)->(Sm [⟨h.size,3,none⟩,⟨h.size,3,none⟩,⟨h.size,3,none⟩,⟨h.size,3,none⟩,⟨h.size,0,none⟩] h20 h9806/\((((0:Int)<=x30/\(x30:Int)<=x30/\((24:Nat):Int)*x30<=140737488355328)/\∀h9807:Heap,h9807=h9806.push (.cells ⟨madeL Pz 102 (Int.toNat x30)⟩ 102)->(Sm [⟨h.size,3,none⟩,⟨h.size,3,none⟩,⟨h.size,3,none⟩,⟨h.size,3,none⟩,⟨h.size,0,none⟩] h9806 h9807/\(V49zd x31 h9807 h x32 x34 x22 x23 x24 x25 x26 x27 x28 x29 p1 h9806 x30 h20 x33 R)/\(V49zs x32 h9807 h x31 x34 x22 x23 x24 x25 x26 x27 x28 x29 p1 h9806 x30 h20 x33 R)/\(V49ze x34 h9807 h x31 x32 x22 x23 x24 x25 x26 x27 x28 x29 p1 h9806 x30 h20 x33 R))))/\((((0:Int)<=x31/\(x31:Int)<=x31/\((32:Nat):Int)*x31<=140737488355328)/\∀h10621:Heap,h10621=h9806.push (.cells ⟨madeL Pz 192 (Int.toNat x31)⟩ 192)->(Sm [⟨h.size,3,none⟩,⟨h.size,3,none⟩,⟨h.size,3,none⟩,⟨h.size,3,none⟩,⟨h.size,0,none⟩] h9806 h10621/\(V49zk x30 h10621 h x32 x34 x22 x23 x24 x25 x26 x27 x28 x29 p1 h9806 x31 h20 x33 R)/\(V49zz x32 h10621 h x30 x34 x22 x23 x24 x25 x26 x27 x28 x29 p1 h9806 x31 h20 x33 R)/\(V49zl x34 h10621 h x30 x32 x22 x23 x24 x25 x26 x27 x28 x29 p1 h9806 x31 h20 x33 R))))/\((((0:Int)<=x32/\(x32:Int)<=x32/\((1:Nat):Int)*x32<=140737488355328)/\∀h11435:Heap,h11435=h9806.push (.cells ⟨madeL Pz 4 (Int.toNat x32)⟩ 4)->(Sm [⟨h.size,3,none⟩,⟨h.size,3,none⟩,⟨h.size,3,none⟩,⟨h.size,3,none⟩,⟨h.size,0,none⟩] h9806 h11435/\(V49zn x30 h11435 h x31 x34 x22 x23 x24 x25 x26 x27 x28 x29 p1 h9806 x32 h20 x33 R)/\(V49zo x31 h11435 h x30 x34 x22 x23 x24 x25 x26 x27 x28 x29 p1 h9806 x32 h20 x33 R)/\(V49zp x34 h11435 h x30 x31 x22 x23 x24 x25 x26 x27 x28 x29 p1 h9806 x32 h20 x33 R))))/\((((0:Int)<=x34/\(x34:Int)<=x34/\((24:Nat):Int)*x34<=140737488355328)/\∀h12249:Heap,h12249=h9806.push (.cells ⟨madeL Pz 274 (Int.toNat x34)⟩ 274)->(Sm [⟨h.size,3,none⟩,⟨h.size,3,none⟩,⟨h.size,3,none⟩,⟨h.size,3,none⟩,⟨h.size,0,none⟩] h9806 h12249/\(V49zb x30 h12249 h x31 x32 x22 x23 x24 x25 x26 x27 x28 x29 p1 h20 x33 h9806 x34 R)/\(V49zc x31 h12249 h x30 x32 x22 x23 x24 x25 x26 x27 x28 x29 p1 h20 x33 h9806 x34 R)/\(V49zh x32 h12249 h x30 x31 x22 x23 x24 x25 x26 x27 x28 x29 p1 h20 x33 h9806 x34 R)))))))
def V49H4 (x34:Int) (h20:Heap) (h:Heap) (x30:Int) (x31:Int) (x32:Int) (x33:Int) (x22:ByteArray) (x23:Sl) (x24:Sl) (x25:Int) (x26:Int) (x27:Int) (x28:Sl) (x29:Sl) (p1:Int) (R:Value->Heap->Prop):Prop:=
 ((((0:Int)<=x34/\(x34:Int)<=x34/\((24:Nat):Int)*x34<=140737488355328)/\∀h13063:Heap,h13063=h20.push (.cells ⟨madeL Pz 274 (Int.toNat x34)⟩ 274)->(Sm [⟨h.size,3,none⟩,⟨h.size,3,none⟩,⟨h.size,3,none⟩,⟨h.size,3,none⟩,⟨h.size,0,none⟩] h20 h13063/\((((0:Int)<=x30/\(x30:Int)<=x30/\((24:Nat):Int)*x30<=140737488355328)/\∀h13064:Heap,h13064=h13063.push (.cells ⟨madeL Pz 102 (Int.toNat x30)⟩ 102)->(Sm [⟨h.size,3,none⟩,⟨h.size,3,none⟩,⟨h.size,3,none⟩,⟨h.size,3,none⟩,⟨h.size,0,none⟩] h13063 h13064/\(V49zf x31 h13064 h x32 x33 x22 x23 x24 x25 x26 x27 x28 x29 p1 h13063 x30 h20 x34 R)/\(V49zt x32 h13064 h x31 x33 x22 x23 x24 x25 x26 x27 x28 x29 p1 h13063 x30 h20 x34 R)/\(V49zu x33 h13064 h x31 x32 x22 x23 x24 x25 x26 x27 x28 x29 p1 h13063 x30 h20 x34 R))))/\((((0:Int)<=x31/\(x31:Int)<=x31/\((32:Nat):Int)*x31<=140737488355328)/\∀h13878:Heap,h13878=h13063.push (.cells ⟨madeL Pz 192 (Int.toNat x31)⟩ 192)->(Sm [⟨h.size,3,none⟩,⟨h.size,3,none⟩,⟨h.size,3,none⟩,⟨h.size,3,none⟩,⟨h.size,0,none⟩] h13063 h13878/\(V49zm x30 h13878 h x32 x33 x22 x23 x24 x25 x26 x27 x28 x29 p1 h13063 x31 h20 x34 R)/\(V49zza x32 h13878 h x30 x33 x22 x23 x24 x25 x26 x27 x28 x29 p1 h13063 x31 h20 x34 R)/\(V49zzb x33 h13878 h x30 x32 x22 x23 x24 x25 x26 x27 x28 x29 p1 h13063 x31 h20 x34 R))))/\((((0:Int)<=x32/\(x32:Int)<=x32/\((1:Nat):Int)*x32<=140737488355328)/\∀h14692:Heap,h14692=h13063.push (.cells ⟨madeL Pz 4 (Int.toNat x32)⟩ 4)->(Sm [⟨h.size,3,none⟩,⟨h.size,3,none⟩,⟨h.size,3,none⟩,⟨h.size,3,none⟩,⟨h.size,0,none⟩] h13063 h14692/\(V49zq x30 h14692 h x31 x33 x22 x23 x24 x25 x26 x27 x28 x29 p1 h13063 x32 h20 x34 R)/\(V49zr x31 h14692 h x30 x33 x22 x23 x24 x25 x26 x27 x28 x29 p1 h13063 x32 h20 x34 R)/\(V49zzc x33 h14692 h x30 x31 x22 x23 x24 x25 x26 x27 x28 x29 p1 h13063 x32 h20 x34 R))))/\((((0:Int)<=x33/\(x33:Int)<=x33/\((1:Nat):Int)*x33<=140737488355328)/\∀h15506:Heap,h15506=h13063.push (.cells ⟨madeL Pz 4 (Int.toNat x33)⟩ 4)->(Sm [⟨h.size,3,none⟩,⟨h.size,3,none⟩,⟨h.size,3,none⟩,⟨h.size,3,none⟩,⟨h.size,0,none⟩] h13063 h15506/\(V49zb x30 h15506 h x31 x32 x22 x23 x24 x25 x26 x27 x28 x29 p1 h13063 x33 h20 x34 R)/\(V49zc x31 h15506 h x30 x32 x22 x23 x24 x25 x26 x27 x28 x29 p1 h13063 x33 h20 x34 R)/\(V49zh x32 h15506 h x30 x31 x22 x23 x24 x25 x26 x27 x28 x29 p1 h13063 x33 h20 x34 R)))))))
def W49 (p0_1:ByteArray) (p0_2:Sl) (p0_3:Sl) (p0_4:Int) (p0_5:Int) (p0_6:Int) (p0_7:Sl) (p0_8:Sl) (p1:Int) (h:Heap) (R:Value->Heap->Prop):Prop:=
 (∀h9:Heap,h9=h.push (.cells ⟨[.string p0_1,.slice p0_2.a p0_2.n p0_2.c,.slice p0_3.a p0_3.n p0_3.c,.int .i64 p0_4,.int .i64 p0_5,.int .i64 p0_6,.slice p0_7.a p0_7.n p0_7.c,.slice p0_8.a p0_8.n p0_8.c]⟩ 27)->(∃x10:ByteArray,∃x11:Sl,∃x12:Sl,∃x13:Int,∃x14:Int,∃x15:Int,∃x16:Sl,∃x17:Sl,atC h9 ⟨h.size,0,none⟩ [.string x10,.slice x11.a x11.n x11.c,.slice x12.a x12.n x12.c,.int .i64 x13,.int .i64 x14,.int .i64 x15,.slice x16.a x16.n x16.c,.slice x17.a x17.n x17.c]/\(Fn Pz 40 #[.agg ⟨[.string x10,.slice x11.a x11.n x11.c,.slice x12.a x12.n x12.c,.int .i64 x13,.int .i64 x14,.int .i64 x15,.slice x16.a x16.n x16.c,.slice x17.a x17.n x17.c]⟩] h9 (fun v18 h20=>∃x19:Bool,v18=.bool x19/\(sB (!x19) (R (.tuple ⟨[.pointer none,.int .i64 1]⟩) h20) ((sB (decide (p1<0)) (R (.tuple ⟨[.pointer none,.int .i64 1]⟩) h20) ((∃x21:Sl,hc h20 ⟨h.size,1,none⟩=some (.slice x21.a x21.n x21.c)/\(sB (decide (p1>=(x21.n:Int))) (R (.tuple ⟨[.pointer none,.int .i64 1]⟩) h20) ((∃x22:ByteArray,∃x23:Sl,∃x24:Sl,∃x25:Int,∃x26:Int,∃x27:Int,∃x28:Sl,∃x29:Sl,atC h20 ⟨h.size,0,none⟩ [.string x22,.slice x23.a x23.n x23.c,.slice x24.a x24.n x24.c,.int .i64 x25,.int .i64 x26,.int .i64 x27,.slice x28.a x28.n x28.c,.slice x29.a x29.n x29.c]/\(∃x30:Int,hc h20 ⟨h.size,3,none⟩=some (.int .i64 x30)/\(∃x31:Int,hc h20 ⟨h.size,3,none⟩=some (.int .i64 x31)/\(∃x32:Int,hc h20 ⟨h.size,3,none⟩=some (.int .i64 x32)/\(∃x33:Int,hc h20 ⟨h.size,3,none⟩=some (.int .i64 x33)/\(∃x34:Int,hc h20 ⟨h.size,3,none⟩=some (.int .i64 x34)/\(V49H0 x30 h20 h x31 x32 x33 x34 x22 x23 x24 x25 x26 x27 x28 x29 p1 R)/\(V49H1 x31 h20 h x30 x32 x33 x34 x22 x23 x24 x25 x26 x27 x28 x29 p1 R)/\(V49H2 x32 h20 h x30 x31 x33 x34 x22 x23 x24 x25 x26 x27 x28 x29 p1 R)/\(V49H3 x33 h20 h x30 x31 x32 x34 x22 x23 x24 x25 x26 x27 x28 x29 p1 R)/\(V49H4 x34 h20 h x30 x31 x32 x33 x22 x23 x24 x25 x26 x27 x28 x29 p1 R))))))))))))))))))
theorem vc49e (p0_1:ByteArray) (p0_2:Sl) (p0_3:Sl) (p0_4:Int) (p0_5:Int) (p0_6:Int) (p0_7:Sl) (p0_8:Sl) (p1:Int) (h:Heap) (R:Value->Heap->Prop):W49 p0_1 p0_2 p0_3 p0_4 p0_5 p0_6 p0_7 p0_8 p1 h R=fnW Pz 49 (.s .z (.s .z (.s .z (.s (.s .z (.b (.l [(50,.one (.int .i64))] .z))) (.s (.s .z (.b (.l [(118,.one (.int .i64))] .z))) (.s (.s .z (.b (.l [(147,.one (.int .i64))] .z))) .z)))))) #[.agg ⟨[.string p0_1,.slice p0_2.a p0_2.n p0_2.c,.slice p0_3.a p0_3.n p0_3.c,.int .i64 p0_4,.int .i64 p0_5,.int .i64 p0_6,.slice p0_7.a p0_7.n p0_7.c,.slice p0_8.a p0_8.n p0_8.c]⟩,.int .i64 p1] h R:=by kernel_rfl
theorem vc49 (p0_1:ByteArray) (p0_2:Sl) (p0_3:Sl) (p0_4:Int) (p0_5:Int) (p0_6:Int) (p0_7:Sl) (p0_8:Sl) (p1:Int) (h:Heap) (R:Value->Heap->Prop) (H:W49 p0_1 p0_2 p0_3 p0_4 p0_5 p0_6 p0_7 p0_8 p1 h R):Fn Pz 49 #[.agg ⟨[.string p0_1,.slice p0_2.a p0_2.n p0_2.c,.slice p0_3.a p0_3.n p0_3.c,.int .i64 p0_4,.int .i64 p0_5,.int .i64 p0_6,.slice p0_7.a p0_7.n p0_7.c,.slice p0_8.a p0_8.n p0_8.c]⟩,.int .i64 p1] h R:=fnI (vc49e p0_1 p0_2 p0_3 p0_4 p0_5 p0_6 p0_7 p0_8 p1 h R) H
end Go.VC
end

section
namespace Go.VC
open Go.Proofs Go.LexS
noncomputable abbrev it30 (a:Heap) (g:Gl):It:=.blk a.size (madeL Pz 102 (Int.toNat g.n)) 102
noncomputable abbrev it31 (a:Heap) (g:Gl):It:=.blk a.size (madeL Pz 192 (Int.toNat g.n)) 192
noncomputable abbrev it32 (a:Heap) (g:Gl):It:=.blk a.size (madeL Pz 4 (Int.toNat g.n)) 4
noncomputable abbrev it33 (a:Heap) (g:Gl):It:=.blk a.size (madeL Pz 4 (Int.toNat g.n)) 4
noncomputable abbrev it34 (a:Heap) (g:Gl):It:=.blk a.size (madeL Pz 274 (Int.toNat g.n)) 274
def TailH (g:Gl) (role:Int) (h:Heap) (R:Value->Heap->Prop):Prop:=∀hF a b c d e:Heap,St h hF [it30 a g,it31 b g,it32 c g,it33 d g,it34 e g,.blk h.size g.cs 27]->V49a hF (bs g.nm) g.hr g.hd g.n g.s g.e g.he g.ht role a g.n b g.n c g.n d g.n e g.n h R
theorem nV117f {g:Gl} {role:Int} {h h38 h20 h35 h36 h37:Heap} {R:Value->Heap->Prop} (hT:TailH g role h R) (hn:1<=g.n/\g.n<=200) (hs:St h h38 [it30 h20 g,it31 h35 g,it32 h36 g,it33 h37 g,.blk h.size g.cs 27]):V49f g.n h38 h (bs g.nm) g.hr g.hd g.n g.s g.e g.he g.ht role h20 g.n h35 g.n h36 g.n h37 g.n R:=by
 unfold V49f;refine⟨⟨by omega,by omega,by omega⟩,hs.newbE fun h39 E hs=>⟨E.sm,?_⟩⟩;have hs:=hs.perm (List.perm_middle (l₁:=[_,_,_,_])).symm;exact hT _ _ _ _ _ _ hs
theorem nV117z {g:Gl} {role:Int} {h h37 h20 h35 h36:Heap} {R:Value->Heap->Prop} (hT:TailH g role h R) (hn:1<=g.n/\g.n<=200) (hs:St h h37 [it30 h20 g,it31 h35 g,it32 h36 g,.blk h.size g.cs 27]):V49z g.n h37 h g.n (bs g.nm) g.hr g.hd g.n g.s g.e g.he g.ht role h20 g.n h35 g.n h36 g.n R:=by
 unfold V49z;refine⟨⟨by omega,by omega,by omega⟩,hs.newbE fun h38 E hs=>⟨E.sm,?_⟩⟩;have hs:=hs.perm (List.perm_middle (l₁:=[_,_,_])).symm;exact nV117f hT hn hs
theorem nV117d {g:Gl} {role:Int} {h h173 h20 h35 h36 h37:Heap} {R:Value->Heap->Prop} (hT:TailH g role h R) (hn:1<=g.n/\g.n<=200) (hs:St h h173 [it30 h20 g,it31 h35 g,it32 h36 g,it34 h37 g,.blk h.size g.cs 27]):V49d g.n h173 h (bs g.nm) g.hr g.hd g.n g.s g.e g.he g.ht role h20 g.n h35 g.n h36 g.n h37 g.n R:=by
 unfold V49d;refine⟨⟨by omega,by omega,by omega⟩,hs.newbE fun h174 E hs=>⟨E.sm,?_⟩⟩;have hs:=hs.perm (List.perm_middle (l₁:=[_,_,_])).symm;exact hT _ _ _ _ _ _ hs
theorem nV117v {g:Gl} {role:Int} {h h37 h20 h35 h36:Heap} {R:Value->Heap->Prop} (hT:TailH g role h R) (hn:1<=g.n/\g.n<=200) (hs:St h h37 [it30 h20 g,it31 h35 g,it32 h36 g,.blk h.size g.cs 27]):V49v g.n h37 h g.n (bs g.nm) g.hr g.hd g.n g.s g.e g.he g.ht role h20 g.n h35 g.n h36 g.n R:=by
 unfold V49v;refine⟨⟨by omega,by omega,by omega⟩,hs.newbE fun h173 E hs=>⟨E.sm,?_⟩⟩;have hs:=hs.perm (List.perm_middle (l₁:=[_,_,_])).symm;exact nV117d hT hn hs
theorem nV117zze {g:Gl} {role:Int} {h h36 h20 h35:Heap} {R:Value->Heap->Prop} (hT:TailH g role h R) (hn:1<=g.n/\g.n<=200) (hs:St h h36 [it30 h20 g,it31 h35 g,.blk h.size g.cs 27]):V49zze g.n h36 h g.n g.n (bs g.nm) g.hr g.hd g.n g.s g.e g.he g.ht role h20 g.n h35 g.n R:=by
 unfold V49zze;refine⟨⟨by omega,by omega,by omega⟩,hs.newbE fun h37 E hs=>⟨E.sm,?_⟩⟩;have hs:=hs.perm (List.perm_middle (l₁:=[_,_])).symm;exact⟨nV117z hT hn hs,nV117v hT hn hs⟩
theorem nV117w {g:Gl} {role:Int} {h h308 h20 h35 h36:Heap} {R:Value->Heap->Prop} (hT:TailH g role h R) (hn:1<=g.n/\g.n<=200) (hs:St h h308 [it30 h20 g,it31 h35 g,it33 h36 g,.blk h.size g.cs 27]):V49w g.n h308 h g.n (bs g.nm) g.hr g.hd g.n g.s g.e g.he g.ht role h20 g.n h35 g.n h36 g.n R:=by
 unfold V49w;refine⟨⟨by omega,by omega,by omega⟩,hs.newbE fun h309 E hs=>⟨E.sm,?_⟩⟩;have hs:=hs.perm (List.perm_middle (l₁:=[_,_])).symm;exact nV117f hT hn hs
theorem nV117e {g:Gl} {role:Int} {h h444 h20 h35 h36 h308:Heap} {R:Value->Heap->Prop} (hT:TailH g role h R) (hn:1<=g.n/\g.n<=200) (hs:St h h444 [it30 h20 g,it31 h35 g,it33 h36 g,it34 h308 g,.blk h.size g.cs 27]):V49e g.n h444 h (bs g.nm) g.hr g.hd g.n g.s g.e g.he g.ht role h20 g.n h35 g.n h36 g.n h308 g.n R:=by
 unfold V49e;refine⟨⟨by omega,by omega,by omega⟩,hs.newbE fun h445 E hs=>⟨E.sm,?_⟩⟩;have hs:=hs.perm (List.perm_middle (l₁:=[_,_])).symm;exact hT _ _ _ _ _ _ hs
theorem nV117r {g:Gl} {role:Int} {h h308 h20 h35 h36:Heap} {R:Value->Heap->Prop} (hT:TailH g role h R) (hn:1<=g.n/\g.n<=200) (hs:St h h308 [it30 h20 g,it31 h35 g,it33 h36 g,.blk h.size g.cs 27]):V49r g.n h308 h g.n (bs g.nm) g.hr g.hd g.n g.s g.e g.he g.ht role h20 g.n h35 g.n h36 g.n R:=by
 unfold V49r;refine⟨⟨by omega,by omega,by omega⟩,hs.newbE fun h444 E hs=>⟨E.sm,?_⟩⟩;have hs:=hs.perm (List.perm_middle (l₁:=[_,_,_])).symm;exact nV117e hT hn hs
theorem nV117zzd {g:Gl} {role:Int} {h h36 h20 h35:Heap} {R:Value->Heap->Prop} (hT:TailH g role h R) (hn:1<=g.n/\g.n<=200) (hs:St h h36 [it30 h20 g,it31 h35 g,.blk h.size g.cs 27]):V49zzd g.n h36 h g.n g.n (bs g.nm) g.hr g.hd g.n g.s g.e g.he g.ht role h20 g.n h35 g.n R:=by
 unfold V49zzd;refine⟨⟨by omega,by omega,by omega⟩,hs.newbE fun h308 E hs=>⟨E.sm,?_⟩⟩;have hs:=hs.perm (List.perm_middle (l₁:=[_,_])).symm;exact⟨nV117w hT hn hs,nV117r hT hn hs⟩
theorem nV117x {g:Gl} {role:Int} {h h579 h20 h35 h36:Heap} {R:Value->Heap->Prop} (hT:TailH g role h R) (hn:1<=g.n/\g.n<=200) (hs:St h h579 [it30 h20 g,it31 h35 g,it34 h36 g,.blk h.size g.cs 27]):V49x g.n h579 h g.n (bs g.nm) g.hr g.hd g.n g.s g.e g.he g.ht role h20 g.n h35 g.n h36 g.n R:=by
 unfold V49x;refine⟨⟨by omega,by omega,by omega⟩,hs.newbE fun h580 E hs=>⟨E.sm,?_⟩⟩;have hs:=hs.perm (List.perm_middle (l₁:=[_,_])).symm;exact nV117d hT hn hs
theorem nV117y {g:Gl} {role:Int} {h h579 h20 h35 h36:Heap} {R:Value->Heap->Prop} (hT:TailH g role h R) (hn:1<=g.n/\g.n<=200) (hs:St h h579 [it30 h20 g,it31 h35 g,it34 h36 g,.blk h.size g.cs 27]):V49y g.n h579 h g.n (bs g.nm) g.hr g.hd g.n g.s g.e g.he g.ht role h20 g.n h35 g.n h36 g.n R:=by
 unfold V49y;refine⟨⟨by omega,by omega,by omega⟩,hs.newbE fun h715 E hs=>⟨E.sm,?_⟩⟩;have hs:=hs.perm (List.perm_middle (l₁:=[_,_])).symm;exact nV117e hT hn hs
theorem nV117zx {g:Gl} {role:Int} {h h36 h20 h35:Heap} {R:Value->Heap->Prop} (hT:TailH g role h R) (hn:1<=g.n/\g.n<=200) (hs:St h h36 [it30 h20 g,it31 h35 g,.blk h.size g.cs 27]):V49zx g.n h36 h g.n g.n (bs g.nm) g.hr g.hd g.n g.s g.e g.he g.ht role h20 g.n h35 g.n R:=by
 unfold V49zx;refine⟨⟨by omega,by omega,by omega⟩,hs.newbE fun h579 E hs=>⟨E.sm,?_⟩⟩;have hs:=hs.perm (List.perm_middle (l₁:=[_,_])).symm;exact⟨nV117x hT hn hs,nV117y hT hn hs⟩
theorem nV117zv {g:Gl} {role:Int} {h h850 h20 h35:Heap} {R:Value->Heap->Prop} (hT:TailH g role h R) (hn:1<=g.n/\g.n<=200) (hs:St h h850 [it30 h20 g,it32 h35 g,.blk h.size g.cs 27]):V49zv g.n h850 h g.n g.n (bs g.nm) g.hr g.hd g.n g.s g.e g.he g.ht role h20 g.n h35 g.n R:=by
 unfold V49zv;refine⟨⟨by omega,by omega,by omega⟩,hs.newbE fun h851 E hs=>⟨E.sm,?_⟩⟩;have hs:=hs.perm (List.perm_middle (l₁:=[_])).symm;exact⟨nV117z hT hn hs,nV117v hT hn hs⟩
theorem nV117g {g:Gl} {role:Int} {h h1122 h20 h35 h850:Heap} {R:Value->Heap->Prop} (hT:TailH g role h R) (hn:1<=g.n/\g.n<=200) (hs:St h h1122 [it30 h20 g,it32 h35 g,it33 h850 g,.blk h.size g.cs 27]):V49g g.n h1122 h g.n (bs g.nm) g.hr g.hd g.n g.s g.e g.he g.ht role h20 g.n h35 g.n h850 g.n R:=by
 unfold V49g;refine⟨⟨by omega,by omega,by omega⟩,hs.newbE fun h1123 E hs=>⟨E.sm,?_⟩⟩;have hs:=hs.perm (List.perm_middle (l₁:=[_])).symm;exact nV117f hT hn hs
theorem nV117b {g:Gl} {role:Int} {h h1258 h20 h35 h850 h1122:Heap} {R:Value->Heap->Prop} (hT:TailH g role h R) (hn:1<=g.n/\g.n<=200) (hs:St h h1258 [it30 h20 g,it32 h35 g,it33 h850 g,it34 h1122 g,.blk h.size g.cs 27]):V49b g.n h1258 h (bs g.nm) g.hr g.hd g.n g.s g.e g.he g.ht role h20 g.n h35 g.n h850 g.n h1122 g.n R:=by
 unfold V49b;refine⟨⟨by omega,by omega,by omega⟩,hs.newbE fun h1259 E hs=>⟨E.sm,?_⟩⟩;have hs:=hs.perm (List.perm_middle (l₁:=[_])).symm;exact hT _ _ _ _ _ _ hs
theorem nV117h {g:Gl} {role:Int} {h h1122 h20 h35 h850:Heap} {R:Value->Heap->Prop} (hT:TailH g role h R) (hn:1<=g.n/\g.n<=200) (hs:St h h1122 [it30 h20 g,it32 h35 g,it33 h850 g,.blk h.size g.cs 27]):V49h g.n h1122 h g.n (bs g.nm) g.hr g.hd g.n g.s g.e g.he g.ht role h20 g.n h35 g.n h850 g.n R:=by
 unfold V49h;refine⟨⟨by omega,by omega,by omega⟩,hs.newbE fun h1258 E hs=>⟨E.sm,?_⟩⟩;have hs:=hs.perm (List.perm_middle (l₁:=[_,_,_])).symm;exact nV117b hT hn hs
theorem nV117zw {g:Gl} {role:Int} {h h850 h20 h35:Heap} {R:Value->Heap->Prop} (hT:TailH g role h R) (hn:1<=g.n/\g.n<=200) (hs:St h h850 [it30 h20 g,it32 h35 g,.blk h.size g.cs 27]):V49zw g.n h850 h g.n g.n (bs g.nm) g.hr g.hd g.n g.s g.e g.he g.ht role h20 g.n h35 g.n R:=by
 unfold V49zw;refine⟨⟨by omega,by omega,by omega⟩,hs.newbE fun h1122 E hs=>⟨E.sm,?_⟩⟩;have hs:=hs.perm (List.perm_middle (l₁:=[_,_])).symm;exact⟨nV117g hT hn hs,nV117h hT hn hs⟩
theorem nV117i {g:Gl} {role:Int} {h h1393 h20 h35 h850:Heap} {R:Value->Heap->Prop} (hT:TailH g role h R) (hn:1<=g.n/\g.n<=200) (hs:St h h1393 [it30 h20 g,it32 h35 g,it34 h850 g,.blk h.size g.cs 27]):V49i g.n h1393 h g.n (bs g.nm) g.hr g.hd g.n g.s g.e g.he g.ht role h20 g.n h35 g.n h850 g.n R:=by
 unfold V49i;refine⟨⟨by omega,by omega,by omega⟩,hs.newbE fun h1394 E hs=>⟨E.sm,?_⟩⟩;have hs:=hs.perm (List.perm_middle (l₁:=[_])).symm;exact nV117d hT hn hs
theorem nV117q {g:Gl} {role:Int} {h h1393 h20 h35 h850:Heap} {R:Value->Heap->Prop} (hT:TailH g role h R) (hn:1<=g.n/\g.n<=200) (hs:St h h1393 [it30 h20 g,it32 h35 g,it34 h850 g,.blk h.size g.cs 27]):V49q g.n h1393 h g.n (bs g.nm) g.hr g.hd g.n g.s g.e g.he g.ht role h20 g.n h35 g.n h850 g.n R:=by
 unfold V49q;refine⟨⟨by omega,by omega,by omega⟩,hs.newbE fun h1529 E hs=>⟨E.sm,?_⟩⟩;have hs:=hs.perm (List.perm_middle (l₁:=[_,_])).symm;exact nV117b hT hn hs
theorem nV117zg {g:Gl} {role:Int} {h h850 h20 h35:Heap} {R:Value->Heap->Prop} (hT:TailH g role h R) (hn:1<=g.n/\g.n<=200) (hs:St h h850 [it30 h20 g,it32 h35 g,.blk h.size g.cs 27]):V49zg g.n h850 h g.n g.n (bs g.nm) g.hr g.hd g.n g.s g.e g.he g.ht role h20 g.n h35 g.n R:=by
 unfold V49zg;refine⟨⟨by omega,by omega,by omega⟩,hs.newbE fun h1393 E hs=>⟨E.sm,?_⟩⟩;have hs:=hs.perm (List.perm_middle (l₁:=[_,_])).symm;exact⟨nV117i hT hn hs,nV117q hT hn hs⟩
theorem nV117zd {g:Gl} {role:Int} {h h1664 h20 h35:Heap} {R:Value->Heap->Prop} (hT:TailH g role h R) (hn:1<=g.n/\g.n<=200) (hs:St h h1664 [it30 h20 g,it33 h35 g,.blk h.size g.cs 27]):V49zd g.n h1664 h g.n g.n (bs g.nm) g.hr g.hd g.n g.s g.e g.he g.ht role h20 g.n h35 g.n R:=by
 unfold V49zd;refine⟨⟨by omega,by omega,by omega⟩,hs.newbE fun h1665 E hs=>⟨E.sm,?_⟩⟩;have hs:=hs.perm (List.perm_middle (l₁:=[_])).symm;exact⟨nV117w hT hn hs,nV117r hT hn hs⟩
theorem nV117zs {g:Gl} {role:Int} {h h1664 h20 h35:Heap} {R:Value->Heap->Prop} (hT:TailH g role h R) (hn:1<=g.n/\g.n<=200) (hs:St h h1664 [it30 h20 g,it33 h35 g,.blk h.size g.cs 27]):V49zs g.n h1664 h g.n g.n (bs g.nm) g.hr g.hd g.n g.s g.e g.he g.ht role h20 g.n h35 g.n R:=by
 unfold V49zs;refine⟨⟨by omega,by omega,by omega⟩,hs.newbE fun h1936 E hs=>⟨E.sm,?_⟩⟩;have hs:=hs.perm (List.perm_middle (l₁:=[_])).symm;exact⟨nV117g hT hn hs,nV117h hT hn hs⟩
theorem nV117j {g:Gl} {role:Int} {h h2207 h20 h35 h1664:Heap} {R:Value->Heap->Prop} (hT:TailH g role h R) (hn:1<=g.n/\g.n<=200) (hs:St h h2207 [it30 h20 g,it33 h35 g,it34 h1664 g,.blk h.size g.cs 27]):V49j g.n h2207 h g.n (bs g.nm) g.hr g.hd g.n g.s g.e g.he g.ht role h20 g.n h35 g.n h1664 g.n R:=by
 unfold V49j;refine⟨⟨by omega,by omega,by omega⟩,hs.newbE fun h2208 E hs=>⟨E.sm,?_⟩⟩;have hs:=hs.perm (List.perm_middle (l₁:=[_])).symm;exact nV117e hT hn hs
theorem nV117s {g:Gl} {role:Int} {h h2207 h20 h35 h1664:Heap} {R:Value->Heap->Prop} (hT:TailH g role h R) (hn:1<=g.n/\g.n<=200) (hs:St h h2207 [it30 h20 g,it33 h35 g,it34 h1664 g,.blk h.size g.cs 27]):V49s g.n h2207 h g.n (bs g.nm) g.hr g.hd g.n g.s g.e g.he g.ht role h20 g.n h35 g.n h1664 g.n R:=by
 unfold V49s;refine⟨⟨by omega,by omega,by omega⟩,hs.newbE fun h2343 E hs=>⟨E.sm,?_⟩⟩;have hs:=hs.perm (List.perm_middle (l₁:=[_])).symm;exact nV117b hT hn hs
theorem nV117ze {g:Gl} {role:Int} {h h1664 h20 h35:Heap} {R:Value->Heap->Prop} (hT:TailH g role h R) (hn:1<=g.n/\g.n<=200) (hs:St h h1664 [it30 h20 g,it33 h35 g,.blk h.size g.cs 27]):V49ze g.n h1664 h g.n g.n (bs g.nm) g.hr g.hd g.n g.s g.e g.he g.ht role h20 g.n h35 g.n R:=by
 unfold V49ze;refine⟨⟨by omega,by omega,by omega⟩,hs.newbE fun h2207 E hs=>⟨E.sm,?_⟩⟩;have hs:=hs.perm (List.perm_middle (l₁:=[_,_])).symm;exact⟨nV117j hT hn hs,nV117s hT hn hs⟩
theorem nV117zf {g:Gl} {role:Int} {h h2478 h20 h35:Heap} {R:Value->Heap->Prop} (hT:TailH g role h R) (hn:1<=g.n/\g.n<=200) (hs:St h h2478 [it30 h20 g,it34 h35 g,.blk h.size g.cs 27]):V49zf g.n h2478 h g.n g.n (bs g.nm) g.hr g.hd g.n g.s g.e g.he g.ht role h20 g.n h35 g.n R:=by
 unfold V49zf;refine⟨⟨by omega,by omega,by omega⟩,hs.newbE fun h2479 E hs=>⟨E.sm,?_⟩⟩;have hs:=hs.perm (List.perm_middle (l₁:=[_])).symm;exact⟨nV117x hT hn hs,nV117y hT hn hs⟩
theorem nV117zt {g:Gl} {role:Int} {h h2478 h20 h35:Heap} {R:Value->Heap->Prop} (hT:TailH g role h R) (hn:1<=g.n/\g.n<=200) (hs:St h h2478 [it30 h20 g,it34 h35 g,.blk h.size g.cs 27]):V49zt g.n h2478 h g.n g.n (bs g.nm) g.hr g.hd g.n g.s g.e g.he g.ht role h20 g.n h35 g.n R:=by
 unfold V49zt;refine⟨⟨by omega,by omega,by omega⟩,hs.newbE fun h2750 E hs=>⟨E.sm,?_⟩⟩;have hs:=hs.perm (List.perm_middle (l₁:=[_])).symm;exact⟨nV117i hT hn hs,nV117q hT hn hs⟩
theorem nV117zu {g:Gl} {role:Int} {h h2478 h20 h35:Heap} {R:Value->Heap->Prop} (hT:TailH g role h R) (hn:1<=g.n/\g.n<=200) (hs:St h h2478 [it30 h20 g,it34 h35 g,.blk h.size g.cs 27]):V49zu g.n h2478 h g.n g.n (bs g.nm) g.hr g.hd g.n g.s g.e g.he g.ht role h20 g.n h35 g.n R:=by
 unfold V49zu;refine⟨⟨by omega,by omega,by omega⟩,hs.newbE fun h3021 E hs=>⟨E.sm,?_⟩⟩;have hs:=hs.perm (List.perm_middle (l₁:=[_])).symm;exact⟨nV117j hT hn hs,nV117s hT hn hs⟩
theorem nV117zi {g:Gl} {role:Int} {h h4107 h20 h3292:Heap} {R:Value->Heap->Prop} (hT:TailH g role h R) (hn:1<=g.n/\g.n<=200) (hs:St h h4107 [it31 h20 g,it32 h3292 g,.blk h.size g.cs 27]):V49zi g.n h4107 h g.n g.n (bs g.nm) g.hr g.hd g.n g.s g.e g.he g.ht role h20 g.n h3292 g.n R:=by
 unfold V49zi;refine⟨⟨by omega,by omega,by omega⟩,hs.newbE fun h4108 E hs=>⟨E.sm,?_⟩⟩;exact⟨nV117z hT hn hs,nV117v hT hn hs⟩
theorem nV117k {g:Gl} {role:Int} {h h4379 h20 h3292 h4107:Heap} {R:Value->Heap->Prop} (hT:TailH g role h R) (hn:1<=g.n/\g.n<=200) (hs:St h h4379 [it31 h20 g,it32 h3292 g,it33 h4107 g,.blk h.size g.cs 27]):V49k g.n h4379 h g.n (bs g.nm) g.hr g.hd g.n g.s g.e g.he g.ht role h20 g.n h3292 g.n h4107 g.n R:=by
 unfold V49k;refine⟨⟨by omega,by omega,by omega⟩,hs.newbE fun h4380 E hs=>⟨E.sm,?_⟩⟩;exact nV117f hT hn hs
theorem nV117c {g:Gl} {role:Int} {h h4515 h20 h3292 h4107 h4379:Heap} {R:Value->Heap->Prop} (hT:TailH g role h R) (hn:1<=g.n/\g.n<=200) (hs:St h h4515 [it31 h20 g,it32 h3292 g,it33 h4107 g,it34 h4379 g,.blk h.size g.cs 27]):V49c g.n h4515 h (bs g.nm) g.hr g.hd g.n g.s g.e g.he g.ht role h20 g.n h3292 g.n h4107 g.n h4379 g.n R:=by
 unfold V49c;refine⟨⟨by omega,by omega,by omega⟩,hs.newbE fun h4516 E hs=>⟨E.sm,?_⟩⟩;exact hT _ _ _ _ _ _ hs
theorem nV117l {g:Gl} {role:Int} {h h4379 h20 h3292 h4107:Heap} {R:Value->Heap->Prop} (hT:TailH g role h R) (hn:1<=g.n/\g.n<=200) (hs:St h h4379 [it31 h20 g,it32 h3292 g,it33 h4107 g,.blk h.size g.cs 27]):V49l g.n h4379 h g.n (bs g.nm) g.hr g.hd g.n g.s g.e g.he g.ht role h20 g.n h3292 g.n h4107 g.n R:=by
 unfold V49l;refine⟨⟨by omega,by omega,by omega⟩,hs.newbE fun h4515 E hs=>⟨E.sm,?_⟩⟩;have hs:=hs.perm (List.perm_middle (l₁:=[_,_,_])).symm;exact nV117c hT hn hs
theorem nV117zy {g:Gl} {role:Int} {h h4107 h20 h3292:Heap} {R:Value->Heap->Prop} (hT:TailH g role h R) (hn:1<=g.n/\g.n<=200) (hs:St h h4107 [it31 h20 g,it32 h3292 g,.blk h.size g.cs 27]):V49zy g.n h4107 h g.n g.n (bs g.nm) g.hr g.hd g.n g.s g.e g.he g.ht role h20 g.n h3292 g.n R:=by
 unfold V49zy;refine⟨⟨by omega,by omega,by omega⟩,hs.newbE fun h4379 E hs=>⟨E.sm,?_⟩⟩;have hs:=hs.perm (List.perm_middle (l₁:=[_,_])).symm;exact⟨nV117k hT hn hs,nV117l hT hn hs⟩
theorem nV117m {g:Gl} {role:Int} {h h4650 h20 h3292 h4107:Heap} {R:Value->Heap->Prop} (hT:TailH g role h R) (hn:1<=g.n/\g.n<=200) (hs:St h h4650 [it31 h20 g,it32 h3292 g,it34 h4107 g,.blk h.size g.cs 27]):V49m g.n h4650 h g.n (bs g.nm) g.hr g.hd g.n g.s g.e g.he g.ht role h20 g.n h3292 g.n h4107 g.n R:=by
 unfold V49m;refine⟨⟨by omega,by omega,by omega⟩,hs.newbE fun h4651 E hs=>⟨E.sm,?_⟩⟩;exact nV117d hT hn hs
theorem nV117t {g:Gl} {role:Int} {h h4650 h20 h3292 h4107:Heap} {R:Value->Heap->Prop} (hT:TailH g role h R) (hn:1<=g.n/\g.n<=200) (hs:St h h4650 [it31 h20 g,it32 h3292 g,it34 h4107 g,.blk h.size g.cs 27]):V49t g.n h4650 h g.n (bs g.nm) g.hr g.hd g.n g.s g.e g.he g.ht role h20 g.n h3292 g.n h4107 g.n R:=by
 unfold V49t;refine⟨⟨by omega,by omega,by omega⟩,hs.newbE fun h4786 E hs=>⟨E.sm,?_⟩⟩;have hs:=hs.perm (List.perm_middle (l₁:=[_,_])).symm;exact nV117c hT hn hs
theorem nV117zj {g:Gl} {role:Int} {h h4107 h20 h3292:Heap} {R:Value->Heap->Prop} (hT:TailH g role h R) (hn:1<=g.n/\g.n<=200) (hs:St h h4107 [it31 h20 g,it32 h3292 g,.blk h.size g.cs 27]):V49zj g.n h4107 h g.n g.n (bs g.nm) g.hr g.hd g.n g.s g.e g.he g.ht role h20 g.n h3292 g.n R:=by
 unfold V49zj;refine⟨⟨by omega,by omega,by omega⟩,hs.newbE fun h4650 E hs=>⟨E.sm,?_⟩⟩;have hs:=hs.perm (List.perm_middle (l₁:=[_,_])).symm;exact⟨nV117m hT hn hs,nV117t hT hn hs⟩
theorem nV117zk {g:Gl} {role:Int} {h h4921 h20 h3292:Heap} {R:Value->Heap->Prop} (hT:TailH g role h R) (hn:1<=g.n/\g.n<=200) (hs:St h h4921 [it31 h20 g,it33 h3292 g,.blk h.size g.cs 27]):V49zk g.n h4921 h g.n g.n (bs g.nm) g.hr g.hd g.n g.s g.e g.he g.ht role h20 g.n h3292 g.n R:=by
 unfold V49zk;refine⟨⟨by omega,by omega,by omega⟩,hs.newbE fun h4922 E hs=>⟨E.sm,?_⟩⟩;exact⟨nV117w hT hn hs,nV117r hT hn hs⟩
theorem nV117zz {g:Gl} {role:Int} {h h4921 h20 h3292:Heap} {R:Value->Heap->Prop} (hT:TailH g role h R) (hn:1<=g.n/\g.n<=200) (hs:St h h4921 [it31 h20 g,it33 h3292 g,.blk h.size g.cs 27]):V49zz g.n h4921 h g.n g.n (bs g.nm) g.hr g.hd g.n g.s g.e g.he g.ht role h20 g.n h3292 g.n R:=by
 unfold V49zz;refine⟨⟨by omega,by omega,by omega⟩,hs.newbE fun h5193 E hs=>⟨E.sm,?_⟩⟩;have hs:=hs.perm (List.perm_middle (l₁:=[_])).symm;exact⟨nV117k hT hn hs,nV117l hT hn hs⟩
theorem nV117n {g:Gl} {role:Int} {h h5464 h20 h3292 h4921:Heap} {R:Value->Heap->Prop} (hT:TailH g role h R) (hn:1<=g.n/\g.n<=200) (hs:St h h5464 [it31 h20 g,it33 h3292 g,it34 h4921 g,.blk h.size g.cs 27]):V49n g.n h5464 h g.n (bs g.nm) g.hr g.hd g.n g.s g.e g.he g.ht role h20 g.n h3292 g.n h4921 g.n R:=by
 unfold V49n;refine⟨⟨by omega,by omega,by omega⟩,hs.newbE fun h5465 E hs=>⟨E.sm,?_⟩⟩;exact nV117e hT hn hs
theorem nV117u {g:Gl} {role:Int} {h h5464 h20 h3292 h4921:Heap} {R:Value->Heap->Prop} (hT:TailH g role h R) (hn:1<=g.n/\g.n<=200) (hs:St h h5464 [it31 h20 g,it33 h3292 g,it34 h4921 g,.blk h.size g.cs 27]):V49u g.n h5464 h g.n (bs g.nm) g.hr g.hd g.n g.s g.e g.he g.ht role h20 g.n h3292 g.n h4921 g.n R:=by
 unfold V49u;refine⟨⟨by omega,by omega,by omega⟩,hs.newbE fun h5600 E hs=>⟨E.sm,?_⟩⟩;have hs:=hs.perm (List.perm_middle (l₁:=[_])).symm;exact nV117c hT hn hs
theorem nV117zl {g:Gl} {role:Int} {h h4921 h20 h3292:Heap} {R:Value->Heap->Prop} (hT:TailH g role h R) (hn:1<=g.n/\g.n<=200) (hs:St h h4921 [it31 h20 g,it33 h3292 g,.blk h.size g.cs 27]):V49zl g.n h4921 h g.n g.n (bs g.nm) g.hr g.hd g.n g.s g.e g.he g.ht role h20 g.n h3292 g.n R:=by
 unfold V49zl;refine⟨⟨by omega,by omega,by omega⟩,hs.newbE fun h5464 E hs=>⟨E.sm,?_⟩⟩;have hs:=hs.perm (List.perm_middle (l₁:=[_,_])).symm;exact⟨nV117n hT hn hs,nV117u hT hn hs⟩
theorem nV117zm {g:Gl} {role:Int} {h h5735 h20 h3292:Heap} {R:Value->Heap->Prop} (hT:TailH g role h R) (hn:1<=g.n/\g.n<=200) (hs:St h h5735 [it31 h20 g,it34 h3292 g,.blk h.size g.cs 27]):V49zm g.n h5735 h g.n g.n (bs g.nm) g.hr g.hd g.n g.s g.e g.he g.ht role h20 g.n h3292 g.n R:=by
 unfold V49zm;refine⟨⟨by omega,by omega,by omega⟩,hs.newbE fun h5736 E hs=>⟨E.sm,?_⟩⟩;exact⟨nV117x hT hn hs,nV117y hT hn hs⟩
theorem nV117zza {g:Gl} {role:Int} {h h5735 h20 h3292:Heap} {R:Value->Heap->Prop} (hT:TailH g role h R) (hn:1<=g.n/\g.n<=200) (hs:St h h5735 [it31 h20 g,it34 h3292 g,.blk h.size g.cs 27]):V49zza g.n h5735 h g.n g.n (bs g.nm) g.hr g.hd g.n g.s g.e g.he g.ht role h20 g.n h3292 g.n R:=by
 unfold V49zza;refine⟨⟨by omega,by omega,by omega⟩,hs.newbE fun h6007 E hs=>⟨E.sm,?_⟩⟩;have hs:=hs.perm (List.perm_middle (l₁:=[_])).symm;exact⟨nV117m hT hn hs,nV117t hT hn hs⟩
theorem nV117zzb {g:Gl} {role:Int} {h h5735 h20 h3292:Heap} {R:Value->Heap->Prop} (hT:TailH g role h R) (hn:1<=g.n/\g.n<=200) (hs:St h h5735 [it31 h20 g,it34 h3292 g,.blk h.size g.cs 27]):V49zzb g.n h5735 h g.n g.n (bs g.nm) g.hr g.hd g.n g.s g.e g.he g.ht role h20 g.n h3292 g.n R:=by
 unfold V49zzb;refine⟨⟨by omega,by omega,by omega⟩,hs.newbE fun h6278 E hs=>⟨E.sm,?_⟩⟩;have hs:=hs.perm (List.perm_middle (l₁:=[_])).symm;exact⟨nV117n hT hn hs,nV117u hT hn hs⟩
theorem nV117zn {g:Gl} {role:Int} {h h8178 h20 h6549:Heap} {R:Value->Heap->Prop} (hT:TailH g role h R) (hn:1<=g.n/\g.n<=200) (hs:St h h8178 [it32 h20 g,it33 h6549 g,.blk h.size g.cs 27]):V49zn g.n h8178 h g.n g.n (bs g.nm) g.hr g.hd g.n g.s g.e g.he g.ht role h20 g.n h6549 g.n R:=by
 unfold V49zn;refine⟨⟨by omega,by omega,by omega⟩,hs.newbE fun h8179 E hs=>⟨E.sm,?_⟩⟩;exact⟨nV117g hT hn hs,nV117h hT hn hs⟩
theorem nV117zo {g:Gl} {role:Int} {h h8178 h20 h6549:Heap} {R:Value->Heap->Prop} (hT:TailH g role h R) (hn:1<=g.n/\g.n<=200) (hs:St h h8178 [it32 h20 g,it33 h6549 g,.blk h.size g.cs 27]):V49zo g.n h8178 h g.n g.n (bs g.nm) g.hr g.hd g.n g.s g.e g.he g.ht role h20 g.n h6549 g.n R:=by
 unfold V49zo;refine⟨⟨by omega,by omega,by omega⟩,hs.newbE fun h8450 E hs=>⟨E.sm,?_⟩⟩;exact⟨nV117k hT hn hs,nV117l hT hn hs⟩
theorem nV117o {g:Gl} {role:Int} {h h8721 h20 h6549 h8178:Heap} {R:Value->Heap->Prop} (hT:TailH g role h R) (hn:1<=g.n/\g.n<=200) (hs:St h h8721 [it32 h20 g,it33 h6549 g,it34 h8178 g,.blk h.size g.cs 27]):V49o g.n h8721 h g.n (bs g.nm) g.hr g.hd g.n g.s g.e g.he g.ht role h20 g.n h6549 g.n h8178 g.n R:=by
 unfold V49o;refine⟨⟨by omega,by omega,by omega⟩,hs.newbE fun h8722 E hs=>⟨E.sm,?_⟩⟩;exact nV117b hT hn hs
theorem nV117p {g:Gl} {role:Int} {h h8721 h20 h6549 h8178:Heap} {R:Value->Heap->Prop} (hT:TailH g role h R) (hn:1<=g.n/\g.n<=200) (hs:St h h8721 [it32 h20 g,it33 h6549 g,it34 h8178 g,.blk h.size g.cs 27]):V49p g.n h8721 h g.n (bs g.nm) g.hr g.hd g.n g.s g.e g.he g.ht role h20 g.n h6549 g.n h8178 g.n R:=by
 unfold V49p;refine⟨⟨by omega,by omega,by omega⟩,hs.newbE fun h8857 E hs=>⟨E.sm,?_⟩⟩;exact nV117c hT hn hs
theorem nV117zp {g:Gl} {role:Int} {h h8178 h20 h6549:Heap} {R:Value->Heap->Prop} (hT:TailH g role h R) (hn:1<=g.n/\g.n<=200) (hs:St h h8178 [it32 h20 g,it33 h6549 g,.blk h.size g.cs 27]):V49zp g.n h8178 h g.n g.n (bs g.nm) g.hr g.hd g.n g.s g.e g.he g.ht role h20 g.n h6549 g.n R:=by
 unfold V49zp;refine⟨⟨by omega,by omega,by omega⟩,hs.newbE fun h8721 E hs=>⟨E.sm,?_⟩⟩;have hs:=hs.perm (List.perm_middle (l₁:=[_,_])).symm;exact⟨nV117o hT hn hs,nV117p hT hn hs⟩
theorem nV117zq {g:Gl} {role:Int} {h h8992 h20 h6549:Heap} {R:Value->Heap->Prop} (hT:TailH g role h R) (hn:1<=g.n/\g.n<=200) (hs:St h h8992 [it32 h20 g,it34 h6549 g,.blk h.size g.cs 27]):V49zq g.n h8992 h g.n g.n (bs g.nm) g.hr g.hd g.n g.s g.e g.he g.ht role h20 g.n h6549 g.n R:=by
 unfold V49zq;refine⟨⟨by omega,by omega,by omega⟩,hs.newbE fun h8993 E hs=>⟨E.sm,?_⟩⟩;exact⟨nV117i hT hn hs,nV117q hT hn hs⟩
theorem nV117zr {g:Gl} {role:Int} {h h8992 h20 h6549:Heap} {R:Value->Heap->Prop} (hT:TailH g role h R) (hn:1<=g.n/\g.n<=200) (hs:St h h8992 [it32 h20 g,it34 h6549 g,.blk h.size g.cs 27]):V49zr g.n h8992 h g.n g.n (bs g.nm) g.hr g.hd g.n g.s g.e g.he g.ht role h20 g.n h6549 g.n R:=by
 unfold V49zr;refine⟨⟨by omega,by omega,by omega⟩,hs.newbE fun h9264 E hs=>⟨E.sm,?_⟩⟩;exact⟨nV117m hT hn hs,nV117t hT hn hs⟩
theorem nV117zzc {g:Gl} {role:Int} {h h8992 h20 h6549:Heap} {R:Value->Heap->Prop} (hT:TailH g role h R) (hn:1<=g.n/\g.n<=200) (hs:St h h8992 [it32 h20 g,it34 h6549 g,.blk h.size g.cs 27]):V49zzc g.n h8992 h g.n g.n (bs g.nm) g.hr g.hd g.n g.s g.e g.he g.ht role h20 g.n h6549 g.n R:=by
 unfold V49zzc;refine⟨⟨by omega,by omega,by omega⟩,hs.newbE fun h9535 E hs=>⟨E.sm,?_⟩⟩;have hs:=hs.perm (List.perm_middle (l₁:=[_])).symm;exact⟨nV117o hT hn hs,nV117p hT hn hs⟩
theorem nV117zb {g:Gl} {role:Int} {h h12249 h20 h9806:Heap} {R:Value->Heap->Prop} (hT:TailH g role h R) (hn:1<=g.n/\g.n<=200) (hs:St h h12249 [it33 h20 g,it34 h9806 g,.blk h.size g.cs 27]):V49zb g.n h12249 h g.n g.n (bs g.nm) g.hr g.hd g.n g.s g.e g.he g.ht role h20 g.n h9806 g.n R:=by
 unfold V49zb;refine⟨⟨by omega,by omega,by omega⟩,hs.newbE fun h12250 E hs=>⟨E.sm,?_⟩⟩;exact⟨nV117j hT hn hs,nV117s hT hn hs⟩
theorem nV117zc {g:Gl} {role:Int} {h h12249 h20 h9806:Heap} {R:Value->Heap->Prop} (hT:TailH g role h R) (hn:1<=g.n/\g.n<=200) (hs:St h h12249 [it33 h20 g,it34 h9806 g,.blk h.size g.cs 27]):V49zc g.n h12249 h g.n g.n (bs g.nm) g.hr g.hd g.n g.s g.e g.he g.ht role h20 g.n h9806 g.n R:=by
 unfold V49zc;refine⟨⟨by omega,by omega,by omega⟩,hs.newbE fun h12521 E hs=>⟨E.sm,?_⟩⟩;exact⟨nV117n hT hn hs,nV117u hT hn hs⟩
theorem nV117zh {g:Gl} {role:Int} {h h12249 h20 h9806:Heap} {R:Value->Heap->Prop} (hT:TailH g role h R) (hn:1<=g.n/\g.n<=200) (hs:St h h12249 [it33 h20 g,it34 h9806 g,.blk h.size g.cs 27]):V49zh g.n h12249 h g.n g.n (bs g.nm) g.hr g.hd g.n g.s g.e g.he g.ht role h20 g.n h9806 g.n R:=by
 unfold V49zh;refine⟨⟨by omega,by omega,by omega⟩,hs.newbE fun h12792 E hs=>⟨E.sm,?_⟩⟩;exact⟨nV117o hT hn hs,nV117p hT hn hs⟩
theorem nV117H0 {g:Gl} {role:Int} {h h20:Heap} {R:Value->Heap->Prop} (hT:TailH g role h R) (hn:1<=g.n/\g.n<=200) (hs:St h h20 [.blk h.size g.cs 27]):V49H0 g.n h20 h g.n g.n g.n g.n (bs g.nm) g.hr g.hd g.n g.s g.e g.he g.ht role R:=by
 unfold V49H0;refine⟨⟨by omega,by omega,by omega⟩,hs.newbE fun h35 E hs=>⟨E.sm,?_,?_,?_,?_⟩⟩
 .refine⟨⟨by omega,by omega,by omega⟩,hs.newbE fun h36 E hs=>⟨E.sm,?_⟩⟩;have hs:=hs.perm (List.perm_middle (l₁:=[_])).symm;exact⟨nV117zze hT hn hs,nV117zzd hT hn hs,nV117zx hT hn hs⟩
 .refine⟨⟨by omega,by omega,by omega⟩,hs.newbE fun h850 E hs=>⟨E.sm,?_⟩⟩;have hs:=hs.perm (List.perm_middle (l₁:=[_])).symm;exact⟨nV117zv hT hn hs,nV117zw hT hn hs,nV117zg hT hn hs⟩
 .refine⟨⟨by omega,by omega,by omega⟩,hs.newbE fun h1664 E hs=>⟨E.sm,?_⟩⟩;have hs:=hs.perm (List.perm_middle (l₁:=[_])).symm;exact⟨nV117zd hT hn hs,nV117zs hT hn hs,nV117ze hT hn hs⟩
 .refine⟨⟨by omega,by omega,by omega⟩,hs.newbE fun h2478 E hs=>⟨E.sm,?_⟩⟩;have hs:=hs.perm (List.perm_middle (l₁:=[_])).symm;exact⟨nV117zf hT hn hs,nV117zt hT hn hs,nV117zu hT hn hs⟩
theorem nV117H1 {g:Gl} {role:Int} {h h20:Heap} {R:Value->Heap->Prop} (hT:TailH g role h R) (hn:1<=g.n/\g.n<=200) (hs:St h h20 [.blk h.size g.cs 27]):V49H1 g.n h20 h g.n g.n g.n g.n (bs g.nm) g.hr g.hd g.n g.s g.e g.he g.ht role R:=by
 unfold V49H1;refine⟨⟨by omega,by omega,by omega⟩,hs.newbE fun h3292 E hs=>⟨E.sm,?_,?_,?_,?_⟩⟩
 .refine⟨⟨by omega,by omega,by omega⟩,hs.newbE fun h3293 E hs=>⟨E.sm,?_⟩⟩;exact⟨nV117zze hT hn hs,nV117zzd hT hn hs,nV117zx hT hn hs⟩
 .refine⟨⟨by omega,by omega,by omega⟩,hs.newbE fun h4107 E hs=>⟨E.sm,?_⟩⟩;have hs:=hs.perm (List.perm_middle (l₁:=[_])).symm;exact⟨nV117zi hT hn hs,nV117zy hT hn hs,nV117zj hT hn hs⟩
 .refine⟨⟨by omega,by omega,by omega⟩,hs.newbE fun h4921 E hs=>⟨E.sm,?_⟩⟩;have hs:=hs.perm (List.perm_middle (l₁:=[_])).symm;exact⟨nV117zk hT hn hs,nV117zz hT hn hs,nV117zl hT hn hs⟩
 .refine⟨⟨by omega,by omega,by omega⟩,hs.newbE fun h5735 E hs=>⟨E.sm,?_⟩⟩;have hs:=hs.perm (List.perm_middle (l₁:=[_])).symm;exact⟨nV117zm hT hn hs,nV117zza hT hn hs,nV117zzb hT hn hs⟩
theorem nV117H2 {g:Gl} {role:Int} {h h20:Heap} {R:Value->Heap->Prop} (hT:TailH g role h R) (hn:1<=g.n/\g.n<=200) (hs:St h h20 [.blk h.size g.cs 27]):V49H2 g.n h20 h g.n g.n g.n g.n (bs g.nm) g.hr g.hd g.n g.s g.e g.he g.ht role R:=by
 unfold V49H2;refine⟨⟨by omega,by omega,by omega⟩,hs.newbE fun h6549 E hs=>⟨E.sm,?_,?_,?_,?_⟩⟩
 .refine⟨⟨by omega,by omega,by omega⟩,hs.newbE fun h6550 E hs=>⟨E.sm,?_⟩⟩;exact⟨nV117zv hT hn hs,nV117zw hT hn hs,nV117zg hT hn hs⟩
 .refine⟨⟨by omega,by omega,by omega⟩,hs.newbE fun h7364 E hs=>⟨E.sm,?_⟩⟩;exact⟨nV117zi hT hn hs,nV117zy hT hn hs,nV117zj hT hn hs⟩
 .refine⟨⟨by omega,by omega,by omega⟩,hs.newbE fun h8178 E hs=>⟨E.sm,?_⟩⟩;have hs:=hs.perm (List.perm_middle (l₁:=[_])).symm;exact⟨nV117zn hT hn hs,nV117zo hT hn hs,nV117zp hT hn hs⟩
 .refine⟨⟨by omega,by omega,by omega⟩,hs.newbE fun h8992 E hs=>⟨E.sm,?_⟩⟩;have hs:=hs.perm (List.perm_middle (l₁:=[_])).symm;exact⟨nV117zq hT hn hs,nV117zr hT hn hs,nV117zzc hT hn hs⟩
theorem nV117H3 {g:Gl} {role:Int} {h h20:Heap} {R:Value->Heap->Prop} (hT:TailH g role h R) (hn:1<=g.n/\g.n<=200) (hs:St h h20 [.blk h.size g.cs 27]):V49H3 g.n h20 h g.n g.n g.n g.n (bs g.nm) g.hr g.hd g.n g.s g.e g.he g.ht role R:=by
 unfold V49H3;refine⟨⟨by omega,by omega,by omega⟩,hs.newbE fun h9806 E hs=>⟨E.sm,?_,?_,?_,?_⟩⟩
 .refine⟨⟨by omega,by omega,by omega⟩,hs.newbE fun h9807 E hs=>⟨E.sm,?_⟩⟩;exact⟨nV117zd hT hn hs,nV117zs hT hn hs,nV117ze hT hn hs⟩
 .refine⟨⟨by omega,by omega,by omega⟩,hs.newbE fun h10621 E hs=>⟨E.sm,?_⟩⟩;exact⟨nV117zk hT hn hs,nV117zz hT hn hs,nV117zl hT hn hs⟩
 .refine⟨⟨by omega,by omega,by omega⟩,hs.newbE fun h11435 E hs=>⟨E.sm,?_⟩⟩;exact⟨nV117zn hT hn hs,nV117zo hT hn hs,nV117zp hT hn hs⟩
 .refine⟨⟨by omega,by omega,by omega⟩,hs.newbE fun h12249 E hs=>⟨E.sm,?_⟩⟩;have hs:=hs.perm (List.perm_middle (l₁:=[_])).symm;exact⟨nV117zb hT hn hs,nV117zc hT hn hs,nV117zh hT hn hs⟩
theorem nV117H4 {g:Gl} {role:Int} {h h20:Heap} {R:Value->Heap->Prop} (hT:TailH g role h R) (hn:1<=g.n/\g.n<=200) (hs:St h h20 [.blk h.size g.cs 27]):V49H4 g.n h20 h g.n g.n g.n g.n (bs g.nm) g.hr g.hd g.n g.s g.e g.he g.ht role R:=by
 unfold V49H4;refine⟨⟨by omega,by omega,by omega⟩,hs.newbE fun h13063 E hs=>⟨E.sm,?_,?_,?_,?_⟩⟩
 .refine⟨⟨by omega,by omega,by omega⟩,hs.newbE fun h13064 E hs=>⟨E.sm,?_⟩⟩;exact⟨nV117zf hT hn hs,nV117zt hT hn hs,nV117zu hT hn hs⟩
 .refine⟨⟨by omega,by omega,by omega⟩,hs.newbE fun h13878 E hs=>⟨E.sm,?_⟩⟩;exact⟨nV117zm hT hn hs,nV117zza hT hn hs,nV117zzb hT hn hs⟩
 .refine⟨⟨by omega,by omega,by omega⟩,hs.newbE fun h14692 E hs=>⟨E.sm,?_⟩⟩;exact⟨nV117zq hT hn hs,nV117zr hT hn hs,nV117zzc hT hn hs⟩
 .refine⟨⟨by omega,by omega,by omega⟩,hs.newbE fun h15506 E hs=>⟨E.sm,?_⟩⟩;exact⟨nV117zb hT hn hs,nV117zc hT hn hs,nV117zh hT hn hs⟩
end Go.VC
end
